/- Texts of this proof, put together by a program: Cka, Ckb, Nga, Ngb, Zd, Sh, Ts, Dpa, Dpb, Dpc, Dpd, Sta, Stb, Stc, Stg, Sth, Std. -/
import Derived.Test.YtbemokhfcmepjaaGreatDoorP3
import Derived.Test.YtbemokhfcmepjaaGreatDoorProg
import Derived.KernelRfl
import Derived.Sort.EncStr
import Derived.Sort.Grow
import Derived.Lib.SlicesCompact
import Derived.Sort.Walk0
import Derived.Shelf.Strings.Builder1
import Derived.Shelf.Strings.Builder2
import Derived.Shelf.Strings.OnBuilder
import Derived.Shelf.Small.Bits
import Derived.Shelf.Utf8.RuneCount
import Derived.Shelf.Strconv.Atoi
import Derived.Shelf.Strconv.Itoa0
import Derived.Shelf.Strconv.Itoa1
import Derived.Shelf.LaysM
import Derived.Shelf.Strconv.Itoa2
import Derived.Shelf.Strconv.Itoa3
import Derived.Shelf.Strconv.AtoiErrFast
import Derived.Shelf.Strconv.ParseIntEmpty
import Derived.Shelf.Strconv.AtoiFail
import Derived.Shelf.Strconv.Clone
import Derived.Shelf.Strconv.SyntaxError
import Derived.Shelf.LaysC
import Derived.Shelf.Strconv.ToError
import Derived.Shelf.Strconv.AtoiErr
import Derived.Shelf.Strconv.ErrVar
import Derived.Shelf.Strconv.Lower
import Derived.Shelf.Strconv.ParseUint10
import Derived.Shelf.Strconv.ParseUint10Empty
import Derived.Shelf.Strconv.ParseUint10Any
import Derived.Shelf.Strconv.ParseInt10
import Derived.Shelf.Strconv.AtoiLong
import Derived.Shelf.Strconv.AtoiInnerAll
import Derived.Shelf.Strconv.RangeError
import Derived.Shelf.Strconv.ToErrorRange
import Derived.Shelf.Strconv.AtoiAll
import Derived.Shelf.Strconv.ErrVarAll
import Derived.Shelf.Strings.Search1
import Derived.Shelf.Strings.Search2
import Derived.Shelf.Strings.Search3
import Derived.Shelf.Strings.Count
import Derived.Shelf.Strings.Shaped
import Derived.Shelf.Sort.Plain
import Derived.Shelf.Strings.Split
import Derived.Shelf.Strings.Fields
import Derived.Shelf.Strings.SplitShaped
import Derived.Shelf.Unicode.Latin
import Derived.Shelf.Unicode.Decode
import Derived.Shelf.Strings.RuneCount
import Derived.Shelf.Strings.Explode
import Derived.Shelf.Unicode.DecodeSlow
import Derived.Shelf.Unicode.DecodeAny
import Derived.Shelf.Unicode.Is16White
import Derived.Shelf.Unicode.IsSpaceAny
import Derived.Shelf.Unicode.Is16Any
import Derived.Shelf.Unicode.Is32Any
import Derived.Shelf.Unicode.ExclAny
import Derived.Ground.Names2Prog
import Derived.Shelf.Slices.Clone
import Derived.Shelf.Slices.CompactS
import Derived.Shelf.Slices.Cells
import Derived.Shelf.Slices.In.SortNone
import Derived.Ground.SlgnProg
import Derived.Shelf.SlicesE.Equal
import Derived.Shelf.SlicesE.Compact
import Derived.Shelf.SlicesE.Clone
set_option linter.unusedVariables false
set_option linter.unusedSimpArgs false
namespace Go.Proofs.YtbemokhfcmepjaaGreatDoor
section
open Go.RowKit
open GoE (enc wide)
def tt : List (Nat × TI) := [(3, ⟨.int .i64, 1, [.i 0], []⟩),
 (4, ⟨.bool, 1, [.b false], []⟩),
 (5, ⟨.int .u8, 1, [.int .u8 0], []⟩),
 (9, ⟨.str, 1, [.s ⟨#[]⟩], []⟩),
 (23, ⟨.struct [(0, 1, false), (1, 1, false)], 2, [.s ⟨#[]⟩, .s ⟨#[]⟩], []⟩),
 (24, ⟨.sli 85, 1, [.e 2], []⟩),
 (25, ⟨.sli 89, 1, [.e 5], []⟩),
 (27, ⟨.struct [(0, 1, false), (1, 1, false), (2, 1, false)], 3, [.e 2, .e 5, .i 0], []⟩),
 (28, ⟨.sli 65, 1, [.e 2], []⟩),
 (30, ⟨.struct [(0, 3, true), (3, 1, false)], 4, [.e 2, .e 5, .i 0, .e 2], []⟩),
 (33, ⟨.struct [(0, 1, false), (1, 1, false)], 2, [.s ⟨#[]⟩, .s ⟨#[]⟩], []⟩),
 (37, ⟨.sli 101, 1, [.e 2], []⟩),
 (38, ⟨.sli 105, 1, [.e 5], []⟩),
 (40, ⟨.struct [(0, 1, false), (1, 1, false), (2, 1, false)], 3, [.e 2, .e 5, .i 0], []⟩),
 (41, ⟨.sli 78, 1, [.e 2], []⟩),
 (43, ⟨.struct [(0, 3, true), (3, 1, false)], 4, [.e 2, .e 5, .i 0, .e 2], []⟩),
 (63, ⟨.sli 118, 1, [.e 7], []⟩),
 (65, ⟨.struct [(0, 1, false), (1, 1, false)], 2, [.s ⟨#[]⟩, .e 7], []⟩),
 (71, ⟨.sli 9, 1, [.e 1], []⟩),
 (76, ⟨.sli 135, 1, [.e 7], []⟩),
 (78, ⟨.struct [(0, 1, false), (1, 1, false)], 2, [.s ⟨#[]⟩, .e 7], []⟩),
 (85, ⟨.struct [(0, 1, false), (1, 1, false)], 2, [.s ⟨#[]⟩, .i 0], []⟩),
 (87, ⟨.sli 142, 1, [.e 4], []⟩),
 (89, ⟨.struct [(0, 1, false), (1, 1, false), (2, 1, false), (3, 1, false), (4, 1, false)], 5, [.i 0, .i 0, .b false, .i 0, .e 4], []⟩),
 (101, ⟨.struct [(0, 1, false), (1, 1, false)], 2, [.s ⟨#[]⟩, .i 0], []⟩),
 (103, ⟨.sli 129, 1, [.e 4], []⟩),
 (105, ⟨.struct [(0, 1, false), (1, 1, false), (2, 1, false), (3, 1, false), (4, 1, false)], 5, [.i 0, .i 0, .b false, .i 0, .e 4], []⟩),
 (116, ⟨.struct [(0, 1, false), (1, 1, false), (2, 1, false)], 3, [.i 0, .i 0, .s ⟨#[]⟩], []⟩),
 (118, ⟨.struct [(0, 1, false), (1, 1, false), (2, 1, false), (3, 1, false), (4, 3, true)], 7, [.i 0, .i 0, .i 0, .s ⟨#[]⟩, .i 0, .i 0, .s ⟨#[]⟩], []⟩),
 (123, ⟨.sli 3, 1, [.e 1], []⟩),
 (127, ⟨.struct [(0, 1, false), (1, 1, false), (2, 1, false)], 3, [.i 0, .i 0, .s ⟨#[]⟩], [.int, .int, .str]⟩),
 (129, ⟨.struct [(0, 1, false), (1, 3, true)], 4, [.s ⟨#[]⟩, .i 0, .i 0, .s ⟨#[]⟩], []⟩),
 (135, ⟨.struct [(0, 1, false), (1, 1, false), (2, 1, false), (3, 1, false), (4, 3, true)], 7, [.i 0, .i 0, .i 0, .s ⟨#[]⟩, .i 0, .i 0, .s ⟨#[]⟩], [.int, .int, .int, .str, .int, .int, .str]⟩),
 (142, ⟨.struct [(0, 1, false), (1, 3, true)], 4, [.s ⟨#[]⟩, .i 0, .i 0, .s ⟨#[]⟩], []⟩),
 (203, ⟨.struct [(0, 1, false), (1, 1, false)], 2, [.e 1, .e 7], []⟩),
 (212, ⟨.sli 4, 1, [.e 1], []⟩)]
theorem Qa : H6 Tryz.prog tt = true := by kernel_rfl
theorem Yz : Tryz.prog.follows .mixedOrders = true := by kernel_rfl
def Q9 (n : Int) (low : Int) (high_ : Int) : Bool := (decide (low ≤ n) && decide (n ≤ high_))
theorem Za (n : Int) (low : Int) (high_ : Int) : ACalls Tryz.prog 57 [.i n, .i low, .i high_] (.b (Q9 n low high_)) := by
 refine en Qa Tryz.func57 fun w0 F0 hG => ?_
 refine sn Qa [0, 1, 2, 6] [] (p0) ?_
 refine Qc ?_
 refine mz [(6, .b false)] [] [] [] ?_
 refine jn [(6, .b (decide (low ≤ n) && decide (n ≤ high_)))] [0, 1, 2, 6] [] [] (decide (low ≤ n)) (fun h1 => ?_) (fun h1 => ?_) ?_
 ·
  refine rn Qa [6] [] (pt 2 h1 p0) ?_
  exact ⟨rfl, Qd (by rw [h1] <;> kernel_rfl)⟩
 ·
  refine rn Qa [6] [] (pf 2 h1 p0) ?_
  exact ⟨rfl, Qd (by rw [h1] <;> kernel_rfl)⟩
 refine Qe ?_
 exact pb [] (show Q9 n low high_ = (decide (low ≤ n) && decide (n ≤ high_)) from rfl)
def Xm (s_ : ByteArray) (k0 : Nat) (_ : Unit) : Rd (Bool) (Unit) (Unit) := (bif (decide (Yt s_ ((k0 : Nat) : Int) < (97 : Int)) || decide (Yt s_ ((k0 : Nat) : Int) > (122 : Int))) then (.ret false) else (.next ()))
def Zn (_ : Nat) (_ : Unit) : Unit := ()
def Qy (s_ : ByteArray) : Bool := (Out.on (Jg (Xm s_) Zn (Int.toNat (ByteArray.size s_ : Int)) 0 ()) (fun _ => (Q9 (ByteArray.size s_ : Int) 1 6)))
theorem Zs (s_ : ByteArray) : ACalls Tryz.prog 165 [.s s_] (.b (Qy s_)) := by
 refine en Qa Tryz.func165 fun w0 F0 hG => ?_
 refine sn Qa [0, 2] [] (p0) ?_
 refine Qc ?_
 refine tn Qa [0, 2, 5, 6] [] (p0) ?_
 refine mz [(2, .b false), (5, .i (ByteArray.size s_ : Int)), (6, .i 0)] [] [] [] ?_
 refine stT 0 0 s_ (fun hs1 => ?_)
 refine Qb6 (Xm s_) Zn (Int.toNat (ByteArray.size s_ : Int)) () (fun k0 _ => [(6, .i ((k0 : Nat) : Int))]) [6] (fun _ => []) [5, 6] wf0 (fun k0 s0 hk0 hI0 => ?_) (fun k0 s0 hk0 hI0 => ?_) (fun y0 hD0 => ?_)
 ·
  refine sn Qa [0, 2, 5, 6, 7] [] (pe 0 (Q1 (decide_eq_true (p := ((k0 : Nat) : Int) < (ByteArray.size s_ : Int)) (by omega))) p0) ?_
  refine Qc ?_
  refine ckT ?_
  refine Qf ?_
  refine Qc ?_
  refine Qz ?_
  refine tn Qa [0, 2, 3, 5, 6] [] (p0) ?_
  refine Qc ?_
  refine mz [(3, .i ((k0 : Nat) : Int))] [] [] [] ?_
  refine jn [(18, .b (decide (Yt s_ ((k0 : Nat) : Int) < (97 : Int)) || decide (Yt s_ ((k0 : Nat) : Int) > (122 : Int))))] [3] [] [] (decide (Yt s_ ((k0 : Nat) : Int) < (97 : Int))) (fun h2 => ?_) (fun h2 => ?_) ?_
  ·
   have h2d := of_decide_eq_true h2
   refine rn Qa [0, 2, 5, 6, 18] [] (px (Uh (i := ((k0 : Nat) : Int)) (n := (ByteArray.size s_)) (by omega)) (pt 3 h2 p0)) ?_
   exact ⟨rfl, Qd (by rw [h2] <;> kernel_rfl)⟩
  ·
   have h2d := of_decide_eq_false h2
   refine rn Qa [0, 2, 5, 6, 18] [] (px (Uh (i := ((k0 : Nat) : Int)) (n := (ByteArray.size s_)) (by omega)) (pf 3 h2 (px (Uh (i := ((k0 : Nat) : Int)) (n := (ByteArray.size s_)) (by omega)) p0))) ?_
   exact ⟨rfl, Qd (by rw [h2] <;> kernel_rfl)⟩
  refine ck (decide (Yt s_ ((k0 : Nat) : Int) < (97 : Int)) || decide (Yt s_ ((k0 : Nat) : Int) > (122 : Int))) (fun h3 => ?_) (fun h3 => ?_)
  ·
   refine su Qa [] [18] [] [] (p0) ?_
   refine Qe ?_
   have hr4 : (Jg (Xm s_) Zn (Int.toNat (ByteArray.size s_ : Int)) 0 ()) = .ret false := Gw hk0 (Xh h3 (rfl)) hI0
   exact pb [] (Mo hr4)
  have h3l : (decide (Yt s_ ((k0 : Nat) : Int) < (97 : Int))) = false := KN h3
  have h3ld := of_decide_eq_false h3l
  have h3r : (decide (Yt s_ ((k0 : Nat) : Int) > (122 : Int))) = false := KO h3
  have h3rd := of_decide_eq_false h3r
  refine Qf ?_
  refine rn Qa [0, 2, 5, 6] [] (pe 0 (Jq (Q4 k0 (by omega))) p0) ?_
  exact xw _ (Zp hk0 (Qj h3 (rfl)) hI0)
 ·
  refine sn Qa [0, 2, 5, 6, 7] [] (pe 0 (Q1 (decide_eq_false (p := ((k0 : Nat) : Int) < (ByteArray.size s_ : Int)) (by omega))) p0) ?_
  refine Qc ?_
  refine ckF ?_
  refine Xu ?_
  exact xw _ (W6 hk0 (rfl) hI0)
 refine sn Qa [2] [] (pc 2 (Za (ByteArray.size s_ : Int) 1 6) p0) ?_
 refine Qe ?_
 exact pb [] (V4 hD0 (rfl))
def Qt (v : Z7) : Bool := (bif (v.1 == (0 : Int)) then ((v.1 == 0) && ((v.2.1 == 0) && ((v.2.2.toList == (⟨#[]⟩ : ByteArray).toList) && true))) else (bif (v.1 == (1 : Int)) then ((Q9 v.2.1 0 999) && (v.2.2.toList == (⟨#[]⟩ : ByteArray).toList)) else (bif (v.1 == (2 : Int)) then ((Qy v.2.2) && (v.2.1 == (0 : Int))) else false)))
theorem Zb (v : Z7) : ACalls Tryz.prog 144 [.a [.i v.1, .i v.2.1, .s v.2.2]] (.b (Qt v)) := by
 refine en Qa Tryz.func144 fun w0 F0 hG => ?_
 refine sn Qa [1, 2] [1] (p0) ?_
 refine Qc ?_
 refine tn Qa [1, 2, 4] [1] (p0) ?_
 refine Qz ?_
 refine tu Qa [(1, .p 1 0), (2, .b false), (4, .i v.1), (5, .b (v.1 == (0 : Int)))] [0] [(1, [.i v.1, .i v.2.1, .s v.2.2])] [] (p0) ?_
 refine ck (v.1 == (0 : Int)) (fun h1 => ?_) (fun h1 => ?_)
 ·
  refine sn Qa [2] [] (p0) ?_
  refine Qe ?_
  exact pb [] (Xh h1 (rfl))
 refine sn Qa [1, 2, 4, 10] [1] (p0) ?_
 refine ck (v.1 == (1 : Int)) (fun h2 => ?_) (fun h2 => ?_)
 ·
  refine Qc ?_
  refine mz [(10, .b (v.1 == (1 : Int)))] [5] [] [] ?_
  refine jn [(2, .b ((Q9 v.2.1 0 999) && (v.2.2.toList == (⟨#[]⟩ : ByteArray).toList)))] [1, 2, 4, 10] [] [1] (Q9 v.2.1 0 999) (fun h3 => ?_) (fun h3 => ?_) ?_
  ·
   refine rn Qa [2] [] (pc 2 (cb h3 (Za v.2.1 0 999)) p0) ?_
   exact ⟨rfl, Qd (by rw [h3] <;> kernel_rfl)⟩
  ·
   refine rn Qa [2] [] (pc 2 (cb h3 (Za v.2.1 0 999)) p0) ?_
   exact ⟨rfl, Qd (by rw [h3] <;> kernel_rfl)⟩
  refine Qe ?_
  exact pb [] (Qj h1 (Xh h2 (rfl)))
 refine tn Qa [1, 2, 20] [1] (p0) ?_
 refine ck (v.1 == (2 : Int)) (fun h4 => ?_) (fun h4 => ?_)
 ·
  refine Qc ?_
  refine mz [(20, .b (v.1 == (2 : Int)))] [4, 5] [] [] ?_
  refine jn [(2, .b ((Qy v.2.2) && (v.2.1 == (0 : Int))))] [1, 2, 20] [] [1] (Qy v.2.2) (fun h5 => ?_) (fun h5 => ?_) ?_
  ·
   refine rn Qa [2] [] (pc 2 (cb h5 (Zs v.2.2)) p0) ?_
   exact ⟨rfl, Qd (by rw [h5] <;> kernel_rfl)⟩
  ·
   refine rn Qa [2] [] (pc 2 (cb h5 (Zs v.2.2)) p0) ?_
   exact ⟨rfl, Qd (by rw [h5] <;> kernel_rfl)⟩
  refine Qe ?_
  exact pb [] (Qj h1 (Qj h2 (Xh h4 (rfl))))
 refine Qf ?_
 refine tu Qa [] [1, 4, 5] [] [1] (p0) ?_
 refine Qe ?_
 exact pb [] (Qj h1 (Qj h2 (Qj h4 (rfl))))
def Xf (x : Int) (least : Int) (most : Int) : Bool := (decide (x ≥ least) && decide (x ≤ most))
theorem Y2 (x : Int) (least : Int) (most : Int) : ACalls Tryz.prog 28 [.i x, .i least, .i most] (.b (Xf x least most)) := by
 refine en Qa Tryz.func28 fun w0 F0 hG => ?_
 refine sn Qa [0, 1, 2, 6] [] (p0) ?_
 refine Qc ?_
 refine mz [(6, .b false)] [] [] [] ?_
 refine jn [(6, .b (decide (x ≥ least) && decide (x ≤ most)))] [0, 1, 2, 6] [] [] (decide (x ≥ least)) (fun h1 => ?_) (fun h1 => ?_) ?_
 ·
  refine rn Qa [6] [] (pt 2 h1 p0) ?_
  exact ⟨rfl, Qd (by rw [h1] <;> kernel_rfl)⟩
 ·
  refine rn Qa [6] [] (pf 2 h1 p0) ?_
  exact ⟨rfl, Qd (by rw [h1] <;> kernel_rfl)⟩
 refine Qe ?_
 exact pb [] (show Xf x least most = (decide (x ≥ least) && decide (x ≤ most)) from rfl)
def Vd (s_ : ByteArray) (k0 : Nat) (_ : Unit) : Rd (Bool) (Unit) (Unit) := (bif (decide (Yt s_ ((k0 : Nat) : Int) < (97 : Int)) || decide (Yt s_ ((k0 : Nat) : Int) > (122 : Int))) then (.ret false) else (.next ()))
def V2 (_ : Nat) (_ : Unit) : Unit := ()
def Hv (s_ : ByteArray) (most : Int) : Bool := (Out.on (Jg (Vd s_) V2 (Int.toNat (ByteArray.size s_ : Int)) 0 ()) (fun _ => (Xf (ByteArray.size s_ : Int) 1 most)))
theorem Gz (s_ : ByteArray) (most : Int) : ACalls Tryz.prog 100 [.s s_, .i most] (.b (Hv s_ most)) := by
 refine en Qa Tryz.func100 fun w0 F0 hG => ?_
 refine sn Qa [0, 1, 4] [] (p0) ?_
 refine Qc ?_
 refine tn Qa [0, 1, 4, 5] [] (p0) ?_
 refine mz [(4, .b false), (5, .i 0)] [] [] [] ?_
 refine stT 0 0 s_ (fun hs1 => ?_)
 refine Qb6 (Vd s_) V2 (Int.toNat (ByteArray.size s_ : Int)) () (fun k0 _ => [(5, .i ((k0 : Nat) : Int))]) [5] (fun _ => []) [5] wf0 (fun k0 s0 hk0 hI0 => ?_) (fun k0 s0 hk0 hI0 => ?_) (fun y0 hD0 => ?_)
 ·
  refine Qc ?_
  refine sn Qa [0, 1, 4, 5, 9] [] (pe 3 (Q1 (decide_eq_true (p := ((k0 : Nat) : Int) < (ByteArray.size s_ : Int)) (by omega))) p0) ?_
  refine ckT ?_
  refine Qf ?_
  refine Qc ?_
  refine Qz ?_
  refine Qc ?_
  refine mz [(9, .b true)] [] [] [] ?_
  refine jn [(21, .b (decide (Yt s_ ((k0 : Nat) : Int) < (97 : Int)) || decide (Yt s_ ((k0 : Nat) : Int) > (122 : Int))))] [9] [] [] (decide (Yt s_ ((k0 : Nat) : Int) < (97 : Int))) (fun h2 => ?_) (fun h2 => ?_) ?_
  ·
   have h2d := of_decide_eq_true h2
   refine rn Qa [0, 1, 4, 5, 21] [] (px (Uh (i := ((k0 : Nat) : Int)) (n := (ByteArray.size s_)) (by omega)) (pt 3 h2 p0)) ?_
   exact ⟨rfl, Qd (by rw [h2] <;> kernel_rfl)⟩
  ·
   have h2d := of_decide_eq_false h2
   refine rn Qa [0, 1, 4, 5, 21] [] (px (Uh (i := ((k0 : Nat) : Int)) (n := (ByteArray.size s_)) (by omega)) (pf 3 h2 (px (Uh (i := ((k0 : Nat) : Int)) (n := (ByteArray.size s_)) (by omega)) p0))) ?_
   exact ⟨rfl, Qd (by rw [h2] <;> kernel_rfl)⟩
  refine ck (decide (Yt s_ ((k0 : Nat) : Int) < (97 : Int)) || decide (Yt s_ ((k0 : Nat) : Int) > (122 : Int))) (fun h3 => ?_) (fun h3 => ?_)
  ·
   refine su Qa [] [21] [] [] (p0) ?_
   refine Qe ?_
   have hr4 : (Jg (Vd s_) V2 (Int.toNat (ByteArray.size s_ : Int)) 0 ()) = .ret false := Gw hk0 (Xh h3 (rfl)) hI0
   exact pb [] (Mo hr4)
  have h3l : (decide (Yt s_ ((k0 : Nat) : Int) < (97 : Int))) = false := KN h3
  have h3ld := of_decide_eq_false h3l
  have h3r : (decide (Yt s_ ((k0 : Nat) : Int) > (122 : Int))) = false := KO h3
  have h3rd := of_decide_eq_false h3r
  refine Qf ?_
  refine rn Qa [0, 1, 4, 5] [] (pe 1 (Jq (Q4 k0 (by omega))) p0) ?_
  exact xw _ (Zp hk0 (Qj h3 (rfl)) hI0)
 ·
  refine Qc ?_
  refine sn Qa [0, 1, 4, 5, 9] [] (pe 3 (Q1 (decide_eq_false (p := ((k0 : Nat) : Int) < (ByteArray.size s_ : Int)) (by omega))) p0) ?_
  refine ckF ?_
  refine Xu ?_
  exact xw _ (W6 hk0 (rfl) hI0)
 refine sn Qa [4] [] (pc 3 (Y2 (ByteArray.size s_ : Int) 1 most) p0) ?_
 refine Qe ?_
 exact pb [] (V4 hD0 (rfl))
def X0 (s_ : ByteArray) : Bool := (Hv s_ 6)
theorem Zc (s_ : ByteArray) : ACalls Tryz.prog 126 [.s s_] (.b (X0 s_)) := by
 refine en Qa Tryz.func126 fun w0 F0 hG => ?_
 refine sn Qa [0, 2] [] (p0) ?_
 refine tn Qa [2] [] (pc 1 (Gz s_ 6) p0) ?_
 refine Qe ?_
 exact pb [] (show X0 s_ = (Hv s_ 6) from rfl)
def Xg (v : Z7) : Bool := (bif (v.1 == (0 : Int)) then ((v.1 == 0) && ((v.2.1 == 0) && ((v.2.2.toList == (⟨#[]⟩ : ByteArray).toList) && true))) else (bif (v.1 == (1 : Int)) then ((Xf v.2.1 0 999) && (v.2.2.toList == (⟨#[]⟩ : ByteArray).toList)) else (bif (v.1 == (2 : Int)) then ((X0 v.2.2) && (v.2.1 == (0 : Int))) else false)))
theorem Ya (v : Z7) : ACalls Tryz.prog 101 [.a [.i v.1, .i v.2.1, .s v.2.2]] (.b (Xg v)) := by
 refine en Qa Tryz.func101 fun w0 F0 hG => ?_
 refine sn Qa [1, 2] [1] (p0) ?_
 refine Qc ?_
 refine tn Qa [1, 2, 4] [1] (p0) ?_
 refine Qz ?_
 refine tu Qa [(1, .p 1 0), (2, .b false), (4, .i v.1), (5, .b (v.1 == (0 : Int)))] [0] [(1, [.i v.1, .i v.2.1, .s v.2.2])] [] (p0) ?_
 refine ck (v.1 == (0 : Int)) (fun h1 => ?_) (fun h1 => ?_)
 ·
  refine sn Qa [2] [] (p0) ?_
  refine Qe ?_
  exact pb [] (Xh h1 (rfl))
 refine sn Qa [1, 2, 4, 10] [1] (p0) ?_
 refine ck (v.1 == (1 : Int)) (fun h2 => ?_) (fun h2 => ?_)
 ·
  refine Qc ?_
  refine mz [(10, .b (v.1 == (1 : Int)))] [5] [] [] ?_
  refine jn [(2, .b ((Xf v.2.1 0 999) && (v.2.2.toList == (⟨#[]⟩ : ByteArray).toList)))] [1, 2, 4, 10] [] [1] (Xf v.2.1 0 999) (fun h3 => ?_) (fun h3 => ?_) ?_
  ·
   refine rn Qa [2] [] (pc 2 (cb h3 (Y2 v.2.1 0 999)) p0) ?_
   exact ⟨rfl, Qd (by rw [h3] <;> kernel_rfl)⟩
  ·
   refine rn Qa [2] [] (pc 2 (cb h3 (Y2 v.2.1 0 999)) p0) ?_
   exact ⟨rfl, Qd (by rw [h3] <;> kernel_rfl)⟩
  refine Qe ?_
  exact pb [] (Qj h1 (Xh h2 (rfl)))
 refine tn Qa [1, 2, 20] [1] (p0) ?_
 refine ck (v.1 == (2 : Int)) (fun h4 => ?_) (fun h4 => ?_)
 ·
  refine Qc ?_
  refine mz [(20, .b (v.1 == (2 : Int)))] [4, 5] [] [] ?_
  refine jn [(2, .b ((X0 v.2.2) && (v.2.1 == (0 : Int))))] [1, 2, 20] [] [1] (X0 v.2.2) (fun h5 => ?_) (fun h5 => ?_) ?_
  ·
   refine rn Qa [2] [] (pc 2 (cb h5 (Zc v.2.2)) p0) ?_
   exact ⟨rfl, Qd (by rw [h5] <;> kernel_rfl)⟩
  ·
   refine rn Qa [2] [] (pc 2 (cb h5 (Zc v.2.2)) p0) ?_
   exact ⟨rfl, Qd (by rw [h5] <;> kernel_rfl)⟩
  refine Qe ?_
  exact pb [] (Qj h1 (Qj h2 (Xh h4 (rfl))))
 refine Qf ?_
 refine tu Qa [] [1, 4, 5] [] [1] (p0) ?_
 refine Qe ?_
 exact pb [] (Qj h1 (Qj h2 (Qj h4 (rfl))))
def Qs (s_ : ByteArray) : Bool := (((ByteArray.size s_ : Int) == (1 : Int)) && (decide (Yt s_ 0 ≥ (97 : Int)) && decide (Yt s_ 0 ≤ (122 : Int))))
theorem Yb (s_ : ByteArray) : ACalls Tryz.prog 115 [.s s_] (.b (Qs s_)) := by
 refine en Qa Tryz.func115 fun w0 F0 hG => ?_
 refine sn Qa [0, 2] [] (p0) ?_
 refine Qc ?_
 refine mz [(2, .b false)] [] [] [] ?_
 refine jn [(2, .b (((ByteArray.size s_ : Int) == (1 : Int)) && (decide (Yt s_ 0 ≥ (97 : Int)) && decide (Yt s_ 0 ≤ (122 : Int)))))] [0, 2] [] [] ((ByteArray.size s_ : Int) == (1 : Int)) (fun h1 => ?_) (fun h1 => ?_) ?_
 ·
  have h1d := eq_of_beq h1
  refine Xo (decide (Yt s_ 0 ≥ (97 : Int))) (fun h2 => ?_) (fun h2 => ?_)
  ·
   have h2d := of_decide_eq_true h2
   refine rn Qa [2] [] (pt 2 h1 (px (Uh (i := 0) (n := (ByteArray.size s_)) (by omega)) (pt 6 h2 (px (Uh (i := 0) (n := (ByteArray.size s_)) (by omega)) p0)))) ?_
   exact ⟨rfl, Qd (by rw [h1, h2] <;> kernel_rfl)⟩
  have h2d := of_decide_eq_false h2
  refine rn Qa [2] [] (pt 2 h1 (px (Uh (i := 0) (n := (ByteArray.size s_)) (by omega)) (pf 6 h2 p0))) ?_
  exact ⟨rfl, Qd (by rw [h1, h2] <;> kernel_rfl)⟩
 ·
  refine rn Qa [2] [] (pf 2 h1 p0) ?_
  exact ⟨rfl, Qd (by rw [h1] <;> kernel_rfl)⟩
 refine Qe ?_
 exact pb [] (show Qs s_ = (((ByteArray.size s_ : Int) == (1 : Int)) && (decide (Yt s_ 0 ≥ (97 : Int)) && decide (Yt s_ 0 ≤ (122 : Int)))) from rfl)
def Xb (s_ : ByteArray) : Bool := (Hv s_ 1)
theorem Xq (s_ : ByteArray) : ACalls Tryz.prog 71 [.s s_] (.b (Xb s_)) := by
 refine en Qa Tryz.func71 fun w0 F0 hG => ?_
 refine sn Qa [0, 2] [] (p0) ?_
 refine tn Qa [2] [] (pc 1 (Gz s_ 1) p0) ?_
 refine Qe ?_
 exact pb [] (show Xb s_ = (Hv s_ 1) from rfl)
def Ym (n : Qw) (at_ : Int) : Bool := (bif (n.1 == (1 : Int)) then ((n.1 == n.1) && ((n.2.1 == 0) && ((n.2.2.1 == 0) && ((n.2.2.2.1.toList == (⟨#[]⟩ : ByteArray).toList) && ((n.2.2.2.2.1 == 0) && ((n.2.2.2.2.2.1 == 0) && ((n.2.2.2.2.2.2.toList == (⟨#[]⟩ : ByteArray).toList) && true))))))) else (bif (n.1 == (2 : Int)) then (((n.1 == n.1) && ((n.2.1 == 0) && ((n.2.2.1 == 0) && ((n.2.2.2.1.toList == n.2.2.2.1.toList) && ((n.2.2.2.2.1 == 0) && ((n.2.2.2.2.2.1 == 0) && ((n.2.2.2.2.2.2.toList == (⟨#[]⟩ : ByteArray).toList) && true))))))) && (Qs n.2.2.2.1)) else (bif (bif (n.1 == (3 : Int)) then (n.1 == (3 : Int)) else (n.1 == (4 : Int))) then (((n.1 == n.1) && ((n.2.1 == 0) && ((n.2.2.1 == 0) && ((n.2.2.2.1.toList == n.2.2.2.1.toList) && ((n.2.2.2.2.1 == n.2.2.2.2.1) && ((n.2.2.2.2.2.1 == n.2.2.2.2.2.1) && ((n.2.2.2.2.2.2.toList == n.2.2.2.2.2.2.toList) && true))))))) && ((Qs n.2.2.2.1) && ((Qt n.2.2.2.2) && ((n.2.2.2.2.1 != (0 : Int)) && ((n.1 == (3 : Int)) || (n.2.2.2.2.1 == (1 : Int))))))) else (bif (n.1 == (5 : Int)) then (((n.1 == n.1) && ((n.2.1 == n.2.1) && ((n.2.2.1 == 0) && ((n.2.2.2.1.toList == (⟨#[]⟩ : ByteArray).toList) && ((n.2.2.2.2.1 == 0) && ((n.2.2.2.2.2.1 == 0) && ((n.2.2.2.2.2.2.toList == (⟨#[]⟩ : ByteArray).toList) && true))))))) && (decide (at_ > (0 : Int)) && (Q9 n.2.1 0 (IntKind.i64.wrap (at_ - 1))))) else (bif (bif (n.1 == (6 : Int)) then (n.1 == (6 : Int)) else (n.1 == (7 : Int))) then (((n.1 == n.1) && ((n.2.1 == n.2.1) && ((n.2.2.1 == n.2.2.1) && ((n.2.2.2.1.toList == (⟨#[]⟩ : ByteArray).toList) && ((n.2.2.2.2.1 == 0) && ((n.2.2.2.2.2.1 == 0) && ((n.2.2.2.2.2.2.toList == (⟨#[]⟩ : ByteArray).toList) && true))))))) && (decide (at_ > (0 : Int)) && ((Q9 n.2.1 0 (IntKind.i64.wrap (at_ - 1))) && (Q9 n.2.2.1 0 (IntKind.i64.wrap (at_ - 1)))))) else (bif (n.1 == (8 : Int)) then (((n.1 == n.1) && ((n.2.1 == 0) && ((n.2.2.1 == 0) && ((n.2.2.2.1.toList == n.2.2.2.1.toList) && ((n.2.2.2.2.1 == 0) && ((n.2.2.2.2.2.1 == 0) && ((n.2.2.2.2.2.2.toList == (⟨#[]⟩ : ByteArray).toList) && true))))))) && (Qy n.2.2.2.1)) else (bif (n.1 == (9 : Int)) then (((n.1 == n.1) && ((n.2.1 == 0) && ((n.2.2.1 == 0) && ((n.2.2.2.1.toList == n.2.2.2.1.toList) && ((n.2.2.2.2.1 == 0) && ((n.2.2.2.2.2.1 == 0) && ((n.2.2.2.2.2.2.toList == (⟨#[]⟩ : ByteArray).toList) && true))))))) && (Qy n.2.2.2.1)) else false)))))))
theorem Hw (n : Qw) (at_ : Int) : ACalls Tryz.prog 148 [.a [.i n.1, .i n.2.1, .i n.2.2.1, .s n.2.2.2.1, .i n.2.2.2.2.1, .i n.2.2.2.2.2.1, .s n.2.2.2.2.2.2], .i at_] (.b (Ym n at_)) := by
 refine en Qa Tryz.func148 fun w0 F0 hG => ?_
 refine sn Qa [1, 2, 4] [2] (p0) ?_
 refine tn Qa [1, 2, 4, 5] [2, 5] (p0) ?_
 refine Qc ?_
 refine tu Qa [(2, .p 2 0), (4, .b false), (5, .p 5 0), (10, .i n.1)] [0] [(2, [.i n.1, .i n.2.1, .i n.2.2.1, .s n.2.2.2.1, .i n.2.2.2.2.1, .i n.2.2.2.2.2.1, .s n.2.2.2.2.2.2]), (5, [.i n.1, .i 0, .i 0, .s ⟨#[]⟩, .i 0, .i 0, .s ⟨#[]⟩])] [] (p0) ?_
 refine Qz ?_
 refine sn Qa [1, 2, 4, 5, 10, 11] [2, 5] (p0) ?_
 refine ck (n.1 == (1 : Int)) (fun h1 => ?_) (fun h1 => ?_)
 ·
  refine Qf ?_
  refine tn Qa [4] [] (p0) ?_
  refine Qe ?_
  exact pb [] (Xh h1 (rfl))
 refine tn Qa [1, 2, 4, 5, 10, 13] [2, 5] (p0) ?_
 refine ck (n.1 == (2 : Int)) (fun h2 => ?_) (fun h2 => ?_)
 ·
  refine tu Qa [] [1, 10] [(5, [.i n.1, .i 0, .i 0, .s n.2.2.2.1, .i 0, .i 0, .s ⟨#[]⟩])] [5] (p0) ?_
  refine Qc ?_
  refine jn [(4, .b (((n.1 == n.1) && ((n.2.1 == 0) && ((n.2.2.1 == 0) && ((n.2.2.2.1.toList == n.2.2.2.1.toList) && ((n.2.2.2.2.1 == 0) && ((n.2.2.2.2.2.1 == 0) && ((n.2.2.2.2.2.2.toList == (⟨#[]⟩ : ByteArray).toList) && true))))))) && (Qs n.2.2.2.1)))] [4] [] [] ((n.1 == n.1) && ((n.2.1 == 0) && ((n.2.2.1 == 0) && ((n.2.2.2.1.toList == n.2.2.2.1.toList) && ((n.2.2.2.2.1 == 0) && ((n.2.2.2.2.2.1 == 0) && ((n.2.2.2.2.2.2.toList == (⟨#[]⟩ : ByteArray).toList) && true))))))) (fun h3 => ?_) (fun h3 => ?_) ?_
  ·
   refine rn Qa [2, 4, 5] [2, 5] (pt 2 h3 (pc 6 (Yb n.2.2.2.1) p0)) ?_
   exact ⟨rfl, Qd (by rw [h3] <;> kernel_rfl)⟩
  ·
   refine ru Qa [] [] [] [] (pf 2 h3 p0) ?_
   exact ⟨rfl, Qd (by rw [h3] <;> kernel_rfl)⟩
  refine Qe ?_
  exact pb [] (Qj h1 (Xh h2 (rfl)))
 refine Qc ?_
 refine tu Qa [(26, .b (n.1 == (3 : Int)))] [] [] [] (p0) ?_
 refine jn [(26, .b (bif (n.1 == (3 : Int)) then (n.1 == (3 : Int)) else (n.1 == (4 : Int))))] [26] [] [] (n.1 == (3 : Int)) (fun h4 => ?_) (fun h4 => ?_) ?_
 ·
  refine ckt h4 ?_
  refine Qf ?_
  exact ⟨rfl, Qd (by rw [h4] <;> kernel_rfl)⟩
 ·
  refine ckf h4 ?_
  refine rn Qa [1, 2, 4, 5, 10, 26] [2, 5] (p0) ?_
  exact ⟨rfl, Qd (by rw [h4] <;> kernel_rfl)⟩
 refine ck (bif (n.1 == (3 : Int)) then (n.1 == (3 : Int)) else (n.1 == (4 : Int))) (fun h5 => ?_) (fun h5 => ?_)
 ·
  refine sN Qa Yz [2, 4, 5] [2, 5] (p0) ?_
  refine Qc ?_
  refine mz [] [1, 10, 26] [(5, [.i n.1, .i 0, .i 0, .s n.2.2.2.1, .i n.2.2.2.2.1, .i n.2.2.2.2.2.1, .s n.2.2.2.2.2.2])] [5] ?_
  refine jn [(4, .b (((n.1 == n.1) && ((n.2.1 == 0) && ((n.2.2.1 == 0) && ((n.2.2.2.1.toList == n.2.2.2.1.toList) && ((n.2.2.2.2.1 == n.2.2.2.2.1) && ((n.2.2.2.2.2.1 == n.2.2.2.2.2.1) && ((n.2.2.2.2.2.2.toList == n.2.2.2.2.2.2.toList) && true))))))) && ((Qs n.2.2.2.1) && ((Qt n.2.2.2.2) && ((n.2.2.2.2.1 != (0 : Int)) && ((n.1 == (3 : Int)) || (n.2.2.2.2.1 == (1 : Int))))))))] [4] [] [] ((n.1 == n.1) && ((n.2.1 == 0) && ((n.2.2.1 == 0) && ((n.2.2.2.1.toList == n.2.2.2.1.toList) && ((n.2.2.2.2.1 == n.2.2.2.2.1) && ((n.2.2.2.2.2.1 == n.2.2.2.2.2.1) && ((n.2.2.2.2.2.2.toList == n.2.2.2.2.2.2.toList) && true))))))) (fun h6 => ?_) (fun h6 => ?_) ?_
  ·
   refine Xo (Qs n.2.2.2.1) (fun h7 => ?_) (fun h7 => ?_)
   ·
    refine Xo (Qt n.2.2.2.2) (fun h8 => ?_) (fun h8 => ?_)
    ·
     refine Xo (n.2.2.2.2.1 != (0 : Int)) (fun h9 => ?_) (fun h9 => ?_)
     ·
      refine Xo (n.1 == (3 : Int)) (fun h10 => ?_) (fun h10 => ?_)
      ·
       refine rn Qa [2, 4, 5] [2, 5] (pt 2 h6 (pc 6 (cb h7 (Yb n.2.2.2.1)) (pc 11 (cb h8 (Zb n.2.2.2.2)) (pt 17 h9 (pt 22 h10 p0))))) ?_
       exact ⟨rfl, Qd (by rw [h6, h7, h8, h9, h10] <;> kernel_rfl)⟩
      refine rn Qa [2, 4, 5] [2, 5] (pt 2 h6 (pc 6 (cb h7 (Yb n.2.2.2.1)) (pc 11 (cb h8 (Zb n.2.2.2.2)) (pt 17 h9 (pf 22 h10 p0))))) ?_
      exact ⟨rfl, Qd (by rw [h6, h7, h8, h9, h10] <;> kernel_rfl)⟩
     refine ru Qa [] [] [] [] (pt 2 h6 (pc 6 (cb h7 (Yb n.2.2.2.1)) (pc 11 (cb h8 (Zb n.2.2.2.2)) (pf 17 h9 p0)))) ?_
     exact ⟨rfl, Qd (by rw [h6, h7, h8, h9] <;> kernel_rfl)⟩
    refine ru Qa [] [] [] [] (pt 2 h6 (pc 6 (cb h7 (Yb n.2.2.2.1)) (pc 11 (cb h8 (Zb n.2.2.2.2)) p0))) ?_
    exact ⟨rfl, Qd (by rw [h6, h7, h8] <;> kernel_rfl)⟩
   refine ru Qa [] [] [] [] (pt 2 h6 (pc 6 (cb h7 (Yb n.2.2.2.1)) p0)) ?_
   exact ⟨rfl, Qd (by rw [h6, h7] <;> kernel_rfl)⟩
  ·
   refine ru Qa [] [] [] [] (pf 2 h6 p0) ?_
   exact ⟨rfl, Qd (by rw [h6] <;> kernel_rfl)⟩
  refine Qe ?_
  exact pb [] (Qj h1 (Qj h2 (Xh h5 (rfl))))
 refine sn Qa [1, 2, 4, 5, 10, 65] [2, 5] (p0) ?_
 refine ck (n.1 == (5 : Int)) (fun h11 => ?_) (fun h11 => ?_)
 ·
  refine tn Qa [1, 2, 4, 5] [2, 5] (p0) ?_
  refine Qc ?_
  refine mz [] [10, 26] [(5, [.i n.1, .i n.2.1, .i 0, .s ⟨#[]⟩, .i 0, .i 0, .s ⟨#[]⟩])] [5] ?_
  refine jn [(4, .b (((n.1 == n.1) && ((n.2.1 == n.2.1) && ((n.2.2.1 == 0) && ((n.2.2.2.1.toList == (⟨#[]⟩ : ByteArray).toList) && ((n.2.2.2.2.1 == 0) && ((n.2.2.2.2.2.1 == 0) && ((n.2.2.2.2.2.2.toList == (⟨#[]⟩ : ByteArray).toList) && true))))))) && (decide (at_ > (0 : Int)) && (Q9 n.2.1 0 (IntKind.i64.wrap (at_ - 1))))))] [1, 4] [] [] ((n.1 == n.1) && ((n.2.1 == n.2.1) && ((n.2.2.1 == 0) && ((n.2.2.2.1.toList == (⟨#[]⟩ : ByteArray).toList) && ((n.2.2.2.2.1 == 0) && ((n.2.2.2.2.2.1 == 0) && ((n.2.2.2.2.2.2.toList == (⟨#[]⟩ : ByteArray).toList) && true))))))) (fun h12 => ?_) (fun h12 => ?_) ?_
  ·
   refine Xo (decide (at_ > (0 : Int))) (fun h13 => ?_) (fun h13 => ?_)
   ·
    refine rn Qa [2, 4, 5] [2, 5] (pt 2 h12 (pt 5 h13 (pc 12 (Za n.2.1 0 (IntKind.i64.wrap (at_ - 1))) p0))) ?_
    exact ⟨rfl, Qd (by rw [h12, h13] <;> kernel_rfl)⟩
   refine ru Qa [] [1] [] [] (pt 2 h12 (pf 5 h13 p0)) ?_
   exact ⟨rfl, Qd (by rw [h12, h13] <;> kernel_rfl)⟩
  ·
   refine ru Qa [] [1] [] [] (pf 2 h12 p0) ?_
   exact ⟨rfl, Qd (by rw [h12] <;> kernel_rfl)⟩
  refine Qe ?_
  exact pb [] (Qj h1 (Qj h2 (Qj h5 (Xh h11 (rfl)))))
 refine Qc ?_
 refine tn Qa [1, 2, 4, 5, 10, 84] [2, 5] (p0) ?_
 refine mz [(84, .b (n.1 == (6 : Int)))] [26] [] [] ?_
 refine jn [(84, .b (bif (n.1 == (6 : Int)) then (n.1 == (6 : Int)) else (n.1 == (7 : Int))))] [84] [] [] (n.1 == (6 : Int)) (fun h14 => ?_) (fun h14 => ?_) ?_
 ·
  refine ckt h14 ?_
  refine Qf ?_
  exact ⟨rfl, Qd (by rw [h14] <;> kernel_rfl)⟩
 ·
  refine ckf h14 ?_
  refine rn Qa [1, 2, 4, 5, 10, 84] [2, 5] (p0) ?_
  exact ⟨rfl, Qd (by rw [h14] <;> kernel_rfl)⟩
 refine ck (bif (n.1 == (6 : Int)) then (n.1 == (6 : Int)) else (n.1 == (7 : Int))) (fun h15 => ?_) (fun h15 => ?_)
 ·
  refine sN Qa Yz [1, 2, 4, 5] [2, 5] (p0) ?_
  refine Qc ?_
  refine mz [] [10, 84] [(5, [.i n.1, .i n.2.1, .i n.2.2.1, .s ⟨#[]⟩, .i 0, .i 0, .s ⟨#[]⟩])] [5] ?_
  refine jn [(4, .b (((n.1 == n.1) && ((n.2.1 == n.2.1) && ((n.2.2.1 == n.2.2.1) && ((n.2.2.2.1.toList == (⟨#[]⟩ : ByteArray).toList) && ((n.2.2.2.2.1 == 0) && ((n.2.2.2.2.2.1 == 0) && ((n.2.2.2.2.2.2.toList == (⟨#[]⟩ : ByteArray).toList) && true))))))) && (decide (at_ > (0 : Int)) && ((Q9 n.2.1 0 (IntKind.i64.wrap (at_ - 1))) && (Q9 n.2.2.1 0 (IntKind.i64.wrap (at_ - 1)))))))] [1, 4] [] [] ((n.1 == n.1) && ((n.2.1 == n.2.1) && ((n.2.2.1 == n.2.2.1) && ((n.2.2.2.1.toList == (⟨#[]⟩ : ByteArray).toList) && ((n.2.2.2.2.1 == 0) && ((n.2.2.2.2.2.1 == 0) && ((n.2.2.2.2.2.2.toList == (⟨#[]⟩ : ByteArray).toList) && true))))))) (fun h16 => ?_) (fun h16 => ?_) ?_
  ·
   refine Xo (decide (at_ > (0 : Int))) (fun h17 => ?_) (fun h17 => ?_)
   ·
    refine Xo (Q9 n.2.1 0 (IntKind.i64.wrap (at_ - 1))) (fun h18 => ?_) (fun h18 => ?_)
    ·
     refine rn Qa [2, 4, 5] [2, 5] (pt 2 h16 (pt 5 h17 (pc 12 (cb h18 (Za n.2.1 0 (IntKind.i64.wrap (at_ - 1)))) (pc 19 (Za n.2.2.1 0 (IntKind.i64.wrap (at_ - 1))) p0)))) ?_
     exact ⟨rfl, Qd (by rw [h16, h17, h18] <;> kernel_rfl)⟩
    refine ru Qa [] [1] [] [] (pt 2 h16 (pt 5 h17 (pc 12 (cb h18 (Za n.2.1 0 (IntKind.i64.wrap (at_ - 1)))) p0))) ?_
    exact ⟨rfl, Qd (by rw [h16, h17, h18] <;> kernel_rfl)⟩
   refine ru Qa [] [1] [] [] (pt 2 h16 (pf 5 h17 p0)) ?_
   exact ⟨rfl, Qd (by rw [h16, h17] <;> kernel_rfl)⟩
  ·
   refine ru Qa [] [1] [] [] (pf 2 h16 p0) ?_
   exact ⟨rfl, Qd (by rw [h16] <;> kernel_rfl)⟩
  refine Qe ?_
  exact pb [] (Qj h1 (Qj h2 (Qj h5 (Qj h11 (Xh h15 (rfl))))))
 refine Qc ?_
 refine sn Qa [2, 4, 5, 10, 114] [2, 5] (p0) ?_
 refine ck (n.1 == (8 : Int)) (fun h19 => ?_) (fun h19 => ?_)
 ·
  refine Qf ?_
  refine ckt h19 ?_
  refine tn Qa [2, 4, 5] [2, 5] (p0) ?_
  refine Qc ?_
  refine mz [] [1, 10, 84] [(5, [.i n.1, .i 0, .i 0, .s n.2.2.2.1, .i 0, .i 0, .s ⟨#[]⟩])] [5] ?_
  refine jn [(4, .b (((n.1 == n.1) && ((n.2.1 == 0) && ((n.2.2.1 == 0) && ((n.2.2.2.1.toList == n.2.2.2.1.toList) && ((n.2.2.2.2.1 == 0) && ((n.2.2.2.2.2.1 == 0) && ((n.2.2.2.2.2.2.toList == (⟨#[]⟩ : ByteArray).toList) && true))))))) && (Qy n.2.2.2.1)))] [4] [] [] ((n.1 == n.1) && ((n.2.1 == 0) && ((n.2.2.1 == 0) && ((n.2.2.2.1.toList == n.2.2.2.1.toList) && ((n.2.2.2.2.1 == 0) && ((n.2.2.2.2.2.1 == 0) && ((n.2.2.2.2.2.2.toList == (⟨#[]⟩ : ByteArray).toList) && true))))))) (fun h20 => ?_) (fun h20 => ?_) ?_
  ·
   refine rn Qa [2, 4, 5] [2, 5] (pt 2 h20 (pc 6 (Zs n.2.2.2.1) p0)) ?_
   exact ⟨rfl, Qd (by rw [h20] <;> kernel_rfl)⟩
  ·
   refine ru Qa [] [] [] [] (pf 2 h20 p0) ?_
   exact ⟨rfl, Qd (by rw [h20] <;> kernel_rfl)⟩
  refine Qe ?_
  exact pb [] (Qj h1 (Qj h2 (Qj h5 (Qj h11 (Qj h15 (Xh h19 (rfl)))))))
 refine qn Qa [2, 4, 5, 114] [2, 5] (p0) ?_
 refine ck (n.1 == (9 : Int)) (fun h21 => ?_) (fun h21 => ?_)
 ·
  refine tu Qa [] [1, 10, 84] [(5, [.i n.1, .i 0, .i 0, .s n.2.2.2.1, .i 0, .i 0, .s ⟨#[]⟩])] [5] (p0) ?_
  refine Qc ?_
  refine jn [(4, .b (((n.1 == n.1) && ((n.2.1 == 0) && ((n.2.2.1 == 0) && ((n.2.2.2.1.toList == n.2.2.2.1.toList) && ((n.2.2.2.2.1 == 0) && ((n.2.2.2.2.2.1 == 0) && ((n.2.2.2.2.2.2.toList == (⟨#[]⟩ : ByteArray).toList) && true))))))) && (Qy n.2.2.2.1)))] [4] [] [] ((n.1 == n.1) && ((n.2.1 == 0) && ((n.2.2.1 == 0) && ((n.2.2.2.1.toList == n.2.2.2.1.toList) && ((n.2.2.2.2.1 == 0) && ((n.2.2.2.2.2.1 == 0) && ((n.2.2.2.2.2.2.toList == (⟨#[]⟩ : ByteArray).toList) && true))))))) (fun h22 => ?_) (fun h22 => ?_) ?_
  ·
   refine rn Qa [2, 4, 5] [2, 5] (pt 2 h22 (pc 6 (Zs n.2.2.2.1) p0)) ?_
   exact ⟨rfl, Qd (by rw [h22] <;> kernel_rfl)⟩
  ·
   refine ru Qa [] [] [] [] (pf 2 h22 p0) ?_
   exact ⟨rfl, Qd (by rw [h22] <;> kernel_rfl)⟩
  refine Qe ?_
  exact pb [] (Qj h1 (Qj h2 (Qj h5 (Qj h11 (Qj h15 (Qj h19 (Xh h21 (rfl))))))))
 refine tu Qa [] [1, 10, 84] [] [] (p0) ?_
 refine Qe ?_
 exact pb [] (Qj h1 (Qj h2 (Qj h5 (Qj h11 (Qj h15 (Qj h19 (Qj h21 (rfl))))))))
def Kq (at_ : Int) (_ : Nat) (a0 : Qw) (s0 : Int) : Rd (Int) (Int) (Int) := (bif ((a0.2.1 == at_) && (((a0.1 == (6 : Int)) || (a0.1 == (7 : Int))) || (a0.1 == (5 : Int)))) then (bif ((a0.2.2.1 == at_) && ((a0.1 == (6 : Int)) || (a0.1 == (7 : Int)))) then (.next (IntKind.i64.wrap (IntKind.i64.wrap (s0 + 1) + 1))) else (.next (IntKind.i64.wrap (s0 + 1)))) else (bif ((a0.2.2.1 == at_) && ((a0.1 == (6 : Int)) || (a0.1 == (7 : Int)))) then (.next (IntKind.i64.wrap (s0 + 1))) else (.next s0)))
def V5 (_ : Nat) (s0 : Int) : Int := s0
def Jl (q : (List Qw)) (at_ : Int) : Int := (Out.on (Yr (Kq at_) V5 q 0 0) (fun y0 => y0))
theorem D5 (q : (List Qw)) (at_ : Int) : ACalls Tryz.prog 149 [.h q, .i at_] (.i (Jl q at_)) := by
 refine en Qa Tryz.func149 fun w0 F0 hG => ?_
 refine sn Qa [0, 1, 4] [] (p0) ?_
 refine tn Qa [0, 1, 4, 5] [] (p0) ?_
 refine Qc ?_
 refine tu Qa [(4, .i 0), (5, .i 0), (9, .h q), (10, .i (q.length : Int)), (11, .i 0)] [0] [] [] (pl 1 q p0) ?_
 refine wT 9 0 .sh q (fun hw1 hl2 => ?_)
 refine Rb (Kq at_) V5 q 0 (fun k0 s0 => [(5, .i s0), (11, .i ((k0 : Nat) : Int))]) [5, 11] (fun y0 => [(5, .i y0)]) [1, 5, 9, 10, 11] wf0 (fun k0 s0 hk0 hI0 => ?_) (fun k0 s0 hk0 hI0 => ?_) (fun y0 hD0 => ?_)
 ·
  obtain ⟨a0, hx0⟩ := Yp (l := q) (i := k0) hk0
  refine su Qa [(12, .b true)] [] [] [] (pe 0 (Q1 (decide_eq_true (p := ((k0 : Nat) : Int) < (q.length : Int)) (by omega))) p0) ?_
  refine Qc ?_
  refine ckT ?_
  refine Qf ?_
  refine Qc ?_
  refine Qz ?_
  refine sn Qa [1, 4, 5, 7, 9, 10, 11] [7] (pn 0 hx0 p0) ?_
  refine Qc ?_
  refine mz [(7, .p 7 0)] [12] [(7, [.i a0.1, .i a0.2.1, .i a0.2.2.1, .s a0.2.2.2.1, .i a0.2.2.2.2.1, .i a0.2.2.2.2.2.1, .s a0.2.2.2.2.2.2])] [] ?_
  refine jn [(8, .b ((a0.1 == (6 : Int)) || (a0.1 == (7 : Int))))] [] [] [] (a0.1 == (6 : Int)) (fun h3 => ?_) (fun h3 => ?_) ?_
  ·
   refine ru Qa [(8, .b true)] [] [] [] (pt 2 h3 p0) ?_
   exact ⟨rfl, Qd (by rw [h3] <;> kernel_rfl)⟩
  ·
   refine rn Qa [1, 4, 5, 7, 8, 9, 10, 11] [7] (pf 2 h3 p0) ?_
   exact ⟨rfl, Qd (by rw [h3] <;> kernel_rfl)⟩
  refine Qc ?_
  refine Qc ?_
  refine jn [(34, .b ((a0.2.1 == at_) && (((a0.1 == (6 : Int)) || (a0.1 == (7 : Int))) || (a0.1 == (5 : Int)))))] [] [] [] (a0.2.1 == at_) (fun h4 => ?_) (fun h4 => ?_) ?_
  ·
   refine Xo ((a0.1 == (6 : Int)) || (a0.1 == (7 : Int))) (fun h5 => ?_) (fun h5 => ?_)
   ·
    refine ru Qa [(34, .b true)] [] [] [] (pt 3 h4 (pt 5 h5 p0)) ?_
    exact ⟨rfl, Qd (by rw [h4, h5] <;> kernel_rfl)⟩
   refine rn Qa [1, 4, 5, 7, 8, 9, 10, 11, 34] [7] (pt 3 h4 (pf 5 h5 p0)) ?_
   exact ⟨rfl, Qd (by rw [h4, h5] <;> kernel_rfl)⟩
  ·
   refine ru Qa [(34, .b false)] [] [] [] (pf 3 h4 p0) ?_
   exact ⟨rfl, Qd (by rw [h4] <;> kernel_rfl)⟩
  refine ck ((a0.2.1 == at_) && (((a0.1 == (6 : Int)) || (a0.1 == (7 : Int))) || (a0.1 == (5 : Int)))) (fun h6 => ?_) (fun h6 => ?_)
  ·
   have h6l : ((a0.2.1 == at_)) = true := Ou h6
   have h6ld := eq_of_beq h6l
   refine rn Qa [1, 4, 5, 7, 8, 9, 10, 11] [7] (p0) ?_
   refine Qc ?_
   refine mz [(5, .i (IntKind.i64.wrap (s0 + 1)))] [5, 34] [] [] ?_
   refine jn [(43, .b ((a0.2.2.1 == at_) && ((a0.1 == (6 : Int)) || (a0.1 == (7 : Int)))))] [7, 8] [] [7] (a0.2.2.1 == at_) (fun h7 => ?_) (fun h7 => ?_) ?_
   ·
    refine rn Qa [1, 4, 5, 9, 10, 11, 43] [] (pt 3 h7 p0) ?_
    exact ⟨rfl, Qd (by rw [h7] <;> kernel_rfl)⟩
   ·
    refine rn Qa [1, 4, 5, 9, 10, 11, 43] [] (pf 3 h7 p0) ?_
    exact ⟨rfl, Qd (by rw [h7] <;> kernel_rfl)⟩
   refine ck ((a0.2.2.1 == at_) && ((a0.1 == (6 : Int)) || (a0.1 == (7 : Int)))) (fun h8 => ?_) (fun h8 => ?_)
   ·
    have h8l : ((a0.2.2.1 == at_)) = true := Ou h8
    have h8ld := eq_of_beq h8l
    refine rn Qa [1, 4, 5, 9, 10, 11] [] (p0) ?_
    refine qn Qa [1, 4, 5, 9, 10, 11] [] (pe 0 (Jq (Q4 k0 (by omega))) p0) ?_
    exact xw _ (Xp hx0 (Xh h6 (Xh h8 (rfl))) hI0)
   refine Qf ?_
   refine rn Qa [1, 4, 5, 9, 10, 11] [] (pe 0 (Jq (Q4 k0 (by omega))) p0) ?_
   exact xw _ (Xp hx0 (Xh h6 (Qj h8 (rfl))) hI0)
  refine Qf ?_
  refine Qc ?_
  refine jn [(43, .b ((a0.2.2.1 == at_) && ((a0.1 == (6 : Int)) || (a0.1 == (7 : Int)))))] [7, 8, 34] [] [7] (a0.2.2.1 == at_) (fun h9 => ?_) (fun h9 => ?_) ?_
  ·
   refine rn Qa [1, 4, 5, 9, 10, 11, 43] [] (pt 3 h9 p0) ?_
   exact ⟨rfl, Qd (by rw [h9] <;> kernel_rfl)⟩
  ·
   refine rn Qa [1, 4, 5, 9, 10, 11, 43] [] (pf 3 h9 p0) ?_
   exact ⟨rfl, Qd (by rw [h9] <;> kernel_rfl)⟩
  refine ck ((a0.2.2.1 == at_) && ((a0.1 == (6 : Int)) || (a0.1 == (7 : Int)))) (fun h10 => ?_) (fun h10 => ?_)
  ·
   have h10l : ((a0.2.2.1 == at_)) = true := Ou h10
   have h10ld := eq_of_beq h10l
   refine rn Qa [1, 4, 5, 9, 10, 11] [] (p0) ?_
   refine qn Qa [1, 4, 5, 9, 10, 11] [] (pe 0 (Jq (Q4 k0 (by omega))) p0) ?_
   exact xw _ (Xp hx0 (Qj h6 (Xh h10 (rfl))) hI0)
  refine Qf ?_
  refine rn Qa [1, 4, 5, 9, 10, 11] [] (pe 0 (Jq (Q4 k0 (by omega))) p0) ?_
  exact xw _ (Xp hx0 (Qj h6 (Qj h10 (rfl))) hI0)
 ·
  refine su Qa [(12, .b false)] [] [] [] (pe 0 (Q1 (decide_eq_false (p := ((k0 : Nat) : Int) < (q.length : Int)) (by omega))) p0) ?_
  refine Qc ?_
  refine ckF ?_
  refine Xu ?_
  exact xw _ (Yq hk0 (rfl) hI0)
 refine sn Qa [4] [] (p0) ?_
 refine Qe ?_
 exact pi [] (V4 hD0 (rfl))
def Yv (q : (List Qw)) (k0 : Nat) (a0 : Qw) (_ : Unit) : Rd (Bool) (Unit) (Unit) := (bif ((!(Ym a0 ((k0 : Nat) : Int))) || (decide (((k0 : Nat) : Int) < ((q.length : Int) - 1)) && ((Jl q ((k0 : Nat) : Int)) != (1 : Int)))) then (.ret false) else (.next ()))
def Z5 (_ : Nat) (_ : Unit) : Unit := ()
def Qk (q : (List Qw)) : Bool := (Out.on (Yr (Yv q) Z5 q 0 ()) (fun _ => (Q9 (q.length : Int) 1 9)))
theorem Kz (q : (List Qw)) : ACalls Tryz.prog 118 [.h q] (.b (Qk q)) := by
 refine en Qa Tryz.func118 fun w0 F0 hG => ?_
 refine sn Qa [0, 2] [] (p0) ?_
 refine Qc ?_
 refine tn Qa [0, 2, 5, 6, 7] [] (pl 1 q p0) ?_
 refine mz [(2, .b false), (5, .h q), (6, .i (q.length : Int)), (7, .i 0)] [] [] [] ?_
 refine wT 0 0 .sh q (fun hw1 hl2 => ?_)
 refine Rb (Yv q) Z5 q () (fun k0 _ => [(7, .i ((k0 : Nat) : Int))]) [7] (fun _ => []) [5, 6, 7] wf0 (fun k0 s0 hk0 hI0 => ?_) (fun k0 s0 hk0 hI0 => ?_) (fun y0 hD0 => ?_)
 ·
  obtain ⟨a0, hx0⟩ := Yp (l := q) (i := k0) hk0
  refine sn Qa [0, 2, 5, 6, 7, 8] [] (pe 0 (Q1 (decide_eq_true (p := ((k0 : Nat) : Int) < (q.length : Int)) (by omega))) p0) ?_
  refine Qc ?_
  refine ckT ?_
  refine Qf ?_
  refine Qc ?_
  refine Qz ?_
  refine tn Qa [0, 2, 3, 4, 5, 6, 7] [4] (pn 1 hx0 p0) ?_
  refine Qc ?_
  refine mz [(3, .i ((k0 : Nat) : Int)), (4, .p 4 0)] [] [(4, [.i a0.1, .i a0.2.1, .i a0.2.2.1, .s a0.2.2.2.1, .i a0.2.2.2.2.1, .i a0.2.2.2.2.2.1, .s a0.2.2.2.2.2.2])] [] ?_
  refine jn [(28, .b ((!(Ym a0 ((k0 : Nat) : Int))) || (decide (((k0 : Nat) : Int) < ((q.length : Int) - 1)) && ((Jl q ((k0 : Nat) : Int)) != (1 : Int)))))] [3, 4] [] [4] (!(Ym a0 ((k0 : Nat) : Int))) (fun h3 => ?_) (fun h3 => ?_) ?_
  ·
   have h3n : (Ym a0 ((k0 : Nat) : Int)) = false := Vp h3
   refine rn Qa [0, 2, 5, 6, 7, 28] [] (pc 2 (cb h3n (Hw a0 ((k0 : Nat) : Int))) (pe 3 (show .b (!false) = .b true from rfl) p0)) ?_
   exact ⟨rfl, Qd (by rw [h3] <;> kernel_rfl)⟩
  ·
   have h3n : (Ym a0 ((k0 : Nat) : Int)) = true := Z4 h3
   refine Xo (decide (((k0 : Nat) : Int) < ((q.length : Int) - 1))) (fun h4 => ?_) (fun h4 => ?_)
   ·
    have h4d := of_decide_eq_true h4
    refine rn Qa [0, 2, 5, 6, 7, 28] [] (pc 2 (cb h3n (Hw a0 ((k0 : Nat) : Int))) (pe 3 (show .b (!true) = .b false from rfl) (pl 7 q (pe 8 (Jq (IntWalk.i64_in ((q.length : Int) - 1) (by omega))) (pt 9 h4 (pc 13 (D5 q ((k0 : Nat) : Int)) p0)))))) ?_
    exact ⟨rfl, Qd (by rw [h3, h4] <;> kernel_rfl)⟩
   have h4d := of_decide_eq_false h4
   refine rn Qa [0, 2, 5, 6, 7, 28] [] (pc 2 (cb h3n (Hw a0 ((k0 : Nat) : Int))) (pe 3 (show .b (!true) = .b false from rfl) (pl 7 q (pe 8 (Jq (IntWalk.i64_in ((q.length : Int) - 1) (by omega))) (pf 9 h4 p0))))) ?_
   exact ⟨rfl, Qd (by rw [h3, h4] <;> kernel_rfl)⟩
  refine ck ((!(Ym a0 ((k0 : Nat) : Int))) || (decide (((k0 : Nat) : Int) < ((q.length : Int) - 1)) && ((Jl q ((k0 : Nat) : Int)) != (1 : Int)))) (fun h5 => ?_) (fun h5 => ?_)
  ·
   refine su Qa [] [28] [] [] (p0) ?_
   refine Qe ?_
   have hr6 : (Yr (Yv q) Z5 q 0 ()) = .ret false := Kb hx0 (Xh h5 (rfl)) hI0
   exact pb [] (Mo hr6)
  refine Qf ?_
  refine rn Qa [0, 2, 5, 6, 7] [] (pe 0 (Jq (Q4 k0 (by omega))) p0) ?_
  exact xw _ (Xp hx0 (Qj h5 (rfl)) hI0)
 ·
  refine sn Qa [0, 2, 5, 6, 7, 8] [] (pe 0 (Q1 (decide_eq_false (p := ((k0 : Nat) : Int) < (q.length : Int)) (by omega))) p0) ?_
  refine Qc ?_
  refine ckF ?_
  refine Xu ?_
  exact xw _ (Yq hk0 (rfl) hI0)
 refine sn Qa [2] [] (pl 1 q (pc 2 (Za (q.length : Int) 1 9) p0)) ?_
 refine Qe ?_
 exact pb [] (V4 hD0 (rfl))
def Ja (n : Qw) (at_ : Int) : Bool := (bif (n.1 == (1 : Int)) then ((n.1 == 1) && ((n.2.1 == 0) && ((n.2.2.1 == 0) && ((n.2.2.2.1.toList == (⟨#[]⟩ : ByteArray).toList) && ((n.2.2.2.2.1 == 0) && ((n.2.2.2.2.2.1 == 0) && ((n.2.2.2.2.2.2.toList == (⟨#[]⟩ : ByteArray).toList) && true))))))) else (bif (n.1 == (2 : Int)) then ((Xb n.2.2.2.1) && ((n.1 == n.1) && ((n.2.1 == 0) && ((n.2.2.1 == 0) && ((n.2.2.2.1.toList == n.2.2.2.1.toList) && ((n.2.2.2.2.1 == 0) && ((n.2.2.2.2.2.1 == 0) && ((n.2.2.2.2.2.2.toList == (⟨#[]⟩ : ByteArray).toList) && true)))))))) else (bif (n.1 == (3 : Int)) then ((Xb n.2.2.2.1) && ((Xg n.2.2.2.2) && ((n.2.2.2.2.1 != (0 : Int)) && ((n.2.1 == (0 : Int)) && (n.2.2.1 == (0 : Int)))))) else (bif (n.1 == (4 : Int)) then ((Xb n.2.2.2.1) && ((Xg n.2.2.2.2) && ((n.2.2.2.2.1 == (1 : Int)) && ((n.2.1 == (0 : Int)) && (n.2.2.1 == (0 : Int)))))) else (bif (n.1 == (5 : Int)) then (((Xf n.2.1 0 (IntKind.i64.wrap (at_ - 1))) && decide (at_ > (0 : Int))) && ((n.2.2.1 == (0 : Int)) && ((n.2.2.2.1.toList == (⟨#[]⟩ : ByteArray).toList) && ((n.2.2.2.2.1 == 0) && ((n.2.2.2.2.2.1 == 0) && ((n.2.2.2.2.2.2.toList == (⟨#[]⟩ : ByteArray).toList) && true)))))) else (bif (bif (n.1 == (6 : Int)) then (n.1 == (6 : Int)) else (n.1 == (7 : Int))) then ((((Xf n.2.1 0 (IntKind.i64.wrap (at_ - 1))) && decide (at_ > (0 : Int))) && (Xf n.2.2.1 0 (IntKind.i64.wrap (at_ - 1)))) && ((n.2.2.2.1.toList == (⟨#[]⟩ : ByteArray).toList) && ((n.2.2.2.2.1 == 0) && ((n.2.2.2.2.2.1 == 0) && ((n.2.2.2.2.2.2.toList == (⟨#[]⟩ : ByteArray).toList) && true))))) else (bif (n.1 == (8 : Int)) then ((X0 n.2.2.2.1) && ((n.1 == n.1) && ((n.2.1 == 0) && ((n.2.2.1 == 0) && ((n.2.2.2.1.toList == n.2.2.2.1.toList) && ((n.2.2.2.2.1 == 0) && ((n.2.2.2.2.2.1 == 0) && ((n.2.2.2.2.2.2.toList == (⟨#[]⟩ : ByteArray).toList) && true)))))))) else (bif (n.1 == (9 : Int)) then ((X0 n.2.2.2.1) && ((n.1 == n.1) && ((n.2.1 == 0) && ((n.2.2.1 == 0) && ((n.2.2.2.1.toList == n.2.2.2.1.toList) && ((n.2.2.2.2.1 == 0) && ((n.2.2.2.2.2.1 == 0) && ((n.2.2.2.2.2.2.toList == (⟨#[]⟩ : ByteArray).toList) && true)))))))) else false))))))))
theorem Hx (n : Qw) (at_ : Int) : ACalls Tryz.prog 102 [.a [.i n.1, .i n.2.1, .i n.2.2.1, .s n.2.2.2.1, .i n.2.2.2.2.1, .i n.2.2.2.2.2.1, .s n.2.2.2.2.2.2], .i at_] (.b (Ja n at_)) := by
 refine en Qa Tryz.func102 fun w0 F0 hG => ?_
 refine sn Qa [1, 2, 4] [2] (p0) ?_
 refine Qc ?_
 refine mz [(2, .p 2 0), (4, .b false)] [0] [(2, [.i n.1, .i n.2.1, .i n.2.2.1, .s n.2.2.2.1, .i n.2.2.2.2.1, .i n.2.2.2.2.2.1, .s n.2.2.2.2.2.2])] [] ?_
 refine jn [(5, .b ((Xf n.2.1 0 (IntKind.i64.wrap (at_ - 1))) && decide (at_ > (0 : Int))))] [] [] [] (Xf n.2.1 0 (IntKind.i64.wrap (at_ - 1))) (fun h1 => ?_) (fun h1 => ?_) ?_
 ·
  refine rn Qa [1, 2, 4, 5] [2] (pc 4 (cb h1 (Y2 n.2.1 0 (IntKind.i64.wrap (at_ - 1)))) p0) ?_
  exact ⟨rfl, Qd (by rw [h1] <;> kernel_rfl)⟩
 ·
  refine rn Qa [1, 2, 4, 5] [2] (pc 4 (cb h1 (Y2 n.2.1 0 (IntKind.i64.wrap (at_ - 1)))) p0) ?_
  exact ⟨rfl, Qd (by rw [h1] <;> kernel_rfl)⟩
 refine Qc ?_
 refine jn [(6, .b (((Xf n.2.1 0 (IntKind.i64.wrap (at_ - 1))) && decide (at_ > (0 : Int))) && (Xf n.2.2.1 0 (IntKind.i64.wrap (at_ - 1)))))] [1] [] [] ((Xf n.2.1 0 (IntKind.i64.wrap (at_ - 1))) && decide (at_ > (0 : Int))) (fun h2 => ?_) (fun h2 => ?_) ?_
 ·
  refine rn Qa [2, 4, 5, 6] [2] (pt 0 h2 (pc 6 (Y2 n.2.2.1 0 (IntKind.i64.wrap (at_ - 1))) p0)) ?_
  exact ⟨rfl, Qd (by rw [h2] <;> kernel_rfl)⟩
 ·
  refine rn Qa [2, 4, 5, 6] [2] (pf 0 h2 p0) ?_
  exact ⟨rfl, Qd (by rw [h2] <;> kernel_rfl)⟩
 refine Qc ?_
 refine sn Qa [2, 4, 5, 6, 25] [2] (p0) ?_
 refine Qz ?_
 refine tn Qa [2, 4, 5, 6, 25, 26] [2] (p0) ?_
 refine ck (n.1 == (1 : Int)) (fun h3 => ?_) (fun h3 => ?_)
 ·
  refine tu Qa [(4, .b ((n.1 == 1) && ((n.2.1 == 0) && ((n.2.2.1 == 0) && ((n.2.2.2.1.toList == (⟨#[]⟩ : ByteArray).toList) && ((n.2.2.2.2.1 == 0) && ((n.2.2.2.2.2.1 == 0) && ((n.2.2.2.2.2.2.toList == (⟨#[]⟩ : ByteArray).toList) && true))))))))] [2, 4, 5, 6] [] [2] (p0) ?_
  refine Qe ?_
  exact pb [] (Xh h3 (rfl))
 refine tu Qa [(25, .i n.1), (31, .b (n.1 == (2 : Int)))] [] [] [] (p0) ?_
 refine ck (n.1 == (2 : Int)) (fun h4 => ?_) (fun h4 => ?_)
 ·
  refine Qc ?_
  refine jn [(4, .b ((Xb n.2.2.2.1) && ((n.1 == n.1) && ((n.2.1 == 0) && ((n.2.2.1 == 0) && ((n.2.2.2.1.toList == n.2.2.2.1.toList) && ((n.2.2.2.2.1 == 0) && ((n.2.2.2.2.2.1 == 0) && ((n.2.2.2.2.2.2.toList == (⟨#[]⟩ : ByteArray).toList) && true)))))))))] [2, 4, 5, 6, 25, 31] [] [2] (Xb n.2.2.2.1) (fun h5 => ?_) (fun h5 => ?_) ?_
  ·
   refine rn Qa [4] [] (pc 2 (cb h5 (Xq n.2.2.2.1)) p0) ?_
   exact ⟨rfl, Qd (by rw [h5] <;> kernel_rfl)⟩
  ·
   refine rn Qa [4] [] (pc 2 (cb h5 (Xq n.2.2.2.1)) p0) ?_
   exact ⟨rfl, Qd (by rw [h5] <;> kernel_rfl)⟩
  refine Qe ?_
  exact pb [] (Qj h3 (Xh h4 (rfl)))
 refine sn Qa [2, 4, 5, 6, 25, 45] [2] (p0) ?_
 refine ck (n.1 == (3 : Int)) (fun h6 => ?_) (fun h6 => ?_)
 ·
  refine Qc ?_
  refine mz [(45, .b (n.1 == (3 : Int)))] [31] [] [] ?_
  refine jn [(4, .b ((Xb n.2.2.2.1) && ((Xg n.2.2.2.2) && ((n.2.2.2.2.1 != (0 : Int)) && ((n.2.1 == (0 : Int)) && (n.2.2.1 == (0 : Int)))))))] [2, 4, 5, 6, 25, 45] [] [2] (Xb n.2.2.2.1) (fun h7 => ?_) (fun h7 => ?_) ?_
  ·
   refine Xo (Xg n.2.2.2.2) (fun h8 => ?_) (fun h8 => ?_)
   ·
    refine Xo (n.2.2.2.2.1 != (0 : Int)) (fun h9 => ?_) (fun h9 => ?_)
    ·
     refine Xo (n.2.1 == (0 : Int)) (fun h10 => ?_) (fun h10 => ?_)
     ·
      refine rn Qa [4] [] (pc 2 (cb h7 (Xq n.2.2.2.1)) (pc 6 (cb h8 (Ya n.2.2.2.2)) (pt 12 h9 (pt 17 h10 p0)))) ?_
      exact ⟨rfl, Qd (by rw [h7, h8, h9, h10] <;> kernel_rfl)⟩
     refine rn Qa [4] [] (pc 2 (cb h7 (Xq n.2.2.2.1)) (pc 6 (cb h8 (Ya n.2.2.2.2)) (pt 12 h9 (pf 17 h10 p0)))) ?_
     exact ⟨rfl, Qd (by rw [h7, h8, h9, h10] <;> kernel_rfl)⟩
    refine rn Qa [4] [] (pc 2 (cb h7 (Xq n.2.2.2.1)) (pc 6 (cb h8 (Ya n.2.2.2.2)) (pf 12 h9 p0))) ?_
    exact ⟨rfl, Qd (by rw [h7, h8, h9] <;> kernel_rfl)⟩
   refine rn Qa [4] [] (pc 2 (cb h7 (Xq n.2.2.2.1)) (pc 6 (cb h8 (Ya n.2.2.2.2)) p0)) ?_
   exact ⟨rfl, Qd (by rw [h7, h8] <;> kernel_rfl)⟩
  ·
   refine rn Qa [4] [] (pc 2 (cb h7 (Xq n.2.2.2.1)) p0) ?_
   exact ⟨rfl, Qd (by rw [h7] <;> kernel_rfl)⟩
  refine Qe ?_
  exact pb [] (Qj h3 (Qj h4 (Xh h6 (rfl))))
 refine tn Qa [2, 4, 5, 6, 25, 71] [2] (p0) ?_
 refine ck (n.1 == (4 : Int)) (fun h11 => ?_) (fun h11 => ?_)
 ·
  refine Qc ?_
  refine mz [(71, .b (n.1 == (4 : Int)))] [31] [] [] ?_
  refine jn [(4, .b ((Xb n.2.2.2.1) && ((Xg n.2.2.2.2) && ((n.2.2.2.2.1 == (1 : Int)) && ((n.2.1 == (0 : Int)) && (n.2.2.1 == (0 : Int)))))))] [2, 4, 5, 6, 25, 71] [] [2] (Xb n.2.2.2.1) (fun h12 => ?_) (fun h12 => ?_) ?_
  ·
   refine Xo (Xg n.2.2.2.2) (fun h13 => ?_) (fun h13 => ?_)
   ·
    refine Xo (n.2.2.2.2.1 == (1 : Int)) (fun h14 => ?_) (fun h14 => ?_)
    ·
     refine Xo (n.2.1 == (0 : Int)) (fun h15 => ?_) (fun h15 => ?_)
     ·
      refine rn Qa [4] [] (pc 2 (cb h12 (Xq n.2.2.2.1)) (pc 6 (cb h13 (Ya n.2.2.2.2)) (pt 12 h14 (pt 17 h15 p0)))) ?_
      exact ⟨rfl, Qd (by rw [h12, h13, h14, h15] <;> kernel_rfl)⟩
     refine rn Qa [4] [] (pc 2 (cb h12 (Xq n.2.2.2.1)) (pc 6 (cb h13 (Ya n.2.2.2.2)) (pt 12 h14 (pf 17 h15 p0)))) ?_
     exact ⟨rfl, Qd (by rw [h12, h13, h14, h15] <;> kernel_rfl)⟩
    refine rn Qa [4] [] (pc 2 (cb h12 (Xq n.2.2.2.1)) (pc 6 (cb h13 (Ya n.2.2.2.2)) (pf 12 h14 p0))) ?_
    exact ⟨rfl, Qd (by rw [h12, h13, h14] <;> kernel_rfl)⟩
   refine rn Qa [4] [] (pc 2 (cb h12 (Xq n.2.2.2.1)) (pc 6 (cb h13 (Ya n.2.2.2.2)) p0)) ?_
   exact ⟨rfl, Qd (by rw [h12, h13] <;> kernel_rfl)⟩
  ·
   refine rn Qa [4] [] (pc 2 (cb h12 (Xq n.2.2.2.1)) p0) ?_
   exact ⟨rfl, Qd (by rw [h12] <;> kernel_rfl)⟩
  refine Qe ?_
  exact pb [] (Qj h3 (Qj h4 (Qj h6 (Xh h11 (rfl)))))
 refine tu Qa [(97, .b (n.1 == (5 : Int)))] [31] [] [] (p0) ?_
 refine ck (n.1 == (5 : Int)) (fun h16 => ?_) (fun h16 => ?_)
 ·
  refine Qc ?_
  refine jn [(4, .b (((Xf n.2.1 0 (IntKind.i64.wrap (at_ - 1))) && decide (at_ > (0 : Int))) && ((n.2.2.1 == (0 : Int)) && ((n.2.2.2.1.toList == (⟨#[]⟩ : ByteArray).toList) && ((n.2.2.2.2.1 == 0) && ((n.2.2.2.2.2.1 == 0) && ((n.2.2.2.2.2.2.toList == (⟨#[]⟩ : ByteArray).toList) && true)))))))] [2, 4, 5, 6, 25, 97] [] [2] ((Xf n.2.1 0 (IntKind.i64.wrap (at_ - 1))) && decide (at_ > (0 : Int))) (fun h17 => ?_) (fun h17 => ?_) ?_
  ·
   refine Xo (n.2.2.1 == (0 : Int)) (fun h18 => ?_) (fun h18 => ?_)
   ·
    refine Xo (n.2.2.2.1.toList == (⟨#[]⟩ : ByteArray).toList) (fun h19 => ?_) (fun h19 => ?_)
    ·
     refine rn Qa [4] [] (pt 0 h17 (pt 4 h18 (pt 9 h19 p0))) ?_
     exact ⟨rfl, Qd (by rw [h17, h18, h19] <;> kernel_rfl)⟩
    refine rn Qa [4] [] (pt 0 h17 (pt 4 h18 (pf 9 h19 p0))) ?_
    exact ⟨rfl, Qd (by rw [h17, h18, h19] <;> kernel_rfl)⟩
   refine rn Qa [4] [] (pt 0 h17 (pf 4 h18 p0)) ?_
   exact ⟨rfl, Qd (by rw [h17, h18] <;> kernel_rfl)⟩
  ·
   refine rn Qa [4] [] (pf 0 h17 p0) ?_
   exact ⟨rfl, Qd (by rw [h17] <;> kernel_rfl)⟩
  refine Qe ?_
  exact pb [] (Qj h3 (Qj h4 (Qj h6 (Qj h11 (Xh h16 (rfl))))))
 refine Qc ?_
 refine sn Qa [2, 4, 6, 25, 116] [2] (p0) ?_
 refine mz [(116, .b (n.1 == (6 : Int)))] [5, 97] [] [] ?_
 refine jn [(116, .b (bif (n.1 == (6 : Int)) then (n.1 == (6 : Int)) else (n.1 == (7 : Int))))] [116] [] [] (n.1 == (6 : Int)) (fun h20 => ?_) (fun h20 => ?_) ?_
 ·
  refine ckt h20 ?_
  refine Qf ?_
  exact ⟨rfl, Qd (by rw [h20] <;> kernel_rfl)⟩
 ·
  refine ckf h20 ?_
  refine rn Qa [2, 4, 6, 25, 116] [2] (p0) ?_
  exact ⟨rfl, Qd (by rw [h20] <;> kernel_rfl)⟩
 refine ck (bif (n.1 == (6 : Int)) then (n.1 == (6 : Int)) else (n.1 == (7 : Int))) (fun h21 => ?_) (fun h21 => ?_)
 ·
  refine Qc ?_
  refine jn [(4, .b ((((Xf n.2.1 0 (IntKind.i64.wrap (at_ - 1))) && decide (at_ > (0 : Int))) && (Xf n.2.2.1 0 (IntKind.i64.wrap (at_ - 1)))) && ((n.2.2.2.1.toList == (⟨#[]⟩ : ByteArray).toList) && ((n.2.2.2.2.1 == 0) && ((n.2.2.2.2.2.1 == 0) && ((n.2.2.2.2.2.2.toList == (⟨#[]⟩ : ByteArray).toList) && true))))))] [2, 4, 6, 25, 116] [] [2] (((Xf n.2.1 0 (IntKind.i64.wrap (at_ - 1))) && decide (at_ > (0 : Int))) && (Xf n.2.2.1 0 (IntKind.i64.wrap (at_ - 1)))) (fun h22 => ?_) (fun h22 => ?_) ?_
  ·
   refine Xo (n.2.2.2.1.toList == (⟨#[]⟩ : ByteArray).toList) (fun h23 => ?_) (fun h23 => ?_)
   ·
    refine rn Qa [4] [] (pt 0 h22 (pt 4 h23 p0)) ?_
    exact ⟨rfl, Qd (by rw [h22, h23] <;> kernel_rfl)⟩
   refine rn Qa [4] [] (pt 0 h22 (pf 4 h23 p0)) ?_
   exact ⟨rfl, Qd (by rw [h22, h23] <;> kernel_rfl)⟩
  ·
   refine rn Qa [4] [] (pf 0 h22 p0) ?_
   exact ⟨rfl, Qd (by rw [h22] <;> kernel_rfl)⟩
  refine Qe ?_
  exact pb [] (Qj h3 (Qj h4 (Qj h6 (Qj h11 (Qj h16 (Xh h21 (rfl)))))))
 refine Qc ?_
 refine sn Qa [2, 4, 25, 131] [2] (p0) ?_
 refine ck (n.1 == (8 : Int)) (fun h24 => ?_) (fun h24 => ?_)
 ·
  refine Qf ?_
  refine ckt h24 ?_
  refine Qc ?_
  refine mz [(131, .b (n.1 == (8 : Int)))] [6, 116] [] [] ?_
  refine jn [(4, .b ((X0 n.2.2.2.1) && ((n.1 == n.1) && ((n.2.1 == 0) && ((n.2.2.1 == 0) && ((n.2.2.2.1.toList == n.2.2.2.1.toList) && ((n.2.2.2.2.1 == 0) && ((n.2.2.2.2.2.1 == 0) && ((n.2.2.2.2.2.2.toList == (⟨#[]⟩ : ByteArray).toList) && true)))))))))] [2, 4, 25, 131] [] [2] (X0 n.2.2.2.1) (fun h25 => ?_) (fun h25 => ?_) ?_
  ·
   refine rn Qa [4] [] (pc 2 (cb h25 (Zc n.2.2.2.1)) p0) ?_
   exact ⟨rfl, Qd (by rw [h25] <;> kernel_rfl)⟩
  ·
   refine rn Qa [4] [] (pc 2 (cb h25 (Zc n.2.2.2.1)) p0) ?_
   exact ⟨rfl, Qd (by rw [h25] <;> kernel_rfl)⟩
  refine Qe ?_
  exact pb [] (Qj h3 (Qj h4 (Qj h6 (Qj h11 (Qj h16 (Qj h21 (Xh h24 (rfl))))))))
 refine qn Qa [2, 4, 131] [2] (p0) ?_
 refine ck (n.1 == (9 : Int)) (fun h26 => ?_) (fun h26 => ?_)
 ·
  refine Qc ?_
  refine mz [(131, .b (n.1 == (9 : Int)))] [6, 25, 116] [] [] ?_
  refine jn [(4, .b ((X0 n.2.2.2.1) && ((n.1 == n.1) && ((n.2.1 == 0) && ((n.2.2.1 == 0) && ((n.2.2.2.1.toList == n.2.2.2.1.toList) && ((n.2.2.2.2.1 == 0) && ((n.2.2.2.2.2.1 == 0) && ((n.2.2.2.2.2.2.toList == (⟨#[]⟩ : ByteArray).toList) && true)))))))))] [2, 4, 131] [] [2] (X0 n.2.2.2.1) (fun h27 => ?_) (fun h27 => ?_) ?_
  ·
   refine rn Qa [4] [] (pc 2 (cb h27 (Zc n.2.2.2.1)) p0) ?_
   exact ⟨rfl, Qd (by rw [h27] <;> kernel_rfl)⟩
  ·
   refine rn Qa [4] [] (pc 2 (cb h27 (Zc n.2.2.2.1)) p0) ?_
   exact ⟨rfl, Qd (by rw [h27] <;> kernel_rfl)⟩
  refine Qe ?_
  exact pb [] (Qj h3 (Qj h4 (Qj h6 (Qj h11 (Qj h16 (Qj h21 (Qj h24 (Xh h26 (rfl)))))))))
 refine Qf ?_
 refine tu Qa [] [2, 6, 25, 116] [] [2] (p0) ?_
 refine Qe ?_
 exact pb [] (Qj h3 (Qj h4 (Qj h6 (Qj h11 (Qj h16 (Qj h21 (Qj h24 (Qj h26 (rfl)))))))))
def Kr (at_ : Int) (_ : Nat) (a0 : Qw) (s0 : Int) : Rd (Int) (Int) (Int) := (bif (bif ((a0.1 == (6 : Int)) || (a0.1 == (7 : Int))) then (a0.2.1 == at_) else ((a0.1 == (5 : Int)) && (a0.2.1 == at_))) then (bif (((a0.1 == (6 : Int)) || (a0.1 == (7 : Int))) && (a0.2.2.1 == at_)) then (.next (IntKind.i64.wrap (IntKind.i64.wrap (s0 + 1) + 1))) else (.next (IntKind.i64.wrap (s0 + 1)))) else (bif (((a0.1 == (6 : Int)) || (a0.1 == (7 : Int))) && (a0.2.2.1 == at_)) then (.next (IntKind.i64.wrap (s0 + 1))) else (.next s0)))
def V6 (_ : Nat) (s0 : Int) : Int := s0
def Jm (q : (List Qw)) (at_ : Int) : Int := (Out.on (Yr (Kr at_) V6 q 0 0) (fun y0 => y0))
theorem D6 (q : (List Qw)) (at_ : Int) : ACalls Tryz.prog 103 [.h q, .i at_] (.i (Jm q at_)) := by
 refine en Qa Tryz.func103 fun w0 F0 hG => ?_
 refine sn Qa [0, 1, 4] [] (p0) ?_
 refine tn Qa [0, 1, 4, 5] [] (p0) ?_
 refine Qc ?_
 refine tu Qa [(4, .i 0), (5, .i 0), (6, .i 0)] [] [] [] (p0) ?_
 refine wT 0 0 .sh q (fun hw1 hl2 => ?_)
 refine Rb (Kr at_) V6 q 0 (fun k0 s0 => [(5, .i s0), (6, .i ((k0 : Nat) : Int))]) [5, 6] (fun y0 => [(5, .i y0)]) [0, 1, 5, 6] wf0 (fun k0 s0 hk0 hI0 => ?_) (fun k0 s0 hk0 hI0 => ?_) (fun y0 hD0 => ?_)
 ·
  obtain ⟨a0, hx0⟩ := Yp (l := q) (i := k0) hk0
  refine Qc ?_
  refine sn Qa [0, 1, 4, 5, 6, 11] [] (pl 2 q (pe 3 (Q1 (decide_eq_true (p := ((k0 : Nat) : Int) < (q.length : Int)) (by omega))) p0)) ?_
  refine ckT ?_
  refine Qf ?_
  refine Qc ?_
  refine Qz ?_
  refine Qc ?_
  refine mz [(11, .b true)] [] [] [] ?_
  refine jn [(7, .b ((a0.1 == (6 : Int)) || (a0.1 == (7 : Int))))] [11] [] [] (a0.1 == (6 : Int)) (fun h3 => ?_) (fun h3 => ?_) ?_
  ·
   refine rn Qa [0, 1, 4, 5, 6, 7] [] (pn 2 hx0 (pt 5 h3 p0)) ?_
   exact ⟨rfl, Qd (by rw [h3] <;> kernel_rfl)⟩
  ·
   refine rn Qa [0, 1, 4, 5, 6, 7] [] (pn 2 hx0 (pf 5 h3 (pn 9 hx0 p0))) ?_
   exact ⟨rfl, Qd (by rw [h3] <;> kernel_rfl)⟩
  refine Qc ?_
  refine Qc ?_
  refine jn [(45, .b (bif ((a0.1 == (6 : Int)) || (a0.1 == (7 : Int))) then (a0.2.1 == at_) else ((a0.1 == (5 : Int)) && (a0.2.1 == at_))))] [] [] [] ((a0.1 == (6 : Int)) || (a0.1 == (7 : Int))) (fun h4 => ?_) (fun h4 => ?_) ?_
  ·
   refine rn Qa [0, 1, 4, 5, 6, 7, 45] [] (pt 0 h4 (pn 12 hx0 p0)) ?_
   exact ⟨rfl, Qd (by rw [h4] <;> kernel_rfl)⟩
  ·
   refine Xo (a0.1 == (5 : Int)) (fun h5 => ?_) (fun h5 => ?_)
   ·
    refine rn Qa [0, 1, 4, 5, 6, 7, 45] [] (pf 0 h4 (pn 4 hx0 (pt 7 h5 (pn 12 hx0 p0)))) ?_
    exact ⟨rfl, Qd (by rw [h4, h5] <;> kernel_rfl)⟩
   refine ru Qa [(45, .b false)] [] [] [] (pf 0 h4 (pn 4 hx0 (pf 7 h5 p0))) ?_
   exact ⟨rfl, Qd (by rw [h4, h5] <;> kernel_rfl)⟩
  refine ck (bif ((a0.1 == (6 : Int)) || (a0.1 == (7 : Int))) then (a0.2.1 == at_) else ((a0.1 == (5 : Int)) && (a0.2.1 == at_))) (fun h6 => ?_) (fun h6 => ?_)
  ·
   refine rn Qa [0, 1, 4, 5, 6, 7] [] (p0) ?_
   refine Qc ?_
   refine mz [(5, .i (IntKind.i64.wrap (s0 + 1)))] [5, 45] [] [] ?_
   refine jn [(57, .b (((a0.1 == (6 : Int)) || (a0.1 == (7 : Int))) && (a0.2.2.1 == at_)))] [7] [] [] ((a0.1 == (6 : Int)) || (a0.1 == (7 : Int))) (fun h7 => ?_) (fun h7 => ?_) ?_
   ·
    refine rn Qa [0, 1, 4, 5, 6, 57] [] (pt 0 h7 (pn 4 hx0 p0)) ?_
    exact ⟨rfl, Qd (by rw [h7] <;> kernel_rfl)⟩
   ·
    refine rn Qa [0, 1, 4, 5, 6, 57] [] (pf 0 h7 p0) ?_
    exact ⟨rfl, Qd (by rw [h7] <;> kernel_rfl)⟩
   refine ck (((a0.1 == (6 : Int)) || (a0.1 == (7 : Int))) && (a0.2.2.1 == at_)) (fun h8 => ?_) (fun h8 => ?_)
   ·
    have h8r : ((a0.2.2.1 == at_)) = true := Mp h8
    have h8rd := eq_of_beq h8r
    refine rn Qa [0, 1, 4, 5, 6] [] (p0) ?_
    refine qn Qa [0, 1, 4, 5, 6] [] (pe 1 (Jq (Q4 k0 (by omega))) p0) ?_
    exact xw _ (Xp hx0 (Xh h6 (Xh h8 (rfl))) hI0)
   refine Qf ?_
   refine rn Qa [0, 1, 4, 5, 6] [] (pe 1 (Jq (Q4 k0 (by omega))) p0) ?_
   exact xw _ (Xp hx0 (Xh h6 (Qj h8 (rfl))) hI0)
  refine Qf ?_
  refine Qc ?_
  refine jn [(57, .b (((a0.1 == (6 : Int)) || (a0.1 == (7 : Int))) && (a0.2.2.1 == at_)))] [7, 45] [] [] ((a0.1 == (6 : Int)) || (a0.1 == (7 : Int))) (fun h9 => ?_) (fun h9 => ?_) ?_
  ·
   refine rn Qa [0, 1, 4, 5, 6, 57] [] (pt 0 h9 (pn 4 hx0 p0)) ?_
   exact ⟨rfl, Qd (by rw [h9] <;> kernel_rfl)⟩
  ·
   refine rn Qa [0, 1, 4, 5, 6, 57] [] (pf 0 h9 p0) ?_
   exact ⟨rfl, Qd (by rw [h9] <;> kernel_rfl)⟩
  refine ck (((a0.1 == (6 : Int)) || (a0.1 == (7 : Int))) && (a0.2.2.1 == at_)) (fun h10 => ?_) (fun h10 => ?_)
  ·
   have h10r : ((a0.2.2.1 == at_)) = true := Mp h10
   have h10rd := eq_of_beq h10r
   refine rn Qa [0, 1, 4, 5, 6] [] (p0) ?_
   refine qn Qa [0, 1, 4, 5, 6] [] (pe 1 (Jq (Q4 k0 (by omega))) p0) ?_
   exact xw _ (Xp hx0 (Qj h6 (Xh h10 (rfl))) hI0)
  refine Qf ?_
  refine rn Qa [0, 1, 4, 5, 6] [] (pe 1 (Jq (Q4 k0 (by omega))) p0) ?_
  exact xw _ (Xp hx0 (Qj h6 (Qj h10 (rfl))) hI0)
 ·
  refine Qc ?_
  refine sn Qa [0, 1, 4, 5, 6, 11] [] (pl 2 q (pe 3 (Q1 (decide_eq_false (p := ((k0 : Nat) : Int) < (q.length : Int)) (by omega))) p0)) ?_
  refine ckF ?_
  refine Xu ?_
  exact xw _ (Yq hk0 (rfl) hI0)
 refine sn Qa [4] [] (p0) ?_
 refine Qe ?_
 exact pi [] (V4 hD0 (rfl))
def Ki (q : (List Qw)) (k0 : Nat) (a0 : Qw) (_ : Unit) : Rd (Bool) (Unit) (Unit) := (bif ((!(Ja a0 ((k0 : Nat) : Int))) || (decide (((k0 : Nat) : Int) < ((q.length : Int) - 1)) && ((Jm q ((k0 : Nat) : Int)) != (1 : Int)))) then (.ret false) else (.next ()))
def Vr (_ : Nat) (_ : Unit) : Unit := ()
def Yh (q : (List Qw)) : Bool := (Out.on (Yr (Ki q) Vr q 0 ()) (fun _ => (Xf (q.length : Int) 1 9)))
theorem K0 (q : (List Qw)) : ACalls Tryz.prog 73 [.h q] (.b (Yh q)) := by
 refine en Qa Tryz.func73 fun w0 F0 hG => ?_
 refine sn Qa [0, 2] [] (p0) ?_
 refine Qc ?_
 refine tn Qa [0, 2, 3] [] (p0) ?_
 refine mz [(2, .b false), (3, .i 0)] [] [] [] ?_
 refine wT 0 0 .sh q (fun hw1 hl2 => ?_)
 refine Rb (Ki q) Vr q () (fun k0 _ => [(3, .i ((k0 : Nat) : Int))]) [3] (fun _ => []) [3] wf0 (fun k0 s0 hk0 hI0 => ?_) (fun k0 s0 hk0 hI0 => ?_) (fun y0 hD0 => ?_)
 ·
  obtain ⟨a0, hx0⟩ := Yp (l := q) (i := k0) hk0
  refine Qc ?_
  refine sn Qa [0, 2, 3, 7] [] (pl 2 q (pe 3 (Q1 (decide_eq_true (p := ((k0 : Nat) : Int) < (q.length : Int)) (by omega))) p0)) ?_
  refine ckT ?_
  refine Qf ?_
  refine Qc ?_
  refine Qz ?_
  refine Qc ?_
  refine mz [(7, .b true)] [] [] [] ?_
  refine jn [(29, .b ((!(Ja a0 ((k0 : Nat) : Int))) || (decide (((k0 : Nat) : Int) < ((q.length : Int) - 1)) && ((Jm q ((k0 : Nat) : Int)) != (1 : Int)))))] [7] [] [] (!(Ja a0 ((k0 : Nat) : Int))) (fun h3 => ?_) (fun h3 => ?_) ?_
  ·
   have h3n : (Ja a0 ((k0 : Nat) : Int)) = false := Vp h3
   refine rn Qa [0, 2, 3, 29] [] (pn 2 hx0 (pc 5 (cb h3n (Hx a0 ((k0 : Nat) : Int))) (pe 6 (show .b (!false) = .b true from rfl) p0))) ?_
   exact ⟨rfl, Qd (by rw [h3] <;> kernel_rfl)⟩
  ·
   have h3n : (Ja a0 ((k0 : Nat) : Int)) = true := Z4 h3
   refine Xo (decide (((k0 : Nat) : Int) < ((q.length : Int) - 1))) (fun h4 => ?_) (fun h4 => ?_)
   ·
    have h4d := of_decide_eq_true h4
    refine rn Qa [0, 2, 3, 29] [] (pn 2 hx0 (pc 5 (cb h3n (Hx a0 ((k0 : Nat) : Int))) (pe 6 (show .b (!true) = .b false from rfl) (pl 10 q (pe 11 (Jq (IntWalk.i64_in ((q.length : Int) - 1) (by omega))) (pt 12 h4 (pc 16 (D6 q ((k0 : Nat) : Int)) p0))))))) ?_
    exact ⟨rfl, Qd (by rw [h3, h4] <;> kernel_rfl)⟩
   have h4d := of_decide_eq_false h4
   refine rn Qa [0, 2, 3, 29] [] (pn 2 hx0 (pc 5 (cb h3n (Hx a0 ((k0 : Nat) : Int))) (pe 6 (show .b (!true) = .b false from rfl) (pl 10 q (pe 11 (Jq (IntWalk.i64_in ((q.length : Int) - 1) (by omega))) (pf 12 h4 p0)))))) ?_
   exact ⟨rfl, Qd (by rw [h3, h4] <;> kernel_rfl)⟩
  refine ck ((!(Ja a0 ((k0 : Nat) : Int))) || (decide (((k0 : Nat) : Int) < ((q.length : Int) - 1)) && ((Jm q ((k0 : Nat) : Int)) != (1 : Int)))) (fun h5 => ?_) (fun h5 => ?_)
  ·
   refine sn Qa [0, 2, 3] [] (p0) ?_
   refine Qe ?_
   have hr6 : (Yr (Ki q) Vr q 0 ()) = .ret false := Kb hx0 (Xh h5 (rfl)) hI0
   exact pb [] (Mo hr6)
  refine Qf ?_
  refine rn Qa [0, 2, 3] [] (pe 1 (Jq (Q4 k0 (by omega))) p0) ?_
  exact xw _ (Xp hx0 (Qj h5 (rfl)) hI0)
 ·
  refine Qc ?_
  refine sn Qa [0, 2, 3, 7] [] (pl 2 q (pe 3 (Q1 (decide_eq_false (p := ((k0 : Nat) : Int) < (q.length : Int)) (by omega))) p0)) ?_
  refine ckF ?_
  refine Xu ?_
  exact xw _ (Yq hk0 (rfl) hI0)
 refine sn Qa [2] [] (pl 1 q (pc 2 (Y2 (q.length : Int) 1 9) p0)) ?_
 refine Qe ?_
 exact pb [] (V4 hD0 (rfl))
theorem Ow (a b c : Int) : Q9 a b c = Xf a b c := rfl
theorem Jn {a b c : Int} : Q9 a b c = true ↔ b ≤ a ∧ a ≤ c := by simp [Q9]
theorem Ox {a b c : Int} : Xf a b c = true ↔ b ≤ a ∧ a ≤ c := by simp [Xf]
theorem DO (s : ByteArray) : Qy s = X0 s := rfl
theorem M9 (s : ByteArray) : Qs s = Xb s := by
  unfold Qs Xb Hv
  by_cases h : s.size = 1
  · simp only [h, Int.toNat_natCast, Jg, Vd]
    by_cases h1 : Yt s 0 < 97 <;> by_cases h2 : Yt s 0 > 122 <;> simp [h1, h2, Out.on, Xf, V2] <;> omega
  have h1 : ((s.size : Int) == 1) = false := by simpa using fun e : (s.size : Int) = 1 => h (by omega)
  have h2 : Xf (s.size : Int) 1 1 = false := by simp [Xf]; omega
  rw [h1, h2, Bool.false_and]
  cases hf : Jg (Vd s) V2 (Int.toNat (s.size : Int)) 0 () with
  | brk t => rfl
  | ret r =>
    have key : ∀ n k, ∀ r, Jg (Vd s) V2 n k () = .ret r → r = false := by
      intro n
      induction n with
      | zero => intro k r h; simp [Jg] at h
      | succ n ih =>
        intro k r h
        simp only [Jg, Vd] at h
        cases hc : (decide (Yt s ((k : Nat) : Int) < (97 : Int)) || decide (Yt s ((k : Nat) : Int) > (122 : Int))) with
        | true => rw [hc] at h; simp only [cond_true] at h; cases h; rfl
        | false => rw [hc] at h; exact ih _ _ h
    exact (key _ _ _ hf).symm
theorem DP (v : Z7) : Qt v = Xg v := rfl
theorem LD (n : Qw) (k : Int) : Ym n k = Ja n k := by
  unfold Ym Ja
  rw [M9, DP, DO]
  simp only [Ow]
  by_cases h1 : n.1 = 1
  · simp [h1]
  by_cases h2 : n.1 = 2
  · simp [h1, h2, Bool.and_comm]
  by_cases h3 : n.1 = 3
  · simp [h1, h2, h3]; ac_rfl
  by_cases h4 : n.1 = 4
  · simp [h1, h2, h3, h4]; cases h : (n.2.2.2.2.1 == 1) <;> simp_all <;> ac_rfl
  by_cases h5 : n.1 = 5
  · simp [h1, h2, h3, h4, h5]; ac_rfl
  by_cases h6 : n.1 = 6
  · simp [h1, h2, h3, h4, h5, h6]; ac_rfl
  by_cases h7 : n.1 = 7
  · simp [h1, h2, h3, h4, h5, h6, h7]; ac_rfl
  by_cases h8 : n.1 = 8
  · simp [h1, h2, h3, h4, h5, h6, h7, h8, Bool.and_comm]
  by_cases h9 : n.1 = 9
  · simp [h1, h2, h3, h4, h5, h6, h7, h8, h9, Bool.and_comm]
  simp only [beq_eq_false_iff_ne.2 h1, beq_eq_false_iff_ne.2 h2, beq_eq_false_iff_ne.2 h3, beq_eq_false_iff_ne.2 h4, beq_eq_false_iff_ne.2 h5, beq_eq_false_iff_ne.2 h6, beq_eq_false_iff_ne.2 h7, beq_eq_false_iff_ne.2 h8, beq_eq_false_iff_ne.2 h9, cond_false]
theorem RH (q : List Qw) (k : Int) : Jl q k = Jm q k := by
  unfold Jl Jm
  rw [Er (f := Kq k) (g := Kr k) (e := V5) (e' := V6) (fun i a s => by
    unfold Kq Kr
    cases (a.2.1 == k) <;> cases (a.2.2.1 == k) <;> cases (a.1 == 6) <;> cases (a.1 == 7) <;> cases (a.1 == 5) <;> rfl) (fun _ _ => rfl)]
theorem LE (q : List Qw) : Qk q = Yh q := by
  unfold Qk Yh
  rw [Er (f := Yv q) (g := Ki q) (e := Z5) (e' := Vr) (fun i a s => by
    unfold Yv Ki
    rw [LD, RH]) (fun _ _ => rfl)]
  rfl
theorem Fw {q : List Qw} (h : Yh q = true) : Qk q = true := (LE q).trans h
theorem NP {q : List Qw} (h : Qk q = true) : (∃ t, Yr (Yv q) Z5 q 0 () = .brk t) ∧ Q9 (q.length : Int) 1 9 = true := by
  unfold Qk at h
  cases hf : Yr (Yv q) Z5 q 0 () with
  | brk t => rw [hf] at h; exact ⟨⟨t, rfl⟩, h⟩
  | ret r =>
    rw [hf] at h
    obtain rfl : r = true := h
    exfalso
    have key : ∀ (l : List Qw) k, Yr (Yv q) Z5 l k () ≠ .ret true := by
      intro l
      induction l with
      | nil => intro k h; simp [Yr] at h
      | cons a l ih =>
        intro k h
        simp only [Yr] at h
        unfold Yv at h
        split at h
        · rename_i hf; exact ih _ h
        · cases h
        rename_i r hf; cases h; revert hf; generalize (_ || _ : Bool) = c; cases c <;> simp
    exact key _ _ hf
theorem Df {q : List Qw} (h : Qk q = true) : 1 ≤ q.length ∧ q.length ≤ 9 := by
  have := Jn.1 (NP h).2
  omega
theorem Ty {q : List Qw} (h : Qk q = true) {i : Nat} {n : Qw} (hi : q[i]? = some n) : Ym n (i : Int) = true := by
  obtain ⟨⟨t, ht⟩, _⟩ := NP h
  have := Tt (fun k a t => by unfold Yv; generalize (_ || _ : Bool) = c; cases c <;> simp) ht i n hi
  unfold Yv at this
  rw [Nat.zero_add] at this
  cases hn : Ym n (i : Int) with
  | true => rfl
  | false => rw [hn] at this; simp at this
theorem RI {n : Qw} {k : Int} (h : Ym n k = true) (hk : 0 ≤ k ∧ k < 4611686018427387904) : (n.1 = 5 ∨ n.1 = 6 ∨ n.1 = 7 → 0 ≤ n.2.1 ∧ n.2.1 < k) ∧ (n.1 = 6 ∨ n.1 = 7 → 0 ≤ n.2.2.1 ∧ n.2.2.1 < k) := by
  have hw : IntKind.i64.wrap (k - 1) = k - 1 := IntWalk.i64_in _ (by omega)
  unfold Ym at h
  rw [hw] at h
  refine ⟨fun h5 => ?_, fun h5 => ?_⟩
  · rcases h5 with h5 | h5 | h5 <;> (simp [h5, Q9] at h; omega)
  rcases h5 with h5 | h5 <;> (simp [h5, Q9] at h; omega)
theorem D7 {q : List Qw} (h : Qk q = true) {k : Int} (ha : 0 ≤ k) (hb : k < (q.length : Int)) :
    ((nth q (Int.toNat k)).1 = 5 ∨ (nth q (Int.toNat k)).1 = 6 ∨ (nth q (Int.toNat k)).1 = 7 → 0 ≤ (nth q (Int.toNat k)).2.1 ∧ (nth q (Int.toNat k)).2.1 < k) ∧ ((nth q (Int.toNat k)).1 = 6 ∨ (nth q (Int.toNat k)).1 = 7 → 0 ≤ (nth q (Int.toNat k)).2.2.1 ∧ (nth q (Int.toNat k)).2.2.1 < k) := by
  have hi : q[Int.toNat k]? = some (nth q (Int.toNat k)) := Fu (by omega)
  have := Ty h hi
  rw [Int.toNat_of_nonneg ha] at this
  exact RI this ⟨ha, by have := (Df h).2; omega⟩
section
variable {q : List Qw} {k : Int} (h : Qk q = true) (ha : 0 ≤ k) (hb : k < (q.length : Int))
include h ha hb
theorem BB (h5 : ((nth q (Int.toNat k)).1 == (5 : Int)) = true) : 0 ≤ (nth q (Int.toNat k)).2.1 ∧ (nth q (Int.toNat k)).2.1 < k := (D7 h ha hb).1 (.inl (eq_of_beq h5))
theorem BC (h5 : ((nth q (Int.toNat k)).1 == (6 : Int)) = true) : 0 ≤ (nth q (Int.toNat k)).2.1 ∧ (nth q (Int.toNat k)).2.1 < k := (D7 h ha hb).1 (.inr (.inl (eq_of_beq h5)))
theorem DQ (h5 : ((nth q (Int.toNat k)).1 == (7 : Int)) = true) : 0 ≤ (nth q (Int.toNat k)).2.1 ∧ (nth q (Int.toNat k)).2.1 < k := (D7 h ha hb).1 (.inr (.inr (eq_of_beq h5)))
theorem BD (h5 : ((nth q (Int.toNat k)).1 == (6 : Int)) = true) : 0 ≤ (nth q (Int.toNat k)).2.2.1 ∧ (nth q (Int.toNat k)).2.2.1 < k := (D7 h ha hb).2 (.inl (eq_of_beq h5))
theorem DR (h5 : ((nth q (Int.toNat k)).1 == (7 : Int)) = true) : 0 ≤ (nth q (Int.toNat k)).2.2.1 ∧ (nth q (Int.toNat k)).2.2.1 < k := (D7 h ha hb).2 (.inr (eq_of_beq h5))
theorem NQ (h5 : (((nth q (Int.toNat k)).1 == (6 : Int)) || ((nth q (Int.toNat k)).1 == (7 : Int))) = true) : (0 ≤ (nth q (Int.toNat k)).2.1 ∧ (nth q (Int.toNat k)).2.1 < k) ∧ (0 ≤ (nth q (Int.toNat k)).2.2.1 ∧ (nth q (Int.toNat k)).2.2.1 < k) := by
  have h6 : (nth q (Int.toNat k)).1 = 6 ∨ (nth q (Int.toNat k)).1 = 7 := by simpa using h5
  exact ⟨(D7 h ha hb).1 (.inr h6), (D7 h ha hb).2 h6⟩
end
open GoE (enc wide)
def Zt (q : (List Qw)) (k0 : Nat) (s0 : (List Bool)) : Rd ((List Bool)) ((List Bool)) ((List Bool)) := (bif ((nth q (Int.toNat (dn ((q.length : Int) - 1) k0))).1 == (5 : Int)) then (.next (List.set s0 (Int.toNat ((nth q (Int.toNat (dn ((q.length : Int) - 1) k0))).2.1)) ((nth s0 (Int.toNat (dn ((q.length : Int) - 1) k0))) || ((nth q (Int.toNat (dn ((q.length : Int) - 1) k0))).1 == (5 : Int))))) else (bif ((nth q (Int.toNat (dn ((q.length : Int) - 1) k0))).1 == (6 : Int)) then (.next (List.set (List.set s0 (Int.toNat ((nth q (Int.toNat (dn ((q.length : Int) - 1) k0))).2.1)) ((nth s0 (Int.toNat (dn ((q.length : Int) - 1) k0))) || ((nth q (Int.toNat (dn ((q.length : Int) - 1) k0))).1 == (5 : Int)))) (Int.toNat ((nth q (Int.toNat (dn ((q.length : Int) - 1) k0))).2.2.1)) ((nth s0 (Int.toNat (dn ((q.length : Int) - 1) k0))) || ((nth q (Int.toNat (dn ((q.length : Int) - 1) k0))).1 == (5 : Int))))) else (bif ((nth q (Int.toNat (dn ((q.length : Int) - 1) k0))).1 == (7 : Int)) then (.next (List.set (List.set s0 (Int.toNat ((nth q (Int.toNat (dn ((q.length : Int) - 1) k0))).2.1)) ((nth s0 (Int.toNat (dn ((q.length : Int) - 1) k0))) || ((nth q (Int.toNat (dn ((q.length : Int) - 1) k0))).1 == (5 : Int)))) (Int.toNat ((nth q (Int.toNat (dn ((q.length : Int) - 1) k0))).2.2.1)) ((nth s0 (Int.toNat (dn ((q.length : Int) - 1) k0))) || ((nth q (Int.toNat (dn ((q.length : Int) - 1) k0))).1 == (5 : Int))))) else (.next s0))))
def Vs (_ : Nat) (s0 : (List Bool)) : (List Bool) := s0
def Ye (q : (List Qw)) : (List Bool) := (bif (!(Qk q)) then [] else (Out.on (Jg (Zt q) Vs (List.length q) 0 (List.replicate (Int.toNat (q.length : Int)) false)) (fun y0 => y0)))
theorem G0 (q : (List Qw)) : ACalls Tryz.prog 190 [.h q] (.o 0 (Ye q)) := by
 refine en Qa Tryz.func190 fun w0 F0 hG => ?_
 refine sn Qa [0, 2] [] (p0) ?_
 refine Qc ?_
 refine tn Qa [0, 2, 8] [] (pc 1 (Kz q) p0) ?_
 refine ck (!(Qk q)) (fun h1 => ?_) (fun h1 => ?_)
 ·
  refine tu Qa [(2, .e 0)] [] [] [] (p0) ?_
  refine opn [(false, 2, 0, true, 384000, 1)] ?_
  refine Qe ?_
  exact po0 [] (Xh h1 (rfl))
 have h1n : (Qk q) = true := Z4 h1
 refine Qf ?_
 refine wT 0 0 .sh q (fun hw2 hl3 => ?_)
 refine tu Qa [(2, .e 0), (3, .one (.slc (.own true 704) 1 (List.replicate (Int.toNat (q.length : Int)) [.b false])))] [] [] [] (pl 1 q (px (Af (lo := 0) (hi := (q.length : Int)) (n := 1073741824) (⟨by omega, by omega, by omega⟩)) p0)) ?_
 refine eqn [(3, .o 704 (List.replicate (Int.toNat (q.length : Int)) false))] [3] [] [] (by rw [show (List.replicate (Int.toNat (q.length : Int)) [.b false]) = (eL (List.replicate (Int.toNat (q.length : Int)) false)) from IX _ false]; first | done | kernel_rfl) ?_
 refine Qc ?_
 refine sn Qa [0, 2, 3, 4] [] (pl 1 q (pe 2 (Jq (IntWalk.i64_in ((q.length : Int) - 1) (by omega))) p0)) ?_
 refine mz [(4, .i ((q.length : Int) - 1))] [] [] [] ?_
 refine RD (Zt q) Vs (List.length q) (List.replicate (Int.toNat (q.length : Int)) false) (fun k0 s0 => [(3, .o 704 s0), (4, .i (dn ((q.length : Int) - 1) k0))]) [3, 4] (fun y0 => [(3, .o 704 y0)]) [0, 3, 4] (fun _ s0 => List.length s0 = (Int.toNat (q.length : Int))) (fun y0 => List.length y0 = (Int.toNat (q.length : Int))) wf0 (by simp) (fun k0 s0 hk0 hI0 => ?_) (fun k0 s0 hk0 hI0 => ?_) (fun y0 hD0 => ?_)
 ·
  have hA0_0 := hI0.2
  have hdn0 := AD ((q.length : Int) - 1) k0
  refine Qc ?_
  refine sn Qa [0, 2, 3, 4, 16] [] (pe 1 (Q1 (decide_eq_true (p := (dn ((q.length : Int) - 1) k0) ≥ (0 : Int)) (by omega))) p0) ?_
  refine ckT ?_
  refine Qf ?_
  refine Qc ?_
  refine Qz ?_
  refine Qc ?_
  refine mz [(16, .b true)] [] [] [] ?_
  refine jn [(5, .b ((nth s0 (Int.toNat (dn ((q.length : Int) - 1) k0))) || ((nth q (Int.toNat (dn ((q.length : Int) - 1) k0))).1 == (5 : Int))))] [16] [] [] (nth s0 (Int.toNat (dn ((q.length : Int) - 1) k0))) (fun h4 => ?_) (fun h4 => ?_) ?_
  ·
   refine wT 3 0 (.own true 704) s0 (fun hw6 hl7 => ?_)
   have hx5 := ng s0 (Int.toNat (dn ((q.length : Int) - 1) k0))
   refine rn Qa [0, 2, 3, 4, 5] [] (pG 2 (dn ((q.length : Int) - 1) k0) hx5 (pt 3 h4 p0)) ?_
   exact ⟨rfl, Qd (by rw [h4] <;> kernel_rfl)⟩
  ·
   refine wT 3 0 (.own true 704) s0 (fun hw9 hl10 => ?_)
   have hx8 := ng s0 (Int.toNat (dn ((q.length : Int) - 1) k0))
   have hx11 := ng q (Int.toNat (dn ((q.length : Int) - 1) k0))
   refine rn Qa [0, 2, 3, 4, 5] [] (pG 2 (dn ((q.length : Int) - 1) k0) hx8 (pf 3 h4 (pg 7 (dn ((q.length : Int) - 1) k0) hx11 p0))) ?_
   exact ⟨rfl, Qd (by rw [h4] <;> kernel_rfl)⟩
  have hx12 := ng q (Int.toNat (dn ((q.length : Int) - 1) k0))
  refine sn Qa [0, 2, 3, 4, 5, 35] [] (pg 2 (dn ((q.length : Int) - 1) k0) hx12 p0) ?_
  refine Qz ?_
  refine tn Qa [0, 2, 3, 4, 5, 35, 36] [] (p0) ?_
  refine ck ((nth q (Int.toNat (dn ((q.length : Int) - 1) k0))).1 == (5 : Int)) (fun h13 => ?_) (fun h13 => ?_)
  ·
   have h13k := BB h1n (by omega) (by omega) h13
   have h13d := eq_of_beq h13
   refine wT 3 0 (.own true 704) s0 (fun hw15 hl16 => ?_)
   have hx14 := ng s0 (Int.toNat ((nth q (Int.toNat (dn ((q.length : Int) - 1) k0))).2.1))
   refine qu Qa [(3, .one (.slc (.own true 704) 1 (setRow (eL s0) (Int.toNat ((nth q (Int.toNat (dn ((q.length : Int) - 1) k0))).2.1)) 0 [.b ((nth s0 (Int.toNat (dn ((q.length : Int) - 1) k0))) || ((nth q (Int.toNat (dn ((q.length : Int) - 1) k0))).1 == (5 : Int)))])))] [3, 5] [] [] (pg 3 (dn ((q.length : Int) - 1) k0) hx12 (pG 7 ((nth q (Int.toNat (dn ((q.length : Int) - 1) k0))).2.1) hx14 p0)) ?_
   refine eqn [(3, .o 704 (List.set s0 (Int.toNat ((nth q (Int.toNat (dn ((q.length : Int) - 1) k0))).2.1)) ((nth s0 (Int.toNat (dn ((q.length : Int) - 1) k0))) || ((nth q (Int.toNat (dn ((q.length : Int) - 1) k0))).1 == (5 : Int)))))] [3] [] [] (by rw [Jr (y := ((nth s0 (Int.toNat (dn ((q.length : Int) - 1) k0))) || ((nth q (Int.toNat (dn ((q.length : Int) - 1) k0))).1 == (5 : Int)))) hx14 rfl] <;> kernel_rfl) ?_
   refine rn Qa [0, 2, 3, 4] [] (pe 1 (show .i (IntKind.i64.wrap ((dn ((q.length : Int) - 1) k0) - 1)) = .i (dn ((q.length : Int) - 1) (k0 + 1)) from Jq (show IntKind.i64.wrap ((dn ((q.length : Int) - 1) k0) - 1) = (dn ((q.length : Int) - 1) (k0 + 1)) from IntWalk.i64_in ((dn ((q.length : Int) - 1) k0) - 1) (by omega))) p0) ?_
   exact xw (List.set s0 (Int.toNat ((nth q (Int.toNat (dn ((q.length : Int) - 1) k0))).2.1)) ((nth s0 (Int.toNat (dn ((q.length : Int) - 1) k0))) || ((nth q (Int.toNat (dn ((q.length : Int) - 1) k0))).1 == (5 : Int)))) ⟨Zp hk0 (Xh h13 (rfl)) hI0.1, (by first | omega | (simp only [List.length_set]; omega))⟩
  have h13d := Yg h13
  refine Qc ?_
  refine tu Qa [(35, .i ((nth q (Int.toNat (dn ((q.length : Int) - 1) k0))).1)), (46, .b ((nth q (Int.toNat (dn ((q.length : Int) - 1) k0))).1 == (6 : Int)))] [] [] [] (p0) ?_
  refine ck ((nth q (Int.toNat (dn ((q.length : Int) - 1) k0))).1 == (6 : Int)) (fun h17 => ?_) (fun h17 => ?_)
  ·
   have h17k := BC h1n (by omega) (by omega) h17; have h17m := BD h1n (by omega) (by omega) h17
   have h17d := eq_of_beq h17
   refine Qf ?_
   refine ckt h17 ?_
   refine wT 3 0 (.own true 704) s0 (fun hw19 hl20 => ?_)
   have hx18 := ng s0 (Int.toNat ((nth q (Int.toNat (dn ((q.length : Int) - 1) k0))).2.1))
   have hx21 : (List.set s0 (Int.toNat ((nth q (Int.toNat (dn ((q.length : Int) - 1) k0))).2.1)) ((nth s0 (Int.toNat (dn ((q.length : Int) - 1) k0))) || ((nth q (Int.toNat (dn ((q.length : Int) - 1) k0))).1 == (5 : Int))))[(Int.toNat ((nth q (Int.toNat (dn ((q.length : Int) - 1) k0))).2.2.1))]? = some (nth (List.set s0 (Int.toNat ((nth q (Int.toNat (dn ((q.length : Int) - 1) k0))).2.1)) ((nth s0 (Int.toNat (dn ((q.length : Int) - 1) k0))) || ((nth q (Int.toNat (dn ((q.length : Int) - 1) k0))).1 == (5 : Int)))) (Int.toNat ((nth q (Int.toNat (dn ((q.length : Int) - 1) k0))).2.2.1))) := Fu (by first | omega | (simp only [List.length_set]; omega))
   refine rU Qa Yz [(3, .one (.slc (.own true 704) 1 (setRow (setRow (eL s0) (Int.toNat ((nth q (Int.toNat (dn ((q.length : Int) - 1) k0))).2.1)) 0 [.b ((nth s0 (Int.toNat (dn ((q.length : Int) - 1) k0))) || ((nth q (Int.toNat (dn ((q.length : Int) - 1) k0))).1 == (5 : Int)))]) (Int.toNat ((nth q (Int.toNat (dn ((q.length : Int) - 1) k0))).2.2.1)) 0 [.b ((nth s0 (Int.toNat (dn ((q.length : Int) - 1) k0))) || ((nth q (Int.toNat (dn ((q.length : Int) - 1) k0))).1 == (5 : Int)))])))] [3, 5, 35, 46] [] [] (pg 3 (dn ((q.length : Int) - 1) k0) hx12 (pg 9 (dn ((q.length : Int) - 1) k0) hx12 (pG 14 ((nth q (Int.toNat (dn ((q.length : Int) - 1) k0))).2.1) hx18 (pR 16 (l := (setRow (eL s0) (Int.toNat ((nth q (Int.toNat (dn ((q.length : Int) - 1) k0))).2.1)) 0 [.b ((nth s0 (Int.toNat (dn ((q.length : Int) - 1) k0))) || ((nth q (Int.toNat (dn ((q.length : Int) - 1) k0))).1 == (5 : Int)))])) (j := ((nth q (Int.toNat (dn ((q.length : Int) - 1) k0))).2.2.1)) (r := [.b (nth (List.set s0 (Int.toNat ((nth q (Int.toNat (dn ((q.length : Int) - 1) k0))).2.1)) ((nth s0 (Int.toNat (dn ((q.length : Int) - 1) k0))) || ((nth q (Int.toNat (dn ((q.length : Int) - 1) k0))).1 == (5 : Int)))) (Int.toNat ((nth q (Int.toNat (dn ((q.length : Int) - 1) k0))).2.2.1)))]) (by rw [Jr (y := ((nth s0 (Int.toNat (dn ((q.length : Int) - 1) k0))) || ((nth q (Int.toNat (dn ((q.length : Int) - 1) k0))).1 == (5 : Int)))) hx18 rfl]; exact AE (by omega) rfl hx21) p0)))) ?_
   refine eqn [(3, .o 704 (List.set (List.set s0 (Int.toNat ((nth q (Int.toNat (dn ((q.length : Int) - 1) k0))).2.1)) ((nth s0 (Int.toNat (dn ((q.length : Int) - 1) k0))) || ((nth q (Int.toNat (dn ((q.length : Int) - 1) k0))).1 == (5 : Int)))) (Int.toNat ((nth q (Int.toNat (dn ((q.length : Int) - 1) k0))).2.2.1)) ((nth s0 (Int.toNat (dn ((q.length : Int) - 1) k0))) || ((nth q (Int.toNat (dn ((q.length : Int) - 1) k0))).1 == (5 : Int)))))] [3] [] [] (by rw [Jr (y := ((nth s0 (Int.toNat (dn ((q.length : Int) - 1) k0))) || ((nth q (Int.toNat (dn ((q.length : Int) - 1) k0))).1 == (5 : Int)))) hx18 rfl, Jr (y := ((nth s0 (Int.toNat (dn ((q.length : Int) - 1) k0))) || ((nth q (Int.toNat (dn ((q.length : Int) - 1) k0))).1 == (5 : Int)))) hx21 rfl] <;> kernel_rfl) ?_
   refine rn Qa [0, 2, 3, 4] [] (pe 1 (show .i (IntKind.i64.wrap ((dn ((q.length : Int) - 1) k0) - 1)) = .i (dn ((q.length : Int) - 1) (k0 + 1)) from Jq (show IntKind.i64.wrap ((dn ((q.length : Int) - 1) k0) - 1) = (dn ((q.length : Int) - 1) (k0 + 1)) from IntWalk.i64_in ((dn ((q.length : Int) - 1) k0) - 1) (by omega))) p0) ?_
   exact xw (List.set (List.set s0 (Int.toNat ((nth q (Int.toNat (dn ((q.length : Int) - 1) k0))).2.1)) ((nth s0 (Int.toNat (dn ((q.length : Int) - 1) k0))) || ((nth q (Int.toNat (dn ((q.length : Int) - 1) k0))).1 == (5 : Int)))) (Int.toNat ((nth q (Int.toNat (dn ((q.length : Int) - 1) k0))).2.2.1)) ((nth s0 (Int.toNat (dn ((q.length : Int) - 1) k0))) || ((nth q (Int.toNat (dn ((q.length : Int) - 1) k0))).1 == (5 : Int)))) ⟨Zp hk0 (Qj h13 (Xh h17 (rfl))) hI0.1, (by first | omega | (simp only [List.length_set]; omega))⟩
  have h17d := Yg h17
  refine rn Qa [0, 2, 3, 4, 5, 46] [] (p0) ?_
  refine ck ((nth q (Int.toNat (dn ((q.length : Int) - 1) k0))).1 == (7 : Int)) (fun h22 => ?_) (fun h22 => ?_)
  ·
   have h22k := DQ h1n (by omega) (by omega) h22; have h22m := DR h1n (by omega) (by omega) h22
   have h22d := eq_of_beq h22
   refine wT 3 0 (.own true 704) s0 (fun hw24 hl25 => ?_)
   have hx23 := ng s0 (Int.toNat ((nth q (Int.toNat (dn ((q.length : Int) - 1) k0))).2.1))
   have hx26 : (List.set s0 (Int.toNat ((nth q (Int.toNat (dn ((q.length : Int) - 1) k0))).2.1)) ((nth s0 (Int.toNat (dn ((q.length : Int) - 1) k0))) || ((nth q (Int.toNat (dn ((q.length : Int) - 1) k0))).1 == (5 : Int))))[(Int.toNat ((nth q (Int.toNat (dn ((q.length : Int) - 1) k0))).2.2.1))]? = some (nth (List.set s0 (Int.toNat ((nth q (Int.toNat (dn ((q.length : Int) - 1) k0))).2.1)) ((nth s0 (Int.toNat (dn ((q.length : Int) - 1) k0))) || ((nth q (Int.toNat (dn ((q.length : Int) - 1) k0))).1 == (5 : Int)))) (Int.toNat ((nth q (Int.toNat (dn ((q.length : Int) - 1) k0))).2.2.1))) := Fu (by first | omega | (simp only [List.length_set]; omega))
   refine qU Qa Yz [(3, .one (.slc (.own true 704) 1 (setRow (setRow (eL s0) (Int.toNat ((nth q (Int.toNat (dn ((q.length : Int) - 1) k0))).2.1)) 0 [.b ((nth s0 (Int.toNat (dn ((q.length : Int) - 1) k0))) || ((nth q (Int.toNat (dn ((q.length : Int) - 1) k0))).1 == (5 : Int)))]) (Int.toNat ((nth q (Int.toNat (dn ((q.length : Int) - 1) k0))).2.2.1)) 0 [.b ((nth s0 (Int.toNat (dn ((q.length : Int) - 1) k0))) || ((nth q (Int.toNat (dn ((q.length : Int) - 1) k0))).1 == (5 : Int)))])))] [3, 5, 35, 46] [] [] (pg 3 (dn ((q.length : Int) - 1) k0) hx12 (pg 9 (dn ((q.length : Int) - 1) k0) hx12 (pG 14 ((nth q (Int.toNat (dn ((q.length : Int) - 1) k0))).2.1) hx23 (pR 16 (l := (setRow (eL s0) (Int.toNat ((nth q (Int.toNat (dn ((q.length : Int) - 1) k0))).2.1)) 0 [.b ((nth s0 (Int.toNat (dn ((q.length : Int) - 1) k0))) || ((nth q (Int.toNat (dn ((q.length : Int) - 1) k0))).1 == (5 : Int)))])) (j := ((nth q (Int.toNat (dn ((q.length : Int) - 1) k0))).2.2.1)) (r := [.b (nth (List.set s0 (Int.toNat ((nth q (Int.toNat (dn ((q.length : Int) - 1) k0))).2.1)) ((nth s0 (Int.toNat (dn ((q.length : Int) - 1) k0))) || ((nth q (Int.toNat (dn ((q.length : Int) - 1) k0))).1 == (5 : Int)))) (Int.toNat ((nth q (Int.toNat (dn ((q.length : Int) - 1) k0))).2.2.1)))]) (by rw [Jr (y := ((nth s0 (Int.toNat (dn ((q.length : Int) - 1) k0))) || ((nth q (Int.toNat (dn ((q.length : Int) - 1) k0))).1 == (5 : Int)))) hx23 rfl]; exact AE (by omega) rfl hx26) p0)))) ?_
   refine eqn [(3, .o 704 (List.set (List.set s0 (Int.toNat ((nth q (Int.toNat (dn ((q.length : Int) - 1) k0))).2.1)) ((nth s0 (Int.toNat (dn ((q.length : Int) - 1) k0))) || ((nth q (Int.toNat (dn ((q.length : Int) - 1) k0))).1 == (5 : Int)))) (Int.toNat ((nth q (Int.toNat (dn ((q.length : Int) - 1) k0))).2.2.1)) ((nth s0 (Int.toNat (dn ((q.length : Int) - 1) k0))) || ((nth q (Int.toNat (dn ((q.length : Int) - 1) k0))).1 == (5 : Int)))))] [3] [] [] (by rw [Jr (y := ((nth s0 (Int.toNat (dn ((q.length : Int) - 1) k0))) || ((nth q (Int.toNat (dn ((q.length : Int) - 1) k0))).1 == (5 : Int)))) hx23 rfl, Jr (y := ((nth s0 (Int.toNat (dn ((q.length : Int) - 1) k0))) || ((nth q (Int.toNat (dn ((q.length : Int) - 1) k0))).1 == (5 : Int)))) hx26 rfl] <;> kernel_rfl) ?_
   refine rn Qa [0, 2, 3, 4] [] (pe 1 (show .i (IntKind.i64.wrap ((dn ((q.length : Int) - 1) k0) - 1)) = .i (dn ((q.length : Int) - 1) (k0 + 1)) from Jq (show IntKind.i64.wrap ((dn ((q.length : Int) - 1) k0) - 1) = (dn ((q.length : Int) - 1) (k0 + 1)) from IntWalk.i64_in ((dn ((q.length : Int) - 1) k0) - 1) (by omega))) p0) ?_
   exact xw (List.set (List.set s0 (Int.toNat ((nth q (Int.toNat (dn ((q.length : Int) - 1) k0))).2.1)) ((nth s0 (Int.toNat (dn ((q.length : Int) - 1) k0))) || ((nth q (Int.toNat (dn ((q.length : Int) - 1) k0))).1 == (5 : Int)))) (Int.toNat ((nth q (Int.toNat (dn ((q.length : Int) - 1) k0))).2.2.1)) ((nth s0 (Int.toNat (dn ((q.length : Int) - 1) k0))) || ((nth q (Int.toNat (dn ((q.length : Int) - 1) k0))).1 == (5 : Int)))) ⟨Zp hk0 (Qj h13 (Qj h17 (Xh h22 (rfl)))) hI0.1, (by first | omega | (simp only [List.length_set]; omega))⟩
  have h22d := Yg h22
  refine Qf ?_
  refine qn Qa [0, 2, 3, 4] [] (pe 1 (show .i (IntKind.i64.wrap ((dn ((q.length : Int) - 1) k0) - 1)) = .i (dn ((q.length : Int) - 1) (k0 + 1)) from Jq (show IntKind.i64.wrap ((dn ((q.length : Int) - 1) k0) - 1) = (dn ((q.length : Int) - 1) (k0 + 1)) from IntWalk.i64_in ((dn ((q.length : Int) - 1) k0) - 1) (by omega))) p0) ?_
  exact xw s0 ⟨Zp hk0 (Qj h13 (Qj h17 (Qj h22 (rfl)))) hI0.1, (by first | omega | (simp only [List.length_set]; omega))⟩
 ·
  have hA0_0 := hI0.2
  have hdn0 := AD ((q.length : Int) - 1) k0
  refine Qc ?_
  refine sn Qa [0, 2, 3, 4, 16] [] (pe 1 (Q1 (decide_eq_false (p := (dn ((q.length : Int) - 1) k0) ≥ (0 : Int)) (by omega))) p0) ?_
  refine ckF ?_
  refine Xu ?_
  exact xw s0 ⟨W6 hk0 (rfl) hI0.1, by first | omega | (simp only [List.length_set]; omega)⟩
 have hD0_0 := hD0.2
 refine sn Qa [2] [] (p0) ?_
 refine Qe ?_
 exact po0 [] (Qj h1 (V4 hD0.1 (rfl)))
def Kj (q : (List Qw)) (k0 : Nat) (s0 : (List Bool)) : Rd ((List Bool)) ((List Bool)) ((List Bool)) := (bif ((nth q (Int.toNat (dn ((q.length : Int) - 1) k0))).1 == (5 : Int)) then (bif (((nth q (Int.toNat (dn ((q.length : Int) - 1) k0))).1 == (6 : Int)) || ((nth q (Int.toNat (dn ((q.length : Int) - 1) k0))).1 == (7 : Int))) then (.next (List.set (List.set (List.set s0 (Int.toNat ((nth q (Int.toNat (dn ((q.length : Int) - 1) k0))).2.1)) true) (Int.toNat ((nth q (Int.toNat (dn ((q.length : Int) - 1) k0))).2.1)) (nth (List.set s0 (Int.toNat ((nth q (Int.toNat (dn ((q.length : Int) - 1) k0))).2.1)) true) (Int.toNat (dn ((q.length : Int) - 1) k0)))) (Int.toNat ((nth q (Int.toNat (dn ((q.length : Int) - 1) k0))).2.2.1)) (nth (List.set (List.set s0 (Int.toNat ((nth q (Int.toNat (dn ((q.length : Int) - 1) k0))).2.1)) true) (Int.toNat ((nth q (Int.toNat (dn ((q.length : Int) - 1) k0))).2.1)) (nth (List.set s0 (Int.toNat ((nth q (Int.toNat (dn ((q.length : Int) - 1) k0))).2.1)) true) (Int.toNat (dn ((q.length : Int) - 1) k0)))) (Int.toNat (dn ((q.length : Int) - 1) k0))))) else (.next (List.set s0 (Int.toNat ((nth q (Int.toNat (dn ((q.length : Int) - 1) k0))).2.1)) true))) else (bif (((nth q (Int.toNat (dn ((q.length : Int) - 1) k0))).1 == (6 : Int)) || ((nth q (Int.toNat (dn ((q.length : Int) - 1) k0))).1 == (7 : Int))) then (.next (List.set (List.set s0 (Int.toNat ((nth q (Int.toNat (dn ((q.length : Int) - 1) k0))).2.1)) (nth s0 (Int.toNat (dn ((q.length : Int) - 1) k0)))) (Int.toNat ((nth q (Int.toNat (dn ((q.length : Int) - 1) k0))).2.2.1)) (nth (List.set s0 (Int.toNat ((nth q (Int.toNat (dn ((q.length : Int) - 1) k0))).2.1)) (nth s0 (Int.toNat (dn ((q.length : Int) - 1) k0)))) (Int.toNat (dn ((q.length : Int) - 1) k0))))) else (.next s0)))
def Ut (_ : Nat) (s0 : (List Bool)) : (List Bool) := s0
def Y4 (q : (List Qw)) : (List Bool) := (bif (!(Yh q)) then [] else (Out.on (Jg (Kj q) Ut (List.length q) 0 (List.replicate (Int.toNat (q.length : Int)) false)) (fun y0 => y0)))
theorem G1 (q : (List Qw)) : ACalls Tryz.prog 174 [.h q] (.o 0 (Y4 q)) := by
 refine en Qa Tryz.func174 fun w0 F0 hG => ?_
 refine sn Qa [0, 2] [] (p0) ?_
 refine Qc ?_
 refine tn Qa [0, 2, 9] [] (pc 1 (K0 q) p0) ?_
 refine ck (!(Yh q)) (fun h1 => ?_) (fun h1 => ?_)
 ·
  refine tu Qa [(2, .one (.slc (.own true 640) 1 []))] [] [] [] (p0) ?_
  refine Qe ?_
  exact po0 [] (Xh h1 (rfl))
 have h1n : (Yh q) = true := Z4 h1
 refine Qf ?_
 refine wT 0 0 .sh q (fun hw2 hl3 => ?_)
 refine tu Qa [(2, .e 0), (3, .one (.slc (.own true 832) 1 (List.replicate (Int.toNat (q.length : Int)) [.b false])))] [] [] [] (pl 1 q (px (Af (lo := 0) (hi := (q.length : Int)) (n := 1073741824) (⟨by omega, by omega, by omega⟩)) p0)) ?_
 refine eqn [(3, .o 832 (List.replicate (Int.toNat (q.length : Int)) false))] [3] [] [] (by rw [show (List.replicate (Int.toNat (q.length : Int)) [.b false]) = (eL (List.replicate (Int.toNat (q.length : Int)) false)) from IX _ false]; first | done | kernel_rfl) ?_
 refine Qc ?_
 refine sn Qa [0, 2, 3, 4] [] (pl 1 q (pe 2 (Jq (IntWalk.i64_in ((q.length : Int) - 1) (by omega))) p0)) ?_
 refine mz [(4, .i ((q.length : Int) - 1))] [] [] [] ?_
 refine RD (Kj q) Ut (List.length q) (List.replicate (Int.toNat (q.length : Int)) false) (fun k0 s0 => [(3, .o 832 s0), (4, .i (dn ((q.length : Int) - 1) k0))]) [3, 4] (fun y0 => [(3, .o 832 y0)]) [0, 3, 4] (fun _ s0 => List.length s0 = (Int.toNat (q.length : Int))) (fun y0 => List.length y0 = (Int.toNat (q.length : Int))) wf0 (by simp) (fun k0 s0 hk0 hI0 => ?_) (fun k0 s0 hk0 hI0 => ?_) (fun y0 hD0 => ?_)
 ·
  have hA0_0 := hI0.2
  have hdn0 := AD ((q.length : Int) - 1) k0
  refine Qc ?_
  refine sn Qa [0, 2, 3, 4, 18] [] (pe 1 (Q1 (decide_eq_true (p := (dn ((q.length : Int) - 1) k0) ≥ (0 : Int)) (by omega))) p0) ?_
  refine ckT ?_
  refine Qf ?_
  refine Qc ?_
  refine Qz ?_
  have hx4 := ng q (Int.toNat (dn ((q.length : Int) - 1) k0))
  refine tn Qa [0, 2, 3, 4, 5] [5] (pg 2 (dn ((q.length : Int) - 1) k0) hx4 p0) ?_
  refine Qc ?_
  refine mz [(5, .p 5 0)] [] [(5, [.i ((nth q (Int.toNat (dn ((q.length : Int) - 1) k0))).1), .i ((nth q (Int.toNat (dn ((q.length : Int) - 1) k0))).2.1), .i ((nth q (Int.toNat (dn ((q.length : Int) - 1) k0))).2.2.1), .s ((nth q (Int.toNat (dn ((q.length : Int) - 1) k0))).2.2.2.1), .i ((nth q (Int.toNat (dn ((q.length : Int) - 1) k0))).2.2.2.2.1), .i ((nth q (Int.toNat (dn ((q.length : Int) - 1) k0))).2.2.2.2.2.1), .s ((nth q (Int.toNat (dn ((q.length : Int) - 1) k0))).2.2.2.2.2.2)])] [] ?_
  refine jn [(6, .b (((nth q (Int.toNat (dn ((q.length : Int) - 1) k0))).1 == (6 : Int)) || ((nth q (Int.toNat (dn ((q.length : Int) - 1) k0))).1 == (7 : Int))))] [] [] [] ((nth q (Int.toNat (dn ((q.length : Int) - 1) k0))).1 == (6 : Int)) (fun h5 => ?_) (fun h5 => ?_) ?_
  ·
   have h5k := BC (Fw h1n) (by omega) (by omega) h5; have h5m := BD (Fw h1n) (by omega) (by omega) h5
   refine rn Qa [0, 2, 3, 4, 5, 6] [5] (pt 2 h5 p0) ?_
   exact ⟨rfl, Qd (by rw [h5] <;> kernel_rfl)⟩
  ·
   refine rn Qa [0, 2, 3, 4, 5, 6] [5] (pf 2 h5 p0) ?_
   exact ⟨rfl, Qd (by rw [h5] <;> kernel_rfl)⟩
  refine Qc ?_
  refine sn Qa [0, 2, 3, 4, 5, 6, 35] [5] (p0) ?_
  refine ck ((nth q (Int.toNat (dn ((q.length : Int) - 1) k0))).1 == (5 : Int)) (fun h6 => ?_) (fun h6 => ?_)
  ·
   have h6k := BB (Fw h1n) (by omega) (by omega) h6
   have h6d := eq_of_beq h6
   refine wT 3 0 (.own true 832) s0 (fun hw8 hl9 => ?_)
   have hx7 := ng s0 (Int.toNat ((nth q (Int.toNat (dn ((q.length : Int) - 1) k0))).2.1))
   refine qu Qa [(3, .one (.slc (.own true 832) 1 (setRow (eL s0) (Int.toNat ((nth q (Int.toNat (dn ((q.length : Int) - 1) k0))).2.1)) 0 [.b true])))] [3] [] [] (pG 3 ((nth q (Int.toNat (dn ((q.length : Int) - 1) k0))).2.1) hx7 p0) ?_
   refine eqn [(3, .o 832 (List.set s0 (Int.toNat ((nth q (Int.toNat (dn ((q.length : Int) - 1) k0))).2.1)) true))] [3] [] [] (by rw [Jr (y := true) hx7 rfl] <;> kernel_rfl) ?_
   refine sn Qa [0, 2, 3, 4, 5, 40] [5] (p0) ?_
   refine ck (((nth q (Int.toNat (dn ((q.length : Int) - 1) k0))).1 == (6 : Int)) || ((nth q (Int.toNat (dn ((q.length : Int) - 1) k0))).1 == (7 : Int))) (fun h10 => ?_) (fun h10 => ?_)
   ·
    have h10k := NQ (Fw h1n) (by omega) (by omega) h10
    refine wT 3 0 (.own true 832) (List.set s0 (Int.toNat ((nth q (Int.toNat (dn ((q.length : Int) - 1) k0))).2.1)) true) (fun hw12 hl13 => ?_)
    have hx11 := ng (List.set s0 (Int.toNat ((nth q (Int.toNat (dn ((q.length : Int) - 1) k0))).2.1)) true) (Int.toNat (dn ((q.length : Int) - 1) k0)) (by first | omega | (simp only [List.length_set]; omega))
    have hx14 := ng (List.set s0 (Int.toNat ((nth q (Int.toNat (dn ((q.length : Int) - 1) k0))).2.1)) true) (Int.toNat ((nth q (Int.toNat (dn ((q.length : Int) - 1) k0))).2.1)) (by first | omega | (simp only [List.length_set]; omega))
    refine tU Qa Yz [(3, .one (.slc (.own true 832) 1 (setRow (eL (List.set s0 (Int.toNat ((nth q (Int.toNat (dn ((q.length : Int) - 1) k0))).2.1)) true)) (Int.toNat ((nth q (Int.toNat (dn ((q.length : Int) - 1) k0))).2.1)) 0 [.b (nth (List.set s0 (Int.toNat ((nth q (Int.toNat (dn ((q.length : Int) - 1) k0))).2.1)) true) (Int.toNat (dn ((q.length : Int) - 1) k0)))])))] [3, 6] [] [] (pG 5 (dn ((q.length : Int) - 1) k0) hx11 (pG 7 ((nth q (Int.toNat (dn ((q.length : Int) - 1) k0))).2.1) hx14 p0)) ?_
    refine eqn [(3, .o 832 (List.set (List.set s0 (Int.toNat ((nth q (Int.toNat (dn ((q.length : Int) - 1) k0))).2.1)) true) (Int.toNat ((nth q (Int.toNat (dn ((q.length : Int) - 1) k0))).2.1)) (nth (List.set s0 (Int.toNat ((nth q (Int.toNat (dn ((q.length : Int) - 1) k0))).2.1)) true) (Int.toNat (dn ((q.length : Int) - 1) k0)))))] [3] [] [] (by rw [Jr (y := (nth (List.set s0 (Int.toNat ((nth q (Int.toNat (dn ((q.length : Int) - 1) k0))).2.1)) true) (Int.toNat (dn ((q.length : Int) - 1) k0)))) hx14 rfl] <;> kernel_rfl) ?_
    refine wT 3 0 (.own true 832) (List.set (List.set s0 (Int.toNat ((nth q (Int.toNat (dn ((q.length : Int) - 1) k0))).2.1)) true) (Int.toNat ((nth q (Int.toNat (dn ((q.length : Int) - 1) k0))).2.1)) (nth (List.set s0 (Int.toNat ((nth q (Int.toNat (dn ((q.length : Int) - 1) k0))).2.1)) true) (Int.toNat (dn ((q.length : Int) - 1) k0)))) (fun hw16 hl17 => ?_)
    have hx15 := ng (List.set (List.set s0 (Int.toNat ((nth q (Int.toNat (dn ((q.length : Int) - 1) k0))).2.1)) true) (Int.toNat ((nth q (Int.toNat (dn ((q.length : Int) - 1) k0))).2.1)) (nth (List.set s0 (Int.toNat ((nth q (Int.toNat (dn ((q.length : Int) - 1) k0))).2.1)) true) (Int.toNat (dn ((q.length : Int) - 1) k0)))) (Int.toNat (dn ((q.length : Int) - 1) k0)) (by first | omega | (simp only [List.length_set]; omega))
    have hx18 := ng (List.set (List.set s0 (Int.toNat ((nth q (Int.toNat (dn ((q.length : Int) - 1) k0))).2.1)) true) (Int.toNat ((nth q (Int.toNat (dn ((q.length : Int) - 1) k0))).2.1)) (nth (List.set s0 (Int.toNat ((nth q (Int.toNat (dn ((q.length : Int) - 1) k0))).2.1)) true) (Int.toNat (dn ((q.length : Int) - 1) k0)))) (Int.toNat ((nth q (Int.toNat (dn ((q.length : Int) - 1) k0))).2.2.1)) (by first | omega | (simp only [List.length_set]; omega))
    refine rU Qa Yz [(3, .one (.slc (.own true 832) 1 (setRow (eL (List.set (List.set s0 (Int.toNat ((nth q (Int.toNat (dn ((q.length : Int) - 1) k0))).2.1)) true) (Int.toNat ((nth q (Int.toNat (dn ((q.length : Int) - 1) k0))).2.1)) (nth (List.set s0 (Int.toNat ((nth q (Int.toNat (dn ((q.length : Int) - 1) k0))).2.1)) true) (Int.toNat (dn ((q.length : Int) - 1) k0))))) (Int.toNat ((nth q (Int.toNat (dn ((q.length : Int) - 1) k0))).2.2.1)) 0 [.b (nth (List.set (List.set s0 (Int.toNat ((nth q (Int.toNat (dn ((q.length : Int) - 1) k0))).2.1)) true) (Int.toNat ((nth q (Int.toNat (dn ((q.length : Int) - 1) k0))).2.1)) (nth (List.set s0 (Int.toNat ((nth q (Int.toNat (dn ((q.length : Int) - 1) k0))).2.1)) true) (Int.toNat (dn ((q.length : Int) - 1) k0)))) (Int.toNat (dn ((q.length : Int) - 1) k0)))])))] [3, 5] [] [5] (pG 5 (dn ((q.length : Int) - 1) k0) hx15 (pG 7 ((nth q (Int.toNat (dn ((q.length : Int) - 1) k0))).2.2.1) hx18 p0)) ?_
    refine eqn [(3, .o 832 (List.set (List.set (List.set s0 (Int.toNat ((nth q (Int.toNat (dn ((q.length : Int) - 1) k0))).2.1)) true) (Int.toNat ((nth q (Int.toNat (dn ((q.length : Int) - 1) k0))).2.1)) (nth (List.set s0 (Int.toNat ((nth q (Int.toNat (dn ((q.length : Int) - 1) k0))).2.1)) true) (Int.toNat (dn ((q.length : Int) - 1) k0)))) (Int.toNat ((nth q (Int.toNat (dn ((q.length : Int) - 1) k0))).2.2.1)) (nth (List.set (List.set s0 (Int.toNat ((nth q (Int.toNat (dn ((q.length : Int) - 1) k0))).2.1)) true) (Int.toNat ((nth q (Int.toNat (dn ((q.length : Int) - 1) k0))).2.1)) (nth (List.set s0 (Int.toNat ((nth q (Int.toNat (dn ((q.length : Int) - 1) k0))).2.1)) true) (Int.toNat (dn ((q.length : Int) - 1) k0)))) (Int.toNat (dn ((q.length : Int) - 1) k0)))))] [3] [] [] (by rw [Jr (y := (nth (List.set (List.set s0 (Int.toNat ((nth q (Int.toNat (dn ((q.length : Int) - 1) k0))).2.1)) true) (Int.toNat ((nth q (Int.toNat (dn ((q.length : Int) - 1) k0))).2.1)) (nth (List.set s0 (Int.toNat ((nth q (Int.toNat (dn ((q.length : Int) - 1) k0))).2.1)) true) (Int.toNat (dn ((q.length : Int) - 1) k0)))) (Int.toNat (dn ((q.length : Int) - 1) k0)))) hx18 rfl] <;> kernel_rfl) ?_
    refine rn Qa [0, 2, 3, 4] [] (pe 1 (show .i (IntKind.i64.wrap ((dn ((q.length : Int) - 1) k0) - 1)) = .i (dn ((q.length : Int) - 1) (k0 + 1)) from Jq (show IntKind.i64.wrap ((dn ((q.length : Int) - 1) k0) - 1) = (dn ((q.length : Int) - 1) (k0 + 1)) from IntWalk.i64_in ((dn ((q.length : Int) - 1) k0) - 1) (by omega))) p0) ?_
    exact xw (List.set (List.set (List.set s0 (Int.toNat ((nth q (Int.toNat (dn ((q.length : Int) - 1) k0))).2.1)) true) (Int.toNat ((nth q (Int.toNat (dn ((q.length : Int) - 1) k0))).2.1)) (nth (List.set s0 (Int.toNat ((nth q (Int.toNat (dn ((q.length : Int) - 1) k0))).2.1)) true) (Int.toNat (dn ((q.length : Int) - 1) k0)))) (Int.toNat ((nth q (Int.toNat (dn ((q.length : Int) - 1) k0))).2.2.1)) (nth (List.set (List.set s0 (Int.toNat ((nth q (Int.toNat (dn ((q.length : Int) - 1) k0))).2.1)) true) (Int.toNat ((nth q (Int.toNat (dn ((q.length : Int) - 1) k0))).2.1)) (nth (List.set s0 (Int.toNat ((nth q (Int.toNat (dn ((q.length : Int) - 1) k0))).2.1)) true) (Int.toNat (dn ((q.length : Int) - 1) k0)))) (Int.toNat (dn ((q.length : Int) - 1) k0)))) ⟨Zp hk0 (Xh h6 (Xh h10 (rfl))) hI0.1, (by first | omega | (simp only [List.length_set]; omega))⟩
   have h10l : (((nth q (Int.toNat (dn ((q.length : Int) - 1) k0))).1 == (6 : Int))) = false := KN h10
   have h10ld := Yg h10l
   have h10r : (((nth q (Int.toNat (dn ((q.length : Int) - 1) k0))).1 == (7 : Int))) = false := KO h10
   have h10rd := Yg h10r
   refine Qf ?_
   refine qn Qa [0, 2, 3, 4] [] (pe 1 (show .i (IntKind.i64.wrap ((dn ((q.length : Int) - 1) k0) - 1)) = .i (dn ((q.length : Int) - 1) (k0 + 1)) from Jq (show IntKind.i64.wrap ((dn ((q.length : Int) - 1) k0) - 1) = (dn ((q.length : Int) - 1) (k0 + 1)) from IntWalk.i64_in ((dn ((q.length : Int) - 1) k0) - 1) (by omega))) p0) ?_
   exact xw (List.set s0 (Int.toNat ((nth q (Int.toNat (dn ((q.length : Int) - 1) k0))).2.1)) true) ⟨Zp hk0 (Xh h6 (Qj h10 (rfl))) hI0.1, (by first | omega | (simp only [List.length_set]; omega))⟩
  have h6d := Yg h6
  refine Qf ?_
  refine tn Qa [0, 2, 3, 4, 5, 40] [5] (p0) ?_
  refine ck (((nth q (Int.toNat (dn ((q.length : Int) - 1) k0))).1 == (6 : Int)) || ((nth q (Int.toNat (dn ((q.length : Int) - 1) k0))).1 == (7 : Int))) (fun h19 => ?_) (fun h19 => ?_)
  ·
   have h19k := NQ (Fw h1n) (by omega) (by omega) h19
   refine wT 3 0 (.own true 832) s0 (fun hw21 hl22 => ?_)
   have hx20 := ng s0 (Int.toNat (dn ((q.length : Int) - 1) k0))
   have hx23 := ng s0 (Int.toNat ((nth q (Int.toNat (dn ((q.length : Int) - 1) k0))).2.1))
   refine tU Qa Yz [(3, .one (.slc (.own true 832) 1 (setRow (eL s0) (Int.toNat ((nth q (Int.toNat (dn ((q.length : Int) - 1) k0))).2.1)) 0 [.b (nth s0 (Int.toNat (dn ((q.length : Int) - 1) k0)))])))] [3, 6] [] [] (pG 5 (dn ((q.length : Int) - 1) k0) hx20 (pG 7 ((nth q (Int.toNat (dn ((q.length : Int) - 1) k0))).2.1) hx23 p0)) ?_
   refine eqn [(3, .o 832 (List.set s0 (Int.toNat ((nth q (Int.toNat (dn ((q.length : Int) - 1) k0))).2.1)) (nth s0 (Int.toNat (dn ((q.length : Int) - 1) k0)))))] [3] [] [] (by rw [Jr (y := (nth s0 (Int.toNat (dn ((q.length : Int) - 1) k0)))) hx23 rfl] <;> kernel_rfl) ?_
   refine wT 3 0 (.own true 832) (List.set s0 (Int.toNat ((nth q (Int.toNat (dn ((q.length : Int) - 1) k0))).2.1)) (nth s0 (Int.toNat (dn ((q.length : Int) - 1) k0)))) (fun hw25 hl26 => ?_)
   have hx24 := ng (List.set s0 (Int.toNat ((nth q (Int.toNat (dn ((q.length : Int) - 1) k0))).2.1)) (nth s0 (Int.toNat (dn ((q.length : Int) - 1) k0)))) (Int.toNat (dn ((q.length : Int) - 1) k0)) (by first | omega | (simp only [List.length_set]; omega))
   have hx27 := ng (List.set s0 (Int.toNat ((nth q (Int.toNat (dn ((q.length : Int) - 1) k0))).2.1)) (nth s0 (Int.toNat (dn ((q.length : Int) - 1) k0)))) (Int.toNat ((nth q (Int.toNat (dn ((q.length : Int) - 1) k0))).2.2.1)) (by first | omega | (simp only [List.length_set]; omega))
   refine rU Qa Yz [(3, .one (.slc (.own true 832) 1 (setRow (eL (List.set s0 (Int.toNat ((nth q (Int.toNat (dn ((q.length : Int) - 1) k0))).2.1)) (nth s0 (Int.toNat (dn ((q.length : Int) - 1) k0))))) (Int.toNat ((nth q (Int.toNat (dn ((q.length : Int) - 1) k0))).2.2.1)) 0 [.b (nth (List.set s0 (Int.toNat ((nth q (Int.toNat (dn ((q.length : Int) - 1) k0))).2.1)) (nth s0 (Int.toNat (dn ((q.length : Int) - 1) k0)))) (Int.toNat (dn ((q.length : Int) - 1) k0)))])))] [3, 5] [] [5] (pG 5 (dn ((q.length : Int) - 1) k0) hx24 (pG 7 ((nth q (Int.toNat (dn ((q.length : Int) - 1) k0))).2.2.1) hx27 p0)) ?_
   refine eqn [(3, .o 832 (List.set (List.set s0 (Int.toNat ((nth q (Int.toNat (dn ((q.length : Int) - 1) k0))).2.1)) (nth s0 (Int.toNat (dn ((q.length : Int) - 1) k0)))) (Int.toNat ((nth q (Int.toNat (dn ((q.length : Int) - 1) k0))).2.2.1)) (nth (List.set s0 (Int.toNat ((nth q (Int.toNat (dn ((q.length : Int) - 1) k0))).2.1)) (nth s0 (Int.toNat (dn ((q.length : Int) - 1) k0)))) (Int.toNat (dn ((q.length : Int) - 1) k0)))))] [3] [] [] (by rw [Jr (y := (nth (List.set s0 (Int.toNat ((nth q (Int.toNat (dn ((q.length : Int) - 1) k0))).2.1)) (nth s0 (Int.toNat (dn ((q.length : Int) - 1) k0)))) (Int.toNat (dn ((q.length : Int) - 1) k0)))) hx27 rfl] <;> kernel_rfl) ?_
   refine rn Qa [0, 2, 3, 4] [] (pe 1 (show .i (IntKind.i64.wrap ((dn ((q.length : Int) - 1) k0) - 1)) = .i (dn ((q.length : Int) - 1) (k0 + 1)) from Jq (show IntKind.i64.wrap ((dn ((q.length : Int) - 1) k0) - 1) = (dn ((q.length : Int) - 1) (k0 + 1)) from IntWalk.i64_in ((dn ((q.length : Int) - 1) k0) - 1) (by omega))) p0) ?_
   exact xw (List.set (List.set s0 (Int.toNat ((nth q (Int.toNat (dn ((q.length : Int) - 1) k0))).2.1)) (nth s0 (Int.toNat (dn ((q.length : Int) - 1) k0)))) (Int.toNat ((nth q (Int.toNat (dn ((q.length : Int) - 1) k0))).2.2.1)) (nth (List.set s0 (Int.toNat ((nth q (Int.toNat (dn ((q.length : Int) - 1) k0))).2.1)) (nth s0 (Int.toNat (dn ((q.length : Int) - 1) k0)))) (Int.toNat (dn ((q.length : Int) - 1) k0)))) ⟨Zp hk0 (Qj h6 (Xh h19 (rfl))) hI0.1, (by first | omega | (simp only [List.length_set]; omega))⟩
  have h19l : (((nth q (Int.toNat (dn ((q.length : Int) - 1) k0))).1 == (6 : Int))) = false := KN h19
  have h19ld := Yg h19l
  have h19r : (((nth q (Int.toNat (dn ((q.length : Int) - 1) k0))).1 == (7 : Int))) = false := KO h19
  have h19rd := Yg h19r
  refine Qf ?_
  refine qu Qa [(4, .i (dn ((q.length : Int) - 1) (k0 + 1)))] [4, 5, 6] [] [5] (pe 1 (show .i (IntKind.i64.wrap ((dn ((q.length : Int) - 1) k0) - 1)) = .i (dn ((q.length : Int) - 1) (k0 + 1)) from Jq (show IntKind.i64.wrap ((dn ((q.length : Int) - 1) k0) - 1) = (dn ((q.length : Int) - 1) (k0 + 1)) from IntWalk.i64_in ((dn ((q.length : Int) - 1) k0) - 1) (by omega))) p0) ?_
  exact xw s0 ⟨Zp hk0 (Qj h6 (Qj h19 (rfl))) hI0.1, (by first | omega | (simp only [List.length_set]; omega))⟩
 ·
  have hA0_0 := hI0.2
  have hdn0 := AD ((q.length : Int) - 1) k0
  refine Qc ?_
  refine sn Qa [0, 2, 3, 4, 18] [] (pe 1 (Q1 (decide_eq_false (p := (dn ((q.length : Int) - 1) k0) ≥ (0 : Int)) (by omega))) p0) ?_
  refine ckF ?_
  refine Xu ?_
  exact xw s0 ⟨W6 hk0 (rfl) hI0.1, by first | omega | (simp only [List.length_set]; omega)⟩
 have hD0_0 := hD0.2
 refine sn Qa [2] [] (p0) ?_
 refine Qe ?_
 exact po0 [] (Qj h1 (V4 hD0.1 (rfl)))
theorem Sg {α : Type} [Inhabited α] {l : List α} {i j : Nat} (x : α) (h : j ≠ i) : nth (l.set j x) i = nth l i := by
  simp [nth, List.getD, List.getElem?_set_ne h]
theorem DS {q : List Qw} (hv : Qk q = true) {k : Nat} (hk : k < q.length) (s : List Bool) : Zt q k s = Kj q k s := by
  have hdn := AD ((q.length : Int) - 1) k
  obtain ⟨hl, hr⟩ := D7 hv (k := dn ((q.length : Int) - 1) k) (by omega) (by omega)
  unfold Zt Kj
  generalize hi : dn ((q.length : Int) - 1) k = i at hl hr ⊢
  generalize nth q (Int.toNat i) = n at hl hr ⊢
  by_cases h5 : n.1 = 5
  · simp [h5]
  by_cases h6 : n.1 = 6
  · have := hl (.inr (.inl h6))
    simp [h6]
    rw [Sg _ (by omega)]
  by_cases h7 : n.1 = 7
  · have := hl (.inr (.inr h7))
    simp [h7]
    rw [Sg _ (by omega)]
  simp only [beq_eq_false_iff_ne.2 h5, beq_eq_false_iff_ne.2 h6, beq_eq_false_iff_ne.2 h7, Bool.or_false, cond_false]
theorem Si (q : List Qw) : Y4 q = Ye q := by
  unfold Y4 Ye
  rw [← LE]
  cases hv : Qk q with
  | false => rfl
  | true =>
    simp only [Bool.not_true, cond_false]
    rw [Se (f := Kj q) (g := Zt q) (e := Ut) (e' := Vs) (fun _ _ => rfl) _ _ _ fun i s _ hi => (DS hv (by omega) s).symm]
theorem YE (q : List Qw) (k : Nat) (s : List Bool) : ∃ s', Zt q k s = .next s' ∧ s'.length = s.length := by
  unfold Zt
  generalize ((nth q (Int.toNat (dn ((q.length : Int) - 1) k))).1 == (5 : Int)) = a
  generalize ((nth q (Int.toNat (dn ((q.length : Int) - 1) k))).1 == (6 : Int)) = b
  generalize ((nth q (Int.toNat (dn ((q.length : Int) - 1) k))).1 == (7 : Int)) = c
  cases a <;> cases b <;> cases c <;> exact ⟨_, rfl, by simp⟩
theorem Md (q : List Qw) : ∀ (n k : Nat) (s : List Bool), ∃ s', Jg (Zt q) Vs n k s = .brk s' ∧ s'.length = s.length
  | 0, k, s => ⟨s, rfl, rfl⟩
  | n + 1, k, s => by
    obtain ⟨s1, h1, h2⟩ := YE q k s
    obtain ⟨s2, h3, h4⟩ := Md q n (k + 1) s1
    refine ⟨s2, ?_, h4.trans h2⟩
    simp only [Jg, h1]
    exact h3
theorem Fx (q : List Qw) : List.length (Ye q) ≤ List.length q := by
  unfold Ye
  cases Qk q with
  | false => exact Nat.zero_le _
  | true =>
    obtain ⟨s, h1, h2⟩ := Md q (List.length q) 0 (List.replicate (Int.toNat (q.length : Int)) false)
    simp only [Bool.not_true, cond_false, h1, Out.on]
    rw [h2]
    simp
theorem YF (q : List Qw) : List.length (Y4 q) ≤ List.length q := by rw [Si]; exact Fx q
end
section
open Go.RowKit Go.Sort
open GoE (enc)
structure OneC (α σ : Type) [GoE α] where
  tu : α → σ
  of : σ → α
  cell : σ → Value
  pv : α → PV
  ok : α → Prop
  of_tu : ∀ a, of (tu a) = a
  tu_of : ∀ s, tu (of s) = s
  enc_eq : ∀ a, enc a = [pv a]
  flat : ∀ a, (pv a).flat
  vv : ∀ (X : Nat → Prop) (w : World) v a, VV X w v (pv a) ↔ v = cell (tu a) ∧ ok a
def oneS : OneC ByteArray (List UInt8) where
  tu b := b.data.toList
  of s := ⟨s.toArray⟩
  cell := encStr
  pv := .str
  ok b := b.size ≤ maxLen
  of_tu b := by cases b; simp
  tu_of s := by simp
  enc_eq _ := rfl
  flat _ := trivial
  vv X w v a := by
    have e : encStr a.data.toList = .string a := by cases a; simp [encStr]
    rw [e]
    exact ⟨fun h => by cases h with | str h => exact ⟨rfl, h⟩, fun ⟨h1, h2⟩ => by subst h1; exact .str h2⟩
section
variable {α σ : Type} [GoE α] (C : OneC α σ)
theorem DT {X : Nat → Prop} {w : World} : ∀ {l : List α} {cs : List Value}, VR X w 1 cs (eL l) → cs = (l.map C.tu).map C.cell ∧ ∀ a, a ∈ l → C.ok a
  | [], cs, h => by
    generalize hr : eL ([] : List α) = r at h
    cases h with
    | nil => exact ⟨rfl, fun a ha => by simp at ha⟩
    | cons => cases hr
  | a :: l, cs, h => by
    generalize hr : eL (a :: l) = r at h
    cases h with
    | nil => cases hr
    | cons h1 h2 h3 =>
      rw [Oi, C.enc_eq] at hr
      obtain ⟨rfl, rfl⟩ : [C.pv a] = _ ∧ eL l = _ := by simpa using hr
      obtain ⟨e, hok⟩ := DT h3
      cases h1 with
      | cons h4 h5 =>
        cases h5
        obtain ⟨rfl, ha⟩ := (C.vv X w _ a).1 h4
        exact ⟨by rw [e]; rfl, fun b hb => (List.mem_cons.1 hb).elim (fun e => e ▸ ha) (hok b)⟩
theorem DU {X : Nat → Prop} {w : World} : ∀ {l : List α}, (∀ a, a ∈ l → C.ok a) → VR X w 1 ((l.map C.tu).map C.cell) (eL l)
  | [], _ => .nil 1
  | a :: l, h => by
    rw [Oi, C.enc_eq]
    exact VR.cons (ce := [C.cell (C.tu a)]) (.cons ((C.vv X w _ a).2 ⟨rfl, h a List.mem_cons_self⟩) .nil) rfl (DU fun b hb => h b (List.mem_cons_of_mem _ hb))
theorem RJ (l : List α) : (eL l).flatten = l.map C.pv := by
  induction l with
  | nil => rfl
  | cons a l ih => rw [Oi, C.enc_eq, List.flatten_cons, ih]; rfl
theorem Qbp (l : List α) : eL l = (l.map C.pv).map fun c => [c] := by
  simp [eL, C.enc_eq, Function.comp_def]
theorem WX (e : σ → Value) [Inhabited σ] (d : Array σ) (cur : Array Value) (h : d.size ≤ cur.size) : (Go.Sort.putCells e 0 d cur).toList = d.toList.map e ++ cur.toList.drop d.size := by
  apply List.ext_getElem?
  intro j
  unfold Go.Sort.putCells
  rw [Array.getElem?_toList, Array.getElem?_mapIdx]
  by_cases hj : j < d.size
  · rw [List.getElem?_append_left (by simpa using hj), Array.getElem?_eq_getElem (by omega : j < cur.size), List.getElem?_map, Array.getElem?_toList, Array.getElem?_eq_getElem hj]
    simp only [Option.map_some]
    rw [if_pos ⟨Nat.zero_le _, by omega⟩, Nat.sub_zero, getElem!_pos d j hj]
  rw [List.getElem?_append_right (by simpa using Nat.le_of_not_lt hj), List.getElem?_drop]
  have e1 : d.size + (j - (d.toList.map e).length) = j := by simp; omega
  rw [e1, Array.getElem?_toList]
  cases cur[j]? with
  | none => rfl
  | some x => simp; omega
theorem Fy {e : σ → Value} [Inhabited σ] {w : World} {g : Nat} {cur : Array Value} {ty : TypeId} (hg : w.heap[g]? = some (.cells cur ty (0, 0))) (q : Nat) (d : Array σ) (os : Array Obj) :
    (grow (putRow e (Sort.ahead w q) g 0 d) os).heap[g]? = some (.cells (Go.Sort.putCells e 0 d cur) ty (0, 0)) := by
  have hlt : g < w.heap.size := Q0 hg
  unfold grow putRow mapBlock Sort.ahead
  simp only [Array.getElem?_append, Array.size_modify]
  rw [if_pos hlt, Array.getElem?_modify, if_pos rfl, hg]
  rfl
theorem Me {e : σ → Value} [Inhabited σ] (w : World) (g q : Nat) (d : Array σ) (os : Array Obj) : (∀ b, b < w.heap.size → b ≠ g → (grow (putRow e (Sort.ahead w q) g 0 d) os).heap[b]? = w.heap[b]?) ∧ ∀ m, m ≤ g → m ≤ w.heap.size → Below m w (grow (putRow e (Sort.ahead w q) g 0 d) os) := by
  have h : ∀ b, b < w.heap.size → b ≠ g → (grow (putRow e (Sort.ahead w q) g 0 d) os).heap[b]? = w.heap[b]? := fun b hb hn => by
    unfold grow putRow mapBlock Sort.ahead
    simp only [Array.getElem?_append, Array.size_modify]
    rw [if_pos hb, Array.getElem?_modify, if_neg (fun e => hn e.symm)]
  refine ⟨h, fun m hm hs => ⟨rfl, rfl, rfl, ?_, fun b hb => h b (by omega) (by omega)⟩⟩
  unfold grow putRow mapBlock Sort.ahead
  simp
theorem WY {e : σ → Value} [Inhabited σ] {g : Nat} {w : World} {cur : Array Value} {ty : TypeId} {l : List σ} (hg : w.heap[g]? = some (.cells cur ty (0, 0))) (ht : cur.toList.take l.length = l.map e) : Holds e w g 0 l.toArray := by
  intro j hj
  have hjl : j < l.length := by simpa using hj
  have hc : cur[j]? = some (e l[j]) := by
    have h5 : (cur.toList.take l.length)[j]? = (l.map e)[j]? := by rw [ht]
    rw [List.getElem?_take, if_pos hjl, List.getElem?_map, List.getElem?_eq_getElem hjl, Array.getElem?_toList] at h5
    exact h5
  refine ⟨?_, ?_⟩
  · rw [Nat.zero_add]
    simp [World.cell?, hg, hc, getElem!_pos, hjl]
  simp [World.frozen?, hg]
variable {P : Program} [Inhabited σ]
theorem DV (F : Nat → Prop) (L : List Nat) (w : World) (oa : Option Addr) : Qb2 F L w 1 true [] (.returned (.tuple #[])) w :=
  ⟨_, rfl, fun m _ _ => Below.refl _ _, fun _ _ _ => rfl, rfl, fun v2 l2 h => by simpa [Nq] using h⟩
theorem AK {f : Nat} (hok : Br P f) (srt : List σ → List σ) (hlen : ∀ l, (srt l).length = l.length) (hmem : ∀ l x, x ∈ srt l → x ∈ l)
    (h0 : ∀ oa cap w, Calls P f #[.slice oa 0 cap] w fun e w' => e = .returned (.tuple #[]) ∧ w' = w)
    (h1 : ∀ g cap (l : List σ) w, Holds C.cell w g 0 l.toArray → g < w.heap.size → l.length < 4611686018427387904 → Calls P f #[.slice (some ⟨g, 0, none⟩) l.length cap] w fun e w' => e = .returned (.tuple #[]) ∧ ∃ n os, w' = grow (putRow C.cell (Sort.ahead w n) g 0 (srt l).toArray) os)
    (l : List α) : ATake P f 1 (eL l) [] false true (eL ((srt (l.map C.tu)).map C.of)) := by
  refine ⟨hok, fun w F G L v vals _ hFG _ hGs _ hLG hrow hargs => ?_⟩
  cases hargs
  rcases hrow with ⟨hl, oa, rfl⟩ | ⟨g, cap, cur, ty, rfl, rfl, hg, hs, hr, h5, h6⟩
  · obtain rfl : l = [] := by simpa [eL] using hl
    have hs0 : srt [] = [] := List.eq_nil_of_length_eq_zero (by rw [hlen]; rfl)
    refine (h0 oa 0 w).mono ?_
    rintro e w' ⟨rfl, rfl⟩
    rw [List.map_nil, hs0]
    exact DV F L w' oa
  have hll : (eL l).length = l.length := by simp [eL]
  rw [hll] at hr h5 h6 ⊢
  rw [Nat.mul_one] at hr hs
  obtain ⟨hcs, hok'⟩ := DT C hr
  have hH : Holds C.cell w g 0 (l.map C.tu).toArray := WY hg (by rw [List.length_map]; exact hcs)
  have hc := h1 g cap (l.map C.tu) w hH (Q0 hg) (by rw [List.length_map]; have := h6.2; omega)
  rw [List.length_map] at hc
  refine hc.mono ?_
  rintro e w' ⟨rfl, n, os, rfl⟩
  have hother := Me (e := C.cell) w g n (srt (l.map C.tu)).toArray os
  have hgl := Q0 hg
  refine ⟨_, rfl, fun m hm hL => hother.2 m (hL g (by simp)) hm, fun b hb hn => hother.1 b hb (by simpa using hn), rfl, fun v2 l2 h2 => ?_⟩
  rcases h2 with ⟨rfl, oa, rfl⟩ | ⟨g2, cap2, cur2, ty2, hL2, rfl, hg2, hs2, hr2, h7, h8⟩
  · exact .inl ⟨by simp [Nq], oa, rfl⟩
  obtain rfl : g = g2 := by simpa using hL2
  rw [hg] at hg2
  cases hg2
  rw [RJ C, Nq]
  have hd : (srt (l.map C.tu)).toArray.size ≤ cur.size := by simp only [List.size_toArray, hlen, List.length_map]; omega
  have hlen2 : (List.map (fun c => [c]) (List.take l2.length (List.map C.pv (List.map C.of (srt (l.map C.tu))))) ++ List.drop (List.map C.pv (List.map C.of (srt (l.map C.tu)))).length l2).length = l2.length := by
    simp only [List.length_append, List.length_map, List.length_take, List.length_drop]
    omega
  refine .inr ⟨g, cap2, _, ty, rfl, by rw [hlen2], Fy hg n _ os, ?_, ?_, by rw [hlen2]; exact h7, by rw [hlen2]; exact h8⟩
  · simp [Go.Sort.putCells, hs2]
  rw [hlen2, Nat.mul_one, WX C.cell _ cur hd, List.take_append]
  rw [Nat.mul_one] at hr2
  refine VR.append ?_ ?_
  · have hk : VR F (grow (putRow C.cell (Sort.ahead w n) g 0 (srt (l.map C.tu)).toArray) os) 1 (cur.toList.take l2.length) l2 := by
      refine hr2.keep fun b hb => ⟨hb, hother.1 b (hGs b (hFG b hb)) fun e => (hLG g (by simp)).2 (hFG g (e ▸ hb))⟩
    have := VR.drop (srt (l.map C.tu)).length hk
    rw [Nat.mul_one, List.drop_take] at this
    simpa using this
  have hm : ∀ a, a ∈ (srt (l.map C.tu)).map C.of → C.ok a := fun a ha => by
    obtain ⟨x, hx, rfl⟩ := List.mem_map.1 ha
    obtain ⟨b, hb, rfl⟩ := List.mem_map.1 (hmem _ _ hx)
    rw [C.of_tu]; exact hok' b hb
  have := VR.take l2.length (DU C (X := F) (w := grow (putRow C.cell (Sort.ahead w n) g 0 (srt (l.map C.tu)).toArray) os) hm)
  rw [Nat.mul_one, Qbp C] at this
  simpa [List.map_take, Function.comp_def, C.tu_of] using this
theorem AL {f : Nat} (hok : Br P f) (cmp : List σ → List σ) (hlen : ∀ l, (cmp l).length ≤ l.length) (hmem : ∀ l x, x ∈ cmp l → x ∈ l)
    (h0 : ∀ oa cap w, Calls P f #[.slice oa 0 cap] w fun e w' => e = .returned (.slice oa 0 cap) ∧ w' = w)
    (h1 : ∀ g cap (l : List σ) w, Holds C.cell w g 0 l.toArray → l.length ≤ 9223372036854775807 → l.length ≤ cap → Calls P f #[.slice (some ⟨g, 0, none⟩) l.length cap] w fun e w' => e = .returned (.slice (some ⟨g, 0, none⟩) (cmp l).length cap) ∧ ∃ q pad, (cmp l ++ pad).length = l.length ∧ w' = putRow C.cell (Sort.ahead w q) g 0 (cmp l ++ pad).toArray)
    (l : List α) : ATake P f 1 (eL l) [] false false (eL ((cmp (l.map C.tu)).map C.of)) := by
  refine ⟨hok, fun w F G L v vals _ hFG _ hGs _ hLG hrow hargs => ?_⟩
  cases hargs
  rcases hrow with ⟨hl, oa, rfl⟩ | ⟨g, cap, cur, ty, rfl, rfl, hg, hs, hr, h5, h6⟩
  · obtain rfl : l = [] := by simpa [eL] using hl
    have hs0 : cmp [] = [] := List.eq_nil_of_length_eq_zero (by have := hlen []; simpa using this)
    refine (h0 oa 0 w).mono ?_
    rintro e w' ⟨rfl, rfl⟩
    rw [List.map_nil, hs0]
    exact ⟨_, rfl, fun m _ _ => Below.refl _ _, fun _ _ _ => rfl, [], List.nodup_nil, fun b hb => (by simp at hb), .inl ⟨rfl, oa, rfl⟩⟩
  have hll : (eL l).length = l.length := by simp [eL]
  rw [hll] at hr h5 h6 ⊢
  rw [Nat.mul_one] at hr hs
  obtain ⟨hcs, hok'⟩ := DT C hr
  have hH : Holds C.cell w g 0 (l.map C.tu).toArray := WY hg (by rw [List.length_map]; exact hcs)
  have hc := h1 g cap (l.map C.tu) w hH (by rw [List.length_map]; have := h6.2; omega) (by rw [List.length_map]; exact h5)
  rw [List.length_map] at hc
  refine hc.mono ?_
  rintro e w' ⟨rfl, q, pad, hpad, rfl⟩
  have hw : putRow C.cell (Sort.ahead w q) g 0 (cmp (l.map C.tu) ++ pad).toArray = grow (putRow C.cell (Sort.ahead w q) g 0 (cmp (l.map C.tu) ++ pad).toArray) #[] := (grow_empty _).symm
  rw [hw]
  have hother := Me (e := C.cell) w g q (cmp (l.map C.tu) ++ pad).toArray #[]
  have hgl := Q0 hg
  have hd : (cmp (l.map C.tu) ++ pad).toArray.size ≤ cur.size := by rw [List.size_toArray, hpad]; omega
  have hle := hlen (l.map C.tu)
  rw [List.length_map] at hle
  have hel : (eL ((cmp (l.map C.tu)).map C.of)).length = (cmp (l.map C.tu)).length := by simp [eL]
  have hsz : g < (grow (putRow C.cell (Sort.ahead w q) g 0 (cmp (l.map C.tu) ++ pad).toArray) #[]).heap.size := Q0 (Fy hg q _ #[])
  refine ⟨_, rfl, fun m hm hL => hother.2 m (hL g (by simp)) hm, fun b hb hn => hother.1 b hb (by simpa using hn), [g], by simp, fun b hb => ?_, .inr ⟨g, cap, _, ty, rfl, by rw [hel], Fy hg q _ #[], ?_, ?_, by rw [hel]; omega, h6.1, by rw [hel]; have := h6.2; omega⟩⟩
  · obtain rfl := List.mem_singleton.1 hb
    exact ⟨hsz, .inr (by simp)⟩
  · simp [Go.Sort.putCells, hs]
  rw [hel, Nat.mul_one, WX C.cell _ cur hd]
  have hm : ∀ a, a ∈ (cmp (l.map C.tu)).map C.of → C.ok a := fun a ha => by
    obtain ⟨x, hx, rfl⟩ := List.mem_map.1 ha
    obtain ⟨b, hb, rfl⟩ := List.mem_map.1 (hmem _ _ hx)
    rw [C.of_tu]; exact hok' b hb
  have := DU C (X := F) (w := grow (putRow C.cell (Sort.ahead w q) g 0 (cmp (l.map C.tu) ++ pad).toArray) #[]) hm
  have e1 : ((cmp (l.map C.tu)).map C.of).map C.tu = cmp (l.map C.tu) := by simp [Function.comp_def, C.tu_of]
  rw [e1] at this
  rw [List.map_append, List.append_assoc, List.take_left' (by simp)]
  exact VR.keep (fun b hb => ⟨.inl hb, rfl⟩) this
end
/-! ### the rows that Sort and Compact give, typed -/
def D8 (l : List ByteArray) : List ByteArray := ((l.map oneS.tu).mergeSort fun x y => decide (x ≤ y)).map oneS.of
def Oy (l : List ByteArray) : List ByteArray := (Lib.compact (l.map oneS.tu)).map oneS.of
theorem LF {σ : Type} [Inhabited σ] [DecidableEq σ] (l : List σ) (x : σ) (h : x ∈ Lib.compact l) : x ∈ l := by
  unfold Lib.compact Lib.compactUpTo at h
  simp only [List.mem_map, List.mem_filter, List.mem_range] at h
  obtain ⟨j, ⟨hj, _⟩, e⟩ := h
  have e1 : l.toArray[j]! = l[j] := by rw [getElem!_pos l.toArray j (by simpa using hj)]; simp
  rw [e1] at e
  exact e ▸ List.getElem_mem hj
theorem Tz {σ : Type} [Inhabited σ] [DecidableEq σ] (l : List σ) : (Lib.compact l).length ≤ l.length := by
  unfold Lib.compact Lib.compactUpTo
  rw [List.length_map]
  exact Nat.le_trans (List.length_filter_le _ _) (by rw [List.length_range]; exact Nat.le_refl _)
theorem YG (l : List ByteArray) : (D8 l).length = l.length := by simp [D8, List.length_mergeSort]
theorem DW (l : List ByteArray) : (Oy l).length ≤ l.length := by
  have := Tz (l.map oneS.tu)
  rw [List.length_map] at this
  simpa [Oy] using this
theorem LG {α : Type} [GoE α] {l k : List α} (h1 : ∀ a : α, (enc a).length = 1) (h : k.length = l.length) : GG (eL l) 0 4294967296 (eL k).flatten = eL k := by
  have hk : ∀ k : List α, ((eL k).flatten.map fun c => [c]) = eL k := fun k => by
    induction k with
    | nil => rfl
    | cons a k ih =>
      rw [Oi, List.flatten_cons, List.map_append, ih]
      have := h1 a
      match enc a, this with
      | [p], _ => rfl
  have hf : (eL k).flatten.length = k.length := by
    have := congrArg List.length (hk k)
    rw [List.length_map] at this
    rw [this]
    simp [eL]
  show Nq (eL l) (eL k).flatten = eL k
  unfold Nq
  have e1 : (eL l).length = l.length := by simp [eL]
  rw [e1, List.take_of_length_le (by omega), hk, List.drop_of_length_le (by omega), List.append_nil]
end
section
open Go.RowKit
section
variable {σ : Type} (lt : σ → σ → Prop)
theorem WZ (irr : ∀ a, ¬ lt a a) (tr : ∀ a b c, lt a b → lt b c → lt a c) : ∀ (a b : List σ), a.Pairwise lt → b.Pairwise lt → (∀ x, x ∈ a ↔ x ∈ b) → a = b
  | [], [], _, _, _ => rfl
  | [], y :: b, _, _, h => by have := (h y).2 (by simp); simp at this
  | x :: a, [], _, _, h => by have := (h x).1 (by simp); simp at this
  | x :: a, y :: b, ha, hb, h => by
    rw [List.pairwise_cons] at ha hb
    have h1 : x = y := by
      have hx := (h x).1 (by simp)
      have hy := (h y).2 (by simp)
      simp only [List.mem_cons] at hx hy
      rcases hx with e | hx
      · exact e
      rcases hy with e | hy
      · exact e.symm
      exact (irr x (tr _ _ _ (ha.1 y hy) (hb.1 x hx))).elim
    subst h1
    congr 1
    refine WZ irr tr a b ha.2 hb.2 fun z => ?_
    have hz := h z
    simp only [List.mem_cons] at hz
    constructor
    · intro hm
      have hlt := ha.1 z hm
      rcases hz.1 (.inr hm) with e | e
      · subst e; exact (irr z hlt).elim
      exact e
    intro hm
    have hlt := hb.1 z hm
    rcases hz.2 (.inr hm) with e | e
    · subst e; exact (irr z hlt).elim
    exact e
theorem UA [Inhabited σ] [DecidableEq σ] (d : Array σ) (tr : ∀ a b c, ¬ lt b a → lt b c → lt a c) (tri : ∀ a b, ¬ lt b a → a ≠ b → lt a b) (hs : ∀ i j, i ≤ j → j < d.size → ¬ lt d[j]! d[i]!) :
    ∀ m, m ≤ d.size → (Lib.compactUpTo d m).Pairwise lt ∧ ∀ x, x ∈ Lib.compactUpTo d m ↔ ∃ j, j < m ∧ d[j]! = x
  | 0, _ => by simp [Lib.compactUpTo]
  | m + 1, hm => by
    obtain ⟨h1, h2⟩ := UA d tr tri hs m (by omega)
    rw [Lib.compactUpTo_succ]
    by_cases hk : Lib.keeps d m = true
    · rw [if_pos hk]
      refine ⟨?_, fun x => ?_⟩
      · rw [List.pairwise_append]
        refine ⟨h1, by simp, fun a ha b hb => ?_⟩
        obtain ⟨j, hj, rfl⟩ := (h2 a).1 ha
        obtain rfl : b = d[m]! := by simpa using hb
        have hle := hs j (m - 1) (by omega) (by omega)
        have hle2 := hs (m - 1) m (by omega) (by omega)
        have hne : d[m]! ≠ d[m - 1]! := by
          unfold Lib.keeps at hk
          simp only [Bool.or_eq_true, beq_iff_eq, bne_iff_ne, decide_eq_true_eq] at hk
          rcases hk with h | h
          · omega
          exact h
        exact tr _ _ _ hle (tri _ _ hle2 fun e => hne e.symm)
      rw [List.mem_append, h2 x]
      constructor
      · rintro (⟨j, hj, e⟩ | h)
        · exact ⟨j, by omega, e⟩
        exact ⟨m, by omega, by simpa using (by simpa using h : x = d[m]!).symm⟩
      rintro ⟨j, hj, e⟩
      by_cases hjm : j = m
      · subst hjm; exact .inr (by simp [e])
      exact .inl ⟨j, by omega, e⟩
    rw [if_neg hk, List.append_nil]
    refine ⟨h1, fun x => ?_⟩
    rw [h2 x]
    have hm0 : m ≠ 0 ∧ d[m]! = d[m - 1]! := by
      unfold Lib.keeps at hk
      simp only [Bool.or_eq_true, beq_iff_eq, bne_iff_ne, decide_eq_true_eq, not_or, Decidable.not_not] at hk
      exact hk
    constructor
    · rintro ⟨j, hj, e⟩; exact ⟨j, by omega, e⟩
    rintro ⟨j, hj, e⟩
    by_cases hjm : j = m
    · subst hjm; exact ⟨j - 1, by omega, hm0.2 ▸ e⟩
    exact ⟨j, by omega, e⟩
end
/-! ### texts -/
def bl (a b : ByteArray) : Bool := Op.bytesLess a.toList b.toList
theorem YH {a b c : List UInt8} (h : a < b) (h' : b < c) : a < c := List.lt_trans h h'
theorem DX (a : List UInt8) : ¬ a < a := List.lt_irrefl a
theorem KQ {a b : List UInt8} (h : ¬ b < a) (hn : a ≠ b) : a < b := Classical.byContradiction fun h' => hn (List.le_antisymm h h')
theorem Oz (a b : ByteArray) : bl a b = true ↔ a.data.toList < b.data.toList := by
  unfold bl
  rw [bytesLess_eq, ByteArray.toList_eq, ByteArray.toList_eq, decide_eq_true_iff]
theorem NR (a : ByteArray) : bl a a = false := by
  cases h : bl a a with
  | false => rfl
  | true => exact (DX _ ((Oz a a).1 h)).elim
theorem T0 {a b c : ByteArray} (h : bl a b = true) (h' : bl b c = true) : bl a c = true := (Oz _ _).2 (YH ((Oz _ _).1 h) ((Oz _ _).1 h'))
theorem TY {a b : ByteArray} (h : bl b a = false) (hn : a ≠ b) : bl a b = true := (Oz _ _).2 (KQ (fun hb => by rw [(Oz _ _).2 hb] at h; cases h) fun e => hn (by cases a; cases b; simp at e; rw [e]))
def YI : List ByteArray → ByteArray → List ByteArray
  | [], s => [s]
  | x :: l, s => if bl x s then x :: YI l s else if x = s then x :: l else s :: x :: l
def NS (l : List ByteArray) : Prop := l.Pairwise fun a b => bl a b = true
theorem T1 (s x : ByteArray) : ∀ l, x ∈ YI l s ↔ x = s ∨ x ∈ l
  | [] => by simp [YI]
  | y :: l => by
    simp only [YI]
    split
    · rw [List.mem_cons, T1 s x l, List.mem_cons]
      constructor
      · rintro (h | h | h) <;> simp [h]
      rintro (h | h | h) <;> simp [h]
    split
    · rename_i e
      subst e
      simp
    simp
theorem UB (s : ByteArray) : ∀ l, NS l → NS (YI l s)
  | [], _ => by simp [NS, YI]
  | y :: l, h => by
    have h := List.pairwise_cons.1 h
    simp only [YI]
    split
    · rename_i hl
      refine List.pairwise_cons.2 ⟨fun z hz => ?_, UB s l h.2⟩
      rcases (T1 s z l).1 hz with e | hz
      · exact e ▸ hl
      exact h.1 z hz
    split
    · exact List.pairwise_cons.2 h
    rename_i hl hn
    have hs : bl s y = true := TY (by simpa using hl) fun e => hn e.symm
    refine List.pairwise_cons.2 ⟨fun z hz => ?_, List.pairwise_cons.2 h⟩
    rcases List.mem_cons.1 hz with rfl | hz
    · exact hs
    exact T0 hs (h.1 z hz)
theorem UC (s : ByteArray) : ∀ l, (YI l s).length ≤ l.length + 1
  | [] => by simp [YI]
  | y :: l => by
    have := UC s l
    simp only [YI]
    split
    · simp only [List.length_cons]; omega
    split <;> simp
def Fz (l xs : List ByteArray) : List ByteArray := xs.foldl YI l
theorem O9 (x : ByteArray) : ∀ xs l, x ∈ Fz l xs ↔ x ∈ xs ∨ x ∈ l
  | [], l => by simp [Fz]
  | y :: xs, l => by
    show x ∈ Fz (YI l y) xs ↔ _
    rw [O9 x xs, T1, List.mem_cons]
    constructor
    · rintro (h | h | h) <;> simp [h]
    rintro ((h | h) | h) <;> simp [h]
theorem Pa : ∀ xs l, NS l → NS (Fz l xs)
  | [], _, h => h
  | y :: xs, l, h => Pa xs (YI l y) (UB y l h)
theorem LH (a b : List ByteArray) (ha : NS a) (hb : NS b) (h : ∀ x, x ∈ a ↔ x ∈ b) : a = b :=
  WZ (fun a b => bl a b = true) (fun a h => by rw [NR] at h; cases h) (fun _ _ _ => T0) a b ha hb h
theorem YJ (l : List ByteArray) : NS (Oy (D8 l)) ∧ ∀ x, x ∈ Oy (D8 l) ↔ x ∈ l := by
  have hto : (D8 l).map oneS.tu = (l.map oneS.tu).mergeSort fun x y => decide (x ≤ y) := by simp [D8, Function.comp_def, oneS.tu_of]
  unfold Oy
  rw [hto]
  generalize hm : l.map oneS.tu = m
  have hp := List.mergeSort_perm m (fun x y => decide (x ≤ y))
  have hs := List.pairwise_mergeSort (le := fun (x y : List UInt8) => decide (x ≤ y)) (fun a b c h1 h2 => by
    simp only [decide_eq_true_eq] at h1 h2 ⊢; exact List.le_trans h1 h2) (fun a b => by
    have := List.le_total a b
    simpa using this) m
  generalize (m.mergeSort fun x y => decide (x ≤ y)) = s at hp hs
  have hget : ∀ j, j < s.length → s.toArray[j]! = s[j]! := fun j hj => by simp
  have hmono : ∀ i j, i ≤ j → j < s.toArray.size → ¬ s.toArray[j]! < s.toArray[i]! := fun i j hij hj => by
    have hj : j < s.length := by simpa using hj
    rw [hget i (by omega), hget j hj, getElem!_pos s i (by omega), getElem!_pos s j hj]
    by_cases e : i = j
    · subst e; exact DX _
    have := List.pairwise_iff_getElem.1 hs i j (by omega) hj (by omega)
    simpa using this
  obtain ⟨h1, h2⟩ := UA (fun a b : List UInt8 => a < b) s.toArray (fun a b c hab hbc => by
    by_cases e : a = b
    · exact e ▸ hbc
    exact YH (KQ hab e) hbc) (fun a b h hn => KQ h hn) hmono s.length (by simp)
  refine ⟨?_, fun x => ?_⟩
  · refine List.pairwise_map.2 (h1.imp fun {a b} h => (Oz _ _).2 ?_)
    simpa [oneS] using h
  have hmem : x ∈ l ↔ oneS.tu x ∈ m := by
    rw [← hm, List.mem_map]
    refine ⟨fun h => ⟨x, h, rfl⟩, fun ⟨y, h, e⟩ => ?_⟩
    have := congrArg oneS.of e
    rw [oneS.of_tu, oneS.of_tu] at this
    exact this ▸ h
  rw [hmem, ← hp.mem_iff, List.mem_map]
  constructor
  · rintro ⟨y, hy, rfl⟩
    obtain ⟨j, hj, e⟩ := (h2 y).1 hy
    rw [hget j hj, getElem!_pos s j hj] at e
    rw [oneS.tu_of]
    exact e ▸ List.getElem_mem hj
  intro h
  obtain ⟨j, hj, e⟩ := List.getElem_of_mem h
  exact ⟨oneS.tu x, (h2 _).2 ⟨j, hj, by rw [hget j hj, getElem!_pos s j hj]; exact e⟩, oneS.of_tu x⟩
theorem LI (l : List ByteArray) : Oy (D8 l) = Fz [] l :=
  LH _ _ (YJ l).1 (Pa l [] List.Pairwise.nil) fun x => by rw [(YJ l).2, O9]; simp
end
section
abbrev Jp := List (Nat × Int)
def Bw (E : Jp) (L : List Int) : Int := E.foldl (fun m e => max m (nth L e.1 + e.2)) 0
theorem C2 (L : List Int) (x : Int) : ∀ (E : Jp) (m : Int), E.foldl (fun m e => max m (nth L e.1 + e.2)) m ≤ x ↔ m ≤ x ∧ ∀ e, e ∈ E → nth L e.1 + e.2 ≤ x
  | [], m => by simp
  | e :: E, m => by
    rw [List.foldl_cons, C2 L x E]
    constructor
    · rintro ⟨h1, h2⟩
      refine ⟨by omega, fun e' he => ?_⟩
      rcases List.mem_cons.1 he with rfl | he
      · omega
      exact h2 e' he
    rintro ⟨h1, h2⟩
    have := h2 e List.mem_cons_self
    exact ⟨by omega, fun e' he => h2 e' (List.mem_cons_of_mem _ he)⟩
theorem Hc {E : Jp} {L : List Int} {x : Int} : Bw E L ≤ x ↔ 0 ≤ x ∧ ∀ e, e ∈ E → nth L e.1 + e.2 ≤ x := C2 L x E 0
theorem F1 (E : Jp) (L : List Int) : 0 ≤ Bw E L := (Hc.1 (Int.le_refl _)).1
theorem YK {E : Jp} {L M : List Int} (h : ∀ j, nth L j ≤ nth M j) : Bw E L ≤ Bw E M :=
  Hc.2 ⟨F1 E M, fun e he => by
    have := (Hc.1 (Int.le_refl (Bw E M))).2 e he
    have := h e.1
    omega⟩
theorem F2 {L : List Int} {i : Nat} (x : Int) (j : Nat) (hi : i < L.length) : nth (L.set i x) j = if j = i then x else nth L j := by
  unfold nth
  by_cases h : j = i
  · subst h; simp [List.getD, hi]
  rw [if_neg h]; simp [List.getD, List.getElem?_set, Ne.symm h]
theorem KR {L : List Int} {i : Nat} (h : L.length ≤ i) : nth L i = 0 := by
  unfold nth
  simp [List.getD, List.getElem?_eq_none h]
def Vg (E : Nat → Jp) (L : List Int) (i : Nat) : List Int := if nth L i < Bw (E i) L then L.set i (Bw (E i) L) else L
theorem Bc (E : Nat → Jp) (L : List Int) (i : Nat) : (Vg E L i).length = L.length := by unfold Vg; split <;> simp
theorem T2 (E : Nat → Jp) (L : List Int) (i j : Nat) : nth L j ≤ nth (Vg E L i) j := by
  unfold Vg
  split
  · rename_i h
    by_cases hi : i < L.length
    · rw [F2 _ _ hi]; split
      · rename_i e; subst e; omega
      omega
    rw [List.set_eq_of_length_le (by omega)]; omega
  omega
def rounds (E : Nat → Jp) (is : List Nat) (L : List Int) : List Int := is.foldl (Vg E) L
theorem Es (E : Nat → Jp) : ∀ (is : List Nat) (L : List Int), (rounds E is L).length = L.length
  | [], _ => rfl
  | i :: is, L => (Es E is (Vg E L i)).trans (Bc E L i)
theorem G2 (E : Nat → Jp) (j : Nat) : ∀ (is : List Nat) (L : List Int), nth L j ≤ nth (rounds E is L) j
  | [], _ => Int.le_refl _
  | i :: is, L => Int.le_trans (T2 E L i j) (G2 E j is (Vg E L i))
theorem DY {L M : List Int} (hl : L.length = M.length) (h : ∀ j, nth L j = nth M j) : L = M := by
  apply List.ext_getElem hl
  intro i h1 h2
  have := h i
  simpa [nth, List.getD, h1, h2] using this
theorem Sj (E : Nat → Jp) : ∀ (is : List Nat) (L : List Int), rounds E is L = L → ∀ i, i ∈ is → Vg E L i = L
  | [], _, _, i, hi => by simp at hi
  | a :: is, L, h, i, hi => by
    have h1 : Vg E L a = L := DY (Bc E L a) fun j => by
      have h2 := T2 E L a j
      have h3 := G2 E j is (Vg E L a)
      have h4 : nth (rounds E is (Vg E L a)) j = nth L j := congrArg (nth · j) h
      omega
    rcases List.mem_cons.1 hi with rfl | hi
    · exact h1
    refine Sj E is L ?_ i hi
    have : rounds E is (Vg E L a) = L := h
    rwa [h1] at this
theorem Sk {E : Nat → Jp} {L : List Int} {i : Nat} (hi : i < L.length) : Vg E L i = L ↔ Bw (E i) L ≤ nth L i := by
  unfold Vg
  constructor
  · intro h
    split at h
    · rename_i hlt
      have h2 : nth (L.set i (Bw (E i) L)) i = nth L i := by rw [h]
      rw [F2 _ _ hi, if_pos rfl] at h2
      omega
    omega
  intro h
  rw [if_neg (by omega)]
def Sat (E : Nat → Jp) (n : Nat) (g : List Int) : Prop := ∀ i, i < n → Bw (E i) g ≤ nth g i
theorem KS {E : Nat → Jp} {n : Nat} {L g : List Int} {i : Nat} (hi : i < n) (hn : L.length = n) (hs : Sat E n g) (h : ∀ j, nth L j ≤ nth g j) : ∀ j, nth (Vg E L i) j ≤ nth g j := by
  intro j
  unfold Vg
  split
  · rw [F2 _ _ (by omega)]
    split
    · rename_i e; subst e
      exact Int.le_trans (YK h) (hs j hi)
    exact h j
  exact h j
theorem D9 {E : Nat → Jp} {n : Nat} {g : List Int} (hs : Sat E n g) : ∀ (is : List Nat) (L : List Int), (∀ i, i ∈ is → i < n) → L.length = n → (∀ j, nth L j ≤ nth g j) → ∀ j, nth (rounds E is L) j ≤ nth g j
  | [], _, _, _, h => h
  | i :: is, L, hi, hn, h => D9 hs is (Vg E L i) (fun k hk => hi k (List.mem_cons_of_mem _ hk)) ((Bc E L i).trans hn) (KS (hi i List.mem_cons_self) hn hs h)
theorem NT : ∀ (m : Nat) (l : List Int), (∀ v : Nat, v < m → ((v : Nat) : Int) ∈ l) → m ≤ l.length
  | 0, _, _ => Nat.zero_le _
  | m + 1, l, h => by
    have hm := h m (by omega)
    have := NT m (l.erase (m : Int)) fun v hv => (List.mem_erase_of_ne (by omega)).2 (h v (by omega))
    rw [List.length_erase_of_mem hm] at this
    have : 0 < l.length := List.length_pos_of_mem hm
    omega
theorem RK {L : List Int} {i : Nat} (h : i < L.length) : nth L i ∈ L := by
  have : nth L i = L[i] := by simp [nth, List.getD, h]
  rw [this]; exact List.getElem_mem h
theorem KT {L : List Int} {x : Int} (h : x ∈ L) : ∃ i, i < L.length ∧ nth L i = x := by
  obtain ⟨i, hi, e⟩ := List.getElem_of_mem h
  exact ⟨i, hi, by rw [← e]; simp [nth, List.getD, hi]⟩
theorem RL {L : List Int} {f : Int → Int} {i : Nat} (h : i < L.length) : nth (L.map f) i = f (nth L i) := by simp [nth, List.getD, h]
theorem AM {E : Nat → Jp} {n : Nat} {f : List Int} (hw : ∀ i e, e ∈ E i → e.2 ≤ 1 ∧ e.1 < n) (hlen : f.length = n) (hs : Sat E n f) (hleast : ∀ g : List Int, g.length = n → Sat E n g → (∀ j, 0 ≤ nth g j) → ∀ j, nth f j ≤ nth g j) (h0 : ∀ j, 0 ≤ nth f j) :
    ∀ i, i < n → nth f i < (n : Int) := by
  intro i hi
  have hall : ∀ v : Nat, (v : Int) ≤ nth f i → ((v : Nat) : Int) ∈ f := fun v hv => by
    refine Classical.byContradiction fun hno => ?_
    have hne : ∀ j, j < n → nth f j ≠ v := fun j hj e => hno (e ▸ RK (by omega))
    have hvi : (v : Int) < nth f i := by have := hne i hi; omega
    let g := f.map fun x => if (v : Int) < x then x - 1 else x
    have hg : ∀ j, j < n → nth g j = if (v : Int) < nth f j then nth f j - 1 else nth f j := fun j hj => RL (by omega)
    have hg0 : ∀ j, ¬ j < n → nth g j = 0 := fun j hj => KR (by simp only [g, List.length_map]; omega)
    have hf0 : ∀ j, ¬ j < n → nth f j = 0 := fun j hj => KR (by omega)
    have hpos : ∀ j, 0 ≤ nth g j := fun j => by
      by_cases hj : j < n
      · rw [hg j hj]; have := h0 j; split <;> omega
      rw [hg0 j hj]; omega
    have := hleast g (by simp only [g, List.length_map]; exact hlen) (fun k hk => Hc.2 ⟨hpos k, fun e he => ?_⟩) hpos i
    · rw [hg i hi, if_pos hvi] at this; omega
    have h1 := (Hc.1 (hs k hk)).2 e he
    obtain ⟨h2, hj⟩ := hw k e he
    have h3 := hne k hk
    rw [hg k hk]
    have h4 := hne e.1 hj
    rw [hg e.1 hj]
    split <;> split <;> omega
  have hp := NT ((nth f i).toNat + 1) f fun v hv => hall v (by have := h0 i; omega)
  have := h0 i
  omega
/-! ### rounds until rest -/
theorem DZ : ∀ (L : List Int) (i : Nat) (x : Int), i < L.length → (L.set i x).sum = L.sum + (x - nth L i)
  | [], i, x, h => by simp at h
  | a :: L, 0, x, _ => by simp [nth]; omega
  | a :: L, i + 1, x, h => by
    have := DZ L i x (by simpa using h)
    have e : nth (a :: L) (i + 1) = nth L i := rfl
    rw [e, List.set_cons_succ, List.sum_cons, List.sum_cons, this]
    omega
theorem UD : ∀ (L : List Int) (N : Int), (∀ x, x ∈ L → x ≤ N) → L.sum ≤ (L.length : Int) * N
  | [], N, _ => by simp
  | a :: L, N, h => by
    have h1 := UD L N fun x hx => h x (List.mem_cons_of_mem _ hx)
    have h2 := h a List.mem_cons_self
    rw [List.sum_cons, List.length_cons, Int.natCast_add, Int.add_mul]
    omega
theorem YL {E : Nat → Jp} {L : List Int} {i : Nat} (hi : i < L.length) : L.sum ≤ (Vg E L i).sum ∧ (Vg E L i ≠ L → L.sum + 1 ≤ (Vg E L i).sum) := by
  unfold Vg
  split
  · rename_i h
    have := DZ L i (Bw (E i) L) hi
    omega
  exact ⟨Int.le_refl _, fun h => (h rfl).elim⟩
theorem Et {E : Nat → Jp} : ∀ (is : List Nat) (L : List Int), (∀ i, i ∈ is → i < L.length) → L.sum ≤ (rounds E is L).sum ∧ (rounds E is L ≠ L → L.sum + 1 ≤ (rounds E is L).sum)
  | [], L, _ => ⟨Int.le_refl _, fun h => (h rfl).elim⟩
  | i :: is, L, h => by
    obtain ⟨h1, h2⟩ := YL (E := E) (h i List.mem_cons_self)
    obtain ⟨h3, h4⟩ := Et (E := E) is (Vg E L i) fun k hk => by rw [Bc]; exact h k (List.mem_cons_of_mem _ hk)
    show L.sum ≤ (rounds E is (Vg E L i)).sum ∧ (rounds E is (Vg E L i) ≠ L → L.sum + 1 ≤ (rounds E is (Vg E L i)).sum)
    refine ⟨by omega, fun hn => ?_⟩
    by_cases e : Vg E L i = L
    · have := h4 (by rw [e] at hn ⊢; exact hn)
      omega
    have := h2 e
    omega
def Hy (E : Nat → Jp) (N : Int) : List Nat → Bool × List Int → Option (Bool × List Int)
  | [], s => some s
  | i :: is, s => if N < Bw (E i) s.2 then none else Hy E N is (if nth s.2 i < Bw (E i) s.2 then (true, s.2.set i (Bw (E i) s.2)) else s)
theorem Ag {E : Nat → Jp} {N : Int} : ∀ (is : List Nat) (c : Bool) (L : List Int) (s : Bool × List Int), (∀ i, i ∈ is → i < L.length) → Hy E N is (c, L) = some s → s.2 = rounds E is L ∧ (s.1 = true → c = true ∨ rounds E is L ≠ L) ∧ (s.1 = false → c = false ∧ rounds E is L = L) ∧ ((∀ j, nth L j ≤ N) → ∀ j, nth s.2 j ≤ N)
  | [], c, L, s, _, h => by
    obtain rfl := Option.some.inj h
    exact ⟨rfl, fun h => .inl h, fun h => ⟨h, rfl⟩, fun h => h⟩
  | i :: is, c, L, s, hi, h => by
    have hil := hi i List.mem_cons_self
    have hlen : ∀ k, k ∈ is → k < (Vg E L i).length := fun k hk => by rw [Bc]; exact hi k (List.mem_cons_of_mem _ hk)
    simp only [Hy] at h
    split at h
    · cases h
    rename_i hN
    split at h
    · rename_i hlt
      have er : Vg E L i = L.set i (Bw (E i) L) := by unfold Vg; rw [if_pos hlt]
      rw [← er] at h
      obtain ⟨h1, h2, h3, h4⟩ := Ag is true (Vg E L i) s hlen h
      have hne : rounds E (i :: is) L ≠ L := fun e => by
        have := (Et (E := E) is (Vg E L i) hlen).1
        have h5 := (YL (E := E) hil).2 fun e' => by
          have := (Sk hil).1 e'
          omega
        have h6 : (rounds E is (Vg E L i)).sum = L.sum := congrArg List.sum e
        omega
      refine ⟨h1, fun _ => .inr hne, fun h => (by have := (h3 h).1; cases this), fun hb j => h4 (fun j => ?_) j⟩
      rw [er, F2 _ _ hil]
      split
      · omega
      exact hb j
    rename_i hlt
    have er : Vg E L i = L := by unfold Vg; rw [if_neg hlt]
    have e2 : rounds E (i :: is) L = rounds E is L := by show rounds E is (Vg E L i) = _; rw [er]
    rw [e2]
    exact Ag is c L s (fun k hk => hi k (List.mem_cons_of_mem _ hk)) h
theorem Mf {E : Nat → Jp} {N : Int} : ∀ (is : List Nat) (c : Bool) (L : List Int), Hy E N is (c, L) = none → ∃ pre i, (∀ k, k ∈ pre → k ∈ is) ∧ i ∈ is ∧ N < Bw (E i) (rounds E pre L)
  | [], c, L, h => by cases h
  | i :: is, c, L, h => by
    simp only [Hy] at h
    split at h
    · rename_i hN
      exact ⟨[], i, fun k hk => by simp at hk, List.mem_cons_self, hN⟩
    have key : ∀ c' L', L' = Vg E L i → Hy E N is (c', L') = none → ∃ pre k, (∀ x, x ∈ pre → x ∈ i :: is) ∧ k ∈ i :: is ∧ N < Bw (E k) (rounds E pre L) := fun c' L' e h => by
      obtain ⟨pre, k, h1, h2, h3⟩ := Mf is c' L' h
      subst e
      refine ⟨i :: pre, k, fun x hx => ?_, List.mem_cons_of_mem _ h2, h3⟩
      rcases List.mem_cons.1 hx with rfl | hx
      · exact List.mem_cons_self
      exact List.mem_cons_of_mem _ (h1 x hx)
    split at h
    · rename_i hlt
      exact key true _ (by unfold Vg; rw [if_pos hlt]) h
    rename_i hlt
    exact key c _ (by unfold Vg; rw [if_neg hlt]) h
def Re (E : Nat → Jp) (N : Int) (n : Nat) : Nat → Bool × List Int → Option (Option (List Int))
  | 0, _ => none
  | k + 1, s => match s.1 with
    | true => (match Hy E N (List.range n) (false, s.2) with
      | none => some none
      | some s' => Re E N n k s')
    | false => some (some s.2)
theorem Un {n i : Nat} (h : i ∈ List.range n) : i < n := List.mem_range.1 h
theorem Sl {E : Nat → Jp} {n : Nat} : ∀ (k : Nat) (c : Bool) (L : List Int), L.length = n → (∀ j, nth L j ≤ (n : Int)) → (n : Int) * (n : Int) - L.sum + 2 ≤ (k : Int) → (Re E n n k (c, L)).isSome = true
  | 0, c, L, hl, hb, hk => by
    have := UD L n fun x hx => by obtain ⟨i, _, e⟩ := KT hx; exact e ▸ hb i
    rw [hl] at this
    omega
  | k + 1, false, L, hl, hb, hk => rfl
  | k + 1, true, L, hl, hb, hk => by
    simp only [Re]
    cases hc : Hy E n (List.range n) (false, L) with
    | none => rfl
    | some s =>
      obtain ⟨h1, h2, h3, h4⟩ := Ag (List.range n) false L s (fun i hi => by rw [hl]; exact Un hi) hc
      obtain ⟨c', L'⟩ := s
      simp only at h1 h2 h3 h4 ⊢
      have hl' : L'.length = n := by rw [h1, Es, hl]
      have hs := Et (E := E) (List.range n) L fun i hi => by rw [hl]; exact Un hi
      rw [← h1] at hs
      cases c' with
      | false =>
        cases k with
        | zero =>
          have := UD L n fun x hx => by obtain ⟨i, _, e⟩ := KT hx; exact e ▸ hb i
          rw [hl] at this
          omega
        | succ k => rfl
      | true =>
        have hne : L' ≠ L := by
          rcases h2 rfl with h | h
          · cases h
          rw [h1]; exact h
        have := hs.2 hne
        exact Sl k true L' hl' (h4 hb) (by omega)
def after (E : Nat → Jp) (n : Nat) : Nat → List Int
  | 0 => List.replicate n 0
  | k + 1 => rounds E (List.range n) (after E n k)
theorem K1 (E : Nat → Jp) (n : Nat) : ∀ k, (after E n k).length = n
  | 0 => by simp [after]
  | k + 1 => by rw [after, Es, K1 E n k]
def BE (E : Nat → Jp) (n : Nat) (L : List Int) : Prop := rounds E (List.range n) L = L
theorem Na (n j : Nat) : nth (List.replicate n (0 : Int)) j = 0 := by
  by_cases h : j < n
  · simp [nth, List.getD, h]
  exact KR (by simp; omega)
theorem U0 (E : Nat → Jp) (n j : Nat) : ∀ k, 0 ≤ nth (after E n k) j
  | 0 => by rw [after, Na]; omega
  | k + 1 => Int.le_trans (U0 E n j k) (G2 E j _ _)
theorem Nb {E : Nat → Jp} {n : Nat} {L : List Int} (hl : L.length = n) (h : BE E n L) : Sat E n L := fun i hi => (Sk (by omega)).1 (Sj E _ L h i (List.mem_range.2 hi))
theorem C3 {E : Nat → Jp} {n : Nat} {g : List Int} (hs : Sat E n g) (h0 : ∀ j, 0 ≤ nth g j) : ∀ k j, nth (after E n k) j ≤ nth g j
  | 0, j => by rw [after, Na]; exact h0 j
  | k + 1, j => D9 hs _ _ (fun i hi => Un hi) (K1 E n k) (C3 hs h0 k) j
theorem Eu {E : Nat → Jp} {n k : Nat} (h : BE E n (after E n k)) : ∀ d, after E n (k + d) = after E n k
  | 0 => rfl
  | d + 1 => by
    show rounds E (List.range n) (after E n (k + d)) = _
    rw [Eu h d]
    exact h
theorem EA {E : Nat → Jp} {n k m : Nat} (hk : BE E n (after E n k)) (hm : BE E n (after E n m)) : after E n k = after E n m := by
  rcases Nat.le_total k m with h | h
  · have := Eu hk (m - k)
    rw [show k + (m - k) = m by omega] at this
    exact this.symm
  have := Eu hm (k - m)
  rwa [show m + (k - m) = k by omega] at this
theorem Pb {E : Nat → Jp} {n : Nat} : ∀ k, (∀ j, j < k → ¬ BE E n (after E n j)) → (k : Int) ≤ (after E n k).sum
  | 0, _ => by
    have : ∀ n : Nat, (List.replicate n (0 : Int)).sum = 0 := fun n => by simp
    rw [after, this]; omega
  | k + 1, h => by
    have h1 := Pb k fun j hj => h j (by omega)
    have h2 := (Et (E := E) (List.range n) (after E n k) fun i hi => by rw [K1]; exact Un hi).2 (h k (by omega))
    show ((k + 1 : Nat) : Int) ≤ (rounds E (List.range n) (after E n k)).sum
    omega
variable {E : Nat → Jp} {n : Nat} (hw : ∀ i e, e ∈ E i → e.2 ≤ 1 ∧ e.1 < n)
include hw in
theorem EB {k : Nat} (h : BE E n (after E n k)) : ∀ i, i < n → nth (after E n k) i < (n : Int) :=
  AM hw (K1 E n k) (Nb (K1 E n k) h) (fun _ _ hs h0 => C3 hs h0 k) fun j => U0 E n j k
include hw in
theorem EC {k : Nat} (h : BE E n (after E n k)) : BE E n (after E n (n * n + 2)) := by
  have hex : ∃ j, j ≤ n * n + 1 ∧ BE E n (after E n j) := Classical.byContradiction fun hno => by
    have h1 := Pb (E := E) (n := n) (n * n + 2) fun j hj hr => hno ⟨j, by omega, hr⟩
    have h2 := UD (after E n (n * n + 2)) n fun x hx => by
      obtain ⟨i, hi, e⟩ := KT hx
      rw [K1] at hi
      have h3 := C3 (Nb (K1 E n k) h) (fun j => U0 E n j k) (n * n + 2) i
      have := EB hw h i hi
      omega
    rw [K1] at h2
    have h3 : ((n * n + 2 : Nat) : Int) = (n : Int) * (n : Int) + 2 := by rw [Int.natCast_add, Int.natCast_mul]; rfl
    omega
  obtain ⟨j, hj, hr⟩ := hex
  have := Eu hr (n * n + 2 - j)
  rw [show j + (n * n + 2 - j) = n * n + 2 by omega] at this
  rw [this]; exact hr
include hw in
theorem UE : ∀ (k m : Nat) (c : Bool) (r : Option (List Int)), (c = false → BE E n (after E n m)) → Re E n n k (c, after E n m) = some r →
    (∀ L, r = some L → BE E n (after E n (n * n + 2)) ∧ L = after E n (n * n + 2)) ∧ (r = none → ¬ BE E n (after E n (n * n + 2)))
  | 0, m, c, r, _, h => by cases h
  | k + 1, m, false, r, hc, h => by
    obtain rfl := Option.some.inj h
    have hr := hc rfl
    have hs := EC hw hr
    refine ⟨fun L e => ⟨hs, ?_⟩, fun e => by cases e⟩
    obtain rfl := Option.some.inj e
    exact EA hr hs
  | k + 1, m, true, r, _, h => by
    simp only [Re] at h
    have hlt : ∀ i, i ∈ List.range n → i < (after E n m).length := fun i hi => by rw [K1]; exact Un hi
    cases hcr : Hy E n (List.range n) (false, after E n m) with
    | none =>
      rw [hcr] at h
      obtain rfl := Option.some.inj h
      refine ⟨fun L e => (by cases e), fun _ hr => ?_⟩
      obtain ⟨pre, i, h1, h2, h3⟩ := Mf _ _ _ hcr
      have hsat := Nb (K1 E n _) hr
      have h4 := D9 hsat pre (after E n m) (fun i hi => Un (h1 i hi)) (K1 E n m) (C3 hsat (fun j => U0 E n j _) m)
      have h5 := YK (E := E i) h4
      have h6 := hsat i (Un h2)
      have h7 := EB hw hr i (Un h2)
      omega
    | some s =>
      rw [hcr] at h
      obtain ⟨h1, _, h3, _⟩ := Ag _ _ _ s hlt hcr
      obtain ⟨c', L'⟩ := s
      simp only at h1 h3 h
      have e : L' = after E n (m + 1) := h1
      subst e
      refine UE k (m + 1) c' r (fun hc => ?_) h
      have h5 := (h3 hc).2
      show rounds E (List.range n) (after E n (m + 1)) = after E n (m + 1)
      have e2 : after E n (m + 1) = after E n m := h5
      rw [e2]; exact h5
omit hw
/-! ### the other way to Vg: edge by edge -/
def Iw (i : Nat) (L : List Int) (e : Nat × Int) : List Int := if nth L i < nth L e.1 + e.2 then L.set i (nth L e.1 + e.2) else L
def Uu (i : Nat) (E : Jp) (L : List Int) : List Int := E.foldl (Iw i) L
theorem C4 (i : Nat) (L : List Int) (e : Nat × Int) : (Iw i L e).length = L.length := by unfold Iw; split <;> simp
theorem Bd (i : Nat) : ∀ (E : Jp) (L : List Int), (Uu i E L).length = L.length
  | [], _ => rfl
  | e :: E, L => (Bd i E (Iw i L e)).trans (C4 i L e)
theorem Nc {i : Nat} {L : List Int} (e : Nat × Int) (hi : i < L.length) (j : Nat) : nth (Iw i L e) j = if j = i then max (nth L i) (nth L e.1 + e.2) else nth L j := by
  unfold Iw
  split
  · rw [F2 _ _ hi]; split <;> omega
  split
  · rename_i h; subst h; omega
  rfl
theorem YM {i : Nat} : ∀ (E : Jp) {L M : List Int}, i < M.length → (∀ j, j ≠ i → nth M j = nth L j) → nth L i ≤ nth M i → (∀ e, e ∈ E → e.1 = i → e.2 ≤ 0) → ∀ j, nth (Uu i E M) j = if j = i then E.foldl (fun m e => max m (nth L e.1 + e.2)) (nth M i) else nth L j
  | [], L, M, hi, hj, h0, hs, j => by
    show nth M j = _
    split
    · rename_i e; subst e; rfl
    rename_i e; exact hj j e
  | e :: E, L, M, hi, hj, h0, hs, j => by
    show nth (Uu i E (Iw i M e)) j = _
    have hb := Nc e hi
    have hmax : nth (Iw i M e) i = max (nth M i) (nth L e.1 + e.2) := by
      rw [hb, if_pos rfl]
      by_cases he : e.1 = i
      · have := hs e List.mem_cons_self he
        rw [he]; omega
      rw [hj e.1 he]
    rw [YM E (L := L) (M := Iw i M e) (by rw [C4]; exact hi) (fun k hk => by rw [hb, if_neg hk]; exact hj k hk) (by rw [hmax]; omega) (fun e' he' => hs e' (List.mem_cons_of_mem _ he')) j, hmax, List.foldl_cons]
theorem LJ (L : List Int) : ∀ (E : Jp) (m : Int), 0 ≤ m → E.foldl (fun m e => max m (nth L e.1 + e.2)) m = max m (Bw E L) := fun E m hm => by
  have h1 := C2 L (E.foldl (fun m e => max m (nth L e.1 + e.2)) m) E m
  have h2 := h1.1 (Int.le_refl _)
  have h3 : Bw E L ≤ E.foldl (fun m e => max m (nth L e.1 + e.2)) m := Hc.2 ⟨by omega, h2.2⟩
  have h4 := (C2 L (max m (Bw E L)) E m).2 ⟨by omega, fun e he => by have := (Hc.1 (Int.le_refl (Bw E L))).2 e he; omega⟩
  omega
theorem LL {E : Nat → Jp} {L : List Int} {i : Nat} (hi : i < L.length) (h0 : 0 ≤ nth L i) (hs : ∀ e, e ∈ E i → e.1 = i → e.2 ≤ 0) : Uu i (E i) L = Vg E L i :=
  DY ((Bd i (E i) L).trans (Bc E L i).symm) fun j => by
    rw [YM (E i) hi (fun _ _ => rfl) (Int.le_refl _) hs, LJ _ _ _ h0]
    unfold Vg
    by_cases hlt : nth L i < Bw (E i) L
    · rw [if_pos hlt, F2 _ _ hi]; split <;> omega
    rw [if_neg hlt]; split
    · rename_i e; subst e; omega
    rfl
theorem Nd {i : Nat} : ∀ (E : Jp) {L : List Int}, i < L.length → ∀ j, nth L j ≤ nth (Uu i E L) j
  | [], _, _, _ => Int.le_refl _
  | e :: E, L, hi, j => by
    have h1 := Nd E (L := Iw i L e) (by rw [C4]; exact hi) j
    have h2 := Nc e hi j
    show _ ≤ nth (Uu i E (Iw i L e)) j
    split at h2
    · rename_i h; subst h; omega
    omega
theorem Sm {i : Nat} : ∀ (E : Jp) {L : List Int}, i < L.length → (∃ e, e ∈ E ∧ e.1 = i ∧ 1 ≤ e.2) → nth L i + 1 ≤ nth (Uu i E L) i
  | [], _, _, ⟨e, he, _⟩ => by simp at he
  | e :: E, L, hi, ⟨e', he, h1, h2⟩ => by
    have h3 := Nc e hi i
    rw [if_pos rfl] at h3
    have hb := Nd E (L := Iw i L e) (by rw [C4]; exact hi) i
    show _ ≤ nth (Uu i E (Iw i L e)) i
    rcases List.mem_cons.1 he with rfl | he
    · rw [h1] at h3; omega
    have := Sm E (L := Iw i L e) (by rw [C4]; exact hi) ⟨e', he, h1, h2⟩
    omega
def Uf (E : Nat → Jp) (is : List Nat) (L : List Int) : List Int := is.foldl (fun L i => Uu i (E i) L) L
theorem F3 (E : Nat → Jp) : ∀ (is : List Nat) (L : List Int), (Uf E is L).length = L.length
  | [], _ => rfl
  | i :: is, L => (F3 E is (Uu i (E i) L)).trans (Bd i _ L)
theorem Le {E : Nat → Jp} (hs : ∀ i e, e ∈ E i → e.1 = i → e.2 ≤ 0) : ∀ (is : List Nat) (L : List Int), (∀ i, i ∈ is → i < L.length) → (∀ j, 0 ≤ nth L j) → Uf E is L = rounds E is L
  | [], _, _, _ => rfl
  | i :: is, L, hi, h0 => by
    have hil := hi i List.mem_cons_self
    show Uf E is (Uu i (E i) L) = rounds E is (Vg E L i)
    rw [LL hil (h0 i) (hs i)]
    exact Le hs is _ (fun k hk => by rw [Bc]; exact hi k (List.mem_cons_of_mem _ hk)) fun j => Int.le_trans (h0 j) (T2 E L i j)
theorem Sn {E : Nat → Jp} : ∀ (is : List Nat) (L : List Int), (∀ i, i ∈ is → i < L.length) → ∀ j, nth L j ≤ nth (Uf E is L) j
  | [], _, _, _ => Int.le_refl _
  | i :: is, L, hi, j => Int.le_trans (Nd (E i) (hi i List.mem_cons_self) j) (Sn is (Uu i (E i) L) (fun k hk => by rw [Bd]; exact hi k (List.mem_cons_of_mem _ hk)) j)
theorem Mg {E : Nat → Jp} {i : Nat} (he : ∃ e, e ∈ E i ∧ e.1 = i ∧ 1 ≤ e.2) : ∀ (is : List Nat) (L : List Int), (∀ i, i ∈ is → i < L.length) → i ∈ is → nth L i + 1 ≤ nth (Uf E is L) i
  | [], _, _, h => by simp at h
  | k :: is, L, hi, h => by
    have hk := hi k List.mem_cons_self
    have hl : ∀ x, x ∈ is → x < (Uu k (E k) L).length := fun x hx => by rw [Bd]; exact hi x (List.mem_cons_of_mem _ hx)
    show _ ≤ nth (Uf E is (Uu k (E k) L)) i
    have h1 := Nd (E k) hk i
    have h2 := Sn (E := E) is (Uu k (E k) L) hl i
    rcases List.mem_cons.1 h with rfl | h
    · have := Sm (E i) hk he
      omega
    have := Mg he is (Uu k (E k) L) hl h
    omega
def Wh (E : Nat → Jp) (n : Nat) : Nat → List Int
  | 0 => List.replicate n 0
  | k + 1 => Uf E (List.range n) (Wh E n k)
theorem Ev (E : Nat → Jp) (n : Nat) : ∀ k, (Wh E n k).length = n
  | 0 => by simp [Wh]
  | k + 1 => by rw [Wh, F3, Ev E n k]
theorem YN {E : Nat → Jp} {n : Nat} (hs : ∀ i e, e ∈ E i → e.1 = i → e.2 ≤ 0) : ∀ k, Wh E n k = after E n k
  | 0 => rfl
  | k + 1 => by
    rw [Wh, after, YN hs k]
    exact Le hs _ _ (fun i hi => by rw [K1]; exact Un hi) fun j => U0 E n j k
theorem ED {E : Nat → Jp} {n : Nat} (hw : ∀ i e, e ∈ E i → e.2 ≤ 1 ∧ e.1 < n ∧ i < n) {k : Nat} {r : Option (List Int)} (h : Re E n n k (true, List.replicate n 0) = some r) :
    (Uf E (List.range n) (Wh E n (n * n + 2)) = Wh E n (n * n + 2) → r = some (Wh E n (n * n + 2))) ∧ (Uf E (List.range n) (Wh E n (n * n + 2)) ≠ Wh E n (n * n + 2) → r = none) := by
  have hw' : ∀ i e, e ∈ E i → e.2 ≤ 1 ∧ e.1 < n := fun i e he => ⟨(hw i e he).1, (hw i e he).2.1⟩
  obtain ⟨h1, h2⟩ := UE hw' k 0 true r (fun e => by cases e) h
  by_cases hself : ∃ i, ∃ e, e ∈ E i ∧ e.1 = i ∧ 1 ≤ e.2
  · obtain ⟨i, e, he, hei, h3⟩ := hself
    have hi : i < n := (hw i e he).2.2
    have hne : Uf E (List.range n) (Wh E n (n * n + 2)) ≠ Wh E n (n * n + 2) := fun heq => by
      have := Mg (E := E) ⟨e, he, hei, h3⟩ (List.range n) (Wh E n (n * n + 2)) (fun k hk => by rw [Ev]; exact Un hk) (List.mem_range.2 hi)
      rw [heq] at this; omega
    refine ⟨fun h => (hne h).elim, fun _ => ?_⟩
    cases r with
    | none => rfl
    | some L =>
      obtain ⟨hr, _⟩ := h1 L rfl
      have h4 := Nb (K1 E n _) hr i hi
      have h5 := (Hc.1 h4).2 e he
      rw [hei] at h5
      omega
  have hs : ∀ i e, e ∈ E i → e.1 = i → e.2 ≤ 0 := fun i e he hei => Classical.byContradiction fun hn => hself ⟨i, e, he, hei, by omega⟩
  rw [YN hs, Le hs _ _ (fun i hi => by rw [K1]; exact Un hi) fun j => U0 E n j _]
  refine ⟨fun hr => ?_, fun hr => ?_⟩
  · cases r with
    | none => exact (h2 rfl hr).elim
    | some L => rw [(h1 L rfl).2]
  cases r with
  | none => rfl
  | some L => exact (hr (h1 L rfl).1).elim
end
section
open Go.Shelf
def Sh.lays156_ren : Go.Shelf.Ren := ⟨fun | 156 => 117 | 165 => 145 | 166 => 146 | 169 => 147 | 240 => 172 | 241 => 173 | 276 => 198 | 277 => 199 | n => n, fun | 31 => 71 | 9 => 9 | 3 => 3 | 4 => 4 | 0 => 0 | 20 => 20 | 72 => 188 | 76 => 165 | 70 => 186 | 37 => 99 | 75 => 164 | 127 => 211 | 164 => 232 | 5 => 5 | 80 => 190 | n => n, fun | n => n⟩
theorem Sh.lays156 : Go.Proofs.Lays.n156 Tryz.prog Sh.lays156_ren := {
  mixed := by kernel_rfl
  f156 := Tryz.func117.trans (congrArg some (by kernel_rfl))
  f165 := Tryz.func145.trans (congrArg some (by kernel_rfl))
  f166 := Tryz.func146.trans (congrArg some (by kernel_rfl))
  f169 := Tryz.func147.trans (congrArg some (by kernel_rfl))
  f240 := Tryz.func172.trans (congrArg some (by kernel_rfl))
  f241 := Tryz.func173.trans (congrArg some (by kernel_rfl))
  f276 := Tryz.func198.trans (congrArg some (by kernel_rfl))
  f277 := Tryz.func199.trans (congrArg some (by kernel_rfl))
  t0 := Tryz.underlying0
  a0 := Tryz.isAgg0
  z0 := Tryz.sizeOf0
  v0 := Tryz.zeroValue0
  t3 := Tryz.underlying3
  a3 := Tryz.isAgg3
  z3 := Tryz.sizeOf3
  v3 := Tryz.zeroValue3
  t4 := Tryz.underlying4
  a4 := Tryz.isAgg4
  z4 := Tryz.sizeOf4
  v4 := Tryz.zeroValue4
  t9 := Tryz.underlying9
  a9 := Tryz.isAgg9
  z9 := Tryz.sizeOf9
  v9 := Tryz.zeroValue9
  t20 := Tryz.underlying20
  a20 := Tryz.isAgg20
  z20 := Tryz.sizeOf20
  v20 := Tryz.zeroValue20
  t31 := Tryz.underlying71
  a31 := Tryz.isAgg71
  z31 := Tryz.sizeOf71
  v31 := Tryz.zeroValue71
  t37 := Tryz.underlying99
  a37 := Tryz.isAgg99
  z37 := Tryz.sizeOf99
  v37 := Tryz.zeroValue99
  t70 := Tryz.underlying186
  a70 := Tryz.isAgg186
  z70 := Tryz.sizeOf186
  v70 := Tryz.zeroValue186
  t72 := Tryz.underlying188
  a72 := Tryz.isAgg188
  z72 := Tryz.sizeOf188
  v72 := Tryz.zeroValue188
  t75 := Tryz.underlying164
  a75 := Tryz.isAgg164
  z75 := Tryz.sizeOf164
  v75 := Tryz.zeroValue164
  t76 := Tryz.underlying165
  a76 := Tryz.isAgg165
  z76 := Tryz.sizeOf165
  v76 := Tryz.zeroValue165
  t127 := Tryz.underlying211
  a127 := Tryz.isAgg211
  z127 := Tryz.sizeOf211
  v127 := Tryz.zeroValue211
  t164 := Tryz.underlying232
  a164 := Tryz.isAgg232
  z164 := Tryz.sizeOf232
  v164 := Tryz.zeroValue232 }
theorem Sh.Builder_Extra_156 : Builder.Extra Tryz.prog Sh.lays156_ren := {
  sizeBuilder := by kernel_rfl
  liesBuilder := by kernel_rfl
  t5 := Tryz.underlying5
  a5 := Tryz.isAgg5
  z5 := Tryz.sizeOf5
  v5 := Tryz.zeroValue5
  infoByte := by kernel_rfl
  cellsByte := by kernel_rfl
  sizeByte := by kernel_rfl
  neB5 := by decide }
open Go.RowKit in
theorem Sh.strings_Join_none (a : Option Addr) (c : Nat) (sep : ByteArray) (w : World) :
    Calls Tryz.prog 117 #[.slice a 0 c, .string sep] w fun e w' => e = .returned (.string ⟨#[]⟩) ∧ w' = w := Any.strings_Join_none Sh.lays156 Sh.Builder_Extra_156 a c sep w
open Go.RowKit in
theorem Sh.strings_Join (bk o c : Nat) (xs : List ByteArray) (sep : ByteArray) (w : World) (hcells : ∀ (j : Nat) x, xs[j]? = some x → w.cell? ⟨bk, o + j, none⟩ = some (.string x)) (hbk : bk < w.heap.size) (hN : xs.length ≤ 140737488355328) (hcap : xs.length ≤ c) (hlen : (Lib.join (xs.map (·.data.toList)) sep.data.toList).length ≤ 140737488355328) :
    Calls Tryz.prog 117 #[.slice (some ⟨bk, o, none⟩) xs.length c, .string sep] w fun e w' => e = .returned (.string ⟨(Lib.join (xs.map (·.data.toList)) sep.data.toList).toArray⟩) ∧ Below w.heap.size w w' := Any.strings_Join Sh.lays156 Sh.Builder_Extra_156 bk o c xs sep w hcells hbk hN hcap hlen
def Sh.lays172_ren : Go.Shelf.Ren := ⟨fun | 172 => 108 | 244 => 133 | 245 => 134 | 247 => 156 | 279 => 157 | 280 => 158 | 281 => 159 | 282 => 160 | 287 => 181 | 316 => 182 | 171 => 82 | 205 => 183 | 321 => 202 | 322 => 203 | 243 => 114 | 246 => 143 | 283 => 168 | 284 => 169 | 285 => 170 | 286 => 171 | 129 => 194 | 317 => 193 | 318 => 195 | 319 => 196 | 320 => 197 | 337 => 209 | 338 => 210 | n => n, fun | 9 => 9 | 3 => 3 | 75 => 164 | 76 => 165 | 4 => 4 | 5 => 5 | 167 => 195 | 37 => 99 | 0 => 0 | 85 => 196 | 2 => 2 | 168 => 198 | 53 => 206 | 175 => 217 | 46 => 216 | 210 => 221 | 127 => 211 | 145 => 244 | 143 => 242 | 21 => 21 | 171 => 205 | 173 => 209 | 212 => 228 | 51 => 229 | 20 => 20 | 213 => 230 | 232 => 255 | 233 => 256 | 80 => 190 | n => n, fun | 15 => 1 | 16 => 2 | 17 => 3 | 18 => 8 | 19 => 9 | n => n⟩
theorem Sh.lays172 : Go.Proofs.Lays.n172 Tryz.prog Sh.lays172_ren := {
  mixed := by kernel_rfl
  f129 := Tryz.func194.trans (congrArg some (by kernel_rfl))
  f171 := Tryz.func82.trans (congrArg some (by kernel_rfl))
  f172 := Tryz.func108.trans (congrArg some (by kernel_rfl))
  f205 := Tryz.func183.trans (congrArg some (by kernel_rfl))
  f243 := Tryz.func114.trans (congrArg some (by kernel_rfl))
  f244 := Tryz.func133.trans (congrArg some (by kernel_rfl))
  f245 := Tryz.func134.trans (congrArg some (by kernel_rfl))
  f246 := Tryz.func143.trans (congrArg some (by kernel_rfl))
  f247 := Tryz.func156.trans (congrArg some (by kernel_rfl))
  f279 := Tryz.func157.trans (congrArg some (by kernel_rfl))
  f280 := Tryz.func158.trans (congrArg some (by kernel_rfl))
  f281 := Tryz.func159.trans (congrArg some (by kernel_rfl))
  f282 := Tryz.func160.trans (congrArg some (by kernel_rfl))
  f283 := Tryz.func168.trans (congrArg some (by kernel_rfl))
  f284 := Tryz.func169.trans (congrArg some (by kernel_rfl))
  f285 := Tryz.func170.trans (congrArg some (by kernel_rfl))
  f286 := Tryz.func171.trans (congrArg some (by kernel_rfl))
  f287 := Tryz.func181.trans (congrArg some (by kernel_rfl))
  f316 := Tryz.func182.trans (congrArg some (by kernel_rfl))
  f317 := Tryz.func193.trans (congrArg some (by kernel_rfl))
  f318 := Tryz.func195.trans (congrArg some (by kernel_rfl))
  f319 := Tryz.func196.trans (congrArg some (by kernel_rfl))
  f320 := Tryz.func197.trans (congrArg some (by kernel_rfl))
  f321 := Tryz.func202.trans (congrArg some (by kernel_rfl))
  f322 := Tryz.func203.trans (congrArg some (by kernel_rfl))
  f337 := Tryz.func209.trans (congrArg some (by kernel_rfl))
  f338 := Tryz.func210.trans (congrArg some (by kernel_rfl))
  t0 := Tryz.underlying0
  a0 := Tryz.isAgg0
  z0 := Tryz.sizeOf0
  v0 := Tryz.zeroValue0
  t2 := Tryz.underlying2
  a2 := Tryz.isAgg2
  z2 := Tryz.sizeOf2
  v2 := Tryz.zeroValue2
  t3 := Tryz.underlying3
  a3 := Tryz.isAgg3
  z3 := Tryz.sizeOf3
  v3 := Tryz.zeroValue3
  t4 := Tryz.underlying4
  a4 := Tryz.isAgg4
  z4 := Tryz.sizeOf4
  v4 := Tryz.zeroValue4
  t5 := Tryz.underlying5
  a5 := Tryz.isAgg5
  z5 := Tryz.sizeOf5
  v5 := Tryz.zeroValue5
  t9 := Tryz.underlying9
  a9 := Tryz.isAgg9
  z9 := Tryz.sizeOf9
  v9 := Tryz.zeroValue9
  t20 := Tryz.underlying20
  a20 := Tryz.isAgg20
  z20 := Tryz.sizeOf20
  v20 := Tryz.zeroValue20
  t21 := Tryz.underlying21
  a21 := Tryz.isAgg21
  z21 := Tryz.sizeOf21
  v21 := Tryz.zeroValue21
  t37 := Tryz.underlying99
  a37 := Tryz.isAgg99
  z37 := Tryz.sizeOf99
  v37 := Tryz.zeroValue99
  t46 := Tryz.underlying216
  a46 := Tryz.isAgg216
  z46 := Tryz.sizeOf216
  v46 := Tryz.zeroValue216
  t51 := Tryz.underlying229
  a51 := Tryz.isAgg229
  z51 := Tryz.sizeOf229
  v51 := Tryz.zeroValue229
  t53 := Tryz.underlying206
  a53 := Tryz.isAgg206
  z53 := Tryz.sizeOf206
  v53 := Tryz.zeroValue206
  t75 := Tryz.underlying164
  a75 := Tryz.isAgg164
  z75 := Tryz.sizeOf164
  v75 := Tryz.zeroValue164
  t76 := Tryz.underlying165
  a76 := Tryz.isAgg165
  z76 := Tryz.sizeOf165
  v76 := Tryz.zeroValue165
  t85 := Tryz.underlying196
  a85 := Tryz.isAgg196
  z85 := Tryz.sizeOf196
  v85 := Tryz.zeroValue196
  t127 := Tryz.underlying211
  a127 := Tryz.isAgg211
  z127 := Tryz.sizeOf211
  v127 := Tryz.zeroValue211
  t143 := Tryz.underlying242
  a143 := Tryz.isAgg242
  z143 := Tryz.sizeOf242
  v143 := Tryz.zeroValue242
  t145 := Tryz.underlying244
  a145 := Tryz.isAgg244
  z145 := Tryz.sizeOf244
  v145 := Tryz.zeroValue244
  t167 := Tryz.underlying195
  a167 := Tryz.isAgg195
  z167 := Tryz.sizeOf195
  v167 := Tryz.zeroValue195
  t168 := Tryz.underlying198
  a168 := Tryz.isAgg198
  z168 := Tryz.sizeOf198
  v168 := Tryz.zeroValue198
  t171 := Tryz.underlying205
  a171 := Tryz.isAgg205
  z171 := Tryz.sizeOf205
  v171 := Tryz.zeroValue205
  t173 := Tryz.underlying209
  a173 := Tryz.isAgg209
  z173 := Tryz.sizeOf209
  v173 := Tryz.zeroValue209
  t175 := Tryz.underlying217
  a175 := Tryz.isAgg217
  z175 := Tryz.sizeOf217
  v175 := Tryz.zeroValue217
  t210 := Tryz.underlying221
  a210 := Tryz.isAgg221
  z210 := Tryz.sizeOf221
  v210 := Tryz.zeroValue221
  t212 := Tryz.underlying228
  a212 := Tryz.isAgg228
  z212 := Tryz.sizeOf228
  v212 := Tryz.zeroValue228
  t213 := Tryz.underlying230
  a213 := Tryz.isAgg230
  z213 := Tryz.sizeOf230
  t232 := Tryz.underlying255
  a232 := Tryz.isAgg255
  z232 := Tryz.sizeOf255
  v232 := Tryz.zeroValue255
  t233 := Tryz.underlying256
  a233 := Tryz.isAgg256
  z233 := Tryz.sizeOf256
  v233 := Tryz.zeroValue256
  g15 := by kernel_rfl
  g16 := by kernel_rfl
  g17 := by kernel_rfl
  g18 := by kernel_rfl
  g19 := by kernel_rfl }
open Go.RowKit in
theorem Sh.strconv_Atoi (s : ByteArray) (n : Int) (hl : s.size ≤ 18) (h : Lib.atoi s.data.toList = some n) (w : World) :
    Calls Tryz.prog 108 #[.string s] w fun e w' => e = .returned (.tuple #[.int .i64 n, .nilIface]) ∧ ∃ t, w' = Lib.bytesWorld w 5 t := Any.strconv_Atoi Sh.lays172 s n hl h w
def Sh.laysM171_ren : Go.Shelf.Ren := ⟨fun | 171 => 82 | 243 => 114 | 246 => 143 | 283 => 168 | 284 => 169 | 285 => 170 | 286 => 171 | 129 => 194 | 317 => 193 | 318 => 195 | 319 => 196 | 320 => 197 | 337 => 209 | 338 => 210 | n => n, fun | 3 => 3 | 9 => 9 | 2 => 2 | 4 => 4 | 171 => 205 | 0 => 0 | 53 => 206 | 37 => 99 | 5 => 5 | 173 => 209 | 212 => 228 | 51 => 229 | 20 => 20 | 213 => 230 | 46 => 216 | 232 => 255 | 233 => 256 | n => n, fun | 17 => 3 | 18 => 8 | 19 => 9 | n => n⟩
theorem Sh.laysM171 : Go.Proofs.LaysM.n171 Tryz.prog Sh.laysM171_ren := {
  mixed := by kernel_rfl
  f129 := Tryz.func194.trans (congrArg some (by kernel_rfl))
  f171 := Tryz.func82.trans (congrArg some (by kernel_rfl))
  f243 := Tryz.func114.trans (congrArg some (by kernel_rfl))
  f246 := Tryz.func143.trans (congrArg some (by kernel_rfl))
  f283 := Tryz.func168.trans (congrArg some (by kernel_rfl))
  f284 := Tryz.func169.trans (congrArg some (by kernel_rfl))
  f285 := Tryz.func170.trans (congrArg some (by kernel_rfl))
  f286 := Tryz.func171.trans (congrArg some (by kernel_rfl))
  f317 := Tryz.func193.trans (congrArg some (by kernel_rfl))
  f318 := Tryz.func195.trans (congrArg some (by kernel_rfl))
  f319 := Tryz.func196.trans (congrArg some (by kernel_rfl))
  f320 := Tryz.func197.trans (congrArg some (by kernel_rfl))
  f337 := Tryz.func209.trans (congrArg some (by kernel_rfl))
  f338 := Tryz.func210.trans (congrArg some (by kernel_rfl))
  t0 := Tryz.underlying0
  a0 := Tryz.isAgg0
  z0 := Tryz.sizeOf0
  v0 := Tryz.zeroValue0
  t2 := Tryz.underlying2
  a2 := Tryz.isAgg2
  z2 := Tryz.sizeOf2
  v2 := Tryz.zeroValue2
  t3 := Tryz.underlying3
  a3 := Tryz.isAgg3
  z3 := Tryz.sizeOf3
  v3 := Tryz.zeroValue3
  t4 := Tryz.underlying4
  a4 := Tryz.isAgg4
  z4 := Tryz.sizeOf4
  v4 := Tryz.zeroValue4
  t5 := Tryz.underlying5
  a5 := Tryz.isAgg5
  z5 := Tryz.sizeOf5
  v5 := Tryz.zeroValue5
  t9 := Tryz.underlying9
  a9 := Tryz.isAgg9
  z9 := Tryz.sizeOf9
  v9 := Tryz.zeroValue9
  t20 := Tryz.underlying20
  a20 := Tryz.isAgg20
  z20 := Tryz.sizeOf20
  v20 := Tryz.zeroValue20
  t37 := Tryz.underlying99
  a37 := Tryz.isAgg99
  z37 := Tryz.sizeOf99
  v37 := Tryz.zeroValue99
  t46 := Tryz.underlying216
  a46 := Tryz.isAgg216
  z46 := Tryz.sizeOf216
  v46 := Tryz.zeroValue216
  t51 := Tryz.underlying229
  a51 := Tryz.isAgg229
  z51 := Tryz.sizeOf229
  v51 := Tryz.zeroValue229
  t53 := Tryz.underlying206
  a53 := Tryz.isAgg206
  z53 := Tryz.sizeOf206
  v53 := Tryz.zeroValue206
  t171 := Tryz.underlying205
  a171 := Tryz.isAgg205
  z171 := Tryz.sizeOf205
  v171 := Tryz.zeroValue205
  t173 := Tryz.underlying209
  a173 := Tryz.isAgg209
  z173 := Tryz.sizeOf209
  v173 := Tryz.zeroValue209
  t212 := Tryz.underlying228
  a212 := Tryz.isAgg228
  z212 := Tryz.sizeOf228
  v212 := Tryz.zeroValue228
  t213 := Tryz.underlying230
  a213 := Tryz.isAgg230
  z213 := Tryz.sizeOf230
  t232 := Tryz.underlying255
  a232 := Tryz.isAgg255
  z232 := Tryz.sizeOf255
  v232 := Tryz.zeroValue255
  t233 := Tryz.underlying256
  a233 := Tryz.isAgg256
  z233 := Tryz.sizeOf256
  v233 := Tryz.zeroValue256
  g17 := by kernel_rfl
  g18 := by kernel_rfl
  g19 := by kernel_rfl
  i0 := by kernel_rfl
  i2 := by kernel_rfl
  i3 := by kernel_rfl
  i4 := by kernel_rfl
  i5 := by kernel_rfl
  i9 := by kernel_rfl
  i20 := by kernel_rfl
  i37 := by kernel_rfl
  i46 := by kernel_rfl
  i51 := by kernel_rfl
  i53 := by kernel_rfl
  i171 := by kernel_rfl
  i173 := by kernel_rfl
  i212 := by kernel_rfl
  i232 := by kernel_rfl
  i233 := by kernel_rfl
  m17 := by kernel_rfl
  m18 := by kernel_rfl
  m19 := by kernel_rfl }
open Go.RowKit Go.Sort Go.Lib in
theorem Sh.strconv_Itoa (n : Int) (h0 : -9223372036854775808 ≤ n) (h1 : n ≤ 9223372036854775807) (w : World) (htab : Lib.TabIs Tryz.prog w "internal/strconv.uint64pow10" .u64 Lib.pow10Tab) :
    Calls Tryz.prog 82 #[.int .i64 n] w fun e w' => e = .returned (.string ⟨(Lib.itoa n).toArray⟩) ∧ ∃ k os, w' = grow (w.drewN k) os := Any.strconv_Itoa Sh.laysM171 n h0 h1 w htab
def Sh.laysC172_ren : Go.Shelf.Ren := ⟨fun | 172 => 108 | 244 => 133 | 245 => 134 | 247 => 156 | 279 => 157 | 280 => 158 | 281 => 159 | 282 => 160 | 287 => 181 | 316 => 182 | 171 => 82 | 205 => 183 | 321 => 202 | 322 => 203 | 243 => 114 | 246 => 143 | 283 => 168 | 284 => 169 | 285 => 170 | 286 => 171 | 129 => 194 | 317 => 193 | 318 => 195 | 319 => 196 | 320 => 197 | 337 => 209 | 338 => 210 | n => n, fun | 9 => 9 | 3 => 3 | 75 => 164 | 76 => 165 | 4 => 4 | 5 => 5 | 167 => 195 | 37 => 99 | 0 => 0 | 85 => 196 | 2 => 2 | 168 => 198 | 53 => 206 | 175 => 217 | 46 => 216 | 210 => 221 | 127 => 211 | 145 => 244 | 143 => 242 | 21 => 21 | 171 => 205 | 173 => 209 | 212 => 228 | 51 => 229 | 20 => 20 | 213 => 230 | 232 => 255 | 233 => 256 | 80 => 190 | n => n, fun | 15 => 1 | 16 => 2 | 17 => 3 | 18 => 8 | 19 => 9 | n => n⟩
theorem Sh.laysC172 : Go.Proofs.LaysC.n172 Tryz.prog Sh.laysC172_ren := {
  mixed := by kernel_rfl
  f129 := Tryz.func194.trans (congrArg some (by kernel_rfl))
  f171 := Tryz.func82.trans (congrArg some (by kernel_rfl))
  f172 := Tryz.func108.trans (congrArg some (by kernel_rfl))
  f205 := Tryz.func183.trans (congrArg some (by kernel_rfl))
  f243 := Tryz.func114.trans (congrArg some (by kernel_rfl))
  f244 := Tryz.func133.trans (congrArg some (by kernel_rfl))
  f245 := Tryz.func134.trans (congrArg some (by kernel_rfl))
  f246 := Tryz.func143.trans (congrArg some (by kernel_rfl))
  f247 := Tryz.func156.trans (congrArg some (by kernel_rfl))
  f279 := Tryz.func157.trans (congrArg some (by kernel_rfl))
  f280 := Tryz.func158.trans (congrArg some (by kernel_rfl))
  f281 := Tryz.func159.trans (congrArg some (by kernel_rfl))
  f282 := Tryz.func160.trans (congrArg some (by kernel_rfl))
  f283 := Tryz.func168.trans (congrArg some (by kernel_rfl))
  f284 := Tryz.func169.trans (congrArg some (by kernel_rfl))
  f285 := Tryz.func170.trans (congrArg some (by kernel_rfl))
  f286 := Tryz.func171.trans (congrArg some (by kernel_rfl))
  f287 := Tryz.func181.trans (congrArg some (by kernel_rfl))
  f316 := Tryz.func182.trans (congrArg some (by kernel_rfl))
  f317 := Tryz.func193.trans (congrArg some (by kernel_rfl))
  f318 := Tryz.func195.trans (congrArg some (by kernel_rfl))
  f319 := Tryz.func196.trans (congrArg some (by kernel_rfl))
  f320 := Tryz.func197.trans (congrArg some (by kernel_rfl))
  f321 := Tryz.func202.trans (congrArg some (by kernel_rfl))
  f322 := Tryz.func203.trans (congrArg some (by kernel_rfl))
  f337 := Tryz.func209.trans (congrArg some (by kernel_rfl))
  f338 := Tryz.func210.trans (congrArg some (by kernel_rfl))
  t0 := Tryz.underlying0
  a0 := Tryz.isAgg0
  z0 := Tryz.sizeOf0
  v0 := Tryz.zeroValue0
  t2 := Tryz.underlying2
  a2 := Tryz.isAgg2
  z2 := Tryz.sizeOf2
  v2 := Tryz.zeroValue2
  t3 := Tryz.underlying3
  a3 := Tryz.isAgg3
  z3 := Tryz.sizeOf3
  v3 := Tryz.zeroValue3
  t4 := Tryz.underlying4
  a4 := Tryz.isAgg4
  z4 := Tryz.sizeOf4
  v4 := Tryz.zeroValue4
  t5 := Tryz.underlying5
  a5 := Tryz.isAgg5
  z5 := Tryz.sizeOf5
  v5 := Tryz.zeroValue5
  t9 := Tryz.underlying9
  a9 := Tryz.isAgg9
  z9 := Tryz.sizeOf9
  v9 := Tryz.zeroValue9
  t20 := Tryz.underlying20
  a20 := Tryz.isAgg20
  z20 := Tryz.sizeOf20
  v20 := Tryz.zeroValue20
  t21 := Tryz.underlying21
  a21 := Tryz.isAgg21
  z21 := Tryz.sizeOf21
  v21 := Tryz.zeroValue21
  t37 := Tryz.underlying99
  a37 := Tryz.isAgg99
  z37 := Tryz.sizeOf99
  v37 := Tryz.zeroValue99
  t46 := Tryz.underlying216
  a46 := Tryz.isAgg216
  z46 := Tryz.sizeOf216
  v46 := Tryz.zeroValue216
  t51 := Tryz.underlying229
  a51 := Tryz.isAgg229
  z51 := Tryz.sizeOf229
  v51 := Tryz.zeroValue229
  t53 := Tryz.underlying206
  a53 := Tryz.isAgg206
  z53 := Tryz.sizeOf206
  v53 := Tryz.zeroValue206
  t75 := Tryz.underlying164
  a75 := Tryz.isAgg164
  z75 := Tryz.sizeOf164
  v75 := Tryz.zeroValue164
  t76 := Tryz.underlying165
  a76 := Tryz.isAgg165
  z76 := Tryz.sizeOf165
  v76 := Tryz.zeroValue165
  t85 := Tryz.underlying196
  a85 := Tryz.isAgg196
  z85 := Tryz.sizeOf196
  v85 := Tryz.zeroValue196
  t127 := Tryz.underlying211
  a127 := Tryz.isAgg211
  z127 := Tryz.sizeOf211
  v127 := Tryz.zeroValue211
  t143 := Tryz.underlying242
  a143 := Tryz.isAgg242
  z143 := Tryz.sizeOf242
  v143 := Tryz.zeroValue242
  t145 := Tryz.underlying244
  a145 := Tryz.isAgg244
  z145 := Tryz.sizeOf244
  v145 := Tryz.zeroValue244
  t167 := Tryz.underlying195
  a167 := Tryz.isAgg195
  z167 := Tryz.sizeOf195
  v167 := Tryz.zeroValue195
  t168 := Tryz.underlying198
  a168 := Tryz.isAgg198
  z168 := Tryz.sizeOf198
  v168 := Tryz.zeroValue198
  t171 := Tryz.underlying205
  a171 := Tryz.isAgg205
  z171 := Tryz.sizeOf205
  v171 := Tryz.zeroValue205
  t173 := Tryz.underlying209
  a173 := Tryz.isAgg209
  z173 := Tryz.sizeOf209
  v173 := Tryz.zeroValue209
  t175 := Tryz.underlying217
  a175 := Tryz.isAgg217
  z175 := Tryz.sizeOf217
  v175 := Tryz.zeroValue217
  t210 := Tryz.underlying221
  a210 := Tryz.isAgg221
  z210 := Tryz.sizeOf221
  v210 := Tryz.zeroValue221
  t212 := Tryz.underlying228
  a212 := Tryz.isAgg228
  z212 := Tryz.sizeOf228
  v212 := Tryz.zeroValue228
  t213 := Tryz.underlying230
  a213 := Tryz.isAgg230
  z213 := Tryz.sizeOf230
  t232 := Tryz.underlying255
  a232 := Tryz.isAgg255
  z232 := Tryz.sizeOf255
  v232 := Tryz.zeroValue255
  t233 := Tryz.underlying256
  a233 := Tryz.isAgg256
  z233 := Tryz.sizeOf256
  v233 := Tryz.zeroValue256
  g15 := by kernel_rfl
  g16 := by kernel_rfl
  g17 := by kernel_rfl
  g18 := by kernel_rfl
  g19 := by kernel_rfl
  t80 := Tryz.underlying190
  a80 := Tryz.isAgg190
  z80 := Tryz.sizeOf190
  v80 := Tryz.zeroValue190
  i0 := by kernel_rfl
  i2 := by kernel_rfl
  i3 := by kernel_rfl
  i4 := by kernel_rfl
  i5 := by kernel_rfl
  i9 := by kernel_rfl
  i20 := by kernel_rfl
  i21 := by kernel_rfl
  i37 := by kernel_rfl
  i46 := by kernel_rfl
  i51 := by kernel_rfl
  i53 := by kernel_rfl
  i75 := by kernel_rfl
  i76 := by kernel_rfl
  i80 := by kernel_rfl
  i85 := by kernel_rfl
  i127 := by kernel_rfl
  i143 := by kernel_rfl
  i145 := by kernel_rfl
  i167 := by kernel_rfl
  i168 := by kernel_rfl
  i171 := by kernel_rfl
  i173 := by kernel_rfl
  i175 := by kernel_rfl
  i210 := by kernel_rfl
  i212 := by kernel_rfl
  i232 := by kernel_rfl
  i233 := by kernel_rfl
  m15 := by kernel_rfl
  m16 := by kernel_rfl
  m17 := by kernel_rfl
  m18 := by kernel_rfl
  m19 := by kernel_rfl
  c0 := by kernel_rfl
  c2 := by kernel_rfl
  c3 := by kernel_rfl
  c4 := by kernel_rfl
  c5 := by kernel_rfl
  c9 := by kernel_rfl
  c20 := by kernel_rfl
  c21 := by kernel_rfl
  c37 := by kernel_rfl
  c46 := by kernel_rfl
  c51 := by kernel_rfl
  c53 := by kernel_rfl
  c75 := by kernel_rfl
  c76 := by kernel_rfl
  c80 := by kernel_rfl
  c85 := by kernel_rfl
  c127 := by kernel_rfl
  c143 := by kernel_rfl
  c145 := by kernel_rfl
  c167 := by kernel_rfl
  c168 := by kernel_rfl
  c171 := by kernel_rfl
  c173 := by kernel_rfl
  c175 := by kernel_rfl
  c210 := by kernel_rfl
  c212 := by kernel_rfl
  c213 := by kernel_rfl
  c232 := by kernel_rfl
  c233 := by kernel_rfl }
open Go.RowKit in
theorem Sh.strconv_Atoi_err_var (s : ByteArray) (hl : s.size ≤ 18) (h : Lib.atoi s.data.toList = none) (tp : TypeId) (p : Value) (w : World) (hvar : w.var? Tryz.prog "strconv.ErrSyntax" = some #[.iface tp p]) :
    Calls Tryz.prog 108 #[.string s] w fun e w' => ∃ N, e = .returned (.tuple #[.int .i64 0, .iface 198 (.pointer (some ⟨N, 0, none⟩))]) ∧ w.heap.size ≤ N ∧ w'.heap[N]? = some (.cells #[.string ⟨#[65, 116, 111, 105]⟩, .string s, .iface tp p] 221 (0, 0)) ∧ Below w.heap.size w w' := Any.strconv_Atoi_err_var Sh.laysC172 s hl h tp p w hvar
def Sh.lays190_ren : Go.Shelf.Ren := ⟨fun | 190 => 207 | 125 => 213 | 258 => 212 | 128 => 225 | 129 => 194 | 302 => 216 | 303 => 217 | 304 => 218 | 305 => 219 | 306 => 220 | 307 => 221 | 308 => 222 | 309 => 223 | 310 => 224 | 333 => 226 | 329 => 227 | 330 => 228 | 334 => 229 | 335 => 230 | 336 => 231 | 344 => 232 | n => n, fun | 31 => 71 | 9 => 9 | 3 => 3 | 46 => 216 | 0 => 0 | 51 => 229 | 53 => 206 | 4 => 4 | 183 => 270 | 182 => 269 | 131 => 92 | 5 => 5 | 218 => 278 | 222 => 282 | 228 => 284 | 229 => 285 | n => n, fun | n => n⟩
theorem Sh.lays190 : Go.Proofs.Lays.n190 Tryz.prog Sh.lays190_ren := {
  mixed := by kernel_rfl
  f125 := Tryz.func213.trans (congrArg some (by kernel_rfl))
  f128 := Tryz.func225.trans (congrArg some (by kernel_rfl))
  f129 := Tryz.func194.trans (congrArg some (by kernel_rfl))
  f190 := Tryz.func207.trans (congrArg some (by kernel_rfl))
  f258 := Tryz.func212.trans (congrArg some (by kernel_rfl))
  f302 := Tryz.func216.trans (congrArg some (by kernel_rfl))
  f303 := Tryz.func217.trans (congrArg some (by kernel_rfl))
  f304 := Tryz.func218.trans (congrArg some (by kernel_rfl))
  f305 := Tryz.func219.trans (congrArg some (by kernel_rfl))
  f306 := Tryz.func220.trans (congrArg some (by kernel_rfl))
  f307 := Tryz.func221.trans (congrArg some (by kernel_rfl))
  f308 := Tryz.func222.trans (congrArg some (by kernel_rfl))
  f309 := Tryz.func223.trans (congrArg some (by kernel_rfl))
  f310 := Tryz.func224.trans (congrArg some (by kernel_rfl))
  f329 := Tryz.func227.trans (congrArg some (by kernel_rfl))
  f330 := Tryz.func228.trans (congrArg some (by kernel_rfl))
  f333 := Tryz.func226.trans (congrArg some (by kernel_rfl))
  f334 := Tryz.func229.trans (congrArg some (by kernel_rfl))
  f335 := Tryz.func230.trans (congrArg some (by kernel_rfl))
  f336 := Tryz.func231.trans (congrArg some (by kernel_rfl))
  f344 := Tryz.func232.trans (congrArg some (by kernel_rfl))
  t0 := Tryz.underlying0
  a0 := Tryz.isAgg0
  z0 := Tryz.sizeOf0
  v0 := Tryz.zeroValue0
  t3 := Tryz.underlying3
  a3 := Tryz.isAgg3
  z3 := Tryz.sizeOf3
  v3 := Tryz.zeroValue3
  t4 := Tryz.underlying4
  a4 := Tryz.isAgg4
  z4 := Tryz.sizeOf4
  v4 := Tryz.zeroValue4
  t5 := Tryz.underlying5
  a5 := Tryz.isAgg5
  z5 := Tryz.sizeOf5
  v5 := Tryz.zeroValue5
  t9 := Tryz.underlying9
  a9 := Tryz.isAgg9
  z9 := Tryz.sizeOf9
  v9 := Tryz.zeroValue9
  t31 := Tryz.underlying71
  a31 := Tryz.isAgg71
  z31 := Tryz.sizeOf71
  v31 := Tryz.zeroValue71
  t46 := Tryz.underlying216
  a46 := Tryz.isAgg216
  z46 := Tryz.sizeOf216
  v46 := Tryz.zeroValue216
  t51 := Tryz.underlying229
  a51 := Tryz.isAgg229
  z51 := Tryz.sizeOf229
  v51 := Tryz.zeroValue229
  t53 := Tryz.underlying206
  a53 := Tryz.isAgg206
  z53 := Tryz.sizeOf206
  v53 := Tryz.zeroValue206
  t131 := Tryz.underlying92
  a131 := Tryz.isAgg92
  z131 := Tryz.sizeOf92
  v131 := Tryz.zeroValue92
  t182 := Tryz.underlying269
  a182 := Tryz.isAgg269
  z182 := Tryz.sizeOf269
  v182 := Tryz.zeroValue269
  t183 := Tryz.underlying270
  a183 := Tryz.isAgg270
  z183 := Tryz.sizeOf270
  v183 := Tryz.zeroValue270
  t218 := Tryz.underlying278
  a218 := Tryz.isAgg278
  z218 := Tryz.sizeOf278
  v218 := Tryz.zeroValue278
  t222 := Tryz.underlying282
  a222 := Tryz.isAgg282
  z222 := Tryz.sizeOf282
  v222 := Tryz.zeroValue282
  t228 := Tryz.underlying284
  a228 := Tryz.isAgg284
  z228 := Tryz.sizeOf284
  v228 := Tryz.zeroValue284
  t229 := Tryz.underlying285
  a229 := Tryz.isAgg285
  z229 := Tryz.sizeOf285
  v229 := Tryz.zeroValue285 }
open Go.Sort Go.RowKit in
theorem Sh.slices_Sort_string (blk off cap : Nat) (ss : List (List UInt8)) (w : World) (hH : Holds encStr w blk off ss.toArray) (hblk : blk < w.heap.size) (hsz : ss.length < 4611686018427387904) :
    Calls Tryz.prog 207 #[.slice (some ⟨blk, off, none⟩) ss.length cap] w fun e w' =>
      e = .returned (.tuple #[]) ∧ ∃ n os, w' = grow (putRow encStr (Sort.ahead w n) blk off (ss.mergeSort fun x y => decide (x ≤ y)).toArray) os := Any.slices_Sort_string Sh.lays190 blk off cap ss w hH hblk hsz
def Sh.lays146_ren : Go.Shelf.Ren := ⟨fun | 146 => 77 | 221 => 107 | 268 => 130 | 138 => 131 | 143 => 132 | 195 => 152 | 197 => 153 | 218 => 154 | 219 => 155 | 260 => 176 | 217 => 177 | 225 => 178 | 224 => 179 | 267 => 180 | 266 => 200 | 314 => 201 | n => n, fun | 9 => 9 | 31 => 71 | 3 => 3 | 4 => 4 | 0 => 0 | 105 => 192 | 21 => 21 | 5 => 5 | 46 => 216 | 119 => 235 | 139 => 238 | 138 => 237 | 146 => 239 | 51 => 229 | n => n, fun | 1 => 0 | 3 => 4 | 4 => 5 | n => n⟩
theorem Sh.lays146 : Go.Proofs.Lays.n146 Tryz.prog Sh.lays146_ren := {
  mixed := by kernel_rfl
  f138 := Tryz.func131.trans (congrArg some (by kernel_rfl))
  f143 := Tryz.func132.trans (congrArg some (by kernel_rfl))
  f146 := Tryz.func77.trans (congrArg some (by kernel_rfl))
  f195 := Tryz.func152.trans (congrArg some (by kernel_rfl))
  f197 := Tryz.func153.trans (congrArg some (by kernel_rfl))
  f217 := Tryz.func177.trans (congrArg some (by kernel_rfl))
  f218 := Tryz.func154.trans (congrArg some (by kernel_rfl))
  f219 := Tryz.func155.trans (congrArg some (by kernel_rfl))
  f221 := Tryz.func107.trans (congrArg some (by kernel_rfl))
  f224 := Tryz.func179.trans (congrArg some (by kernel_rfl))
  f225 := Tryz.func178.trans (congrArg some (by kernel_rfl))
  f260 := Tryz.func176.trans (congrArg some (by kernel_rfl))
  f266 := Tryz.func200.trans (congrArg some (by kernel_rfl))
  f267 := Tryz.func180.trans (congrArg some (by kernel_rfl))
  f268 := Tryz.func130.trans (congrArg some (by kernel_rfl))
  f314 := Tryz.func201.trans (congrArg some (by kernel_rfl))
  t0 := Tryz.underlying0
  a0 := Tryz.isAgg0
  z0 := Tryz.sizeOf0
  v0 := Tryz.zeroValue0
  t3 := Tryz.underlying3
  a3 := Tryz.isAgg3
  z3 := Tryz.sizeOf3
  v3 := Tryz.zeroValue3
  t4 := Tryz.underlying4
  a4 := Tryz.isAgg4
  z4 := Tryz.sizeOf4
  v4 := Tryz.zeroValue4
  t5 := Tryz.underlying5
  a5 := Tryz.isAgg5
  z5 := Tryz.sizeOf5
  v5 := Tryz.zeroValue5
  t9 := Tryz.underlying9
  a9 := Tryz.isAgg9
  z9 := Tryz.sizeOf9
  v9 := Tryz.zeroValue9
  t21 := Tryz.underlying21
  a21 := Tryz.isAgg21
  z21 := Tryz.sizeOf21
  v21 := Tryz.zeroValue21
  t31 := Tryz.underlying71
  a31 := Tryz.isAgg71
  z31 := Tryz.sizeOf71
  v31 := Tryz.zeroValue71
  t46 := Tryz.underlying216
  a46 := Tryz.isAgg216
  z46 := Tryz.sizeOf216
  v46 := Tryz.zeroValue216
  t51 := Tryz.underlying229
  a51 := Tryz.isAgg229
  z51 := Tryz.sizeOf229
  v51 := Tryz.zeroValue229
  t105 := Tryz.underlying192
  a105 := Tryz.isAgg192
  z105 := Tryz.sizeOf192
  v105 := Tryz.zeroValue192
  t119 := Tryz.underlying235
  a119 := Tryz.isAgg235
  z119 := Tryz.sizeOf235
  t138 := Tryz.underlying237
  a138 := Tryz.isAgg237
  z138 := Tryz.sizeOf237
  v138 := Tryz.zeroValue237
  t139 := Tryz.underlying238
  a139 := Tryz.isAgg238
  z139 := Tryz.sizeOf238
  v139 := Tryz.zeroValue238
  t146 := Tryz.underlying239
  a146 := Tryz.isAgg239
  z146 := Tryz.sizeOf239
  v146 := Tryz.zeroValue239
  g1 := by kernel_rfl
  g3 := by kernel_rfl
  g4 := by kernel_rfl }
open Go.RowKit Go.Lib in
theorem Sh.strings_Split (s sep : ByteArray) (m : Int) (w : World) (hs : s.size < 4294967281) (hm : w.cell? ⟨0, 0, none⟩ = some (.int .i64 m)) (h1 : 1 ≤ sep.size) :
    Calls Tryz.prog 77 #[.string s, .string sep] w fun e w' =>
      e = .returned (.slice (some ⟨w.heap.size, 0, none⟩) (Lib.countB s sep + 1) (Lib.countB s sep + 1)) ∧ w' = w.alloc (.cells ((Lib.splitB sep 0 (Lib.countB s sep) s).map Value.string).toArray 9) := Any.strings_Split Sh.lays146 (by kernel_rfl) s sep m w hs hm h1
def Sh.lays157_ren : Go.Shelf.Ren := ⟨fun | 157 => 186 | 229 => 204 | 199 => 205 | 261 => 211 | 311 => 214 | 312 => 215 | n => n, fun | 9 => 9 | 31 => 71 | 3 => 3 | 5 => 5 | 4 => 4 | 119 => 235 | 0 => 0 | 40 => 246 | 152 => 249 | 21 => 21 | 154 => 251 | 51 => 229 | 141 => 253 | 196 => 260 | 193 => 257 | 198 => 263 | 49 => 261 | 194 => 258 | 201 => 266 | 226 => 276 | 46 => 216 | 227 => 277 | n => n, fun | 0 => 6 | 6 => 7 | n => n⟩
theorem Sh.lays157 : Go.Proofs.Lays.n157 Tryz.prog Sh.lays157_ren := {
  mixed := by kernel_rfl
  f157 := Tryz.func186.trans (congrArg some (by kernel_rfl))
  f199 := Tryz.func205.trans (congrArg some (by kernel_rfl))
  f229 := Tryz.func204.trans (congrArg some (by kernel_rfl))
  f261 := Tryz.func211.trans (congrArg some (by kernel_rfl))
  f311 := Tryz.func214.trans (congrArg some (by kernel_rfl))
  f312 := Tryz.func215.trans (congrArg some (by kernel_rfl))
  t0 := Tryz.underlying0
  a0 := Tryz.isAgg0
  z0 := Tryz.sizeOf0
  v0 := Tryz.zeroValue0
  t3 := Tryz.underlying3
  a3 := Tryz.isAgg3
  z3 := Tryz.sizeOf3
  v3 := Tryz.zeroValue3
  t4 := Tryz.underlying4
  a4 := Tryz.isAgg4
  z4 := Tryz.sizeOf4
  v4 := Tryz.zeroValue4
  t5 := Tryz.underlying5
  a5 := Tryz.isAgg5
  z5 := Tryz.sizeOf5
  v5 := Tryz.zeroValue5
  t9 := Tryz.underlying9
  a9 := Tryz.isAgg9
  z9 := Tryz.sizeOf9
  v9 := Tryz.zeroValue9
  t21 := Tryz.underlying21
  a21 := Tryz.isAgg21
  z21 := Tryz.sizeOf21
  v21 := Tryz.zeroValue21
  t31 := Tryz.underlying71
  a31 := Tryz.isAgg71
  z31 := Tryz.sizeOf71
  v31 := Tryz.zeroValue71
  t40 := Tryz.underlying246
  a40 := Tryz.isAgg246
  z40 := Tryz.sizeOf246
  v40 := Tryz.zeroValue246
  t46 := Tryz.underlying216
  a46 := Tryz.isAgg216
  z46 := Tryz.sizeOf216
  v46 := Tryz.zeroValue216
  t49 := Tryz.underlying261
  a49 := Tryz.isAgg261
  z49 := Tryz.sizeOf261
  v49 := Tryz.zeroValue261
  t51 := Tryz.underlying229
  a51 := Tryz.isAgg229
  z51 := Tryz.sizeOf229
  v51 := Tryz.zeroValue229
  t119 := Tryz.underlying235
  a119 := Tryz.isAgg235
  z119 := Tryz.sizeOf235
  t141 := Tryz.underlying253
  a141 := Tryz.isAgg253
  z141 := Tryz.sizeOf253
  v141 := Tryz.zeroValue253
  t152 := Tryz.underlying249
  a152 := Tryz.isAgg249
  z152 := Tryz.sizeOf249
  v152 := Tryz.zeroValue249
  t154 := Tryz.underlying251
  a154 := Tryz.isAgg251
  z154 := Tryz.sizeOf251
  v154 := Tryz.zeroValue251
  t193 := Tryz.underlying257
  a193 := Tryz.isAgg257
  z193 := Tryz.sizeOf257
  v193 := Tryz.zeroValue257
  t194 := Tryz.underlying258
  a194 := Tryz.isAgg258
  z194 := Tryz.sizeOf258
  v194 := Tryz.zeroValue258
  t196 := Tryz.underlying260
  a196 := Tryz.isAgg260
  z196 := Tryz.sizeOf260
  v196 := Tryz.zeroValue260
  t198 := Tryz.underlying263
  a198 := Tryz.isAgg263
  z198 := Tryz.sizeOf263
  v198 := Tryz.zeroValue263
  t201 := Tryz.underlying266
  a201 := Tryz.isAgg266
  z201 := Tryz.sizeOf266
  v201 := Tryz.zeroValue266
  t226 := Tryz.underlying276
  a226 := Tryz.isAgg276
  z226 := Tryz.sizeOf276
  v226 := Tryz.zeroValue276
  t227 := Tryz.underlying277
  a227 := Tryz.isAgg277
  z227 := Tryz.sizeOf277
  v227 := Tryz.zeroValue277
  g0 := by kernel_rfl
  g6 := by kernel_rfl }
open Go.RowKit Go.Lib in
theorem Sh.strings_Fields (s : ByteArray) (w : World) (hs : s.size < 4294967281) (hascii : ∀ (j : Nat) b, s.data.toList[j]? = some b → b.toNat < 128) (htab : Lib.TabIs Tryz.prog w "strings.asciiSpace" .u8 Lib.asciiSpaceTab) :
    Calls Tryz.prog 186 #[.string s] w fun e w' =>
      e = .returned (.slice (some ⟨w.heap.size, 0, none⟩) (Lib.fields s.data.toList).length (Lib.fields s.data.toList).length) ∧ w' = w.alloc (.cells ((Lib.fields s.data.toList).map fun l => Value.string ⟨l.toArray⟩).toArray 9) := Any.strings_Fields Sh.lays157 (by kernel_rfl) (by kernel_rfl) s w hs hascii htab
def Sh.lays194_ren : Go.Shelf.Ren := ⟨fun | 194 => 208 | n => n, fun | 31 => 71 | 9 => 9 | 3 => 3 | 4 => 4 | 0 => 0 | n => n, fun | n => n⟩
theorem Sh.lays194 : Go.Proofs.Lays.n194 Tryz.prog Sh.lays194_ren := {
  mixed := by kernel_rfl
  f194 := Tryz.func208.trans (congrArg some (by kernel_rfl))
  t0 := Tryz.underlying0
  a0 := Tryz.isAgg0
  z0 := Tryz.sizeOf0
  v0 := Tryz.zeroValue0
  t3 := Tryz.underlying3
  a3 := Tryz.isAgg3
  z3 := Tryz.sizeOf3
  v3 := Tryz.zeroValue3
  t4 := Tryz.underlying4
  a4 := Tryz.isAgg4
  z4 := Tryz.sizeOf4
  v4 := Tryz.zeroValue4
  t9 := Tryz.underlying9
  a9 := Tryz.isAgg9
  z9 := Tryz.sizeOf9
  v9 := Tryz.zeroValue9
  t31 := Tryz.underlying71
  a31 := Tryz.isAgg71
  z31 := Tryz.sizeOf71
  v31 := Tryz.zeroValue71 }
open Go.RowKit Go.Lib Go.Sort in
theorem Sh.slices_Compact_string (blk off cap : Nat) (zs : List (List UInt8)) (w : World) (hH : Holds encStr w blk off zs.toArray) (hsz : zs.length ≤ 9223372036854775807) (hcap : zs.length ≤ cap) :
    Calls Tryz.prog 208 #[.slice (some ⟨blk, off, none⟩) zs.length cap] w fun e w' => e = .returned (.slice (some ⟨blk, off, none⟩) (Lib.compact zs).length cap) ∧ ∃ q, w' = putRow encStr (Sort.ahead w q) blk off (Lib.compact zs ++ List.replicate (zs.length - (Lib.compact zs).length) []).toArray := Any.slices_Compact_string Sh.lays194 blk off cap zs w hH hsz hcap
open Go.RowKit Go.Lib Go.Sort in
theorem Sh.slices_Compact_string_empty (a : Option Addr) (cap : Nat) (w : World) :
    Calls Tryz.prog 208 #[.slice a 0 cap] w fun e w' => e = .returned (.slice a 0 cap) ∧ w' = w := Any.slices_Compact_string_empty Sh.lays194 a cap w
open Go.RowKit Go.Sort in
theorem Sh.slices_Sort_string_none (p : Option Addr) (cap : Nat) (w : World) :
    Calls Tryz.prog 207 #[.slice p 0 cap] w fun e w' => e = .returned (.tuple #[]) ∧ w' = w := Any.slices_Sort_string_none Sh.lays190 p cap w
end
section
open Go.RowKit
theorem RM (l : List ByteArray) : ATake Tryz.prog 207 1 (eL l) [] false true (eL (D8 l)) := by
  have h := AK oneS (P := Tryz.prog) (f := 207) (by unfold Br; kernel_rfl) (fun l => l.mergeSort fun x y => decide (x ≤ y)) (fun l => List.length_mergeSort _) (fun l x h => (List.mergeSort_perm l _).mem_iff.1 h) (fun oa cap w => Sh.slices_Sort_string_none oa cap w) (fun g cap l w h h2 h3 => Sh.slices_Sort_string g 0 cap l w h h2 h3) l
  exact h
theorem RN (l : List ByteArray) : ATake Tryz.prog 208 1 (eL l) [] false false (eL (Oy l)) := by
  have h := AL oneS (P := Tryz.prog) (f := 208) (by unfold Br; kernel_rfl) Lib.compact Tz LF (fun oa cap w => Sh.slices_Compact_string_empty oa cap w) (fun g cap l w h h2 h3 => (Sh.slices_Compact_string g 0 cap l w h h2 h3).mono (by rintro e w' ⟨h4, q, h5⟩; exact ⟨h4, q, _, by have := Tz l; simp; omega, h5⟩)) l
  exact h
open GoE (enc wide)
def Ay (s_ : ByteArray) (k0 : Nat) (a0 : ByteArray) (_ : Unit) : Rd ((List ByteArray)) (Unit) (Int) := (bif (Op.bytesLess a0.toList s_.toList) then (.next ()) else (.brk ((k0 : Nat) : Int)))
def Az (k0 : Nat) (_ : Unit) : Int := ((k0 : Nat) : Int)
def A6 (list : (List ByteArray)) (s_ : ByteArray) : (List ByteArray) := (Out.on (Yr (Ay s_) Az list 0 ()) (fun y0 => (bif (decide (y0 < (list.length : Int)) && ((nth list (Int.toNat y0)).toList == s_.toList)) then list else List.take (Int.toNat y0) list ++ [s_] ++ (List.drop (Int.toNat y0) list))))
theorem YO (list : (List ByteArray)) (s_ : ByteArray) (hp : list.length < 1073741824) : ACalls Tryz.prog 175 [.h list, .s s_] (.h (A6 list s_)) := by
 refine en Qa Tryz.func175 fun w0 F0 hG => ?_
 refine sn Qa [0, 1, 4] [] (p0) ?_
 refine tn Qa [0, 1, 4, 5] [] (p0) ?_
 refine Qc ?_
 refine mz [(4, .e 0), (5, .i 0)] [] [] [] ?_
 refine wT 0 0 .sh list (fun hw1 hl2 => ?_)
 refine Qcf (Ay s_) Az list () (fun k0 _ => [(5, .i ((k0 : Nat) : Int))]) [5] (fun y0 => [(5, .i y0)]) [5] (fun y0 => 0 ≤ y0 ∧ y0 ≤ (list.length : Int)) wf0 (fun k0 s0 hk0 hI0 => ?_) (fun k0 s0 hk0 hI0 => ?_) (fun y0 hD0 => ?_)
 ·
  obtain ⟨a0, hx0⟩ := Yp (l := list) (i := k0) hk0
  refine Qc ?_
  refine sn Qa [0, 1, 4, 5, 18] [] (pl 2 list (pe 3 (Q1 (decide_eq_true (p := ((k0 : Nat) : Int) < (list.length : Int)) (by omega))) (pn 7 hx0 p0))) ?_
  refine ck (Op.bytesLess a0.toList s_.toList) (fun h3 => ?_) (fun h3 => ?_)
  ·
   refine Qf ?_
   refine Qz ?_
   refine qn Qa [0, 1, 4, 5] [] (pe 1 (Jq (Q4 k0 (by omega))) p0) ?_
   exact xw _ (Xp hx0 (Xh h3 (rfl)) hI0)
  refine Xu ?_
  exact xw ((k0 : Nat) : Int) ⟨IY hx0 (Qj h3 (rfl)) hI0, by first | omega | (simp only [List.length_set]; omega)⟩
 ·
  refine Qc ?_
  refine sn Qa [0, 1, 4, 5, 18] [] (pl 2 list (pe 3 (Q1 (decide_eq_false (p := ((k0 : Nat) : Int) < (list.length : Int)) (by omega))) p0)) ?_
  refine ckF ?_
  refine Xu ?_
  exact xw ((k0 : Nat) : Int) ⟨Yq hk0 (rfl) hI0, by first | omega | (simp only [List.length_set]; omega)⟩
 have hD0_0 := hD0.2
 refine Qc ?_
 refine Qc ?_
 refine jn [(32, .b (decide (y0 < (list.length : Int)) && ((nth list (Int.toNat y0)).toList == s_.toList)))] [] [] [] (decide (y0 < (list.length : Int))) (fun h4 => ?_) (fun h4 => ?_) ?_
 ·
  have h4d := of_decide_eq_true h4
  have hx5 := ng list (Int.toNat y0)
  refine rn Qa [0, 1, 4, 5, 32] [] (pl 2 list (pt 3 h4 (pg 7 y0 hx5 p0))) ?_
  exact ⟨rfl, Qd (by rw [h4] <;> kernel_rfl)⟩
 ·
  refine rn Qa [0, 1, 4, 5, 32] [] (pl 2 list (pf 3 h4 p0)) ?_
  exact ⟨rfl, Qd (by rw [h4] <;> kernel_rfl)⟩
 refine ck (decide (y0 < (list.length : Int)) && ((nth list (Int.toNat y0)).toList == s_.toList)) (fun h6 => ?_) (fun h6 => ?_)
 ·
  refine sn Qa [0, 1, 4, 5] [] (p0) ?_
  refine Qe ?_
  exact ph0 [] (V4 hD0.1 (Xh h6 (rfl)))
 refine Qf ?_
 have hl7 : List.length (List.take (Int.toNat y0) list) ≤ 1073741824 := M7 (DD (Int.toNat y0) (hw1))
 refine su Qa [(6, .one (.slc (.own true 2624) 1 (([] ++ (eL (List.take (Int.toNat y0) list))) ++ [[.s s_]])))] [1, 32] [] [] (pe 3 (PY .sh 1 (Int.toNat y0) y0 list rfl) (px (Af (lo := 0) (hi := y0) (n := (List.length (eL list))) (NO (by omega) (by omega) (by omega))) (po 4 (.flat) (px (XV (n := (([] : List (List PV)).length + ((eL (List.take (Int.toNat y0) list)) : List (List PV)).length)) (WV (rfl) (Y9 (List.take (Int.toNat y0) list)) (by first | omega | (simp only [List.length_cons, List.length_nil]; omega) | (simp; omega) | simp))) (px (Tn (Oj (List.take (Int.toNat y0) list))) (px (XV (n := ((([] ++ (eL (List.take (Int.toNat y0) list))) : List (List PV)).length + ([[.s s_]] : List (List PV)).length)) (by simp [Y9]; omega)) p0)))))) ?_
 refine eqn [(6, .o 2624 (List.take (Int.toNat y0) list ++ [s_]))] [6] [] [] (by rw [show (([] ++ (eL (List.take (Int.toNat y0) list))) ++ [[.s s_]]) = (eL (List.take (Int.toNat y0) list ++ [s_])) from Jo (rfl) (rfl)]; first | done | kernel_rfl) ?_
 refine wT 6 0 (.own true 2624) (List.take (Int.toNat y0) list ++ [s_]) (fun hw8 hl9 => ?_)
 have hl10 : List.length (List.drop (Int.toNat y0) list) ≤ 1073741824 := M7 (DE (Int.toNat y0) (hw1))
 refine su Qa [(4, .one (.slc (.own true 2944) 1 ((eL (List.take (Int.toNat y0) list ++ [s_])) ++ (eL (List.drop (Int.toNat y0) list)))))] [0, 4, 5, 6] [] [] (pe 3 (Lc .sh 1 (Int.toNat y0) y0 list rfl) (px (Af (lo := y0) (hi := (((eL list) : List (List PV)).length : Int)) (n := (List.length (eL list))) (Ld (by omega) (by omega))) (po 4 (.flat) (pa (List.take (Int.toNat y0) list ++ [s_]) (List.drop (Int.toNat y0) list) (px (Tn (Oj (List.drop (Int.toNat y0) list))) p0))))) ?_
 refine eqn [(4, .o 2944 (List.take (Int.toNat y0) list ++ [s_] ++ (List.drop (Int.toNat y0) list)))] [4] [] [] (by rw [show ((eL (List.take (Int.toNat y0) list ++ [s_])) ++ (eL (List.drop (Int.toNat y0) list))) = (eL (List.take (Int.toNat y0) list ++ [s_] ++ (List.drop (Int.toNat y0) list))) from Jo (rfl) (rfl)]; first | done | kernel_rfl) ?_
 refine Qe ?_
 exact ph0 [2944] (V4 hD0.1 (Qj h6 (rfl)))
theorem toList_inj {a b : ByteArray} : (a.toList == b.toList) = decide (a = b) := by
  rw [ByteArray.toList_eq, ByteArray.toList_eq, Bool.eq_iff_iff]
  simp only [beq_iff_eq, decide_eq_true_eq]
  exact ⟨fun h => ByteArray.ext (Array.ext' h), fun h => h ▸ rfl⟩
def Hr (l : List ByteArray) (s : ByteArray) : Nat := (l.takeWhile fun x => bl x s).length
theorem Pc (a : ByteArray) (l : List ByteArray) (s : ByteArray) : Hr (a :: l) s = if bl a s = true then Hr l s + 1 else 0 := by
  unfold Hr
  rw [List.takeWhile_cons]
  cases bl a s <;> simp
theorem So (s : ByteArray) : ∀ (l : List ByteArray) (k : Nat), Yr (Ay s) Az l k () = .brk (((k + Hr l s : Nat)) : Int)
  | [], k => by simp [Yr, Az, Hr]
  | a :: l, k => by
    rw [Pc]
    simp only [Yr, Ay]
    cases h : Op.bytesLess a.toList s.toList with
    | true =>
      have h' : bl a s = true := h
      simp only [cond_true, h', if_true]
      rw [So s l (k + 1), show k + 1 + Hr l s = k + (Hr l s + 1) by omega]
    | false =>
      have h' : bl a s = false := h
      simp [h']
theorem EE (s : ByteArray) : ∀ l : List ByteArray, YI l s = bif (decide (((Hr l s : Nat) : Int) < (l.length : Int)) && ((nth l (Hr l s)).toList == s.toList)) then l else List.take (Hr l s) l ++ [s] ++ List.drop (Hr l s) l
  | [] => by simp [YI, Hr]
  | a :: l => by
    rw [Pc, YI]
    cases h : bl a s with
    | true =>
      simp only [if_true]
      rw [EE s l]
      have e : nth (a :: l) (Hr l s + 1) = nth l (Hr l s) := rfl
      rw [e, show decide ((((Hr l s + 1 : Nat)) : Int) < ((a :: l).length : Int)) = decide (((Hr l s : Nat) : Int) < (l.length : Int)) by
        rw [Bool.eq_iff_iff]; simp only [decide_eq_true_eq, List.length_cons]; omega]
      generalize (decide (((Hr l s : Nat) : Int) < (l.length : Int)) && ((nth l (Hr l s)).toList == s.toList)) = c
      cases c <;> simp
    | false =>
      have e : nth (a :: l) 0 = a := rfl
      simp only [Bool.false_eq_true, if_false]
      rw [e, toList_inj]
      by_cases hs : a = s
      · simp [hs]
      simp [hs]
theorem YP (l : List ByteArray) (s : ByteArray) : A6 l s = YI l s := by
  unfold A6
  rw [So, EE]
  simp only [Out.on, Nat.zero_add, Int.toNat_natCast]
theorem EF (l : List ByteArray) (s : ByteArray) : List.length (A6 l s) ≤ List.length l + 1 := by rw [YP]; exact UC s l
open GoE (enc wide)
def Ke (n : Qw) : Bool := ((n.1 == (8 : Int)) || (n.1 == (9 : Int)))
theorem Fa (n : Qw) : ACalls Tryz.prog 191 [.a [.i n.1, .i n.2.1, .i n.2.2.1, .s n.2.2.2.1, .i n.2.2.2.2.1, .i n.2.2.2.2.2.1, .s n.2.2.2.2.2.2]] (.b (Ke n)) := by
 refine en Qa Tryz.func191 fun w0 F0 hG => ?_
 refine sn Qa [1, 2] [1] (p0) ?_
 refine Qc ?_
 refine mz [(1, .p 1 0), (2, .b false)] [0] [(1, [.i n.1, .i n.2.1, .i n.2.2.1, .s n.2.2.2.1, .i n.2.2.2.2.1, .i n.2.2.2.2.2.1, .s n.2.2.2.2.2.2])] [] ?_
 refine jn [(2, .b ((n.1 == (8 : Int)) || (n.1 == (9 : Int))))] [1, 2] [] [1] (n.1 == (8 : Int)) (fun h1 => ?_) (fun h1 => ?_) ?_
 ·
  refine rn Qa [2] [] (pt 2 h1 p0) ?_
  exact ⟨rfl, Qd (by rw [h1] <;> kernel_rfl)⟩
 ·
  refine rn Qa [2] [] (pf 2 h1 p0) ?_
  exact ⟨rfl, Qd (by rw [h1] <;> kernel_rfl)⟩
 refine Qe ?_
 exact pb [] (show Ke n = ((n.1 == (8 : Int)) || (n.1 == (9 : Int))) from rfl)
def B6 (l : (List ByteArray)) : (List ByteArray) := Oy (D8 l)
theorem Mq (l : (List ByteArray)) : ACalls Tryz.prog 192 [.h l] (.h (B6 l)) := by
 refine en Qa Tryz.func192 fun w0 F0 hG => ?_
 refine sn Qa [0, 2] [] (p0) ?_
 refine tn Qa [2, 3] [] (pc 1 (Tx l) p0) ?_
 refine mz [(2, .e 0), (3, .o 320 l)] [0] [] [] ?_
 refine KJ [320] rfl ?_
 refine su Qa [(3, .one (.slc (.own false 320) 1 (GG (eL l) 0 4294967296 (List.flatten (eL (D8 l))))))] [3] [] [] (po 1 (.take false true (eL (D8 l))) (px (CP (RM l)) p0)) ?_
 refine eqn [(3, .q 320 (D8 l))] [3] [] [] (by rw [LG (fun _ => rfl) (YG _)] <;> kernel_rfl) ?_
 refine sn Qa [2] [] (po 1 (.take false false (eL (Oy (D8 l)))) (px (CP (RN (D8 l))) p0)) ?_
 refine Qe ?_
 exact ph0 [576] (show B6 l = Oy (D8 l) from rfl)
def Kt (q : (List Qw)) (negated : Bool) (k0 : Nat) (a0 : Bool) (s0 : (List ByteArray)) : Rd ((List ByteArray)) ((List ByteArray)) ((List ByteArray)) := (bif ((Ke (nth q k0)) && (a0 == negated)) then (.next (s0 ++ [(nth q k0).2.2.2.1])) else (.next s0))
def Vz (_ : Nat) (s0 : (List ByteArray)) : (List ByteArray) := s0
def Kc (q : (List Qw)) (negated : Bool) : (List ByteArray) := (Out.on (Yr (Kt q negated) Vz (Ye q) 0 []) (fun y0 => (B6 y0)))
theorem Ea (q : (List Qw)) (negated : Bool) : ACalls Tryz.prog 167 [.h q, .b negated] (.h (Kc q negated)) := by
 refine en Qa Tryz.func167 fun w0 F0 hG => ?_
 have hnl := Fx q
 refine sn Qa [0, 1, 4] [] (p0) ?_
 refine tn Qa [0, 1, 4, 5] [] (p0) ?_
 refine Qc ?_
 refine tu Qa [(4, .e 0), (5, .one (.slc (.own true 512) 1 [])), (10, .o 640 (Ye q)), (11, .i ((Ye q).length : Int)), (12, .i 0)] [] [] [] (pc 1 (G0 q) (pl 2 (Ye q) p0)) ?_
 refine wT 10 0 (.own true 640) (Ye q) (fun hw1 hl2 => ?_)
 refine Qa7 (Kt q negated) Vz (Ye q) [] (fun k0 s0 => [(5, .o 147203 s0), (12, .i ((k0 : Nat) : Int))]) [5, 12] (fun y0 => [(5, .o 147353 y0)]) [0, 1, 5, 10, 11, 12] (fun k0 s0 => List.length s0 ≤ k0) (Zg [(512, 147203)] (by kernel_rfl)) (by simp) (fun k0 s0 hk0 hI0 => ?_) (fun k0 s0 hk0 hI0 => ?_) (fun y0 hD0 => ?_)
 ·
  have hA0_0 := hI0.2
  obtain ⟨a0, hx0⟩ := Yp (l := Ye q) (i := k0) hk0
  refine su Qa [(13, .b true)] [] [] [] (pe 0 (Q1 (decide_eq_true (p := ((k0 : Nat) : Int) < ((Ye q).length : Int)) (by omega))) p0) ?_
  refine Qc ?_
  refine ckT ?_
  refine Qf ?_
  refine Qc ?_
  refine Qz ?_
  refine sn Qa [0, 1, 4, 5, 6, 7, 10, 11, 12] [] (pN 1 hx0 p0) ?_
  refine Qc ?_
  refine mz [(6, .i ((k0 : Nat) : Int)), (7, .b a0)] [13] [] [] ?_
  refine jn [(26, .b ((Ke (nth q k0)) && (a0 == negated)))] [7] [] [] (Ke (nth q k0)) (fun h3 => ?_) (fun h3 => ?_) ?_
  ·
   refine wT 0 0 .sh q (fun hw5 hl6 => ?_)
   have hx4 := ng q k0
   refine rn Qa [0, 1, 4, 5, 6, 10, 11, 12, 26] [] (pn 2 hx4 (pc 4 (cb h3 (Fa (nth q k0))) p0)) ?_
   exact ⟨rfl, Qd (by rw [h3] <;> kernel_rfl)⟩
  ·
   refine wT 0 0 .sh q (fun hw8 hl9 => ?_)
   have hx7 := ng q k0
   refine ru Qa [(26, .b false)] [7] [] [] (pn 2 hx7 (pc 4 (cb h3 (Fa (nth q k0))) p0)) ?_
   exact ⟨rfl, Qd (by rw [h3] <;> kernel_rfl)⟩
  refine ck ((Ke (nth q k0)) && (a0 == negated)) (fun h10 => ?_) (fun h10 => ?_)
  ·
   have h10r : ((a0 == negated)) = true := Mp h10
   have h10rd := eq_of_beq h10r
   refine wT 0 0 .sh q (fun hw12 hl13 => ?_)
   have hx11 := ng q k0
   refine wT 5 0 (.own true 147203) s0 (fun hw14 hl15 => ?_)
   refine ru Qa [(5, .one (.slc (.own true 2176) 1 ((eL s0) ++ [[.s ((nth q k0).2.2.2.1)]])))] [5, 6, 26] [] [] (pn 3 hx11 (pa s0 [(nth q k0).2.2.2.1] p0)) ?_
   refine eqn [(5, .o 2176 (s0 ++ [(nth q k0).2.2.2.1]))] [5] [] [] (by rw [show ((eL s0) ++ [[.s ((nth q k0).2.2.2.1)]]) = (eL (s0 ++ [(nth q k0).2.2.2.1])) from Jo (rfl) (rfl)]; first | done | kernel_rfl) ?_
   refine rn Qa [0, 1, 4, 5, 10, 11, 12] [] (pe 0 (Jq (Q4 k0 (by omega))) p0) ?_
   exact Exists.intro (s0 ++ [(nth q k0).2.2.2.1]) (And.intro (Zg [(2176, 147203)] (by kernel_rfl)) ⟨Xp hx0 (Xh h10 (rfl)) hI0.1, by first | omega | (simp; omega) | simp⟩)
  refine Qf ?_
  refine rn Qa [0, 1, 4, 5, 10, 11, 12] [] (pe 0 (Jq (Q4 k0 (by omega))) p0) ?_
  exact xw s0 ⟨Xp hx0 (Qj h10 (rfl)) hI0.1, by first | omega | (simp; omega) | simp⟩
 ·
  have hA0_0 := hI0.2
  refine su Qa [(13, .b false)] [] [] [] (pe 0 (Q1 (decide_eq_false (p := ((k0 : Nat) : Int) < ((Ye q).length : Int)) (by omega))) p0) ?_
  refine Qc ?_
  refine ckF ?_
  refine Xu ?_
  exact Exists.intro _ (And.intro (Zg [(147203, 147353)] (by kernel_rfl)) (Yq hk0 (rfl) hI0.1))
 refine sn Qa [4] [] (pc 1 (Mq y0) p0) ?_
 refine Qe ?_
 exact ph0 [] (V4 hD0 (rfl))
def Xx (q : (List Qw)) : (List ByteArray) := (Kc q false)
theorem G3 (q : (List Qw)) : ACalls Tryz.prog 141 [.h q] (.h (Xx q)) := by
 refine en Qa Tryz.func141 fun w0 F0 hG => ?_
 refine sn Qa [0, 2] [] (p0) ?_
 refine tn Qa [2] [] (pc 1 (Ea q false) p0) ?_
 refine Qe ?_
 exact ph0 [] (show Xx q = (Kc q false) from rfl)
def Xy (q : (List Qw)) : (List ByteArray) := (Kc q true)
theorem G4 (q : (List Qw)) : ACalls Tryz.prog 142 [.h q] (.h (Xy q)) := by
 refine en Qa Tryz.func142 fun w0 F0 hG => ?_
 refine sn Qa [0, 2] [] (p0) ?_
 refine tn Qa [2] [] (pc 1 (Ea q true) p0) ?_
 refine Qe ?_
 exact ph0 [] (show Xy q = (Kc q true) from rfl)
def Hd (q : (List Qw)) (under : Bool) (k0 : Nat) (a0 : Bool) (s0 : (List ByteArray)) : Rd ((List ByteArray)) ((List ByteArray)) ((List ByteArray)) := (bif ((Xf ((nth q k0).1) 8 9) && (a0 == under)) then (.next (A6 s0 ((nth q k0).2.2.2.1))) else (.next s0))
def He (_ : Nat) (s0 : (List ByteArray)) : (List ByteArray) := s0
def Wi (q : (List Qw)) (under : Bool) : (List ByteArray) := (Out.on (Yr (Hd q under) He (Y4 q) 0 []) (fun y0 => y0))
theorem Fb (q : (List Qw)) (under : Bool) : ACalls Tryz.prog 151 [.h q, .b under] (.o 0 (Wi q under)) := by
 refine en Qa Tryz.func151 fun w0 F0 hG => ?_
 have hnl := YF q
 refine sn Qa [0, 1, 4] [] (p0) ?_
 refine tn Qa [0, 1, 4, 5] [] (p0) ?_
 refine tu Qa [(4, .e 0), (5, .one (.slc (.own true 512) 1 [])), (6, .o 640 (Y4 q))] [] [] [] (pc 1 (G1 q) p0) ?_
 refine Qc ?_
 refine su Qa [(7, .i 0)] [] [] [] (p0) ?_
 refine wT 6 0 (.own true 640) (Y4 q) (fun hw1 hl2 => ?_)
 refine Qa7 (Hd q under) He (Y4 q) [] (fun k0 s0 => [(5, .h s0), (7, .i ((k0 : Nat) : Int))]) [5, 7] (fun y0 => [(5, .h y0)]) [0, 1, 5, 6, 7] (fun k0 s0 => List.length s0 ≤ k0) (Ov [] [512] [] [] (by kernel_rfl)) (by simp) (fun k0 s0 hk0 hI0 => ?_) (fun k0 s0 hk0 hI0 => ?_) (fun y0 hD0 => ?_)
 ·
  have hA0_0 := hI0.2
  obtain ⟨a0, hx0⟩ := Yp (l := Y4 q) (i := k0) hk0
  refine Qc ?_
  refine su Qa [(14, .b true)] [] [] [] (pl 2 (Y4 q) (pe 3 (Q1 (decide_eq_true (p := ((k0 : Nat) : Int) < ((Y4 q).length : Int)) (by omega))) p0)) ?_
  refine ckT ?_
  refine Qf ?_
  refine Qc ?_
  refine Qz ?_
  refine Qc ?_
  refine jn [(30, .b ((Xf ((nth q k0).1) 8 9) && (a0 == under)))] [14] [] [] (Xf ((nth q k0).1) 8 9) (fun h3 => ?_) (fun h3 => ?_) ?_
  ·
   refine wT 0 0 .sh q (fun hw5 hl6 => ?_)
   have hx4 := ng q k0
   refine rn Qa [0, 1, 4, 5, 6, 7, 30] [] (pn 2 hx4 (pc 5 (cb h3 (Y2 ((nth q k0).1) 8 9)) (pN 9 hx0 p0))) ?_
   exact ⟨rfl, Qd (by rw [h3] <;> kernel_rfl)⟩
  ·
   refine wT 0 0 .sh q (fun hw8 hl9 => ?_)
   have hx7 := ng q k0
   refine rn Qa [0, 1, 4, 5, 6, 7, 30] [] (pn 2 hx7 (pc 5 (cb h3 (Y2 ((nth q k0).1) 8 9)) p0)) ?_
   exact ⟨rfl, Qd (by rw [h3] <;> kernel_rfl)⟩
  refine ck ((Xf ((nth q k0).1) 8 9) && (a0 == under)) (fun h10 => ?_) (fun h10 => ?_)
  ·
   have h10r : ((a0 == under)) = true := Mp h10
   have h10rd := eq_of_beq h10r
   refine wT 0 0 .sh q (fun hw12 hl13 => ?_)
   have hx11 := ng q k0
   refine rn Qa [0, 1, 4, 5, 6, 7] [] (pn 3 hx11 (pc 6 (YO s0 ((nth q k0).2.2.2.1) (by omega)) p0)) ?_
   refine qn Qa [0, 1, 4, 5, 6, 7] [] (pe 1 (Jq (Q4 k0 (by omega))) p0) ?_
   exact xw (A6 s0 ((nth q k0).2.2.2.1)) ⟨Xp hx0 (Xh h10 (rfl)) hI0.1, (by first | omega | (have hz := EF s0 (nth q k0).2.2.2.1; omega))⟩
  refine Qf ?_
  refine rn Qa [0, 1, 4, 5, 6, 7] [] (pe 1 (Jq (Q4 k0 (by omega))) p0) ?_
  exact xw s0 ⟨Xp hx0 (Qj h10 (rfl)) hI0.1, (by first | omega | (have hz := EF s0 (nth q k0).2.2.2.1; omega))⟩
 ·
  have hA0_0 := hI0.2
  refine Qc ?_
  refine su Qa [(14, .b false)] [] [] [] (pl 2 (Y4 q) (pe 3 (Q1 (decide_eq_false (p := ((k0 : Nat) : Int) < ((Y4 q).length : Int)) (by omega))) p0)) ?_
  refine ckF ?_
  refine Xu ?_
  exact xw _ (Yq hk0 (rfl) hI0.1)
 refine wT 5 0 .sh y0 (fun hw14 hl15 => ?_)
 refine sn Qa [4] [] (po 2 (.flat) (px (XV (n := (([] : List (List PV)).length + ((eL y0) : List (List PV)).length)) (WV (rfl) (Y9 y0) (by first | omega | (simp only [List.length_cons, List.length_nil]; omega) | (simp; omega) | simp))) (px (Tn (Oj y0)) p0))) ?_
 refine Qe ?_
 exact po0 [] (V4 hD0 (rfl))
def Y5 (q : (List Qw)) : (List ByteArray) := (Wi q false)
theorem G5 (q : (List Qw)) : ACalls Tryz.prog 127 [.h q] (.o 0 (Y5 q)) := by
 refine en Qa Tryz.func127 fun w0 F0 hG => ?_
 refine sn Qa [0, 2] [] (p0) ?_
 refine tn Qa [2] [] (pc 1 (Fb q false) p0) ?_
 refine Qe ?_
 exact po0 [] (show Y5 q = (Wi q false) from rfl)
def Y6 (q : (List Qw)) : (List ByteArray) := (Wi q true)
theorem G6 (q : (List Qw)) : ACalls Tryz.prog 129 [.h q] (.o 0 (Y6 q)) := by
 refine en Qa Tryz.func129 fun w0 F0 hG => ?_
 refine sn Qa [0, 2] [] (p0) ?_
 refine tn Qa [2] [] (pc 1 (Fb q true) p0) ?_
 refine Qe ?_
 exact po0 [] (show Y6 q = (Wi q true) from rfl)
theorem KU (n : Qw) : Xf n.1 8 9 = Ke n := by
  unfold Xf Ke
  rw [Bool.eq_iff_iff]
  simp
  omega
theorem Pd (q : List Qw) (b : Bool) : ∀ (l : List Bool) (k : Nat) (s : List ByteArray), ∃ m, Yr (Kt q b) Vz l k s = .brk (s ++ m) ∧ ∀ t, Yr (Hd q b) He l k t = .brk (Fz t m)
  | [], k, s => ⟨[], by simp [Yr, Vz], fun t => by simp [Yr, He, Fz]⟩
  | a :: l, k, s => by
    simp only [Yr, Kt, Hd, KU]
    cases h : (Ke (nth q k) && (a == b)) with
    | true =>
      obtain ⟨m, h1, h2⟩ := Pd q b l (k + 1) (s ++ [(nth q k).2.2.2.1])
      refine ⟨(nth q k).2.2.2.1 :: m, ?_, fun t => ?_⟩
      · simp only [cond_true]; rw [h1, List.append_assoc]; rfl
      simp only [cond_true]; rw [h2, YP]; rfl
    | false =>
      obtain ⟨m, h1, h2⟩ := Pd q b l (k + 1) s
      exact ⟨m, by simp only [cond_false]; exact h1, fun t => by simp only [cond_false]; exact h2 t⟩
theorem EG (q : List Qw) (b : Bool) : Wi q b = Kc q b := by
  unfold Wi Kc
  obtain ⟨m, h1, h2⟩ := Pd q b (Ye q) 0 []
  rw [Si, h1, h2]
  simp only [Out.on, List.nil_append]
  exact (LI m).symm
theorem AN (q : List Qw) : Y5 q = Xx q := EG q false
theorem AO (q : List Qw) : Y6 q = Xy q := EG q true
open GoE (enc wide)
def Zz (d : (List Z9)) (k0 : Nat) (a0 : Z9) (_ : Unit) : Rd (Bool) (Unit) (Unit) := (bif ((!(Qy a0.1)) || (bif decide (((k0 : Nat) : Int) > (0 : Int)) then ((!(Op.bytesLess ((nth d (Int.toNat (((k0 : Nat) : Int) - 1))).1).toList a0.1.toList)) || (!(Qk a0.2))) else (!(Qk a0.2)))) then (.ret false) else (.next ()))
def Jy (_ : Nat) (_ : Unit) : Unit := ()
def Zh (d : (List Z9)) : Bool := (Out.on (Yr (Zz d) Jy d 0 ()) (fun _ => decide ((d.length : Int) ≤ (5 : Int))))
theorem Lf (d : (List Z9)) : ACalls Tryz.prog 139 [.h d] (.b (Zh d)) := by
 refine en Qa Tryz.func139 fun w0 F0 hG => ?_
 refine sn Qa [0, 2] [] (p0) ?_
 refine Qc ?_
 refine tn Qa [0, 2, 5, 6, 7] [] (pl 1 d p0) ?_
 refine mz [(2, .b false), (5, .h d), (6, .i (d.length : Int)), (7, .i 0)] [] [] [] ?_
 refine wT 0 0 .sh d (fun hw1 hl2 => ?_)
 refine Rb (Zz d) Jy d () (fun k0 _ => [(7, .i ((k0 : Nat) : Int))]) [7] (fun _ => []) [5, 6, 7] wf0 (fun k0 s0 hk0 hI0 => ?_) (fun k0 s0 hk0 hI0 => ?_) (fun y0 hD0 => ?_)
 ·
  obtain ⟨a0, hx0⟩ := Yp (l := d) (i := k0) hk0
  refine sn Qa [0, 2, 5, 6, 7, 8] [] (pe 0 (Q1 (decide_eq_true (p := ((k0 : Nat) : Int) < (d.length : Int)) (by omega))) p0) ?_
  refine Qc ?_
  refine ckT ?_
  refine Qf ?_
  refine Qc ?_
  refine Qz ?_
  refine tn Qa [0, 2, 3, 4, 5, 6, 7] [4] (pn 1 hx0 p0) ?_
  refine Qc ?_
  refine mz [(3, .i ((k0 : Nat) : Int)), (4, .p 4 0)] [] [(4, [.s a0.1, .h a0.2])] [] ?_
  refine jn [(36, .b ((!(Qy a0.1)) || (bif decide (((k0 : Nat) : Int) > (0 : Int)) then ((!(Op.bytesLess ((nth d (Int.toNat (((k0 : Nat) : Int) - 1))).1).toList a0.1.toList)) || (!(Qk a0.2))) else (!(Qk a0.2)))))] [3, 4] [] [4] (!(Qy a0.1)) (fun h3 => ?_) (fun h3 => ?_) ?_
  ·
   have h3n : (Qy a0.1) = false := Vp h3
   refine rN Qa Yz [0, 2, 5, 6, 7, 36] [] (pc 2 (cb h3n (Zs a0.1)) (pe 3 (show .b (!false) = .b true from rfl) p0)) ?_
   exact ⟨rfl, Qd (by rw [h3] <;> kernel_rfl)⟩
  ·
   have h3n : (Qy a0.1) = true := Z4 h3
   refine Xo (decide (((k0 : Nat) : Int) > (0 : Int))) (fun h4 => ?_) (fun h4 => ?_)
   ·
    have h4d := of_decide_eq_true h4
    refine Xo (!(Op.bytesLess ((nth d (Int.toNat (((k0 : Nat) : Int) - 1))).1).toList a0.1.toList)) (fun h5 => ?_) (fun h5 => ?_)
    ·
     have hx6 := ng d (Int.toNat (((k0 : Nat) : Int) - 1))
     refine rN Qa Yz [0, 2, 5, 6, 7, 36] [] (pc 2 (cb h3n (Zs a0.1)) (pe 3 (show .b (!true) = .b false from rfl) (pt 6 h4 (pe 10 (Jq (IntWalk.i64_in (((k0 : Nat) : Int) - 1) (by omega))) (pg 11 (((k0 : Nat) : Int) - 1) hx6 (pt 16 h5 p0)))))) ?_
     exact ⟨rfl, Qd (by rw [h3, h4, h5] <;> kernel_rfl)⟩
    have hx7 := ng d (Int.toNat (((k0 : Nat) : Int) - 1))
    refine rN Qa Yz [0, 2, 5, 6, 7, 36] [] (pc 2 (cb h3n (Zs a0.1)) (pe 3 (show .b (!true) = .b false from rfl) (pt 6 h4 (pe 10 (Jq (IntWalk.i64_in (((k0 : Nat) : Int) - 1) (by omega))) (pg 11 (((k0 : Nat) : Int) - 1) hx7 (pf 16 h5 (pc 22 (Kz a0.2) p0))))))) ?_
    exact ⟨rfl, Qd (by rw [h3, h4, h5] <;> kernel_rfl)⟩
   refine rN Qa Yz [0, 2, 5, 6, 7, 36] [] (pc 2 (cb h3n (Zs a0.1)) (pe 3 (show .b (!true) = .b false from rfl) (pf 6 h4 (pc 22 (Kz a0.2) p0)))) ?_
   exact ⟨rfl, Qd (by rw [h3, h4] <;> kernel_rfl)⟩
  refine ck ((!(Qy a0.1)) || (bif decide (((k0 : Nat) : Int) > (0 : Int)) then ((!(Op.bytesLess ((nth d (Int.toNat (((k0 : Nat) : Int) - 1))).1).toList a0.1.toList)) || (!(Qk a0.2))) else (!(Qk a0.2)))) (fun h8 => ?_) (fun h8 => ?_)
  ·
   refine su Qa [] [36] [] [] (p0) ?_
   refine Qe ?_
   have hr9 : (Yr (Zz d) Jy d 0 ()) = .ret false := Kb hx0 (Xh h8 (rfl)) hI0
   exact pb [] (Mo hr9)
  refine Qf ?_
  refine rn Qa [0, 2, 5, 6, 7] [] (pe 0 (Jq (Q4 k0 (by omega))) p0) ?_
  exact xw _ (Xp hx0 (Qj h8 (rfl)) hI0)
 ·
  refine sn Qa [0, 2, 5, 6, 7, 8] [] (pe 0 (Q1 (decide_eq_false (p := ((k0 : Nat) : Int) < (d.length : Int)) (by omega))) p0) ?_
  refine Qc ?_
  refine ckF ?_
  refine Xu ?_
  exact xw _ (Yq hk0 (rfl) hI0)
 refine sn Qa [2] [] (pl 1 d p0) ?_
 refine Qe ?_
 exact pb [] (V4 hD0 (rfl))
def K3 (d : (List Z9)) (k0 : Nat) (a0 : Z9) (_ : Unit) : Rd (Bool) (Unit) (Unit) := (bif ((!(X0 a0.1)) || ((!(Yh a0.2)) || (decide (((k0 : Nat) : Int) > (0 : Int)) && (!(Op.bytesLess ((nth d (Int.toNat (((k0 : Nat) : Int) - 1))).1).toList a0.1.toList))))) then (.ret false) else (.next ()))
def V8 (_ : Nat) (_ : Unit) : Unit := ()
def Kk (d : (List Z9)) : Bool := (Out.on (Yr (K3 d) V8 d 0 ()) (fun _ => decide ((d.length : Int) ≤ (5 : Int))))
theorem Lg (d : (List Z9)) : ACalls Tryz.prog 97 [.h d] (.b (Kk d)) := by
 refine en Qa Tryz.func97 fun w0 F0 hG => ?_
 refine sn Qa [0, 2] [] (p0) ?_
 refine Qc ?_
 refine tn Qa [0, 2, 3] [] (p0) ?_
 refine mz [(2, .b false), (3, .i 0)] [] [] [] ?_
 refine wT 0 0 .sh d (fun hw1 hl2 => ?_)
 refine Rb (K3 d) V8 d () (fun k0 _ => [(3, .i ((k0 : Nat) : Int))]) [3] (fun _ => []) [3] wf0 (fun k0 s0 hk0 hI0 => ?_) (fun k0 s0 hk0 hI0 => ?_) (fun y0 hD0 => ?_)
 ·
  obtain ⟨a0, hx0⟩ := Yp (l := d) (i := k0) hk0
  refine Qc ?_
  refine sn Qa [0, 2, 3, 7] [] (pl 2 d (pe 3 (Q1 (decide_eq_true (p := ((k0 : Nat) : Int) < (d.length : Int)) (by omega))) p0)) ?_
  refine ckT ?_
  refine Qf ?_
  refine Qc ?_
  refine Qz ?_
  refine Qc ?_
  refine mz [(7, .b true)] [] [] [] ?_
  refine jn [(43, .b ((!(X0 a0.1)) || ((!(Yh a0.2)) || (decide (((k0 : Nat) : Int) > (0 : Int)) && (!(Op.bytesLess ((nth d (Int.toNat (((k0 : Nat) : Int) - 1))).1).toList a0.1.toList))))))] [7] [] [] (!(X0 a0.1)) (fun h3 => ?_) (fun h3 => ?_) ?_
  ·
   have h3n : (X0 a0.1) = false := Vp h3
   refine rN Qa Yz [0, 2, 3, 43] [] (pn 2 hx0 (pc 5 (cb h3n (Zc a0.1)) (pe 6 (show .b (!false) = .b true from rfl) p0))) ?_
   exact ⟨rfl, Qd (by rw [h3] <;> kernel_rfl)⟩
  ·
   have h3n : (X0 a0.1) = true := Z4 h3
   refine Xo (!(Yh a0.2)) (fun h4 => ?_) (fun h4 => ?_)
   ·
    have h4n : (Yh a0.2) = false := Vp h4
    refine rN Qa Yz [0, 2, 3, 43] [] (pn 2 hx0 (pc 5 (cb h3n (Zc a0.1)) (pe 6 (show .b (!true) = .b false from rfl) (pn 10 hx0 (pc 13 (cb h4n (K0 a0.2)) (pe 14 (show .b (!false) = .b true from rfl) p0)))))) ?_
    exact ⟨rfl, Qd (by rw [h3, h4] <;> kernel_rfl)⟩
   have h4n : (Yh a0.2) = true := Z4 h4
   refine Xo (decide (((k0 : Nat) : Int) > (0 : Int))) (fun h5 => ?_) (fun h5 => ?_)
   ·
    have h5d := of_decide_eq_true h5
    have hx6 := ng d (Int.toNat (((k0 : Nat) : Int) - 1))
    refine rN Qa Yz [0, 2, 3, 43] [] (pn 2 hx0 (pc 5 (cb h3n (Zc a0.1)) (pe 6 (show .b (!true) = .b false from rfl) (pn 10 hx0 (pc 13 (cb h4n (K0 a0.2)) (pe 14 (show .b (!true) = .b false from rfl) (pt 18 h5 (pe 22 (Jq (IntWalk.i64_in (((k0 : Nat) : Int) - 1) (by omega))) (pg 23 (((k0 : Nat) : Int) - 1) hx6 (pn 28 hx0 p0)))))))))) ?_
    exact ⟨rfl, Qd (by rw [h3, h4, h5] <;> kernel_rfl)⟩
   refine rN Qa Yz [0, 2, 3, 43] [] (pn 2 hx0 (pc 5 (cb h3n (Zc a0.1)) (pe 6 (show .b (!true) = .b false from rfl) (pn 10 hx0 (pc 13 (cb h4n (K0 a0.2)) (pe 14 (show .b (!true) = .b false from rfl) (pf 18 h5 p0))))))) ?_
   exact ⟨rfl, Qd (by rw [h3, h4, h5] <;> kernel_rfl)⟩
  refine ck ((!(X0 a0.1)) || ((!(Yh a0.2)) || (decide (((k0 : Nat) : Int) > (0 : Int)) && (!(Op.bytesLess ((nth d (Int.toNat (((k0 : Nat) : Int) - 1))).1).toList a0.1.toList))))) (fun h7 => ?_) (fun h7 => ?_)
  ·
   refine sn Qa [0, 2, 3] [] (p0) ?_
   refine Qe ?_
   have hr8 : (Yr (K3 d) V8 d 0 ()) = .ret false := Kb hx0 (Xh h7 (rfl)) hI0
   exact pb [] (Mo hr8)
  refine Qf ?_
  refine rn Qa [0, 2, 3] [] (pe 1 (Jq (Q4 k0 (by omega))) p0) ?_
  exact xw _ (Xp hx0 (Qj h7 (rfl)) hI0)
 ·
  refine Qc ?_
  refine sn Qa [0, 2, 3, 7] [] (pl 2 d (pe 3 (Q1 (decide_eq_false (p := ((k0 : Nat) : Int) < (d.length : Int)) (by omega))) p0)) ?_
  refine ckF ?_
  refine Xu ?_
  exact xw _ (Yq hk0 (rfl) hI0)
 refine sn Qa [2] [] (pl 1 d p0) ?_
 refine Qe ?_
 exact pb [] (V4 hD0 (rfl))
def Hz (x : Z9) (q0 : ByteArray) : Bool := (x.1.toList == q0.toList)
theorem T3 (x : Z9) (q0 : ByteArray) : ACalls Tryz.prog 189 [.a [.s x.1, .h x.2], .one (.rptr .sh [.s q0])] (.b (Hz x q0)) := by
 refine en Qa Tryz.func189 fun w0 F0 hG => ?_
 refine sn Qa [1, 2, 3] [2] (p0) ?_
 refine tn Qa [3] [] (p0) ?_
 refine Qe ?_
 exact pb [] (show Hz x q0 = (x.1.toList == q0.toList) from rfl)
def Yn (c0 : ByteArray) (k0 : Nat) (a0 : Z9) (_ : Unit) : Rd (Int) (Unit) (Unit) := (bif (Hz a0 c0) then (.ret ((k0 : Nat) : Int)) else (.next ()))
def Y0 (_ : Nat) (_ : Unit) : Unit := ()
def Zw (s_ : (List Z9)) (c0 : ByteArray) : Int := (Out.on (Yr (Yn c0) Y0 s_ 0 ()) (fun _ => -1))
theorem Hf (s_ : (List Z9)) (c0 : ByteArray) : ACalls Tryz.prog 188 [.h s_, .one (.fnr 189 [[.s c0]])] (.i (Zw s_ c0)) := by
 refine en Qa Tryz.func188 fun w0 F0 hG => ?_
 refine sn Qa [0, 1, 4] [] (p0) ?_
 refine Qc ?_
 refine tn Qa [0, 1, 4, 7, 8] [] (pl 1 s_ p0) ?_
 refine mz [(4, .i 0), (7, .i (s_.length : Int)), (8, .i 0)] [] [] [] ?_
 refine wT 0 0 .sh s_ (fun hw1 hl2 => ?_)
 refine Rb (Yn c0) Y0 s_ () (fun k0 _ => [(8, .i ((k0 : Nat) : Int))]) [8] (fun _ => []) [0, 1, 7, 8] wf0 (fun k0 s0 hk0 hI0 => ?_) (fun k0 s0 hk0 hI0 => ?_) (fun y0 hD0 => ?_)
 ·
  obtain ⟨a0, hx0⟩ := Yp (l := s_) (i := k0) hk0
  refine sn Qa [0, 1, 4, 7, 8, 9] [] (pe 0 (Q1 (decide_eq_true (p := ((k0 : Nat) : Int) < (s_.length : Int)) (by omega))) p0) ?_
  refine Qc ?_
  refine ckT ?_
  refine Qf ?_
  refine Qc ?_
  refine Qz ?_
  refine tn Qa [0, 1, 4, 5, 7, 8] [] (p0) ?_
  refine tu Qa [(5, .i ((k0 : Nat) : Int)), (16, .b (Hz a0 c0))] [] [] [] (pn 3 hx0 (pc 5 (T3 a0 c0) p0)) ?_
  refine ck (Hz a0 c0) (fun h3 => ?_) (fun h3 => ?_)
  ·
   refine sn Qa [0, 1, 4, 7, 8] [] (p0) ?_
   refine Qe ?_
   have hr4 : (Yr (Yn c0) Y0 s_ 0 ()) = .ret ((k0 : Nat) : Int) := Kb hx0 (Xh h3 (rfl)) hI0
   exact pi [] (Mo hr4)
  refine Qf ?_
  refine rn Qa [0, 1, 4, 7, 8] [] (pe 0 (Jq (Q4 k0 (by omega))) p0) ?_
  exact xw _ (Xp hx0 (Qj h3 (rfl)) hI0)
 ·
  refine sn Qa [0, 1, 4, 7, 8, 9] [] (pe 0 (Q1 (decide_eq_false (p := ((k0 : Nat) : Int) < (s_.length : Int)) (by omega))) p0) ?_
  refine Qc ?_
  refine ckF ?_
  refine Xu ?_
  exact xw _ (Yq hk0 (rfl) hI0)
 refine sn Qa [4] [] (p0) ?_
 refine Qe ?_
 exact pi [] (V4 hD0 (rfl))
def X4 (d : (List Z9)) (name : ByteArray) : Int := (Zw d name)
theorem KV (d : (List Z9)) (name : ByteArray) : ACalls Tryz.prog 166 [.h d, .s name] (.i (X4 d name)) := by
 refine en Qa Tryz.func166 fun w0 F0 hG => ?_
 refine sn Qa [0, 3, 4] [3] (p0) ?_
 refine tn Qa [4] [] (pc 2 (Hf d name) p0) ?_
 refine Qe ?_
 exact pi [] (show X4 d name = (Zw d name) from rfl)
def Be (name : ByteArray) (k0 : Nat) (a0 : Z9) (_ : Unit) : Rd (Int) (Unit) (Unit) := (bif (a0.1.toList == name.toList) then (.ret ((k0 : Nat) : Int)) else (.next ()))
def Bf (_ : Nat) (_ : Unit) : Unit := ()
def Q7 (d : (List Z9)) (name : ByteArray) : Int := (Out.on (Yr (Be name) Bf d 0 ()) (fun _ => -1))
theorem Fd (d : (List Z9)) (name : ByteArray) : ACalls Tryz.prog 128 [.h d, .s name] (.i (Q7 d name)) := by
 refine en Qa Tryz.func128 fun w0 F0 hG => ?_
 refine sn Qa [0, 1, 4] [] (p0) ?_
 refine Qc ?_
 refine tn Qa [0, 1, 4, 5] [] (p0) ?_
 refine mz [(4, .i 0), (5, .i 0)] [] [] [] ?_
 refine wT 0 0 .sh d (fun hw1 hl2 => ?_)
 refine Rb (Be name) Bf d () (fun k0 _ => [(5, .i ((k0 : Nat) : Int))]) [5] (fun _ => []) [0, 1, 5] wf0 (fun k0 s0 hk0 hI0 => ?_) (fun k0 s0 hk0 hI0 => ?_) (fun y0 hD0 => ?_)
 ·
  obtain ⟨a0, hx0⟩ := Yp (l := d) (i := k0) hk0
  refine Qc ?_
  refine sn Qa [0, 1, 4, 5, 9] [] (pl 2 d (pe 3 (Q1 (decide_eq_true (p := ((k0 : Nat) : Int) < (d.length : Int)) (by omega))) p0)) ?_
  refine ckT ?_
  refine Qf ?_
  refine Qc ?_
  refine Qz ?_
  refine tn Qa [0, 1, 4, 5, 18] [] (pn 2 hx0 p0) ?_
  refine ck (a0.1.toList == name.toList) (fun h3 => ?_) (fun h3 => ?_)
  ·
   refine tu Qa [(4, .i ((k0 : Nat) : Int))] [4] [] [] (p0) ?_
   refine Qe ?_
   have hr4 : (Yr (Be name) Bf d 0 ()) = .ret ((k0 : Nat) : Int) := Kb hx0 (Xh h3 (rfl)) hI0
   exact pi [] (Mo hr4)
  refine Qf ?_
  refine qu Qa [(5, .i ((k0 + 1 : Nat) : Int))] [5] [] [] (pe 1 (Jq (Q4 k0 (by omega))) p0) ?_
  exact xw _ (Xp hx0 (Qj h3 (rfl)) hI0)
 ·
  refine Qc ?_
  refine sn Qa [0, 1, 4, 5, 9] [] (pl 2 d (pe 3 (Q1 (decide_eq_false (p := ((k0 : Nat) : Int) < (d.length : Int)) (by omega))) p0)) ?_
  refine ckF ?_
  refine Xu ?_
  exact xw _ (Yq hk0 (rfl) hI0)
 refine sn Qa [4] [] (p0) ?_
 refine Qe ?_
 exact pi [] (V4 hD0 (rfl))
theorem T4 (d : List Z9) : Zh d = Kk d := by
  unfold Zh Kk
  rw [Er (f := Zz d) (g := K3 d) (e := Jy) (e' := V8) (fun k a s => by
    unfold Zz K3
    rw [LE, DO]
    cases X0 a.1 <;> cases Yh a.2 <;> cases decide (((k : Nat) : Int) > (0 : Int)) <;> simp) (fun _ _ => rfl)]
theorem UF (s : ByteArray) : ∀ (l : List Z9) (k : Nat), Yr (Yn s) Y0 l k () = .brk () ∨ ∃ i : Nat, i < l.length ∧ Yr (Yn s) Y0 l k () = .ret (((k + i : Nat)) : Int)
  | [], _ => .inl rfl
  | a :: l, k => by
    simp only [Yr, Yn]
    unfold Hz
    cases (a.1.toList == s.toList) with
    | true => exact .inr ⟨0, by simp, rfl⟩
    | false =>
      simp only [cond_false]
      rcases UF s l (k + 1) with h | ⟨i, hi, h⟩
      · exact .inl h
      exact .inr ⟨i + 1, by simpa using hi, by rw [h, show k + 1 + i = k + (i + 1) by omega]⟩
theorem T5 (d : List Z9) (s : ByteArray) : -1 ≤ X4 d s ∧ X4 d s < (List.length d : Int) := by
  unfold X4 Zw
  rcases UF s d 0 with h | ⟨i, hi, h⟩
  · rw [h]; simp only [Out.on]; omega
  rw [h]; simp only [Out.on]; omega
theorem G7 (d : List Z9) (s : ByteArray) : -1 ≤ Q7 d s ∧ Q7 d s < (List.length d : Int) := T5 d s
open GoE (enc wide)
def V9 (d : (List Z9)) (strata : (List Int)) (more : Int) (_ : Nat) (a0 : ByteArray) (s0 : Int) : Rd (Int) (Int) (Int) := (bif decide ((X4 d a0) ≥ (0 : Int)) then (.next (max s0 (IntKind.i64.wrap ((nth strata (Int.toNat (X4 d a0))) + more)))) else (.next s0))
def Hg (_ : Nat) (s0 : Int) : Int := s0
def Xj (d : (List Z9)) (strata : (List Int)) (names : (List ByteArray)) (more : Int) : Int := (Out.on (Yr (V9 d strata more) Hg names 0 0) (fun y0 => y0))
theorem Ci (d : (List Z9)) (strata : (List Int)) (names : (List ByteArray)) (more : Int) (hp : List.length d ≤ List.length strata) : ACalls Tryz.prog 140 [.h d, .h strata, .h names, .i more] (.i (Xj d strata names more)) := by
 refine en Qa Tryz.func140 fun w0 F0 hG => ?_
 refine sn Qa [0, 1, 2, 3, 8] [] (p0) ?_
 refine tn Qa [0, 1, 2, 3, 8, 9] [] (p0) ?_
 refine Qc ?_
 refine tu Qa [(8, .i 0), (9, .i 0), (13, .h names), (14, .i (names.length : Int)), (15, .i 0)] [2] [] [] (pl 1 names p0) ?_
 refine wT 13 0 .sh names (fun hw1 hl2 => ?_)
 refine Rb (V9 d strata more) Hg names 0 (fun k0 s0 => [(9, .i s0), (15, .i ((k0 : Nat) : Int))]) [9, 15] (fun y0 => [(9, .i y0)]) [0, 1, 3, 9, 13, 14, 15] wf0 (fun k0 s0 hk0 hI0 => ?_) (fun k0 s0 hk0 hI0 => ?_) (fun y0 hD0 => ?_)
 ·
  obtain ⟨a0, hx0⟩ := Yp (l := names) (i := k0) hk0
  refine su Qa [(16, .b true)] [] [] [] (pe 0 (Q1 (decide_eq_true (p := ((k0 : Nat) : Int) < (names.length : Int)) (by omega))) p0) ?_
  refine Qc ?_
  refine ckT ?_
  refine Qf ?_
  refine Qc ?_
  refine Qz ?_
  refine su Qa [(11, .s a0)] [16] [] [] (pn 0 hx0 p0) ?_
  refine sn Qa [0, 1, 3, 8, 9, 12, 13, 14, 15] [] (pc 2 (KV d a0) p0) ?_
  refine tn Qa [0, 1, 3, 8, 9, 12, 13, 14, 15, 23] [] (p0) ?_
  refine ck (decide ((X4 d a0) ≥ (0 : Int))) (fun h3 => ?_) (fun h3 => ?_)
  ·
   have h3p := T5 d a0
   have h3d := of_decide_eq_true h3
   refine wT 1 0 .sh strata (fun hw5 hl6 => ?_)
   have hx4 := ng strata (Int.toNat (X4 d a0))
   refine qu Qa [(9, .i (max s0 (IntKind.i64.wrap ((nth strata (Int.toNat (X4 d a0))) + more))))] [9, 11] [] [] (pg 3 (X4 d a0) hx4 p0) ?_
   refine rn Qa [0, 1, 3, 8, 9, 13, 14, 15] [] (pe 0 (Jq (Q4 k0 (by omega))) p0) ?_
   exact xw _ (Xp hx0 (Xh h3 (rfl)) hI0)
  have h3d := of_decide_eq_false h3
  refine Qf ?_
  refine qu Qa [(15, .i ((k0 + 1 : Nat) : Int))] [11, 15] [] [] (pe 0 (Jq (Q4 k0 (by omega))) p0) ?_
  exact xw _ (Xp hx0 (Qj h3 (rfl)) hI0)
 ·
  refine su Qa [(16, .b false)] [] [] [] (pe 0 (Q1 (decide_eq_false (p := ((k0 : Nat) : Int) < (names.length : Int)) (by omega))) p0) ?_
  refine Qc ?_
  refine ckF ?_
  refine Xu ?_
  exact xw _ (Yq hk0 (rfl) hI0)
 refine sn Qa [8] [] (p0) ?_
 refine Qe ?_
 exact pi [] (V4 hD0 (rfl))
def Vj (d : (List Z9)) (k0 : Nat) (_ : Nat) (a1 : ByteArray) (s1 : (List Int)) : Rd (Rd ((List Int)) ((List Int)) ((List Int))) ((List Int)) ((List Int)) := (bif (decide ((Q7 d a1) ≥ (0 : Int)) && decide ((nth s1 (Int.toNat (Q7 d a1))) > (nth s1 k0))) then (.next (List.set s1 k0 (nth s1 (Int.toNat (Q7 d a1))))) else (.next s1))
def Wj (_ : Nat) (s1 : (List Int)) : (List Int) := s1
def Vk (d : (List Z9)) (k0 : Nat) (_ : Nat) (a2 : ByteArray) (s2 : (List Int)) : Rd (Rd ((List Int)) ((List Int)) ((List Int))) ((List Int)) ((List Int)) := (bif (decide ((Q7 d a2) ≥ (0 : Int)) && decide (IntKind.i64.wrap ((nth s2 (Int.toNat (Q7 d a2))) + 1) > (nth s2 k0))) then (.next (List.set s2 k0 (IntKind.i64.wrap ((nth s2 (Int.toNat (Q7 d a2))) + 1)))) else (.next s2))
def Hh (_ : Nat) (s2 : (List Int)) : (List Int) := s2
def Kl (d : (List Z9)) (k0 : Nat) (a0 : Z9) (s0 : (List Int)) : Rd ((List Int)) ((List Int)) ((List Int)) := (Out.on (Yr (Vj d k0) Wj (Y5 a0.2) 0 s0) (fun y1 => (Out.on (Yr (Vk d k0) Hh (Y6 a0.2) 0 y1) (fun y2 => (.next y2)))))
def Hi (_ : Nat) (s0 : (List Int)) : (List Int) := s0
def Js (d : (List Z9)) (lev : (List Int)) : (List Int) := (Out.on (Yr (Kl d) Hi d 0 lev) (fun y0 => y0))
theorem Fe (d : (List Z9)) (lev : (List Int)) (hp : List.length d ≤ List.length lev) : ACalls Tryz.prog 98 [.h d, .h lev] (.o 0 (Js d lev)) := by
 refine en Qa Tryz.func98 fun w0 F0 hG => ?_
 refine sn Qa [0, 1, 4] [] (p0) ?_
 refine wT 1 0 .sh lev (fun hw1 hl2 => ?_)
 refine tn Qa [0, 4, 5] [] (po 2 (.flat) (px (XV (n := (([] : List (List PV)).length + ((eL lev) : List (List PV)).length)) (WV (rfl) (Y9 lev) (by first | omega | (simp only [List.length_cons, List.length_nil]; omega) | (simp; omega) | simp))) (px (Tn (Oj lev)) p0))) ?_
 refine Qc ?_
 refine tu Qa [(4, .e 0), (5, .o 960 lev), (6, .i 0)] [1] [] [] (p0) ?_
 refine wT 0 0 .sh d (fun hw3 hl4 => ?_)
 refine DI (Kl d) Hi d lev (fun k0 s0 => [(5, .o 960 s0), (6, .i ((k0 : Nat) : Int))]) [5, 6] (fun y0 => [(5, .o 960 y0)]) [0, 5, 6] (fun _ s0 => List.length s0 = List.length lev) (fun y0 => List.length y0 = List.length lev) wf0 (by simp) (fun k0 s0 hk0 hI0 => ?_) (fun k0 s0 hk0 hI0 => ?_) (fun y0 hD0 => ?_)
 ·
  have hA0_0 := hI0.2
  obtain ⟨a0, hx0⟩ := Yp (l := d) (i := k0) hk0
  refine Qc ?_
  refine sn Qa [0, 4, 5, 6, 19] [] (pl 2 d (pe 3 (Q1 (decide_eq_true (p := ((k0 : Nat) : Int) < (d.length : Int)) (by omega))) p0)) ?_
  refine ckT ?_
  refine Qf ?_
  refine Qc ?_
  refine Qz ?_
  refine tn Qa [0, 4, 5, 6, 7] [] (pn 2 hx0 (pc 5 (G5 a0.2) p0)) ?_
  refine Qc ?_
  refine tu Qa [(7, .o 1728 (Y5 a0.2)), (8, .i 0)] [] [] [] (p0) ?_
  refine wT 7 0 (.own true 1728) (Y5 a0.2) (fun hw5 hl6 => ?_)
  refine DI (Vj d k0) Wj (Y5 a0.2) s0 (fun k1 s1 => [(5, .o 960 s1), (8, .i ((k1 : Nat) : Int))]) [5, 8] (fun y1 => [(5, .o 960 y1)]) [5, 7, 8] (fun _ s1 => List.length s1 = List.length s0) (fun y1 => List.length y1 = List.length s0) wf0 (by simp) (fun k1 s1 hk1 hI1 => ?_) (fun k1 s1 hk1 hI1 => ?_) (fun y1 hD1 => ?_)
  ·
   have hA1_0 := hI1.2
   obtain ⟨a1, hx1⟩ := Yp (l := Y5 a0.2) (i := k1) hk1
   refine Qc ?_
   refine su Qa [(31, .b true)] [] [] [] (pl 2 (Y5 a0.2) (pe 3 (Q1 (decide_eq_true (p := ((k1 : Nat) : Int) < ((Y5 a0.2).length : Int)) (by omega))) p0)) ?_
   refine ckT ?_
   refine Qf ?_
   refine Qc ?_
   refine Qz ?_
   refine sn Qa [0, 4, 5, 6, 7, 8, 9] [] (pN 3 hx1 (pc 5 (Fd d a1) p0)) ?_
   refine Qc ?_
   refine mz [(9, .i (Q7 d a1))] [31] [] [] ?_
   refine jn [(52, .b (decide ((Q7 d a1) ≥ (0 : Int)) && decide ((nth s1 (Int.toNat (Q7 d a1))) > (nth s1 k0))))] [] [] [] (decide ((Q7 d a1) ≥ (0 : Int))) (fun h7 => ?_) (fun h7 => ?_) ?_
   ·
    have h7p := G7 d a1
    have h7d := of_decide_eq_true h7
    refine wT 5 0 (.own true 960) s1 (fun hw9 hl10 => ?_)
    have hx8 := ng s1 (Int.toNat (Q7 d a1))
    have hx11 := ng s1 k0
    refine rN Qa Yz [0, 4, 5, 6, 7, 8, 9, 52] [] (pt 1 h7 (pG 5 (Q7 d a1) hx8 (pN 9 hx11 p0))) ?_
    exact ⟨rfl, Qd (by rw [h7] <;> kernel_rfl)⟩
   ·
    refine rU Qa Yz [(52, .b false)] [] [] [] (pf 1 h7 p0) ?_
    exact ⟨rfl, Qd (by rw [h7] <;> kernel_rfl)⟩
   refine ck (decide ((Q7 d a1) ≥ (0 : Int)) && decide ((nth s1 (Int.toNat (Q7 d a1))) > (nth s1 k0))) (fun h12 => ?_) (fun h12 => ?_)
   ·
    have h12l : (decide ((Q7 d a1) ≥ (0 : Int))) = true := Ou h12
    have h12lp := G7 d a1
    have h12ld := of_decide_eq_true h12l
    have h12r : (decide ((nth s1 (Int.toNat (Q7 d a1))) > (nth s1 k0))) = true := Mp h12
    have h12rd := of_decide_eq_true h12r
    refine wT 5 0 (.own true 960) s1 (fun hw14 hl15 => ?_)
    have hx13 := ng s1 (Int.toNat (Q7 d a1))
    have hx16 := ng s1 k0
    refine ru Qa [(5, .one (.slc (.own true 960) 1 (setRow (eL s1) k0 0 [.i (nth s1 (Int.toNat (Q7 d a1)))])))] [5, 9, 52] [] [] (pG 4 (Q7 d a1) hx13 (pN 6 hx16 p0)) ?_
    refine eqn [(5, .o 960 (List.set s1 k0 (nth s1 (Int.toNat (Q7 d a1)))))] [5] [] [] (by rw [Jr (y := (nth s1 (Int.toNat (Q7 d a1)))) hx16 rfl] <;> kernel_rfl) ?_
    refine rn Qa [0, 4, 5, 6, 7, 8] [] (pe 1 (Jq (Q4 k1 (by omega))) p0) ?_
    exact xw (List.set s1 k0 (nth s1 (Int.toNat (Q7 d a1)))) ⟨Xp hx1 (Xh h12 (rfl)) hI1.1, (by first | omega | (simp only [List.length_set]; omega))⟩
   refine Qf ?_
   refine rn Qa [0, 4, 5, 6, 7, 8] [] (pe 1 (Jq (Q4 k1 (by omega))) p0) ?_
   exact xw s1 ⟨Xp hx1 (Qj h12 (rfl)) hI1.1, (by first | omega | (simp only [List.length_set]; omega))⟩
  ·
   have hA1_0 := hI1.2
   refine Qc ?_
   refine su Qa [(31, .b false)] [] [] [] (pl 2 (Y5 a0.2) (pe 3 (Q1 (decide_eq_false (p := ((k1 : Nat) : Int) < ((Y5 a0.2).length : Int)) (by omega))) p0)) ?_
   refine ckF ?_
   refine Xu ?_
   exact xw s1 ⟨Yq hk1 (rfl) hI1.1, by first | omega | (simp only [List.length_set]; omega)⟩
  have hD1_0 := hD1.2
  refine sn Qa [0, 4, 5, 6, 10] [] (pn 2 hx0 (pc 5 (G6 a0.2) p0)) ?_
  refine tn Qa [0, 4, 5, 6, 10, 11] [] (p0) ?_
  refine mz [(10, .o 4160 (Y6 a0.2)), (11, .i 0)] [] [] [] ?_
  refine wT 10 0 (.own true 4160) (Y6 a0.2) (fun hw17 hl18 => ?_)
  refine DI (Vk d k0) Hh (Y6 a0.2) y1 (fun k2 s2 => [(5, .o 960 s2), (11, .i ((k2 : Nat) : Int))]) [5, 11] (fun y2 => [(5, .o 960 y2)]) [5, 10, 11] (fun _ s2 => List.length s2 = List.length y1) (fun y2 => List.length y2 = List.length y1) wf0 (by simp) (fun k2 s2 hk2 hI2 => ?_) (fun k2 s2 hk2 hI2 => ?_) (fun y2 hD2 => ?_)
  ·
   have hA2_0 := hI2.2
   obtain ⟨a2, hx2⟩ := Yp (l := Y6 a0.2) (i := k2) hk2
   refine Qc ?_
   refine su Qa [(69, .b true)] [] [] [] (pl 2 (Y6 a0.2) (pe 3 (Q1 (decide_eq_true (p := ((k2 : Nat) : Int) < ((Y6 a0.2).length : Int)) (by omega))) p0)) ?_
   refine ckT ?_
   refine Qf ?_
   refine Qc ?_
   refine Qz ?_
   refine sn Qa [0, 4, 5, 6, 10, 11, 12] [] (pN 3 hx2 (pc 5 (Fd d a2) p0)) ?_
   refine Qc ?_
   refine mz [(12, .i (Q7 d a2))] [69] [] [] ?_
   refine jn [(91, .b (decide ((Q7 d a2) ≥ (0 : Int)) && decide (IntKind.i64.wrap ((nth s2 (Int.toNat (Q7 d a2))) + 1) > (nth s2 k0))))] [] [] [] (decide ((Q7 d a2) ≥ (0 : Int))) (fun h19 => ?_) (fun h19 => ?_) ?_
   ·
    have h19p := G7 d a2
    have h19d := of_decide_eq_true h19
    refine wT 5 0 (.own true 960) s2 (fun hw21 hl22 => ?_)
    have hx20 := ng s2 (Int.toNat (Q7 d a2))
    have hx23 := ng s2 k0
    refine rN Qa Yz [0, 4, 5, 6, 10, 11, 12, 91] [] (pt 1 h19 (pG 5 (Q7 d a2) hx20 (pN 10 hx23 p0))) ?_
    exact ⟨rfl, Qd (by rw [h19] <;> kernel_rfl)⟩
   ·
    refine rU Qa Yz [(91, .b false)] [] [] [] (pf 1 h19 p0) ?_
    exact ⟨rfl, Qd (by rw [h19] <;> kernel_rfl)⟩
   refine ck (decide ((Q7 d a2) ≥ (0 : Int)) && decide (IntKind.i64.wrap ((nth s2 (Int.toNat (Q7 d a2))) + 1) > (nth s2 k0))) (fun h24 => ?_) (fun h24 => ?_)
   ·
    have h24l : (decide ((Q7 d a2) ≥ (0 : Int))) = true := Ou h24
    have h24lp := G7 d a2
    have h24ld := of_decide_eq_true h24l
    have h24r : (decide (IntKind.i64.wrap ((nth s2 (Int.toNat (Q7 d a2))) + 1) > (nth s2 k0))) = true := Mp h24
    have h24rd := of_decide_eq_true h24r
    refine wT 5 0 (.own true 960) s2 (fun hw26 hl27 => ?_)
    have hx25 := ng s2 (Int.toNat (Q7 d a2))
    have hx28 := ng s2 k0
    refine ru Qa [(5, .one (.slc (.own true 960) 1 (setRow (eL s2) k0 0 [.i (IntKind.i64.wrap ((nth s2 (Int.toNat (Q7 d a2))) + 1))])))] [5, 12, 91] [] [] (pG 4 (Q7 d a2) hx25 (pN 7 hx28 p0)) ?_
    refine eqn [(5, .o 960 (List.set s2 k0 (IntKind.i64.wrap ((nth s2 (Int.toNat (Q7 d a2))) + 1))))] [5] [] [] (by rw [Jr (y := IntKind.i64.wrap ((nth s2 (Int.toNat (Q7 d a2))) + 1)) hx28 rfl] <;> kernel_rfl) ?_
    refine rn Qa [0, 4, 5, 6, 10, 11] [] (pe 1 (Jq (Q4 k2 (by omega))) p0) ?_
    exact xw (List.set s2 k0 (IntKind.i64.wrap ((nth s2 (Int.toNat (Q7 d a2))) + 1))) ⟨Xp hx2 (Xh h24 (rfl)) hI2.1, (by first | omega | (simp only [List.length_set]; omega))⟩
   refine Qf ?_
   refine rn Qa [0, 4, 5, 6, 10, 11] [] (pe 1 (Jq (Q4 k2 (by omega))) p0) ?_
   exact xw s2 ⟨Xp hx2 (Qj h24 (rfl)) hI2.1, (by first | omega | (simp only [List.length_set]; omega))⟩
  ·
   have hA2_0 := hI2.2
   refine Qc ?_
   refine su Qa [(69, .b false)] [] [] [] (pl 2 (Y6 a0.2) (pe 3 (Q1 (decide_eq_false (p := ((k2 : Nat) : Int) < ((Y6 a0.2).length : Int)) (by omega))) p0)) ?_
   refine ckF ?_
   refine Xu ?_
   exact xw s2 ⟨Yq hk2 (rfl) hI2.1, by first | omega | (simp only [List.length_set]; omega)⟩
  have hD2_0 := hD2.2
  refine rn Qa [0, 4, 5, 6] [] (pe 1 (Jq (Q4 k0 (by omega))) p0) ?_
  exact xw y2 ⟨Xp hx0 (V4 hD1.1 (V4 hD2.1 (rfl))) hI0.1, (by first | omega | (simp only [List.length_set]; omega))⟩
 ·
  have hA0_0 := hI0.2
  refine Qc ?_
  refine sn Qa [0, 4, 5, 6, 19] [] (pl 2 d (pe 3 (Q1 (decide_eq_false (p := ((k0 : Nat) : Int) < (d.length : Int)) (by omega))) p0)) ?_
  refine ckF ?_
  refine Xu ?_
  exact xw s0 ⟨Yq hk0 (rfl) hI0.1, by first | omega | (simp only [List.length_set]; omega)⟩
 have hD0_0 := hD0.2
 refine sn Qa [4] [] (p0) ?_
 refine Qe ?_
 exact po0 [] (V4 hD0.1 (rfl))
theorem Nf {α R S T : Type} {f : Nat → α → S → Rd R S T} {e : Nat → S → T} (I : S → Prop) (h : ∀ k a s, I s → ∃ s', f k a s = .next s' ∧ I s') : ∀ (l : List α) (k : Nat) (s : S), I s → ∃ s', Yr f e l k s = .brk (e (k + l.length) s') ∧ I s'
  | [], k, s, hs => ⟨s, by simp [Yr], hs⟩
  | a :: l, k, s, hs => by
    obtain ⟨s1, h1, h2⟩ := h k a s hs
    obtain ⟨s2, h3, h4⟩ := Nf I h l (k + 1) s1 h2
    refine ⟨s2, ?_, h4⟩
    simp only [Yr, h1]
    rw [h3, List.length_cons, show k + 1 + l.length = k + (l.length + 1) by omega]
theorem TZ (d : List Z9) (k0 n : Nat) (k : Nat) (a : ByteArray) (s : List Int) (hs : s.length = n) : ∃ s', Vj d k0 k a s = .next s' ∧ s'.length = n := by
  unfold Vj
  generalize (decide ((Q7 d a) ≥ (0 : Int)) && decide ((nth s (Int.toNat (Q7 d a))) > (nth s k0))) = c
  cases c <;> exact ⟨_, rfl, by simpa using hs⟩
theorem Qaa (d : List Z9) (k0 n : Nat) (k : Nat) (a : ByteArray) (s : List Int) (hs : s.length = n) : ∃ s', Vk d k0 k a s = .next s' ∧ s'.length = n := by
  unfold Vk
  generalize (decide ((Q7 d a) ≥ (0 : Int)) && decide (IntKind.i64.wrap ((nth s (Int.toNat (Q7 d a))) + 1) > (nth s k0))) = c
  cases c <;> exact ⟨_, rfl, by simpa using hs⟩
theorem Qab (d : List Z9) (n : Nat) (k : Nat) (a : Z9) (s : List Int) (hs : s.length = n) : ∃ s', Kl d k a s = .next s' ∧ s'.length = n := by
  unfold Kl
  obtain ⟨s1, h1, h2⟩ := Nf (e := Wj) (fun s : List Int => s.length = n) (TZ d k n) (Y5 a.2) 0 s hs
  obtain ⟨s2, h3, h4⟩ := Nf (e := Hh) (fun s : List Int => s.length = n) (Qaa d k n) (Y6 a.2) 0 s1 h2
  refine ⟨s2, ?_, h4⟩
  rw [h1]
  simp only [Out.on, Wj]
  rw [h3]
  rfl
theorem YQ (d : List Z9) (lev : List Int) : List.length (Js d lev) = List.length lev := by
  unfold Js
  obtain ⟨s1, h1, h2⟩ := Nf (e := Hi) (fun s : List Int => s.length = lev.length) (Qab d lev.length) d 0 lev rfl
  rw [h1]
  exact h2
theorem G8 {d : List Z9} (h : Zh d = true) : List.length d ≤ 5 := by
  unfold Zh at h
  cases hf : Yr (Zz d) Jy d 0 () with
  | brk t => rw [hf] at h; simp only [Out.on, decide_eq_true_eq] at h; omega
  | ret r =>
    rw [hf] at h
    obtain rfl : r = true := h
    exfalso
    have key : ∀ (l : List Z9) k, Yr (Zz d) Jy l k () ≠ .ret true := by
      intro l
      induction l with
      | nil => intro k h; simp [Yr] at h
      | cons a l ih =>
        intro k h
        simp only [Yr] at h
        unfold Zz at h
        split at h
        · rename_i hf; exact ih _ h
        · cases h
        rename_i r hf; cases h; revert hf; generalize (_ || _ : Bool) = c; cases c <;> simp
    exact key _ _ hf
theorem Qac {d : List Z9} (h : Kk d = true) : IntKind.i64.wrap (IntKind.i64.wrap ((d.length : Int) * (d.length : Int)) + 1) = ((List.length d * List.length d + 1 : Nat) : Int) ∧ ((List.length d * List.length d + 1 : Nat) : Int) ≤ 26 := by
  have h5 := G8 ((T4 d).trans h)
  generalize List.length d = n at h5 ⊢
  have : n = 0 ∨ n = 1 ∨ n = 2 ∨ n = 3 ∨ n = 4 ∨ n = 5 := by omega
  rcases this with rfl | rfl | rfl | rfl | rfl | rfl <;> decide
def Jb (d : List Z9) (w : Int) : List ByteArray → Jp
  | [] => []
  | s :: r => if 0 ≤ X4 d s then (Int.toNat (X4 d s), w) :: Jb d w r else Jb d w r
theorem F4 (d : List Z9) (w : Int) : ∀ (l : List ByteArray) (e : Nat × Int), e ∈ Jb d w l → e.2 = w ∧ e.1 < d.length
  | [], e, h => by simp [Jb] at h
  | s :: r, e, h => by
    simp only [Jb] at h
    split at h
    · rename_i h0
      rcases List.mem_cons.1 h with rfl | h
      · have := (T5 d s).2
        exact ⟨rfl, by show Int.toNat _ < _; omega⟩
      exact F4 d w r e h
    exact F4 d w r e h
def Z8 (d : List Z9) (i : Nat) : Jp := if i < d.length then Jb d 0 (Xx (nth d i).2) ++ Jb d 1 (Xy (nth d i).2) else []
theorem EH (d : List Z9) (i : Nat) (e : Nat × Int) (h : e ∈ Z8 d i) : e.2 ≤ 1 ∧ e.1 < d.length ∧ i < d.length := by
  unfold Z8 at h
  split at h
  · rename_i hi
    rcases List.mem_append.1 h with h | h <;> (have := F4 d _ _ e h; omega)
  simp at h
theorem LM (E1 E2 : Jp) (L : List Int) : Bw (E1 ++ E2) L = max (Bw E1 L) (Bw E2 L) := by
  have h1 : Bw (E1 ++ E2) L ≤ max (Bw E1 L) (Bw E2 L) := Hc.2 ⟨by have := F1 E1 L; omega, fun e he => by
    rcases List.mem_append.1 he with he | he
    · have := (Hc.1 (Int.le_refl (Bw E1 L))).2 e he; omega
    have := (Hc.1 (Int.le_refl (Bw E2 L))).2 e he; omega⟩
  have h2 := Hc.1 (Int.le_refl (Bw (E1 ++ E2) L))
  have h3 : Bw E1 L ≤ Bw (E1 ++ E2) L := Hc.2 ⟨h2.1, fun e he => h2.2 e (List.mem_append_left _ he)⟩
  have h4 : Bw E2 L ≤ Bw (E1 ++ E2) L := Hc.2 ⟨h2.1, fun e he => h2.2 e (List.mem_append_right _ he)⟩
  omega
theorem Lh (d : List Z9) (L : List Int) (w : Int) (hw : 0 ≤ w ∧ w ≤ 1) (hL : ∀ j, 0 ≤ nth L j ∧ nth L j ≤ 1000000) : ∀ (l : List ByteArray) (k : Nat) (m : Int), Yr (V9 d L w) Hg l k m = .brk ((Jb d w l).foldl (fun m e => max m (nth L e.1 + e.2)) m)
  | [], k, m => rfl
  | s :: r, k, m => by
    simp only [Yr, V9, Jb]
    have hwr : ∀ j, IntKind.i64.wrap (nth L j + w) = nth L j + w := fun j => IntWalk.i64_in _ (by have := hL j; omega)
    by_cases h : 0 ≤ X4 d s
    · have h' : decide (X4 d s ≥ (0 : Int)) = true := decide_eq_true h
      rw [h', cond_true, if_pos h, hwr]
      exact Lh d L w hw hL r (k + 1) _
    have h' : decide (X4 d s ≥ (0 : Int)) = false := decide_eq_false h
    rw [h', cond_false, if_neg h]
    exact Lh d L w hw hL r (k + 1) _
theorem UG {d : List Z9} {L : List Int} {w : Int} (hw : 0 ≤ w ∧ w ≤ 1) (hL : ∀ j, 0 ≤ nth L j ∧ nth L j ≤ 1000000) (l : List ByteArray) : Xj d L l w = Bw (Jb d w l) L := by
  unfold Xj
  rw [Lh d L w hw hL]
  rfl
theorem LN {d : List Z9} {L : List Int} (hL : ∀ j, 0 ≤ nth L j ∧ nth L j ≤ 1000000) {i : Nat} (hi : i < d.length) : max (Xj d L (Xx (nth d i).2) 0) (Xj d L (Xy (nth d i).2) 1) = Bw (Z8 d i) L := by
  rw [UG (by omega) hL, UG (by omega) hL]
  unfold Z8
  rw [if_pos hi, LM]
abbrev UH (d : List Z9) (a : Z9) (L : List Int) : Int := max (Xj d L (Xx a.2) 0) (Xj d L (Xy a.2) 1)
abbrev EI := Nat → Z9 → List Int × Bool → Rd (Rd (List Int × Bool) (List Int × Bool) (List Int)) (List Int × Bool) (List Int × Bool)
def EJ (d : List Z9) (f : EI) : Prop := ∀ k a s, f k a s = bif decide (UH d a s.1 > (d.length : Int)) then .ret (.ret ([], false)) else (bif decide (UH d a s.1 > nth s.1 k) then .next (List.set s.1 k (UH d a s.1), true) else .next (s.1, s.2))
theorem F5 {d : List Z9} {f : EI} {e : Nat → List Int × Bool → List Int × Bool} (hf : EJ d f) (he : ∀ k s, e k s = s) (hd : d.length ≤ 1000000) :
    ∀ (l : List Z9) (k : Nat) (L : List Int) (c : Bool), d.drop k = l → L.length = d.length → (∀ j, 0 ≤ nth L j ∧ nth L j ≤ (d.length : Int)) →
      Yr f e l k (L, c) = (match Hy (Z8 d) d.length (List.range' k l.length) (c, L) with
        | none => .ret (.ret ([], false))
        | some s => .brk (s.2, s.1))
  | [], k, L, c, _, _, _ => by simp [Yr, Hy, he]
  | a :: l, k, L, c, hl, hlen, hL => by
    have hk : d[k]? = some a := by
      have := congrArg (·[0]?) hl
      simpa using this
    have hkl : k < d.length := (List.getElem?_eq_some_iff.1 hk).1
    have ha : nth d k = a := NN hk
    have hrest : d.drop (k + 1) = l := by rw [← List.drop_drop, hl]; rfl
    have hb : ∀ j, 0 ≤ nth L j ∧ nth L j ≤ 1000000 := fun j => by have := hL j; omega
    have hM : UH d a L = Bw (Z8 d k) L := by rw [← ha]; exact LN hb hkl
    simp only [Yr, hf k a (L, c), List.length_cons, List.range'_succ, Hy, hM]
    by_cases h1 : (d.length : Int) < Bw (Z8 d k) L
    · rw [decide_eq_true (show Bw (Z8 d k) L > (d.length : Int) from h1), cond_true, if_pos h1]
    rw [decide_eq_false (show ¬ Bw (Z8 d k) L > (d.length : Int) from h1), cond_false, if_neg h1]
    by_cases h2 : nth L k < Bw (Z8 d k) L
    · rw [decide_eq_true (show Bw (Z8 d k) L > nth L k from h2), cond_true, if_pos h2]
      refine F5 hf he hd l (k + 1) _ true hrest (by rw [List.length_set]; exact hlen) fun j => ?_
      have h0 := F1 (Z8 d k) L
      rw [F2 _ _ (by omega)]
      split
      · omega
      exact hL j
    rw [decide_eq_false (show ¬ Bw (Z8 d k) L > nth L k from h2), cond_false, if_neg h2]
    exact F5 hf he hd l (k + 1) L c hrest hlen hL
def Qcj : Option (List Int) → Out (List Int × Bool) (List Int)
  | none => .ret ([], false)
  | some L => .brk L
def NU (d : List Z9) (f : EI) (e : Nat → List Int × Bool → List Int × Bool) (F : List Int × Bool → Rd (List Int × Bool) (List Int × Bool) (List Int)) : Prop := ∀ s, F s = bif s.2 then (Out.on (Yr f e d 0 (s.1, false)) fun y1 => .next (y1.1, y1.2)) else .brk s.1
theorem Pe {d : List Z9} {f : EI} {e : Nat → List Int × Bool → List Int × Bool} {F : List Int × Bool → Rd (List Int × Bool) (List Int × Bool) (List Int)} (hf : EJ d f) (he : ∀ k s, e k s = s) (hF : NU d f e F) (hd : d.length ≤ 1000000) :
    ∀ (n : Nat) (L : List Int) (c : Bool), L.length = d.length → (∀ j, 0 ≤ nth L j ∧ nth L j ≤ (d.length : Int)) → whl F n (L, c) = (Re (Z8 d) d.length d.length n (c, L)).map Qcj
  | 0, L, c, _, _ => rfl
  | n + 1, L, false, _, _ => by
    simp only [whl, hF (L, false), cond_false, Re]
    rfl
  | n + 1, L, true, hlen, hL => by
    have hr := F5 hf he hd d 0 L false rfl hlen hL
    have e1 : List.range' 0 d.length = List.range d.length := (List.range_eq_range' ..).symm
    rw [e1] at hr
    simp only [whl, hF (L, true), cond_true, hr, Re]
    cases hc : Hy (Z8 d) d.length (List.range d.length) (false, L) with
    | none => rfl
    | some s =>
      obtain ⟨h1, _, _, h4⟩ := Ag (List.range d.length) false L s (fun i hi => by rw [hlen]; exact Un hi) hc
      have := Pe hf he hF hd n s.2 s.1 (by rw [h1, Es, hlen]) fun j => ⟨by rw [h1]; exact Int.le_trans (hL j).1 (G2 (Z8 d) j _ L), h4 (fun j => (hL j).2) j⟩
      exact this
theorem Ew (n : Nat) : (List.replicate n (0 : Int)).length = n ∧ ∀ j, 0 ≤ nth (List.replicate n (0 : Int)) j ∧ nth (List.replicate n (0 : Int)) j ≤ (n : Int) :=
  ⟨by simp, fun j => by rw [Na]; omega⟩
theorem KW {d : List Z9} {f : EI} {e : Nat → List Int × Bool → List Int × Bool} {F : List Int × Bool → Rd (List Int × Bool) (List Int × Bool) (List Int)} (hf : EJ d f) (he : ∀ k s, e k s = s) (hF : NU d f e F) (hd : d.length ≤ 1000000) :
    (whl F (List.length d * List.length d + 3) (List.replicate (Int.toNat (d.length : Int)) (0 : Int), true)).isSome = true := by
  rw [Int.toNat_natCast, Pe hf he hF hd _ _ _ (Ew _).1 (Ew _).2, Option.isSome_map]
  refine Sl _ _ _ (Ew _).1 (fun j => ((Ew _).2 j).2) ?_
  have : ((List.length d * List.length d + 3 : Nat) : Int) = (d.length : Int) * (d.length : Int) + 3 := by rw [Int.natCast_add, Int.natCast_mul]; rfl
  have h0 : (List.replicate d.length (0 : Int)).sum = 0 := by simp
  rw [this, h0]
  omega
open GoE (enc wide)
def Ui (b : (List Int)) (k0 : Nat) (a0 : Int) (_ : Unit) : Rd (Bool) (Unit) (Unit) := (bif (a0 != (nth b k0)) then (.ret false) else (.next ()))
def Aa (_ : Nat) (_ : Unit) : Unit := ()
def Bg (a_ : (List Int)) (b : (List Int)) : Bool := (bif ((a_.length : Int) != (b.length : Int)) then false else (Out.on (Yr (Ui b) Aa a_ 0 ()) (fun _ => true)))
theorem T6 (a_ : (List Int)) (b : (List Int)) : ACalls Tryz.prog 99 [.h a_, .h b] (.b (Bg a_ b)) := by
 refine en Qa Tryz.func99 fun w0 F0 hG => ?_
 refine sn Qa [0, 1, 4] [] (p0) ?_
 refine Qc ?_
 refine tn Qa [0, 1, 4, 10] [] (pl 1 a_ (pl 3 b p0)) ?_
 refine ck ((a_.length : Int) != (b.length : Int)) (fun h1 => ?_) (fun h1 => ?_)
 ·
  refine tu Qa [(4, .b false)] [] [] [] (p0) ?_
  refine Qe ?_
  exact pb [] (Xh h1 (rfl))
 have h1d := Hb h1
 refine Qf ?_
 refine Qc ?_
 refine tu Qa [(4, .b false), (5, .i 0)] [] [] [] (p0) ?_
 refine wT 0 0 .sh a_ (fun hw2 hl3 => ?_)
 refine Rb (Ui b) Aa a_ () (fun k0 _ => [(5, .i ((k0 : Nat) : Int))]) [5] (fun _ => []) [0, 1, 5] wf0 (fun k0 s0 hk0 hI0 => ?_) (fun k0 s0 hk0 hI0 => ?_) (fun y0 hD0 => ?_)
 ·
  obtain ⟨a0, hx0⟩ := Yp (l := a_) (i := k0) hk0
  refine Qc ?_
  refine sn Qa [0, 1, 4, 5, 14] [] (pl 2 a_ (pe 3 (Q1 (decide_eq_true (p := ((k0 : Nat) : Int) < (a_.length : Int)) (by omega))) p0)) ?_
  refine ckT ?_
  refine Qf ?_
  refine Qc ?_
  refine Qz ?_
  refine wT 1 0 .sh b (fun hw5 hl6 => ?_)
  have hx4 := ng b k0
  refine tN Qa Yz [0, 1, 4, 5, 25] [] (pn 2 hx0 (pn 6 hx4 p0)) ?_
  refine ck (a0 != (nth b k0)) (fun h7 => ?_) (fun h7 => ?_)
  ·
   refine tu Qa [] [] [] [] (p0) ?_
   refine Qe ?_
   have hr8 : (Yr (Ui b) Aa a_ 0 ()) = .ret false := Kb hx0 (Xh h7 (rfl)) hI0
   exact pb [] (Qj h1 (Mo hr8))
  have h7d := Hb h7
  refine Qf ?_
  refine qu Qa [(5, .i ((k0 + 1 : Nat) : Int))] [5] [] [] (pe 1 (Jq (Q4 k0 (by omega))) p0) ?_
  exact xw _ (Xp hx0 (Qj h7 (rfl)) hI0)
 ·
  refine Qc ?_
  refine sn Qa [0, 1, 4, 5, 14] [] (pl 2 a_ (pe 3 (Q1 (decide_eq_false (p := ((k0 : Nat) : Int) < (a_.length : Int)) (by omega))) p0)) ?_
  refine ckF ?_
  refine Xu ?_
  exact xw _ (Yq hk0 (rfl) hI0)
 refine sn Qa [4] [] (p0) ?_
 refine Qe ?_
 exact pb [] (Qj h1 (V4 hD0 (rfl)))
def A0 (d : (List Z9)) (_ : Nat) (s0 : (List Int)) : Rd ((List Int) × Bool) ((List Int)) ((List Int)) := (.next (Js d s0))
def C5 (_ : Nat) (s0 : (List Int)) : (List Int) := s0
def V3 (d : (List Z9)) : (List Int) × Bool := (bif (!(Kk d)) then ([], false) else (Out.on (Jg (A0 d) C5 (Int.toNat (IntKind.i64.wrap (IntKind.i64.wrap ((d.length : Int) * (d.length : Int)) + 1) + 1)) 0 (List.replicate (Int.toNat (d.length : Int)) (0 : Int))) (fun y0 => (bif (!(Bg (Js d y0) y0)) then ([], false) else (y0, true)))))
theorem YR (d : (List Z9)) : ACalls Tryz.prog 70 [.h d] (.tup [(false, [.o 0 (((V3 d)).1)]), (false, [.b (((V3 d)).2)])]) := by
 refine en Qa Tryz.func70 fun w0 F0 hG => ?_
 refine sn Qa [0, 2, 3] [] (p0) ?_
 refine Qc ?_
 refine tn Qa [0, 2, 3, 8] [] (pc 1 (Lg d) p0) ?_
 refine ck (!(Kk d)) (fun h1 => ?_) (fun h1 => ?_)
 ·
  refine tu Qa [(2, .one (.slc (.own true 576) 1 [])), (3, .b false)] [] [] [] (p0) ?_
  refine Qe ?_
  exact pz [] (show V3 d = _ from Xh h1 (rfl)) (fun z => .tup [(false, [.o 0 z.1]), (false, [.b z.2])])
 have h1n : (Kk d) = true := Z4 h1
 have h1nv := Qac h1n
 refine Qf ?_
 refine wT 0 0 .sh d (fun hw2 hl3 => ?_)
 refine tu Qa [(2, .e 0), (3, .b false), (4, .one (.slc (.own true 768) 1 (List.replicate (Int.toNat (d.length : Int)) [.i 0])))] [] [] [] (pl 1 d (px (Af (lo := 0) (hi := (d.length : Int)) (n := 1073741824) (⟨by omega, by omega, by omega⟩)) p0)) ?_
 refine eqn [(4, .o 768 (List.replicate (Int.toNat (d.length : Int)) (0 : Int)))] [4] [] [] (by rw [show (List.replicate (Int.toNat (d.length : Int)) [.i 0]) = (eL (List.replicate (Int.toNat (d.length : Int)) (0 : Int))) from IX _ (0 : Int)]; first | done | kernel_rfl) ?_
 refine Qc ?_
 refine sn Qa [0, 2, 3, 4, 5] [] (p0) ?_
 refine mz [(5, .i 0)] [] [] [] ?_
 refine RD (A0 d) C5 (Int.toNat (IntKind.i64.wrap (IntKind.i64.wrap ((d.length : Int) * (d.length : Int)) + 1) + 1)) (List.replicate (Int.toNat (d.length : Int)) (0 : Int)) (fun k0 s0 => [(4, .o 147203 s0), (5, .i ((k0 : Nat) : Int))]) [4, 5] (fun y0 => [(4, .o 147353 y0)]) [4, 5] (fun _ s0 => List.length s0 = List.length d) (fun y0 => List.length y0 = List.length d) (Zg [(768, 147203)] (by kernel_rfl)) (by simp) (fun k0 s0 hk0 hI0 => ?_) (fun k0 s0 hk0 hI0 => ?_) (fun y0 hD0 => ?_)
 ·
  have hA0_0 := hI0.2
  refine Qc ?_
  refine sn Qa [0, 2, 3, 4, 5, 20] [] (pl 2 d (pl 4 d (pe 7 (Q1 (decide_eq_true (p := ((k0 : Nat) : Int) ≤ IntKind.i64.wrap (IntKind.i64.wrap ((d.length : Int) * (d.length : Int)) + 1)) (by omega))) p0))) ?_
  refine ckT ?_
  refine Qf ?_
  refine Qc ?_
  refine Qz ?_
  refine qn Qa [0, 2, 3, 4, 5] [] (pc 2 (Fe d s0 (by omega)) p0) ?_
  refine qu Qa [(4, .o 1600 (Js d s0)), (5, .i ((k0 + 1 : Nat) : Int))] [4, 5] [] [] (pe 1 (Jq (Q4 k0 (by omega))) p0) ?_
  exact Exists.intro (Js d s0) (And.intro (Zg [(1600, 147203)] (by kernel_rfl)) ⟨Zp hk0 (rfl) hI0.1, (by have hz := YQ d s0; omega)⟩)
 ·
  have hA0_0 := hI0.2
  refine Qc ?_
  refine sn Qa [0, 2, 3, 4, 5, 20] [] (pl 2 d (pl 4 d (pe 7 (Q1 (decide_eq_false (p := ((k0 : Nat) : Int) ≤ IntKind.i64.wrap (IntKind.i64.wrap ((d.length : Int) * (d.length : Int)) + 1)) (by omega))) p0))) ?_
  refine ckF ?_
  refine Xu ?_
  exact Exists.intro s0 (And.intro (Zg [(147203, 147353)] (by kernel_rfl)) ⟨W6 hk0 (rfl) hI0.1, by first | omega | (simp only [List.length_set]; omega)⟩)
 have hD0_0 := hD0.2
 refine Qc ?_
 refine sn Qa [2, 3, 4, 31] [] (pc 2 (Fe d y0 (by omega)) (pc 4 (T6 (Js d y0) y0) p0)) ?_
 refine ck (!(Bg (Js d y0) y0)) (fun h4 => ?_) (fun h4 => ?_)
 ·
  refine tn Qa [2, 3, 4] [] (p0) ?_
  refine Qe ?_
  exact pz [] (show V3 d = _ from Qj h1 (V4 hD0.1 (Xh h4 (rfl)))) (fun z => .tup [(false, [.o 0 z.1]), (false, [.b z.2])])
 refine Qf ?_
 refine tn Qa [2, 3] [] (p0) ?_
 refine Qe ?_
 exact pz [] (show V3 d = _ from Qj h1 (V4 hD0.1 (Qj h4 (rfl)))) (fun z => .tup [(false, [.o 0 z.1]), (false, [.b z.2])])
def Hj (d : (List Z9)) (k1 : Nat) (a1 : Z9) (s1 : (List Int) × Bool) : Rd (Rd ((List Int) × Bool) ((List Int) × Bool) ((List Int))) ((List Int) × Bool) ((List Int) × Bool) := (bif decide ((max (Xj d s1.1 (Xx a1.2) 0) (Xj d s1.1 (Xy a1.2) 1)) > (d.length : Int)) then (.ret (.ret ([], false))) else (bif decide ((max (Xj d s1.1 (Xx a1.2) 0) (Xj d s1.1 (Xy a1.2) 1)) > (nth s1.1 k1)) then (.next (List.set s1.1 k1 (max (Xj d s1.1 (Xx a1.2) 0) (Xj d s1.1 (Xy a1.2) 1)), true)) else (.next (s1.1, s1.2))))
def Hk (_ : Nat) (s1 : (List Int) × Bool) : (List Int) × Bool := (s1.1, s1.2)
def Vt (d : (List Z9)) (s0 : (List Int) × Bool) : Rd ((List Int) × Bool) ((List Int) × Bool) ((List Int)) := (bif s0.2 then (Out.on (Yr (Hj d) Hk d 0 (s0.1, false)) (fun y1 => (.next (y1.1, y1.2)))) else (.brk s0.1))
def Vl (d : (List Z9)) : (List Int) × Bool := (bif (!(Zh d)) then ([], false) else (Out.on (YC (Vt d) (List.length d * List.length d + 3) ((List.replicate (Int.toNat (d.length : Int)) (0 : Int)), true)) (fun y0 => (y0, true))))
theorem Mh (d : List Z9) (hd : d.length ≤ 5) : (whl (Vt d) (List.length d * List.length d + 3) (List.replicate (Int.toNat (d.length : Int)) (0 : Int), true)).isSome = true := KW (f := Hj d) (e := Hk) (fun _ _ _ => rfl) (fun _ _ => rfl) (fun _ => rfl) (by omega)
theorem YS (d : (List Z9)) : ACalls Tryz.prog 113 [.h d] (.tup [(false, [.o 0 (((Vl d)).1)]), (false, [.b (((Vl d)).2)])]) := by
 refine en Qa Tryz.func113 fun w0 F0 hG => ?_
 refine sn Qa [0, 2, 3] [] (p0) ?_
 refine Qc ?_
 refine tn Qa [0, 2, 3, 11] [] (pc 1 (Lf d) p0) ?_
 refine ck (!(Zh d)) (fun h1 => ?_) (fun h1 => ?_)
 ·
  refine tu Qa [(2, .e 0), (3, .b false)] [] [] [] (p0) ?_
  refine opn [(false, 2, 0, true, 384000, 1)] ?_
  refine Qe ?_
  exact pz [] (show Vl d = _ from Xh h1 (rfl)) (fun z => .tup [(false, [.o 0 z.1]), (false, [.b z.2])])
 have h1n : (Zh d) = true := Z4 h1
 refine Qf ?_
 refine wT 0 0 .sh d (fun hw2 hl3 => ?_)
 refine tu Qa [(2, .e 0), (3, .b false), (4, .one (.slc (.own true 896) 1 (List.replicate (Int.toNat (d.length : Int)) [.i 0])))] [] [] [] (pl 1 d (px (Af (lo := 0) (hi := (d.length : Int)) (n := 1073741824) (⟨by omega, by omega, by omega⟩)) p0)) ?_
 refine eqn [(4, .o 896 (List.replicate (Int.toNat (d.length : Int)) (0 : Int)))] [4] [] [] (by rw [show (List.replicate (Int.toNat (d.length : Int)) [.i 0]) = (eL (List.replicate (Int.toNat (d.length : Int)) (0 : Int))) from IX _ (0 : Int)]; first | done | kernel_rfl) ?_
 refine Qc ?_
 refine sn Qa [0, 2, 3, 4, 5] [] (p0) ?_
 refine mz [(5, .b true)] [] [] [] ?_
 refine blw (fun (s0 : (List Int) × Bool) => [(4, .o 896 s0.1), (5, .b s0.2)]) [4, 5] (fun s0 => []) [] (fun (y0 : (List Int)) => [(4, .o 896 y0)]) [0, 4, 5] (fun y0 => []) [] (fun (k0 : Nat) (s0 : (List Int) × Bool) => whl (Vt d) k0 s0 = some (YC (Vt d) (List.length d * List.length d + 3) ((List.replicate (Int.toNat (d.length : Int)) (0 : Int)), true)) ∧ List.length s0.1 = List.length d) (fun (y0 : (List Int)) => (YC (Vt d) (List.length d * List.length d + 3) ((List.replicate (Int.toNat (d.length : Int)) (0 : Int)), true)) = .brk y0) (List.length d * List.length d + 3) ((List.replicate (Int.toNat (d.length : Int)) (0 : Int)), true) wf0 ⟨M8 (Mh d (G8 (h1n))), (by simp)⟩ (fun _ h => Ts h.1) (fun k0 s0 hI0 => ?_) (fun y0 hD0 => ?_)
 ·
  have hA0_0 := hI0.2
  refine Qc ?_
  refine sn Qa [0, 2, 3, 4, 5, 15] [] (p0) ?_
  refine ck s0.2 (fun h4 => ?_) (fun h4 => ?_)
  ·
   refine Qf ?_
   refine Qz ?_
   refine tn Qa [0, 2, 3, 4, 5] [] (p0) ?_
   refine tu Qa [(5, .b false), (16, .h d), (17, .i (d.length : Int)), (18, .i 0)] [5] [] [] (pl 1 d p0) ?_
   refine DI (Hj d) Hk d (s0.1, false) (fun k1 s1 => [(4, .o 896 s1.1), (5, .b s1.2), (18, .i ((k1 : Nat) : Int))]) [4, 5, 18] (fun y1 => [(4, .o 896 y1.1), (5, .b y1.2)]) [4, 5, 16, 17, 18] (fun _ s1 => List.length s1.1 = List.length s0.1) (fun y1 => List.length y1.1 = List.length s0.1) wf0 (by simp) (fun k1 s1 hk1 hI1 => ?_) (fun k1 s1 hk1 hI1 => ?_) (fun y1 hD1 => ?_)
   ·
    have hA1_0 := hI1.2
    obtain ⟨a1, hx1⟩ := Yp (l := d) (i := k1) hk1
    refine su Qa [(19, .b true)] [] [] [] (pe 0 (Q1 (decide_eq_true (p := ((k1 : Nat) : Int) < (d.length : Int)) (by omega))) p0) ?_
    refine Qc ?_
    refine ckT ?_
    refine Qf ?_
    refine Qc ?_
    refine Qz ?_
    refine sn Qa [0, 2, 3, 4, 5, 6, 7, 16, 17, 18] [7] (pn 1 hx1 p0) ?_
    refine tN Qa Yz [0, 2, 3, 4, 5, 6, 8, 16, 17, 18] [] (pc 4 (G3 a1.2) (pc 5 (Ci d s1.1 (Xx a1.2) 0 (by omega)) (pc 10 (G4 a1.2) (pc 11 (Ci d s1.1 (Xy a1.2) 1 (by omega)) p0)))) ?_
    refine Qc ?_
    refine tu Qa [(6, .i ((k1 : Nat) : Int)), (8, .i (max (Xj d s1.1 (Xx a1.2) 0) (Xj d s1.1 (Xy a1.2) 1))), (39, .b (decide ((max (Xj d s1.1 (Xx a1.2) 0) (Xj d s1.1 (Xy a1.2) 1)) > (d.length : Int))))] [19] [] [] (pl 2 d p0) ?_
    refine ck (decide ((max (Xj d s1.1 (Xx a1.2) 0) (Xj d s1.1 (Xy a1.2) 1)) > (d.length : Int))) (fun h5 => ?_) (fun h5 => ?_)
    ·
     refine su Qa [] [39] [] [] (p0) ?_
     refine opn [(false, 2, 0, true, 384000, 1)] ?_
     refine Qe ?_
     have hr6 : (Yr (Hj d) Hk d 0 (s0.1, false)) = .ret (.ret ([], false)) := Kb hx1 (Xh h5 (rfl)) hI1.1
     have hr7 : (YC (Vt d) (List.length d * List.length d + 3) ((List.replicate (Int.toNat (d.length : Int)) (0 : Int)), true)) = .ret ([], false) := RA (Xh h4 (Mo hr6)) hI0.1
     exact pz [] (show Vl d = _ from Qj h1 (Mo hr7)) (fun z => .tup [(false, [.o 0 z.1]), (false, [.b z.2])])
    have h5d := of_decide_eq_false h5
    refine Qf ?_
    refine wT 4 0 (.own true 896) s1.1 (fun hw9 hl10 => ?_)
    have hx8 := ng s1.1 k1
    refine sn Qa [0, 2, 3, 4, 5, 6, 8, 16, 17, 18, 45] [] (pN 3 hx8 p0) ?_
    refine ck (decide ((max (Xj d s1.1 (Xx a1.2) 0) (Xj d s1.1 (Xy a1.2) 1)) > (nth s1.1 k1))) (fun h11 => ?_) (fun h11 => ?_)
    ·
     have h11d := of_decide_eq_true h11
     refine tu Qa [(4, .one (.slc (.own true 896) 1 (setRow (eL s1.1) k1 0 [.i (max (Xj d s1.1 (Xx a1.2) 0) (Xj d s1.1 (Xy a1.2) 1))])))] [4, 6, 8, 39] [] [] (pN 3 hx8 p0) ?_
     refine eqn [(4, .o 896 (List.set s1.1 k1 (max (Xj d s1.1 (Xx a1.2) 0) (Xj d s1.1 (Xy a1.2) 1))))] [4] [] [] (by rw [Jr (y := (max (Xj d s1.1 (Xx a1.2) 0) (Xj d s1.1 (Xy a1.2) 1))) hx8 rfl] <;> kernel_rfl) ?_
     refine ru Qa [(5, .b true)] [5] [] [] (p0) ?_
     refine rn Qa [0, 2, 3, 4, 5, 16, 17, 18] [] (pe 0 (Jq (Q4 k1 (by omega))) p0) ?_
     exact xw (List.set s1.1 k1 (max (Xj d s1.1 (Xx a1.2) 0) (Xj d s1.1 (Xy a1.2) 1)), true) ⟨Xp hx1 (Qj h5 (Xh h11 (rfl))) hI1.1, (by first | omega | (simp only [List.length_set]; omega))⟩
    have h11d := of_decide_eq_false h11
    refine Qf ?_
    refine qn Qa [0, 2, 3, 4, 5, 16, 17, 18] [] (pe 0 (Jq (Q4 k1 (by omega))) p0) ?_
    exact xw (s1.1, s1.2) ⟨Xp hx1 (Qj h5 (Qj h11 (rfl))) hI1.1, (by first | omega | (simp only [List.length_set]; omega))⟩
   ·
    have hA1_0 := hI1.2
    refine su Qa [(19, .b false)] [] [] [] (pe 0 (Q1 (decide_eq_false (p := ((k1 : Nat) : Int) < (d.length : Int)) (by omega))) p0) ?_
    refine Qc ?_
    refine ckF ?_
    refine Xu ?_
    exact xw (s1.1, s1.2) ⟨Yq hk1 (rfl) hI1.1, by first | omega | (simp only [List.length_set]; omega)⟩
   have hD1_0 := hD1.2
   exact xw (y1.1, y1.2) ⟨wn hI0.1 (Xh h4 (V4 hD1.1 (rfl))), (by first | omega | (simp only [List.length_set]; omega))⟩
  refine Xu ?_
  exact xw _ (wb hI0.1 (Qj h4 (rfl)))
 refine sn Qa [2, 3] [] (p0) ?_
 refine Qe ?_
 exact pz [] (show Vl d = _ from Qj h1 (V4 hD0 (rfl))) (fun z => .tup [(false, [.o 0 z.1]), (false, [.b z.2])])
end
end Go.Proofs.YtbemokhfcmepjaaGreatDoor
