/- Texts of this proof, put together by a program: Cka, Ckb, Nga, Ngb, Zd, Sh, Ts, Dpa, Dpb, Dpc, Dpd, Sta, Stb, Stc, Stg, Sth, Std. -/
import Derived.Test.YtkbmchfkaibelaaGreatDoorP3
import Derived.Test.YtkbmchfkaibelaaGreatDoorProg
import Derived.KernelRfl
import Derived.Sort.EncStr
import Derived.Sort.Grow
import Derived.Lib.SlicesCompact
import Derived.Sort.Walk0
import Derived.Shelf.Strings.Builder1
import Derived.Shelf.Strings.Builder2
import Derived.Shelf.Strings.OnBuilder
import Derived.Shelf.Small.Bits
import Derived.Shelf.Utf8.RuneCount
import Derived.Shelf.Strconv.Atoi
import Derived.Shelf.Strconv.Itoa0
import Derived.Shelf.Strconv.Itoa1
import Derived.Shelf.LaysM
import Derived.Shelf.Strconv.Itoa2
import Derived.Shelf.Strconv.Itoa3
import Derived.Shelf.Strconv.AtoiErrFast
import Derived.Shelf.Strconv.ParseIntEmpty
import Derived.Shelf.Strconv.AtoiFail
import Derived.Shelf.Strconv.Clone
import Derived.Shelf.Strconv.SyntaxError
import Derived.Shelf.LaysC
import Derived.Shelf.Strconv.ToError
import Derived.Shelf.Strconv.AtoiErr
import Derived.Shelf.Strconv.ErrVar
import Derived.Shelf.Strconv.Lower
import Derived.Shelf.Strconv.ParseUint10
import Derived.Shelf.Strconv.ParseUint10Empty
import Derived.Shelf.Strconv.ParseUint10Any
import Derived.Shelf.Strconv.ParseInt10
import Derived.Shelf.Strconv.AtoiLong
import Derived.Shelf.Strconv.AtoiInnerAll
import Derived.Shelf.Strconv.RangeError
import Derived.Shelf.Strconv.ToErrorRange
import Derived.Shelf.Strconv.AtoiAll
import Derived.Shelf.Strconv.ErrVarAll
import Derived.Shelf.Strings.Search1
import Derived.Shelf.Strings.Search2
import Derived.Shelf.Strings.Search3
import Derived.Shelf.Strings.Count
import Derived.Shelf.Strings.Shaped
import Derived.Shelf.Sort.Plain
import Derived.Shelf.Strings.Split
import Derived.Shelf.Strings.Fields
import Derived.Shelf.Strings.SplitShaped
import Derived.Shelf.Unicode.Latin
import Derived.Shelf.Unicode.Decode
import Derived.Shelf.Strings.RuneCount
import Derived.Shelf.Strings.Explode
import Derived.Shelf.Unicode.DecodeSlow
import Derived.Shelf.Unicode.DecodeAny
import Derived.Shelf.Unicode.Is16White
import Derived.Shelf.Unicode.IsSpaceAny
import Derived.Shelf.Unicode.Is16Any
import Derived.Shelf.Unicode.Is32Any
import Derived.Shelf.Unicode.ExclAny
import Derived.Ground.Names2Prog
import Derived.Shelf.Slices.Clone
import Derived.Shelf.Slices.CompactS
import Derived.Shelf.Slices.Cells
import Derived.Shelf.Slices.In.SortNone
import Derived.Ground.SlgnProg
import Derived.Shelf.SlicesE.Equal
import Derived.Shelf.SlicesE.Compact
import Derived.Shelf.SlicesE.Clone
set_option linter.unusedVariables false
set_option linter.unusedSimpArgs false
namespace Go.Proofs.YtkbmchfkaibelaaGreatDoor
section
open Go.RowKit
open GoE (enc wide)
def tt : List (Nat × TI) := [(3, ⟨.int .i64, 1, [.i 0], []⟩),
 (4, ⟨.bool, 1, [.b false], []⟩),
 (5, ⟨.int .u8, 1, [.int .u8 0], []⟩),
 (9, ⟨.str, 1, [.s ⟨#[]⟩], []⟩),
 (22, ⟨.sli 152, 1, [.e 2], []⟩),
 (23, ⟨.sli 156, 1, [.e 5], []⟩),
 (25, ⟨.struct [(0, 1, false), (1, 1, false), (2, 1, false)], 3, [.e 2, .e 5, .i 0], []⟩),
 (26, ⟨.sli 116, 1, [.e 2], []⟩),
 (27, ⟨.sli 119, 1, [.e 2], []⟩),
 (29, ⟨.struct [(0, 3, true), (3, 1, false), (4, 1, false)], 5, [.e 2, .e 5, .i 0, .e 2, .e 2], []⟩),
 (31, ⟨.struct [(0, 1, false), (1, 1, false)], 2, [.s ⟨#[]⟩, .s ⟨#[]⟩], []⟩),
 (32, ⟨.sli 83, 1, [.e 6], []⟩),
 (33, ⟨.sli 87, 1, [.e 4], []⟩),
 (34, ⟨.sli 3, 1, [.e 1], []⟩),
 (36, ⟨.struct [(0, 5, true), (5, 2, true), (7, 1, false), (8, 1, false), (9, 1, false), (10, 1, false)], 11, [.e 2, .e 5, .i 0, .e 2, .e 2, .s ⟨#[]⟩, .s ⟨#[]⟩, .i 0, .e 6, .e 4, .e 1], []⟩),
 (39, ⟨.sli 126, 1, [.e 2], []⟩),
 (40, ⟨.sli 131, 1, [.e 5], []⟩),
 (42, ⟨.struct [(0, 1, false), (1, 1, false), (2, 1, false)], 3, [.e 2, .e 5, .i 0], []⟩),
 (43, ⟨.sli 134, 1, [.e 2], []⟩),
 (44, ⟨.sli 139, 1, [.e 2], []⟩),
 (46, ⟨.struct [(0, 3, true), (3, 1, false), (4, 1, false)], 5, [.e 2, .e 5, .i 0, .e 2, .e 2], []⟩),
 (47, ⟨.struct [(0, 1, false), (1, 1, false)], 2, [.s ⟨#[]⟩, .s ⟨#[]⟩], []⟩),
 (48, ⟨.sli 98, 1, [.e 6], []⟩),
 (49, ⟨.sli 102, 1, [.e 4], []⟩),
 (51, ⟨.struct [(0, 5, true), (5, 2, true), (7, 1, false), (8, 1, false), (9, 1, false), (10, 1, false)], 11, [.e 2, .e 5, .i 0, .e 2, .e 2, .s ⟨#[]⟩, .s ⟨#[]⟩, .i 0, .e 6, .e 4, .e 1], []⟩),
 (61, ⟨.struct [(0, 3, true), (3, 1, false)], 4, [.e 2, .e 5, .i 0, .e 2], []⟩),
 (81, ⟨.struct [(0, 3, true), (3, 1, false)], 4, [.e 2, .e 5, .i 0, .e 2], []⟩),
 (83, ⟨.struct [(0, 1, false), (1, 4, true), (5, 1, false)], 6, [.i 0, .e 2, .e 5, .i 0, .e 2, .i 0], []⟩),
 (85, ⟨.sli 160, 1, [.e 3], []⟩),
 (87, ⟨.struct [(0, 1, false), (1, 1, false), (2, 1, false), (3, 1, false)], 4, [.i 0, .s ⟨#[]⟩, .e 1, .e 3], []⟩),
 (91, ⟨.sli 9, 1, [.e 1], []⟩),
 (98, ⟨.struct [(0, 1, false), (1, 4, true), (5, 1, false)], 6, [.i 0, .e 2, .e 5, .i 0, .e 2, .i 0], []⟩),
 (100, ⟨.sli 183, 1, [.e 3], []⟩),
 (102, ⟨.struct [(0, 1, false), (1, 1, false), (2, 1, false), (3, 1, false)], 4, [.i 0, .s ⟨#[]⟩, .e 1, .e 3], []⟩),
 (114, ⟨.sli 198, 1, [.e 7], []⟩),
 (116, ⟨.struct [(0, 1, false), (1, 1, false)], 2, [.s ⟨#[]⟩, .e 7], []⟩),
 (119, ⟨.struct [(0, 1, false), (1, 1, false)], 2, [.s ⟨#[]⟩, .e 1], []⟩),
 (126, ⟨.struct [(0, 1, false), (1, 1, false)], 2, [.s ⟨#[]⟩, .i 0], []⟩),
 (129, ⟨.sli 175, 1, [.e 4], []⟩),
 (131, ⟨.struct [(0, 1, false), (1, 1, false), (2, 1, false), (3, 1, false), (4, 1, false)], 5, [.i 0, .i 0, .b false, .i 0, .e 4], []⟩),
 (132, ⟨.sli 189, 1, [.e 7], []⟩),
 (134, ⟨.struct [(0, 1, false), (1, 1, false)], 2, [.s ⟨#[]⟩, .e 7], []⟩),
 (139, ⟨.struct [(0, 1, false), (1, 1, false)], 2, [.s ⟨#[]⟩, .e 1], []⟩),
 (152, ⟨.struct [(0, 1, false), (1, 1, false)], 2, [.s ⟨#[]⟩, .i 0], []⟩),
 (154, ⟨.sli 227, 1, [.e 4], []⟩),
 (156, ⟨.struct [(0, 1, false), (1, 1, false), (2, 1, false), (3, 1, false), (4, 1, false)], 5, [.i 0, .i 0, .b false, .i 0, .e 4], []⟩),
 (160, ⟨.struct [(0, 1, false), (1, 1, false), (2, 1, false)], 3, [.i 0, .e 1, .e 1], []⟩),
 (173, ⟨.struct [(0, 1, false), (1, 1, false), (2, 1, false)], 3, [.i 0, .i 0, .s ⟨#[]⟩], [.int, .int, .str]⟩),
 (175, ⟨.struct [(0, 1, false), (1, 3, true)], 4, [.s ⟨#[]⟩, .i 0, .i 0, .s ⟨#[]⟩], []⟩),
 (183, ⟨.struct [(0, 1, false), (1, 1, false), (2, 1, false)], 3, [.i 0, .e 1, .e 1], []⟩),
 (189, ⟨.struct [(0, 1, false), (1, 1, false), (2, 1, false), (3, 1, false), (4, 3, true)], 7, [.i 0, .i 0, .i 0, .s ⟨#[]⟩, .i 0, .i 0, .s ⟨#[]⟩], [.int, .int, .int, .str, .int, .int, .str]⟩),
 (196, ⟨.struct [(0, 1, false), (1, 1, false), (2, 1, false)], 3, [.i 0, .i 0, .s ⟨#[]⟩], []⟩),
 (198, ⟨.struct [(0, 1, false), (1, 1, false), (2, 1, false), (3, 1, false), (4, 3, true)], 7, [.i 0, .i 0, .i 0, .s ⟨#[]⟩, .i 0, .i 0, .s ⟨#[]⟩], []⟩),
 (227, ⟨.struct [(0, 1, false), (1, 3, true)], 4, [.s ⟨#[]⟩, .i 0, .i 0, .s ⟨#[]⟩], []⟩),
 (272, ⟨.struct [(0, 1, false), (1, 1, false)], 2, [.e 1, .e 7], []⟩),
 (294, ⟨.sli 4, 1, [.e 1], []⟩)]
theorem Qa : Aq Tryz.prog tt = true := by kernel_rfl
theorem Yp : Tryz.prog.follows .mixedOrders = true := by kernel_rfl
def Q9 (n : Int) (low : Int) (high_ : Int) : Bool := (decide (low ≤ n) && decide (n ≤ high_))
theorem Zc (n : Int) (low : Int) (high_ : Int) : ACalls Tryz.prog 144 [.i n, .i low, .i high_] (.b (Q9 n low high_)) := by
 refine en Qa Tryz.func144 fun w0 F0 hG => ?_
 refine sn Qa [0, 1, 2, 6] [] (p0) ?_
 refine Qc ?_
 refine mz [(6, .b false)] [] [] [] ?_
 refine jn [(6, .b (decide (low ≤ n) && decide (n ≤ high_)))] [0, 1, 2, 6] [] [] (decide (low ≤ n)) (fun h1 => ?_) (fun h1 => ?_) ?_
 ·
  refine rn Qa [6] [] (pt 2 h1 p0) ?_
  exact ⟨rfl, Qd (by rw [h1] <;> kernel_rfl)⟩
 ·
  refine rn Qa [6] [] (pf 2 h1 p0) ?_
  exact ⟨rfl, Qd (by rw [h1] <;> kernel_rfl)⟩
 refine Qe ?_
 exact pb [] (show Q9 n low high_ = (decide (low ≤ n) && decide (n ≤ high_)) from rfl)
def Xp (s_ : ByteArray) (k0 : Nat) (_ : Unit) : Rd (Bool) (Unit) (Unit) := (bif (decide (Yw s_ ((k0 : Nat) : Int) < (97 : Int)) || decide (Yw s_ ((k0 : Nat) : Int) > (122 : Int))) then (.ret false) else (.next ()))
def Zs (_ : Nat) (_ : Unit) : Unit := ()
def Q0 (s_ : ByteArray) : Bool := (Out.on (Jn (Xp s_) Zs (Int.toNat (ByteArray.size s_ : Int)) 0 ()) (fun _ => (Q9 (ByteArray.size s_ : Int) 1 6)))
theorem Zy (s_ : ByteArray) : ACalls Tryz.prog 190 [.s s_] (.b (Q0 s_)) := by
 refine en Qa Tryz.func190 fun w0 F0 hG => ?_
 refine sn Qa [0, 2] [] (p0) ?_
 refine Qc ?_
 refine tn Qa [0, 2, 5, 6] [] (p0) ?_
 refine mz [(2, .b false), (5, .i (ByteArray.size s_ : Int)), (6, .i 0)] [] [] [] ?_
 refine stT 0 0 s_ (fun hs1 => ?_)
 refine Qe2 (Xp s_) Zs (Int.toNat (ByteArray.size s_ : Int)) () (fun k0 _ => [(6, .i ((k0 : Nat) : Int))]) [6] (fun _ => []) [5, 6] wf0 (fun k0 s0 hk0 hI0 => ?_) (fun k0 s0 hk0 hI0 => ?_) (fun y0 hD0 => ?_)
 ·
  refine sn Qa [0, 2, 5, 6, 7] [] (pe 0 (Qz (decide_eq_true (p := ((k0 : Nat) : Int) < (ByteArray.size s_ : Int)) (by omega))) p0) ?_
  refine Qc ?_
  refine ckT ?_
  refine Qf ?_
  refine Qc ?_
  refine Qy ?_
  refine tn Qa [0, 2, 3, 5, 6] [] (p0) ?_
  refine Qc ?_
  refine mz [(3, .i ((k0 : Nat) : Int))] [] [] [] ?_
  refine jn [(18, .b (decide (Yw s_ ((k0 : Nat) : Int) < (97 : Int)) || decide (Yw s_ ((k0 : Nat) : Int) > (122 : Int))))] [3] [] [] (decide (Yw s_ ((k0 : Nat) : Int) < (97 : Int))) (fun h2 => ?_) (fun h2 => ?_) ?_
  ·
   have h2d := of_decide_eq_true h2
   refine rn Qa [0, 2, 5, 6, 18] [] (px (U1 (i := ((k0 : Nat) : Int)) (n := (ByteArray.size s_)) (by omega)) (pt 3 h2 p0)) ?_
   exact ⟨rfl, Qd (by rw [h2] <;> kernel_rfl)⟩
  ·
   have h2d := of_decide_eq_false h2
   refine rn Qa [0, 2, 5, 6, 18] [] (px (U1 (i := ((k0 : Nat) : Int)) (n := (ByteArray.size s_)) (by omega)) (pf 3 h2 (px (U1 (i := ((k0 : Nat) : Int)) (n := (ByteArray.size s_)) (by omega)) p0))) ?_
   exact ⟨rfl, Qd (by rw [h2] <;> kernel_rfl)⟩
  refine ck (decide (Yw s_ ((k0 : Nat) : Int) < (97 : Int)) || decide (Yw s_ ((k0 : Nat) : Int) > (122 : Int))) (fun h3 => ?_) (fun h3 => ?_)
  ·
   refine su Qa [] [18] [] [] (p0) ?_
   refine Qe ?_
   have hr4 : (Jn (Xp s_) Zs (Int.toNat (ByteArray.size s_ : Int)) 0 ()) = .ret false := La hk0 (Xi h3 (rfl)) hI0
   exact pb [] (N7 hr4)
  have h3l : (decide (Yw s_ ((k0 : Nat) : Int) < (97 : Int))) = false := UE h3
  have h3ld := of_decide_eq_false h3l
  have h3r : (decide (Yw s_ ((k0 : Nat) : Int) > (122 : Int))) = false := UF h3
  have h3rd := of_decide_eq_false h3r
  refine Qf ?_
  refine rn Qa [0, 2, 5, 6] [] (pe 0 (Jr (Q1 k0 (by omega))) p0) ?_
  exact xw _ (Zu hk0 (Qk h3 (rfl)) hI0)
 ·
  refine sn Qa [0, 2, 5, 6, 7] [] (pe 0 (Qz (decide_eq_false (p := ((k0 : Nat) : Int) < (ByteArray.size s_ : Int)) (by omega))) p0) ?_
  refine Qc ?_
  refine ckF ?_
  refine Xs ?_
  exact xw _ (Up hk0 (rfl) hI0)
 refine sn Qa [2] [] (pc 2 (Zc (ByteArray.size s_ : Int) 1 6) p0) ?_
 refine Qe ?_
 exact pb [] (V4 hD0 (rfl))
def Qu (v : Jf) : Bool := (bif (v.1 == (0 : Int)) then ((v.1 == 0) && ((v.2.1 == 0) && ((v.2.2.toList == (⟨#[]⟩ : ByteArray).toList) && true))) else (bif (v.1 == (1 : Int)) then ((Q9 v.2.1 0 999) && (v.2.2.toList == (⟨#[]⟩ : ByteArray).toList)) else (bif (v.1 == (2 : Int)) then ((Q0 v.2.2) && (v.2.1 == (0 : Int))) else false)))
theorem Zd (v : Jf) : ACalls Tryz.prog 151 [.a [.i v.1, .i v.2.1, .s v.2.2]] (.b (Qu v)) := by
 refine en Qa Tryz.func151 fun w0 F0 hG => ?_
 refine sn Qa [1, 2] [1] (p0) ?_
 refine Qc ?_
 refine tn Qa [1, 2, 4] [1] (p0) ?_
 refine Qy ?_
 refine tu Qa [(1, .p 1 0), (2, .b false), (4, .i v.1), (5, .b (v.1 == (0 : Int)))] [0] [(1, [.i v.1, .i v.2.1, .s v.2.2])] [] (p0) ?_
 refine ck (v.1 == (0 : Int)) (fun h1 => ?_) (fun h1 => ?_)
 ·
  refine sn Qa [2] [] (p0) ?_
  refine Qe ?_
  exact pb [] (Xi h1 (rfl))
 refine sn Qa [1, 2, 4, 10] [1] (p0) ?_
 refine ck (v.1 == (1 : Int)) (fun h2 => ?_) (fun h2 => ?_)
 ·
  refine Qc ?_
  refine mz [(10, .b (v.1 == (1 : Int)))] [5] [] [] ?_
  refine jn [(2, .b ((Q9 v.2.1 0 999) && (v.2.2.toList == (⟨#[]⟩ : ByteArray).toList)))] [1, 2, 4, 10] [] [1] (Q9 v.2.1 0 999) (fun h3 => ?_) (fun h3 => ?_) ?_
  ·
   refine rn Qa [2] [] (pc 2 (cb h3 (Zc v.2.1 0 999)) p0) ?_
   exact ⟨rfl, Qd (by rw [h3] <;> kernel_rfl)⟩
  ·
   refine rn Qa [2] [] (pc 2 (cb h3 (Zc v.2.1 0 999)) p0) ?_
   exact ⟨rfl, Qd (by rw [h3] <;> kernel_rfl)⟩
  refine Qe ?_
  exact pb [] (Qk h1 (Xi h2 (rfl)))
 refine tn Qa [1, 2, 20] [1] (p0) ?_
 refine ck (v.1 == (2 : Int)) (fun h4 => ?_) (fun h4 => ?_)
 ·
  refine Qc ?_
  refine mz [(20, .b (v.1 == (2 : Int)))] [4, 5] [] [] ?_
  refine jn [(2, .b ((Q0 v.2.2) && (v.2.1 == (0 : Int))))] [1, 2, 20] [] [1] (Q0 v.2.2) (fun h5 => ?_) (fun h5 => ?_) ?_
  ·
   refine rn Qa [2] [] (pc 2 (cb h5 (Zy v.2.2)) p0) ?_
   exact ⟨rfl, Qd (by rw [h5] <;> kernel_rfl)⟩
  ·
   refine rn Qa [2] [] (pc 2 (cb h5 (Zy v.2.2)) p0) ?_
   exact ⟨rfl, Qd (by rw [h5] <;> kernel_rfl)⟩
  refine Qe ?_
  exact pb [] (Qk h1 (Qk h2 (Xi h4 (rfl))))
 refine Qf ?_
 refine tu Qa [] [1, 4, 5] [] [1] (p0) ?_
 refine Qe ?_
 exact pb [] (Qk h1 (Qk h2 (Qk h4 (rfl))))
def Xf (x : Int) (least : Int) (most : Int) : Bool := (decide (x ≥ least) && decide (x ≤ most))
theorem Y5 (x : Int) (least : Int) (most : Int) : ACalls Tryz.prog 130 [.i x, .i least, .i most] (.b (Xf x least most)) := by
 refine en Qa Tryz.func130 fun w0 F0 hG => ?_
 refine sn Qa [0, 1, 2, 6] [] (p0) ?_
 refine Qc ?_
 refine mz [(6, .b false)] [] [] [] ?_
 refine jn [(6, .b (decide (x ≥ least) && decide (x ≤ most)))] [0, 1, 2, 6] [] [] (decide (x ≥ least)) (fun h1 => ?_) (fun h1 => ?_) ?_
 ·
  refine rn Qa [6] [] (pt 2 h1 p0) ?_
  exact ⟨rfl, Qd (by rw [h1] <;> kernel_rfl)⟩
 ·
  refine rn Qa [6] [] (pf 2 h1 p0) ?_
  exact ⟨rfl, Qd (by rw [h1] <;> kernel_rfl)⟩
 refine Qe ?_
 exact pb [] (show Xf x least most = (decide (x ≥ least) && decide (x ≤ most)) from rfl)
def Vk (s_ : ByteArray) (k0 : Nat) (_ : Unit) : Rd (Bool) (Unit) (Unit) := (bif (decide (Yw s_ ((k0 : Nat) : Int) < (97 : Int)) || decide (Yw s_ ((k0 : Nat) : Int) > (122 : Int))) then (.ret false) else (.next ()))
def Wi (_ : Nat) (_ : Unit) : Unit := ()
def Ae (s_ : ByteArray) (most : Int) : Bool := (Out.on (Jn (Vk s_) Wi (Int.toNat (ByteArray.size s_ : Int)) 0 ()) (fun _ => (Xf (ByteArray.size s_ : Int) 1 most)))
theorem Ld (s_ : ByteArray) (most : Int) : ACalls Tryz.prog 135 [.s s_, .i most] (.b (Ae s_ most)) := by
 refine en Qa Tryz.func135 fun w0 F0 hG => ?_
 refine sn Qa [0, 1, 4] [] (p0) ?_
 refine Qc ?_
 refine tn Qa [0, 1, 4, 5] [] (p0) ?_
 refine mz [(4, .b false), (5, .i 0)] [] [] [] ?_
 refine stT 0 0 s_ (fun hs1 => ?_)
 refine Qe2 (Vk s_) Wi (Int.toNat (ByteArray.size s_ : Int)) () (fun k0 _ => [(5, .i ((k0 : Nat) : Int))]) [5] (fun _ => []) [5] wf0 (fun k0 s0 hk0 hI0 => ?_) (fun k0 s0 hk0 hI0 => ?_) (fun y0 hD0 => ?_)
 ·
  refine Qc ?_
  refine sn Qa [0, 1, 4, 5, 9] [] (pe 3 (Qz (decide_eq_true (p := ((k0 : Nat) : Int) < (ByteArray.size s_ : Int)) (by omega))) p0) ?_
  refine ckT ?_
  refine Qf ?_
  refine Qc ?_
  refine Qy ?_
  refine Qc ?_
  refine mz [(9, .b true)] [] [] [] ?_
  refine jn [(21, .b (decide (Yw s_ ((k0 : Nat) : Int) < (97 : Int)) || decide (Yw s_ ((k0 : Nat) : Int) > (122 : Int))))] [9] [] [] (decide (Yw s_ ((k0 : Nat) : Int) < (97 : Int))) (fun h2 => ?_) (fun h2 => ?_) ?_
  ·
   have h2d := of_decide_eq_true h2
   refine rn Qa [0, 1, 4, 5, 21] [] (px (U1 (i := ((k0 : Nat) : Int)) (n := (ByteArray.size s_)) (by omega)) (pt 3 h2 p0)) ?_
   exact ⟨rfl, Qd (by rw [h2] <;> kernel_rfl)⟩
  ·
   have h2d := of_decide_eq_false h2
   refine rn Qa [0, 1, 4, 5, 21] [] (px (U1 (i := ((k0 : Nat) : Int)) (n := (ByteArray.size s_)) (by omega)) (pf 3 h2 (px (U1 (i := ((k0 : Nat) : Int)) (n := (ByteArray.size s_)) (by omega)) p0))) ?_
   exact ⟨rfl, Qd (by rw [h2] <;> kernel_rfl)⟩
  refine ck (decide (Yw s_ ((k0 : Nat) : Int) < (97 : Int)) || decide (Yw s_ ((k0 : Nat) : Int) > (122 : Int))) (fun h3 => ?_) (fun h3 => ?_)
  ·
   refine su Qa [] [21] [] [] (p0) ?_
   refine Qe ?_
   have hr4 : (Jn (Vk s_) Wi (Int.toNat (ByteArray.size s_ : Int)) 0 ()) = .ret false := La hk0 (Xi h3 (rfl)) hI0
   exact pb [] (N7 hr4)
  have h3l : (decide (Yw s_ ((k0 : Nat) : Int) < (97 : Int))) = false := UE h3
  have h3ld := of_decide_eq_false h3l
  have h3r : (decide (Yw s_ ((k0 : Nat) : Int) > (122 : Int))) = false := UF h3
  have h3rd := of_decide_eq_false h3r
  refine Qf ?_
  refine rn Qa [0, 1, 4, 5] [] (pe 1 (Jr (Q1 k0 (by omega))) p0) ?_
  exact xw _ (Zu hk0 (Qk h3 (rfl)) hI0)
 ·
  refine Qc ?_
  refine sn Qa [0, 1, 4, 5, 9] [] (pe 3 (Qz (decide_eq_false (p := ((k0 : Nat) : Int) < (ByteArray.size s_ : Int)) (by omega))) p0) ?_
  refine ckF ?_
  refine Xs ?_
  exact xw _ (Up hk0 (rfl) hI0)
 refine sn Qa [4] [] (pc 3 (Y5 (ByteArray.size s_ : Int) 1 most) p0) ?_
 refine Qe ?_
 exact pb [] (V4 hD0 (rfl))
def Xz (s_ : ByteArray) : Bool := (Ae s_ 6)
theorem Zg (s_ : ByteArray) : ACalls Tryz.prog 173 [.s s_] (.b (Xz s_)) := by
 refine en Qa Tryz.func173 fun w0 F0 hG => ?_
 refine sn Qa [0, 2] [] (p0) ?_
 refine tn Qa [2] [] (pc 1 (Ld s_ 6) p0) ?_
 refine Qe ?_
 exact pb [] (show Xz s_ = (Ae s_ 6) from rfl)
def Xg (v : Jf) : Bool := (bif (v.1 == (0 : Int)) then ((v.1 == 0) && ((v.2.1 == 0) && ((v.2.2.toList == (⟨#[]⟩ : ByteArray).toList) && true))) else (bif (v.1 == (1 : Int)) then ((Xf v.2.1 0 999) && (v.2.2.toList == (⟨#[]⟩ : ByteArray).toList)) else (bif (v.1 == (2 : Int)) then ((Xz v.2.2) && (v.2.1 == (0 : Int))) else false)))
theorem Ya (v : Jf) : ACalls Tryz.prog 136 [.a [.i v.1, .i v.2.1, .s v.2.2]] (.b (Xg v)) := by
 refine en Qa Tryz.func136 fun w0 F0 hG => ?_
 refine sn Qa [1, 2] [1] (p0) ?_
 refine Qc ?_
 refine tn Qa [1, 2, 4] [1] (p0) ?_
 refine Qy ?_
 refine tu Qa [(1, .p 1 0), (2, .b false), (4, .i v.1), (5, .b (v.1 == (0 : Int)))] [0] [(1, [.i v.1, .i v.2.1, .s v.2.2])] [] (p0) ?_
 refine ck (v.1 == (0 : Int)) (fun h1 => ?_) (fun h1 => ?_)
 ·
  refine sn Qa [2] [] (p0) ?_
  refine Qe ?_
  exact pb [] (Xi h1 (rfl))
 refine sn Qa [1, 2, 4, 10] [1] (p0) ?_
 refine ck (v.1 == (1 : Int)) (fun h2 => ?_) (fun h2 => ?_)
 ·
  refine Qc ?_
  refine mz [(10, .b (v.1 == (1 : Int)))] [5] [] [] ?_
  refine jn [(2, .b ((Xf v.2.1 0 999) && (v.2.2.toList == (⟨#[]⟩ : ByteArray).toList)))] [1, 2, 4, 10] [] [1] (Xf v.2.1 0 999) (fun h3 => ?_) (fun h3 => ?_) ?_
  ·
   refine rn Qa [2] [] (pc 2 (cb h3 (Y5 v.2.1 0 999)) p0) ?_
   exact ⟨rfl, Qd (by rw [h3] <;> kernel_rfl)⟩
  ·
   refine rn Qa [2] [] (pc 2 (cb h3 (Y5 v.2.1 0 999)) p0) ?_
   exact ⟨rfl, Qd (by rw [h3] <;> kernel_rfl)⟩
  refine Qe ?_
  exact pb [] (Qk h1 (Xi h2 (rfl)))
 refine tn Qa [1, 2, 20] [1] (p0) ?_
 refine ck (v.1 == (2 : Int)) (fun h4 => ?_) (fun h4 => ?_)
 ·
  refine Qc ?_
  refine mz [(20, .b (v.1 == (2 : Int)))] [4, 5] [] [] ?_
  refine jn [(2, .b ((Xz v.2.2) && (v.2.1 == (0 : Int))))] [1, 2, 20] [] [1] (Xz v.2.2) (fun h5 => ?_) (fun h5 => ?_) ?_
  ·
   refine rn Qa [2] [] (pc 2 (cb h5 (Zg v.2.2)) p0) ?_
   exact ⟨rfl, Qd (by rw [h5] <;> kernel_rfl)⟩
  ·
   refine rn Qa [2] [] (pc 2 (cb h5 (Zg v.2.2)) p0) ?_
   exact ⟨rfl, Qd (by rw [h5] <;> kernel_rfl)⟩
  refine Qe ?_
  exact pb [] (Qk h1 (Qk h2 (Xi h4 (rfl))))
 refine Qf ?_
 refine tu Qa [] [1, 4, 5] [] [1] (p0) ?_
 refine Qe ?_
 exact pb [] (Qk h1 (Qk h2 (Qk h4 (rfl))))
def Qs (s_ : ByteArray) : Bool := (((ByteArray.size s_ : Int) == (1 : Int)) && (decide (Yw s_ 0 ≥ (97 : Int)) && decide (Yw s_ 0 ≤ (122 : Int))))
theorem Yb (s_ : ByteArray) : ACalls Tryz.prog 115 [.s s_] (.b (Qs s_)) := by
 refine en Qa Tryz.func115 fun w0 F0 hG => ?_
 refine sn Qa [0, 2] [] (p0) ?_
 refine Qc ?_
 refine mz [(2, .b false)] [] [] [] ?_
 refine jn [(2, .b (((ByteArray.size s_ : Int) == (1 : Int)) && (decide (Yw s_ 0 ≥ (97 : Int)) && decide (Yw s_ 0 ≤ (122 : Int)))))] [0, 2] [] [] ((ByteArray.size s_ : Int) == (1 : Int)) (fun h1 => ?_) (fun h1 => ?_) ?_
 ·
  have h1d := eq_of_beq h1
  refine Xr (decide (Yw s_ 0 ≥ (97 : Int))) (fun h2 => ?_) (fun h2 => ?_)
  ·
   have h2d := of_decide_eq_true h2
   refine rn Qa [2] [] (pt 2 h1 (px (U1 (i := 0) (n := (ByteArray.size s_)) (by omega)) (pt 6 h2 (px (U1 (i := 0) (n := (ByteArray.size s_)) (by omega)) p0)))) ?_
   exact ⟨rfl, Qd (by rw [h1, h2] <;> kernel_rfl)⟩
  have h2d := of_decide_eq_false h2
  refine rn Qa [2] [] (pt 2 h1 (px (U1 (i := 0) (n := (ByteArray.size s_)) (by omega)) (pf 6 h2 p0))) ?_
  exact ⟨rfl, Qd (by rw [h1, h2] <;> kernel_rfl)⟩
 ·
  refine rn Qa [2] [] (pf 2 h1 p0) ?_
  exact ⟨rfl, Qd (by rw [h1] <;> kernel_rfl)⟩
 refine Qe ?_
 exact pb [] (show Qs s_ = (((ByteArray.size s_ : Int) == (1 : Int)) && (decide (Yw s_ 0 ≥ (97 : Int)) && decide (Yw s_ 0 ≤ (122 : Int)))) from rfl)
def Xb (s_ : ByteArray) : Bool := (Ae s_ 1)
theorem Xt (s_ : ByteArray) : ACalls Tryz.prog 99 [.s s_] (.b (Xb s_)) := by
 refine en Qa Tryz.func99 fun w0 F0 hG => ?_
 refine sn Qa [0, 2] [] (p0) ?_
 refine tn Qa [2] [] (pc 1 (Ld s_ 1) p0) ?_
 refine Qe ?_
 exact pb [] (show Xb s_ = (Ae s_ 1) from rfl)
def Yo (n : Qw) (at_ : Int) : Bool := (bif (n.1 == (1 : Int)) then ((n.1 == n.1) && ((n.2.1 == 0) && ((n.2.2.1 == 0) && ((n.2.2.2.1.toList == (⟨#[]⟩ : ByteArray).toList) && ((n.2.2.2.2.1 == 0) && ((n.2.2.2.2.2.1 == 0) && ((n.2.2.2.2.2.2.toList == (⟨#[]⟩ : ByteArray).toList) && true))))))) else (bif (n.1 == (2 : Int)) then (((n.1 == n.1) && ((n.2.1 == 0) && ((n.2.2.1 == 0) && ((n.2.2.2.1.toList == n.2.2.2.1.toList) && ((n.2.2.2.2.1 == 0) && ((n.2.2.2.2.2.1 == 0) && ((n.2.2.2.2.2.2.toList == (⟨#[]⟩ : ByteArray).toList) && true))))))) && (Qs n.2.2.2.1)) else (bif (bif (n.1 == (3 : Int)) then (n.1 == (3 : Int)) else (n.1 == (4 : Int))) then (((n.1 == n.1) && ((n.2.1 == 0) && ((n.2.2.1 == 0) && ((n.2.2.2.1.toList == n.2.2.2.1.toList) && ((n.2.2.2.2.1 == n.2.2.2.2.1) && ((n.2.2.2.2.2.1 == n.2.2.2.2.2.1) && ((n.2.2.2.2.2.2.toList == n.2.2.2.2.2.2.toList) && true))))))) && ((Qs n.2.2.2.1) && ((Qu n.2.2.2.2) && ((n.2.2.2.2.1 != (0 : Int)) && ((n.1 == (3 : Int)) || (n.2.2.2.2.1 == (1 : Int))))))) else (bif (n.1 == (5 : Int)) then (((n.1 == n.1) && ((n.2.1 == n.2.1) && ((n.2.2.1 == 0) && ((n.2.2.2.1.toList == (⟨#[]⟩ : ByteArray).toList) && ((n.2.2.2.2.1 == 0) && ((n.2.2.2.2.2.1 == 0) && ((n.2.2.2.2.2.2.toList == (⟨#[]⟩ : ByteArray).toList) && true))))))) && (decide (at_ > (0 : Int)) && (Q9 n.2.1 0 (IntKind.i64.wrap (at_ - 1))))) else (bif (bif (n.1 == (6 : Int)) then (n.1 == (6 : Int)) else (n.1 == (7 : Int))) then (((n.1 == n.1) && ((n.2.1 == n.2.1) && ((n.2.2.1 == n.2.2.1) && ((n.2.2.2.1.toList == (⟨#[]⟩ : ByteArray).toList) && ((n.2.2.2.2.1 == 0) && ((n.2.2.2.2.2.1 == 0) && ((n.2.2.2.2.2.2.toList == (⟨#[]⟩ : ByteArray).toList) && true))))))) && (decide (at_ > (0 : Int)) && ((Q9 n.2.1 0 (IntKind.i64.wrap (at_ - 1))) && (Q9 n.2.2.1 0 (IntKind.i64.wrap (at_ - 1)))))) else (bif (n.1 == (8 : Int)) then (((n.1 == n.1) && ((n.2.1 == 0) && ((n.2.2.1 == 0) && ((n.2.2.2.1.toList == n.2.2.2.1.toList) && ((n.2.2.2.2.1 == 0) && ((n.2.2.2.2.2.1 == 0) && ((n.2.2.2.2.2.2.toList == (⟨#[]⟩ : ByteArray).toList) && true))))))) && (Q0 n.2.2.2.1)) else (bif (n.1 == (9 : Int)) then (((n.1 == n.1) && ((n.2.1 == 0) && ((n.2.2.1 == 0) && ((n.2.2.2.1.toList == n.2.2.2.1.toList) && ((n.2.2.2.2.1 == 0) && ((n.2.2.2.2.2.1 == 0) && ((n.2.2.2.2.2.2.toList == (⟨#[]⟩ : ByteArray).toList) && true))))))) && (Q0 n.2.2.2.1)) else false)))))))
theorem Af (n : Qw) (at_ : Int) : ACalls Tryz.prog 155 [.a [.i n.1, .i n.2.1, .i n.2.2.1, .s n.2.2.2.1, .i n.2.2.2.2.1, .i n.2.2.2.2.2.1, .s n.2.2.2.2.2.2], .i at_] (.b (Yo n at_)) := by
 refine en Qa Tryz.func155 fun w0 F0 hG => ?_
 refine sn Qa [1, 2, 4] [2] (p0) ?_
 refine tn Qa [1, 2, 4, 5] [2, 5] (p0) ?_
 refine Qc ?_
 refine tu Qa [(2, .p 2 0), (4, .b false), (5, .p 5 0), (10, .i n.1)] [0] [(2, [.i n.1, .i n.2.1, .i n.2.2.1, .s n.2.2.2.1, .i n.2.2.2.2.1, .i n.2.2.2.2.2.1, .s n.2.2.2.2.2.2]), (5, [.i n.1, .i 0, .i 0, .s ⟨#[]⟩, .i 0, .i 0, .s ⟨#[]⟩])] [] (p0) ?_
 refine Qy ?_
 refine sn Qa [1, 2, 4, 5, 10, 11] [2, 5] (p0) ?_
 refine ck (n.1 == (1 : Int)) (fun h1 => ?_) (fun h1 => ?_)
 ·
  refine Qf ?_
  refine tn Qa [4] [] (p0) ?_
  refine Qe ?_
  exact pb [] (Xi h1 (rfl))
 refine tn Qa [1, 2, 4, 5, 10, 13] [2, 5] (p0) ?_
 refine ck (n.1 == (2 : Int)) (fun h2 => ?_) (fun h2 => ?_)
 ·
  refine tu Qa [] [1, 10] [(5, [.i n.1, .i 0, .i 0, .s n.2.2.2.1, .i 0, .i 0, .s ⟨#[]⟩])] [5] (p0) ?_
  refine Qc ?_
  refine jn [(4, .b (((n.1 == n.1) && ((n.2.1 == 0) && ((n.2.2.1 == 0) && ((n.2.2.2.1.toList == n.2.2.2.1.toList) && ((n.2.2.2.2.1 == 0) && ((n.2.2.2.2.2.1 == 0) && ((n.2.2.2.2.2.2.toList == (⟨#[]⟩ : ByteArray).toList) && true))))))) && (Qs n.2.2.2.1)))] [4] [] [] ((n.1 == n.1) && ((n.2.1 == 0) && ((n.2.2.1 == 0) && ((n.2.2.2.1.toList == n.2.2.2.1.toList) && ((n.2.2.2.2.1 == 0) && ((n.2.2.2.2.2.1 == 0) && ((n.2.2.2.2.2.2.toList == (⟨#[]⟩ : ByteArray).toList) && true))))))) (fun h3 => ?_) (fun h3 => ?_) ?_
  ·
   refine rn Qa [2, 4, 5] [2, 5] (pt 2 h3 (pc 6 (Yb n.2.2.2.1) p0)) ?_
   exact ⟨rfl, Qd (by rw [h3] <;> kernel_rfl)⟩
  ·
   refine ru Qa [] [] [] [] (pf 2 h3 p0) ?_
   exact ⟨rfl, Qd (by rw [h3] <;> kernel_rfl)⟩
  refine Qe ?_
  exact pb [] (Qk h1 (Xi h2 (rfl)))
 refine Qc ?_
 refine tu Qa [(26, .b (n.1 == (3 : Int)))] [] [] [] (p0) ?_
 refine jn [(26, .b (bif (n.1 == (3 : Int)) then (n.1 == (3 : Int)) else (n.1 == (4 : Int))))] [26] [] [] (n.1 == (3 : Int)) (fun h4 => ?_) (fun h4 => ?_) ?_
 ·
  refine ckt h4 ?_
  refine Qf ?_
  exact ⟨rfl, Qd (by rw [h4] <;> kernel_rfl)⟩
 ·
  refine ckf h4 ?_
  refine rn Qa [1, 2, 4, 5, 10, 26] [2, 5] (p0) ?_
  exact ⟨rfl, Qd (by rw [h4] <;> kernel_rfl)⟩
 refine ck (bif (n.1 == (3 : Int)) then (n.1 == (3 : Int)) else (n.1 == (4 : Int))) (fun h5 => ?_) (fun h5 => ?_)
 ·
  refine sN Qa Yp [2, 4, 5] [2, 5] (p0) ?_
  refine Qc ?_
  refine mz [] [1, 10, 26] [(5, [.i n.1, .i 0, .i 0, .s n.2.2.2.1, .i n.2.2.2.2.1, .i n.2.2.2.2.2.1, .s n.2.2.2.2.2.2])] [5] ?_
  refine jn [(4, .b (((n.1 == n.1) && ((n.2.1 == 0) && ((n.2.2.1 == 0) && ((n.2.2.2.1.toList == n.2.2.2.1.toList) && ((n.2.2.2.2.1 == n.2.2.2.2.1) && ((n.2.2.2.2.2.1 == n.2.2.2.2.2.1) && ((n.2.2.2.2.2.2.toList == n.2.2.2.2.2.2.toList) && true))))))) && ((Qs n.2.2.2.1) && ((Qu n.2.2.2.2) && ((n.2.2.2.2.1 != (0 : Int)) && ((n.1 == (3 : Int)) || (n.2.2.2.2.1 == (1 : Int))))))))] [4] [] [] ((n.1 == n.1) && ((n.2.1 == 0) && ((n.2.2.1 == 0) && ((n.2.2.2.1.toList == n.2.2.2.1.toList) && ((n.2.2.2.2.1 == n.2.2.2.2.1) && ((n.2.2.2.2.2.1 == n.2.2.2.2.2.1) && ((n.2.2.2.2.2.2.toList == n.2.2.2.2.2.2.toList) && true))))))) (fun h6 => ?_) (fun h6 => ?_) ?_
  ·
   refine Xr (Qs n.2.2.2.1) (fun h7 => ?_) (fun h7 => ?_)
   ·
    refine Xr (Qu n.2.2.2.2) (fun h8 => ?_) (fun h8 => ?_)
    ·
     refine Xr (n.2.2.2.2.1 != (0 : Int)) (fun h9 => ?_) (fun h9 => ?_)
     ·
      refine Xr (n.1 == (3 : Int)) (fun h10 => ?_) (fun h10 => ?_)
      ·
       refine rn Qa [2, 4, 5] [2, 5] (pt 2 h6 (pc 6 (cb h7 (Yb n.2.2.2.1)) (pc 11 (cb h8 (Zd n.2.2.2.2)) (pt 17 h9 (pt 22 h10 p0))))) ?_
       exact ⟨rfl, Qd (by rw [h6, h7, h8, h9, h10] <;> kernel_rfl)⟩
      refine rn Qa [2, 4, 5] [2, 5] (pt 2 h6 (pc 6 (cb h7 (Yb n.2.2.2.1)) (pc 11 (cb h8 (Zd n.2.2.2.2)) (pt 17 h9 (pf 22 h10 p0))))) ?_
      exact ⟨rfl, Qd (by rw [h6, h7, h8, h9, h10] <;> kernel_rfl)⟩
     refine ru Qa [] [] [] [] (pt 2 h6 (pc 6 (cb h7 (Yb n.2.2.2.1)) (pc 11 (cb h8 (Zd n.2.2.2.2)) (pf 17 h9 p0)))) ?_
     exact ⟨rfl, Qd (by rw [h6, h7, h8, h9] <;> kernel_rfl)⟩
    refine ru Qa [] [] [] [] (pt 2 h6 (pc 6 (cb h7 (Yb n.2.2.2.1)) (pc 11 (cb h8 (Zd n.2.2.2.2)) p0))) ?_
    exact ⟨rfl, Qd (by rw [h6, h7, h8] <;> kernel_rfl)⟩
   refine ru Qa [] [] [] [] (pt 2 h6 (pc 6 (cb h7 (Yb n.2.2.2.1)) p0)) ?_
   exact ⟨rfl, Qd (by rw [h6, h7] <;> kernel_rfl)⟩
  ·
   refine ru Qa [] [] [] [] (pf 2 h6 p0) ?_
   exact ⟨rfl, Qd (by rw [h6] <;> kernel_rfl)⟩
  refine Qe ?_
  exact pb [] (Qk h1 (Qk h2 (Xi h5 (rfl))))
 refine sn Qa [1, 2, 4, 5, 10, 65] [2, 5] (p0) ?_
 refine ck (n.1 == (5 : Int)) (fun h11 => ?_) (fun h11 => ?_)
 ·
  refine tn Qa [1, 2, 4, 5] [2, 5] (p0) ?_
  refine Qc ?_
  refine mz [] [10, 26] [(5, [.i n.1, .i n.2.1, .i 0, .s ⟨#[]⟩, .i 0, .i 0, .s ⟨#[]⟩])] [5] ?_
  refine jn [(4, .b (((n.1 == n.1) && ((n.2.1 == n.2.1) && ((n.2.2.1 == 0) && ((n.2.2.2.1.toList == (⟨#[]⟩ : ByteArray).toList) && ((n.2.2.2.2.1 == 0) && ((n.2.2.2.2.2.1 == 0) && ((n.2.2.2.2.2.2.toList == (⟨#[]⟩ : ByteArray).toList) && true))))))) && (decide (at_ > (0 : Int)) && (Q9 n.2.1 0 (IntKind.i64.wrap (at_ - 1))))))] [1, 4] [] [] ((n.1 == n.1) && ((n.2.1 == n.2.1) && ((n.2.2.1 == 0) && ((n.2.2.2.1.toList == (⟨#[]⟩ : ByteArray).toList) && ((n.2.2.2.2.1 == 0) && ((n.2.2.2.2.2.1 == 0) && ((n.2.2.2.2.2.2.toList == (⟨#[]⟩ : ByteArray).toList) && true))))))) (fun h12 => ?_) (fun h12 => ?_) ?_
  ·
   refine Xr (decide (at_ > (0 : Int))) (fun h13 => ?_) (fun h13 => ?_)
   ·
    refine rn Qa [2, 4, 5] [2, 5] (pt 2 h12 (pt 5 h13 (pc 12 (Zc n.2.1 0 (IntKind.i64.wrap (at_ - 1))) p0))) ?_
    exact ⟨rfl, Qd (by rw [h12, h13] <;> kernel_rfl)⟩
   refine ru Qa [] [1] [] [] (pt 2 h12 (pf 5 h13 p0)) ?_
   exact ⟨rfl, Qd (by rw [h12, h13] <;> kernel_rfl)⟩
  ·
   refine ru Qa [] [1] [] [] (pf 2 h12 p0) ?_
   exact ⟨rfl, Qd (by rw [h12] <;> kernel_rfl)⟩
  refine Qe ?_
  exact pb [] (Qk h1 (Qk h2 (Qk h5 (Xi h11 (rfl)))))
 refine Qc ?_
 refine tn Qa [1, 2, 4, 5, 10, 84] [2, 5] (p0) ?_
 refine mz [(84, .b (n.1 == (6 : Int)))] [26] [] [] ?_
 refine jn [(84, .b (bif (n.1 == (6 : Int)) then (n.1 == (6 : Int)) else (n.1 == (7 : Int))))] [84] [] [] (n.1 == (6 : Int)) (fun h14 => ?_) (fun h14 => ?_) ?_
 ·
  refine ckt h14 ?_
  refine Qf ?_
  exact ⟨rfl, Qd (by rw [h14] <;> kernel_rfl)⟩
 ·
  refine ckf h14 ?_
  refine rn Qa [1, 2, 4, 5, 10, 84] [2, 5] (p0) ?_
  exact ⟨rfl, Qd (by rw [h14] <;> kernel_rfl)⟩
 refine ck (bif (n.1 == (6 : Int)) then (n.1 == (6 : Int)) else (n.1 == (7 : Int))) (fun h15 => ?_) (fun h15 => ?_)
 ·
  refine sN Qa Yp [1, 2, 4, 5] [2, 5] (p0) ?_
  refine Qc ?_
  refine mz [] [10, 84] [(5, [.i n.1, .i n.2.1, .i n.2.2.1, .s ⟨#[]⟩, .i 0, .i 0, .s ⟨#[]⟩])] [5] ?_
  refine jn [(4, .b (((n.1 == n.1) && ((n.2.1 == n.2.1) && ((n.2.2.1 == n.2.2.1) && ((n.2.2.2.1.toList == (⟨#[]⟩ : ByteArray).toList) && ((n.2.2.2.2.1 == 0) && ((n.2.2.2.2.2.1 == 0) && ((n.2.2.2.2.2.2.toList == (⟨#[]⟩ : ByteArray).toList) && true))))))) && (decide (at_ > (0 : Int)) && ((Q9 n.2.1 0 (IntKind.i64.wrap (at_ - 1))) && (Q9 n.2.2.1 0 (IntKind.i64.wrap (at_ - 1)))))))] [1, 4] [] [] ((n.1 == n.1) && ((n.2.1 == n.2.1) && ((n.2.2.1 == n.2.2.1) && ((n.2.2.2.1.toList == (⟨#[]⟩ : ByteArray).toList) && ((n.2.2.2.2.1 == 0) && ((n.2.2.2.2.2.1 == 0) && ((n.2.2.2.2.2.2.toList == (⟨#[]⟩ : ByteArray).toList) && true))))))) (fun h16 => ?_) (fun h16 => ?_) ?_
  ·
   refine Xr (decide (at_ > (0 : Int))) (fun h17 => ?_) (fun h17 => ?_)
   ·
    refine Xr (Q9 n.2.1 0 (IntKind.i64.wrap (at_ - 1))) (fun h18 => ?_) (fun h18 => ?_)
    ·
     refine rn Qa [2, 4, 5] [2, 5] (pt 2 h16 (pt 5 h17 (pc 12 (cb h18 (Zc n.2.1 0 (IntKind.i64.wrap (at_ - 1)))) (pc 19 (Zc n.2.2.1 0 (IntKind.i64.wrap (at_ - 1))) p0)))) ?_
     exact ⟨rfl, Qd (by rw [h16, h17, h18] <;> kernel_rfl)⟩
    refine ru Qa [] [1] [] [] (pt 2 h16 (pt 5 h17 (pc 12 (cb h18 (Zc n.2.1 0 (IntKind.i64.wrap (at_ - 1)))) p0))) ?_
    exact ⟨rfl, Qd (by rw [h16, h17, h18] <;> kernel_rfl)⟩
   refine ru Qa [] [1] [] [] (pt 2 h16 (pf 5 h17 p0)) ?_
   exact ⟨rfl, Qd (by rw [h16, h17] <;> kernel_rfl)⟩
  ·
   refine ru Qa [] [1] [] [] (pf 2 h16 p0) ?_
   exact ⟨rfl, Qd (by rw [h16] <;> kernel_rfl)⟩
  refine Qe ?_
  exact pb [] (Qk h1 (Qk h2 (Qk h5 (Qk h11 (Xi h15 (rfl))))))
 refine Qc ?_
 refine sn Qa [2, 4, 5, 10, 114] [2, 5] (p0) ?_
 refine ck (n.1 == (8 : Int)) (fun h19 => ?_) (fun h19 => ?_)
 ·
  refine Qf ?_
  refine ckt h19 ?_
  refine tn Qa [2, 4, 5] [2, 5] (p0) ?_
  refine Qc ?_
  refine mz [] [1, 10, 84] [(5, [.i n.1, .i 0, .i 0, .s n.2.2.2.1, .i 0, .i 0, .s ⟨#[]⟩])] [5] ?_
  refine jn [(4, .b (((n.1 == n.1) && ((n.2.1 == 0) && ((n.2.2.1 == 0) && ((n.2.2.2.1.toList == n.2.2.2.1.toList) && ((n.2.2.2.2.1 == 0) && ((n.2.2.2.2.2.1 == 0) && ((n.2.2.2.2.2.2.toList == (⟨#[]⟩ : ByteArray).toList) && true))))))) && (Q0 n.2.2.2.1)))] [4] [] [] ((n.1 == n.1) && ((n.2.1 == 0) && ((n.2.2.1 == 0) && ((n.2.2.2.1.toList == n.2.2.2.1.toList) && ((n.2.2.2.2.1 == 0) && ((n.2.2.2.2.2.1 == 0) && ((n.2.2.2.2.2.2.toList == (⟨#[]⟩ : ByteArray).toList) && true))))))) (fun h20 => ?_) (fun h20 => ?_) ?_
  ·
   refine rn Qa [2, 4, 5] [2, 5] (pt 2 h20 (pc 6 (Zy n.2.2.2.1) p0)) ?_
   exact ⟨rfl, Qd (by rw [h20] <;> kernel_rfl)⟩
  ·
   refine ru Qa [] [] [] [] (pf 2 h20 p0) ?_
   exact ⟨rfl, Qd (by rw [h20] <;> kernel_rfl)⟩
  refine Qe ?_
  exact pb [] (Qk h1 (Qk h2 (Qk h5 (Qk h11 (Qk h15 (Xi h19 (rfl)))))))
 refine qn Qa [2, 4, 5, 114] [2, 5] (p0) ?_
 refine ck (n.1 == (9 : Int)) (fun h21 => ?_) (fun h21 => ?_)
 ·
  refine tu Qa [] [1, 10, 84] [(5, [.i n.1, .i 0, .i 0, .s n.2.2.2.1, .i 0, .i 0, .s ⟨#[]⟩])] [5] (p0) ?_
  refine Qc ?_
  refine jn [(4, .b (((n.1 == n.1) && ((n.2.1 == 0) && ((n.2.2.1 == 0) && ((n.2.2.2.1.toList == n.2.2.2.1.toList) && ((n.2.2.2.2.1 == 0) && ((n.2.2.2.2.2.1 == 0) && ((n.2.2.2.2.2.2.toList == (⟨#[]⟩ : ByteArray).toList) && true))))))) && (Q0 n.2.2.2.1)))] [4] [] [] ((n.1 == n.1) && ((n.2.1 == 0) && ((n.2.2.1 == 0) && ((n.2.2.2.1.toList == n.2.2.2.1.toList) && ((n.2.2.2.2.1 == 0) && ((n.2.2.2.2.2.1 == 0) && ((n.2.2.2.2.2.2.toList == (⟨#[]⟩ : ByteArray).toList) && true))))))) (fun h22 => ?_) (fun h22 => ?_) ?_
  ·
   refine rn Qa [2, 4, 5] [2, 5] (pt 2 h22 (pc 6 (Zy n.2.2.2.1) p0)) ?_
   exact ⟨rfl, Qd (by rw [h22] <;> kernel_rfl)⟩
  ·
   refine ru Qa [] [] [] [] (pf 2 h22 p0) ?_
   exact ⟨rfl, Qd (by rw [h22] <;> kernel_rfl)⟩
  refine Qe ?_
  exact pb [] (Qk h1 (Qk h2 (Qk h5 (Qk h11 (Qk h15 (Qk h19 (Xi h21 (rfl))))))))
 refine tu Qa [] [1, 10, 84] [] [] (p0) ?_
 refine Qe ?_
 exact pb [] (Qk h1 (Qk h2 (Qk h5 (Qk h11 (Qk h15 (Qk h19 (Qk h21 (rfl))))))))
def Kx (at_ : Int) (_ : Nat) (a0 : Qw) (s0 : Int) : Rd (Int) (Int) (Int) := (bif ((a0.2.1 == at_) && (((a0.1 == (6 : Int)) || (a0.1 == (7 : Int))) || (a0.1 == (5 : Int)))) then (bif ((a0.2.2.1 == at_) && ((a0.1 == (6 : Int)) || (a0.1 == (7 : Int)))) then (.next (IntKind.i64.wrap (IntKind.i64.wrap (s0 + 1) + 1))) else (.next (IntKind.i64.wrap (s0 + 1)))) else (bif ((a0.2.2.1 == at_) && ((a0.1 == (6 : Int)) || (a0.1 == (7 : Int)))) then (.next (IntKind.i64.wrap (s0 + 1))) else (.next s0)))
def Wl (_ : Nat) (s0 : Int) : Int := s0
def Jt (q : (List Qw)) (at_ : Int) : Int := (Out.on (Yt (Kx at_) Wl q 0 0) (fun y0 => y0))
theorem Fa (q : (List Qw)) (at_ : Int) : ACalls Tryz.prog 156 [.h q, .i at_] (.i (Jt q at_)) := by
 refine en Qa Tryz.func156 fun w0 F0 hG => ?_
 refine sn Qa [0, 1, 4] [] (p0) ?_
 refine tn Qa [0, 1, 4, 5] [] (p0) ?_
 refine Qc ?_
 refine tu Qa [(4, .i 0), (5, .i 0), (9, .h q), (10, .i (q.length : Int)), (11, .i 0)] [0] [] [] (pl 1 q p0) ?_
 refine wT 9 0 .sh q (fun hw1 hl2 => ?_)
 refine Su (Kx at_) Wl q 0 (fun k0 s0 => [(5, .i s0), (11, .i ((k0 : Nat) : Int))]) [5, 11] (fun y0 => [(5, .i y0)]) [1, 5, 9, 10, 11] wf0 (fun k0 s0 hk0 hI0 => ?_) (fun k0 s0 hk0 hI0 => ?_) (fun y0 hD0 => ?_)
 ·
  obtain ⟨a0, hx0⟩ := Yi (l := q) (i := k0) hk0
  refine su Qa [(12, .b true)] [] [] [] (pe 0 (Qz (decide_eq_true (p := ((k0 : Nat) : Int) < (q.length : Int)) (by omega))) p0) ?_
  refine Qc ?_
  refine ckT ?_
  refine Qf ?_
  refine Qc ?_
  refine Qy ?_
  refine sn Qa [1, 4, 5, 7, 9, 10, 11] [7] (pn 0 hx0 p0) ?_
  refine Qc ?_
  refine mz [(7, .p 7 0)] [12] [(7, [.i a0.1, .i a0.2.1, .i a0.2.2.1, .s a0.2.2.2.1, .i a0.2.2.2.2.1, .i a0.2.2.2.2.2.1, .s a0.2.2.2.2.2.2])] [] ?_
  refine jn [(8, .b ((a0.1 == (6 : Int)) || (a0.1 == (7 : Int))))] [] [] [] (a0.1 == (6 : Int)) (fun h3 => ?_) (fun h3 => ?_) ?_
  ·
   refine ru Qa [(8, .b true)] [] [] [] (pt 2 h3 p0) ?_
   exact ⟨rfl, Qd (by rw [h3] <;> kernel_rfl)⟩
  ·
   refine rn Qa [1, 4, 5, 7, 8, 9, 10, 11] [7] (pf 2 h3 p0) ?_
   exact ⟨rfl, Qd (by rw [h3] <;> kernel_rfl)⟩
  refine Qc ?_
  refine Qc ?_
  refine jn [(34, .b ((a0.2.1 == at_) && (((a0.1 == (6 : Int)) || (a0.1 == (7 : Int))) || (a0.1 == (5 : Int)))))] [] [] [] (a0.2.1 == at_) (fun h4 => ?_) (fun h4 => ?_) ?_
  ·
   refine Xr ((a0.1 == (6 : Int)) || (a0.1 == (7 : Int))) (fun h5 => ?_) (fun h5 => ?_)
   ·
    refine ru Qa [(34, .b true)] [] [] [] (pt 3 h4 (pt 5 h5 p0)) ?_
    exact ⟨rfl, Qd (by rw [h4, h5] <;> kernel_rfl)⟩
   refine rn Qa [1, 4, 5, 7, 8, 9, 10, 11, 34] [7] (pt 3 h4 (pf 5 h5 p0)) ?_
   exact ⟨rfl, Qd (by rw [h4, h5] <;> kernel_rfl)⟩
  ·
   refine ru Qa [(34, .b false)] [] [] [] (pf 3 h4 p0) ?_
   exact ⟨rfl, Qd (by rw [h4] <;> kernel_rfl)⟩
  refine ck ((a0.2.1 == at_) && (((a0.1 == (6 : Int)) || (a0.1 == (7 : Int))) || (a0.1 == (5 : Int)))) (fun h6 => ?_) (fun h6 => ?_)
  ·
   have h6l : ((a0.2.1 == at_)) = true := Rk h6
   have h6ld := eq_of_beq h6l
   refine rn Qa [1, 4, 5, 7, 8, 9, 10, 11] [7] (p0) ?_
   refine Qc ?_
   refine mz [(5, .i (IntKind.i64.wrap (s0 + 1)))] [5, 34] [] [] ?_
   refine jn [(43, .b ((a0.2.2.1 == at_) && ((a0.1 == (6 : Int)) || (a0.1 == (7 : Int)))))] [7, 8] [] [7] (a0.2.2.1 == at_) (fun h7 => ?_) (fun h7 => ?_) ?_
   ·
    refine rn Qa [1, 4, 5, 9, 10, 11, 43] [] (pt 3 h7 p0) ?_
    exact ⟨rfl, Qd (by rw [h7] <;> kernel_rfl)⟩
   ·
    refine rn Qa [1, 4, 5, 9, 10, 11, 43] [] (pf 3 h7 p0) ?_
    exact ⟨rfl, Qd (by rw [h7] <;> kernel_rfl)⟩
   refine ck ((a0.2.2.1 == at_) && ((a0.1 == (6 : Int)) || (a0.1 == (7 : Int)))) (fun h8 => ?_) (fun h8 => ?_)
   ·
    have h8l : ((a0.2.2.1 == at_)) = true := Rk h8
    have h8ld := eq_of_beq h8l
    refine rn Qa [1, 4, 5, 9, 10, 11] [] (p0) ?_
    refine qn Qa [1, 4, 5, 9, 10, 11] [] (pe 0 (Jr (Q1 k0 (by omega))) p0) ?_
    exact xw _ (Xl hx0 (Xi h6 (Xi h8 (rfl))) hI0)
   refine Qf ?_
   refine rn Qa [1, 4, 5, 9, 10, 11] [] (pe 0 (Jr (Q1 k0 (by omega))) p0) ?_
   exact xw _ (Xl hx0 (Xi h6 (Qk h8 (rfl))) hI0)
  refine Qf ?_
  refine Qc ?_
  refine jn [(43, .b ((a0.2.2.1 == at_) && ((a0.1 == (6 : Int)) || (a0.1 == (7 : Int)))))] [7, 8, 34] [] [7] (a0.2.2.1 == at_) (fun h9 => ?_) (fun h9 => ?_) ?_
  ·
   refine rn Qa [1, 4, 5, 9, 10, 11, 43] [] (pt 3 h9 p0) ?_
   exact ⟨rfl, Qd (by rw [h9] <;> kernel_rfl)⟩
  ·
   refine rn Qa [1, 4, 5, 9, 10, 11, 43] [] (pf 3 h9 p0) ?_
   exact ⟨rfl, Qd (by rw [h9] <;> kernel_rfl)⟩
  refine ck ((a0.2.2.1 == at_) && ((a0.1 == (6 : Int)) || (a0.1 == (7 : Int)))) (fun h10 => ?_) (fun h10 => ?_)
  ·
   have h10l : ((a0.2.2.1 == at_)) = true := Rk h10
   have h10ld := eq_of_beq h10l
   refine rn Qa [1, 4, 5, 9, 10, 11] [] (p0) ?_
   refine qn Qa [1, 4, 5, 9, 10, 11] [] (pe 0 (Jr (Q1 k0 (by omega))) p0) ?_
   exact xw _ (Xl hx0 (Qk h6 (Xi h10 (rfl))) hI0)
  refine Qf ?_
  refine rn Qa [1, 4, 5, 9, 10, 11] [] (pe 0 (Jr (Q1 k0 (by omega))) p0) ?_
  exact xw _ (Xl hx0 (Qk h6 (Qk h10 (rfl))) hI0)
 ·
  refine su Qa [(12, .b false)] [] [] [] (pe 0 (Qz (decide_eq_false (p := ((k0 : Nat) : Int) < (q.length : Int)) (by omega))) p0) ?_
  refine Qc ?_
  refine ckF ?_
  refine Xs ?_
  exact xw _ (Yn hk0 (rfl) hI0)
 refine sn Qa [4] [] (p0) ?_
 refine Qe ?_
 exact pi [] (V4 hD0 (rfl))
def Yz (q : (List Qw)) (k0 : Nat) (a0 : Qw) (_ : Unit) : Rd (Bool) (Unit) (Unit) := (bif ((!(Yo a0 ((k0 : Nat) : Int))) || (decide (((k0 : Nat) : Int) < ((q.length : Int) - 1)) && ((Jt q ((k0 : Nat) : Int)) != (1 : Int)))) then (.ret false) else (.next ()))
def Jc (_ : Nat) (_ : Unit) : Unit := ()
def Qj (q : (List Qw)) : Bool := (Out.on (Yt (Yz q) Jc q 0 ()) (fun _ => (Q9 (q.length : Int) 1 9)))
theorem K7 (q : (List Qw)) : ACalls Tryz.prog 119 [.h q] (.b (Qj q)) := by
 refine en Qa Tryz.func119 fun w0 F0 hG => ?_
 refine sn Qa [0, 2] [] (p0) ?_
 refine Qc ?_
 refine tn Qa [0, 2, 5, 6, 7] [] (pl 1 q p0) ?_
 refine mz [(2, .b false), (5, .h q), (6, .i (q.length : Int)), (7, .i 0)] [] [] [] ?_
 refine wT 0 0 .sh q (fun hw1 hl2 => ?_)
 refine Su (Yz q) Jc q () (fun k0 _ => [(7, .i ((k0 : Nat) : Int))]) [7] (fun _ => []) [5, 6, 7] wf0 (fun k0 s0 hk0 hI0 => ?_) (fun k0 s0 hk0 hI0 => ?_) (fun y0 hD0 => ?_)
 ·
  obtain ⟨a0, hx0⟩ := Yi (l := q) (i := k0) hk0
  refine sn Qa [0, 2, 5, 6, 7, 8] [] (pe 0 (Qz (decide_eq_true (p := ((k0 : Nat) : Int) < (q.length : Int)) (by omega))) p0) ?_
  refine Qc ?_
  refine ckT ?_
  refine Qf ?_
  refine Qc ?_
  refine Qy ?_
  refine tn Qa [0, 2, 3, 4, 5, 6, 7] [4] (pn 1 hx0 p0) ?_
  refine Qc ?_
  refine mz [(3, .i ((k0 : Nat) : Int)), (4, .p 4 0)] [] [(4, [.i a0.1, .i a0.2.1, .i a0.2.2.1, .s a0.2.2.2.1, .i a0.2.2.2.2.1, .i a0.2.2.2.2.2.1, .s a0.2.2.2.2.2.2])] [] ?_
  refine jn [(28, .b ((!(Yo a0 ((k0 : Nat) : Int))) || (decide (((k0 : Nat) : Int) < ((q.length : Int) - 1)) && ((Jt q ((k0 : Nat) : Int)) != (1 : Int)))))] [3, 4] [] [4] (!(Yo a0 ((k0 : Nat) : Int))) (fun h3 => ?_) (fun h3 => ?_) ?_
  ·
   have h3n : (Yo a0 ((k0 : Nat) : Int)) = false := Vz h3
   refine rn Qa [0, 2, 5, 6, 7, 28] [] (pc 2 (cb h3n (Af a0 ((k0 : Nat) : Int))) (pe 3 (show .b (!false) = .b true from rfl) p0)) ?_
   exact ⟨rfl, Qd (by rw [h3] <;> kernel_rfl)⟩
  ·
   have h3n : (Yo a0 ((k0 : Nat) : Int)) = true := Jb h3
   refine Xr (decide (((k0 : Nat) : Int) < ((q.length : Int) - 1))) (fun h4 => ?_) (fun h4 => ?_)
   ·
    have h4d := of_decide_eq_true h4
    refine rn Qa [0, 2, 5, 6, 7, 28] [] (pc 2 (cb h3n (Af a0 ((k0 : Nat) : Int))) (pe 3 (show .b (!true) = .b false from rfl) (pl 7 q (pe 8 (Jr (IntWalk.i64_in ((q.length : Int) - 1) (by omega))) (pt 9 h4 (pc 13 (Fa q ((k0 : Nat) : Int)) p0)))))) ?_
    exact ⟨rfl, Qd (by rw [h3, h4] <;> kernel_rfl)⟩
   have h4d := of_decide_eq_false h4
   refine rn Qa [0, 2, 5, 6, 7, 28] [] (pc 2 (cb h3n (Af a0 ((k0 : Nat) : Int))) (pe 3 (show .b (!true) = .b false from rfl) (pl 7 q (pe 8 (Jr (IntWalk.i64_in ((q.length : Int) - 1) (by omega))) (pf 9 h4 p0))))) ?_
   exact ⟨rfl, Qd (by rw [h3, h4] <;> kernel_rfl)⟩
  refine ck ((!(Yo a0 ((k0 : Nat) : Int))) || (decide (((k0 : Nat) : Int) < ((q.length : Int) - 1)) && ((Jt q ((k0 : Nat) : Int)) != (1 : Int)))) (fun h5 => ?_) (fun h5 => ?_)
  ·
   refine su Qa [] [28] [] [] (p0) ?_
   refine Qe ?_
   have hr6 : (Yt (Yz q) Jc q 0 ()) = .ret false := Kh hx0 (Xi h5 (rfl)) hI0
   exact pb [] (N7 hr6)
  refine Qf ?_
  refine rn Qa [0, 2, 5, 6, 7] [] (pe 0 (Jr (Q1 k0 (by omega))) p0) ?_
  exact xw _ (Xl hx0 (Qk h5 (rfl)) hI0)
 ·
  refine sn Qa [0, 2, 5, 6, 7, 8] [] (pe 0 (Qz (decide_eq_false (p := ((k0 : Nat) : Int) < (q.length : Int)) (by omega))) p0) ?_
  refine Qc ?_
  refine ckF ?_
  refine Xs ?_
  exact xw _ (Yn hk0 (rfl) hI0)
 refine sn Qa [2] [] (pl 1 q (pc 2 (Zc (q.length : Int) 1 9) p0)) ?_
 refine Qe ?_
 exact pb [] (V4 hD0 (rfl))
def Jh (n : Qw) (at_ : Int) : Bool := (bif (n.1 == (1 : Int)) then ((n.1 == 1) && ((n.2.1 == 0) && ((n.2.2.1 == 0) && ((n.2.2.2.1.toList == (⟨#[]⟩ : ByteArray).toList) && ((n.2.2.2.2.1 == 0) && ((n.2.2.2.2.2.1 == 0) && ((n.2.2.2.2.2.2.toList == (⟨#[]⟩ : ByteArray).toList) && true))))))) else (bif (n.1 == (2 : Int)) then ((Xb n.2.2.2.1) && ((n.1 == n.1) && ((n.2.1 == 0) && ((n.2.2.1 == 0) && ((n.2.2.2.1.toList == n.2.2.2.1.toList) && ((n.2.2.2.2.1 == 0) && ((n.2.2.2.2.2.1 == 0) && ((n.2.2.2.2.2.2.toList == (⟨#[]⟩ : ByteArray).toList) && true)))))))) else (bif (n.1 == (3 : Int)) then ((Xb n.2.2.2.1) && ((Xg n.2.2.2.2) && ((n.2.2.2.2.1 != (0 : Int)) && ((n.2.1 == (0 : Int)) && (n.2.2.1 == (0 : Int)))))) else (bif (n.1 == (4 : Int)) then ((Xb n.2.2.2.1) && ((Xg n.2.2.2.2) && ((n.2.2.2.2.1 == (1 : Int)) && ((n.2.1 == (0 : Int)) && (n.2.2.1 == (0 : Int)))))) else (bif (n.1 == (5 : Int)) then (((Xf n.2.1 0 (IntKind.i64.wrap (at_ - 1))) && decide (at_ > (0 : Int))) && ((n.2.2.1 == (0 : Int)) && ((n.2.2.2.1.toList == (⟨#[]⟩ : ByteArray).toList) && ((n.2.2.2.2.1 == 0) && ((n.2.2.2.2.2.1 == 0) && ((n.2.2.2.2.2.2.toList == (⟨#[]⟩ : ByteArray).toList) && true)))))) else (bif (bif (n.1 == (6 : Int)) then (n.1 == (6 : Int)) else (n.1 == (7 : Int))) then ((((Xf n.2.1 0 (IntKind.i64.wrap (at_ - 1))) && decide (at_ > (0 : Int))) && (Xf n.2.2.1 0 (IntKind.i64.wrap (at_ - 1)))) && ((n.2.2.2.1.toList == (⟨#[]⟩ : ByteArray).toList) && ((n.2.2.2.2.1 == 0) && ((n.2.2.2.2.2.1 == 0) && ((n.2.2.2.2.2.2.toList == (⟨#[]⟩ : ByteArray).toList) && true))))) else (bif (n.1 == (8 : Int)) then ((Xz n.2.2.2.1) && ((n.1 == n.1) && ((n.2.1 == 0) && ((n.2.2.1 == 0) && ((n.2.2.2.1.toList == n.2.2.2.1.toList) && ((n.2.2.2.2.1 == 0) && ((n.2.2.2.2.2.1 == 0) && ((n.2.2.2.2.2.2.toList == (⟨#[]⟩ : ByteArray).toList) && true)))))))) else (bif (n.1 == (9 : Int)) then ((Xz n.2.2.2.1) && ((n.1 == n.1) && ((n.2.1 == 0) && ((n.2.2.1 == 0) && ((n.2.2.2.1.toList == n.2.2.2.1.toList) && ((n.2.2.2.2.1 == 0) && ((n.2.2.2.2.2.1 == 0) && ((n.2.2.2.2.2.2.toList == (⟨#[]⟩ : ByteArray).toList) && true)))))))) else false))))))))
theorem Ag (n : Qw) (at_ : Int) : ACalls Tryz.prog 137 [.a [.i n.1, .i n.2.1, .i n.2.2.1, .s n.2.2.2.1, .i n.2.2.2.2.1, .i n.2.2.2.2.2.1, .s n.2.2.2.2.2.2], .i at_] (.b (Jh n at_)) := by
 refine en Qa Tryz.func137 fun w0 F0 hG => ?_
 refine sn Qa [1, 2, 4] [2] (p0) ?_
 refine Qc ?_
 refine mz [(2, .p 2 0), (4, .b false)] [0] [(2, [.i n.1, .i n.2.1, .i n.2.2.1, .s n.2.2.2.1, .i n.2.2.2.2.1, .i n.2.2.2.2.2.1, .s n.2.2.2.2.2.2])] [] ?_
 refine jn [(5, .b ((Xf n.2.1 0 (IntKind.i64.wrap (at_ - 1))) && decide (at_ > (0 : Int))))] [] [] [] (Xf n.2.1 0 (IntKind.i64.wrap (at_ - 1))) (fun h1 => ?_) (fun h1 => ?_) ?_
 ·
  refine rn Qa [1, 2, 4, 5] [2] (pc 4 (cb h1 (Y5 n.2.1 0 (IntKind.i64.wrap (at_ - 1)))) p0) ?_
  exact ⟨rfl, Qd (by rw [h1] <;> kernel_rfl)⟩
 ·
  refine rn Qa [1, 2, 4, 5] [2] (pc 4 (cb h1 (Y5 n.2.1 0 (IntKind.i64.wrap (at_ - 1)))) p0) ?_
  exact ⟨rfl, Qd (by rw [h1] <;> kernel_rfl)⟩
 refine Qc ?_
 refine jn [(6, .b (((Xf n.2.1 0 (IntKind.i64.wrap (at_ - 1))) && decide (at_ > (0 : Int))) && (Xf n.2.2.1 0 (IntKind.i64.wrap (at_ - 1)))))] [1] [] [] ((Xf n.2.1 0 (IntKind.i64.wrap (at_ - 1))) && decide (at_ > (0 : Int))) (fun h2 => ?_) (fun h2 => ?_) ?_
 ·
  refine rn Qa [2, 4, 5, 6] [2] (pt 0 h2 (pc 6 (Y5 n.2.2.1 0 (IntKind.i64.wrap (at_ - 1))) p0)) ?_
  exact ⟨rfl, Qd (by rw [h2] <;> kernel_rfl)⟩
 ·
  refine rn Qa [2, 4, 5, 6] [2] (pf 0 h2 p0) ?_
  exact ⟨rfl, Qd (by rw [h2] <;> kernel_rfl)⟩
 refine Qc ?_
 refine sn Qa [2, 4, 5, 6, 25] [2] (p0) ?_
 refine Qy ?_
 refine tn Qa [2, 4, 5, 6, 25, 26] [2] (p0) ?_
 refine ck (n.1 == (1 : Int)) (fun h3 => ?_) (fun h3 => ?_)
 ·
  refine tu Qa [(4, .b ((n.1 == 1) && ((n.2.1 == 0) && ((n.2.2.1 == 0) && ((n.2.2.2.1.toList == (⟨#[]⟩ : ByteArray).toList) && ((n.2.2.2.2.1 == 0) && ((n.2.2.2.2.2.1 == 0) && ((n.2.2.2.2.2.2.toList == (⟨#[]⟩ : ByteArray).toList) && true))))))))] [2, 4, 5, 6] [] [2] (p0) ?_
  refine Qe ?_
  exact pb [] (Xi h3 (rfl))
 refine tu Qa [(25, .i n.1), (31, .b (n.1 == (2 : Int)))] [] [] [] (p0) ?_
 refine ck (n.1 == (2 : Int)) (fun h4 => ?_) (fun h4 => ?_)
 ·
  refine Qc ?_
  refine jn [(4, .b ((Xb n.2.2.2.1) && ((n.1 == n.1) && ((n.2.1 == 0) && ((n.2.2.1 == 0) && ((n.2.2.2.1.toList == n.2.2.2.1.toList) && ((n.2.2.2.2.1 == 0) && ((n.2.2.2.2.2.1 == 0) && ((n.2.2.2.2.2.2.toList == (⟨#[]⟩ : ByteArray).toList) && true)))))))))] [2, 4, 5, 6, 25, 31] [] [2] (Xb n.2.2.2.1) (fun h5 => ?_) (fun h5 => ?_) ?_
  ·
   refine rn Qa [4] [] (pc 2 (cb h5 (Xt n.2.2.2.1)) p0) ?_
   exact ⟨rfl, Qd (by rw [h5] <;> kernel_rfl)⟩
  ·
   refine rn Qa [4] [] (pc 2 (cb h5 (Xt n.2.2.2.1)) p0) ?_
   exact ⟨rfl, Qd (by rw [h5] <;> kernel_rfl)⟩
  refine Qe ?_
  exact pb [] (Qk h3 (Xi h4 (rfl)))
 refine sn Qa [2, 4, 5, 6, 25, 45] [2] (p0) ?_
 refine ck (n.1 == (3 : Int)) (fun h6 => ?_) (fun h6 => ?_)
 ·
  refine Qc ?_
  refine mz [(45, .b (n.1 == (3 : Int)))] [31] [] [] ?_
  refine jn [(4, .b ((Xb n.2.2.2.1) && ((Xg n.2.2.2.2) && ((n.2.2.2.2.1 != (0 : Int)) && ((n.2.1 == (0 : Int)) && (n.2.2.1 == (0 : Int)))))))] [2, 4, 5, 6, 25, 45] [] [2] (Xb n.2.2.2.1) (fun h7 => ?_) (fun h7 => ?_) ?_
  ·
   refine Xr (Xg n.2.2.2.2) (fun h8 => ?_) (fun h8 => ?_)
   ·
    refine Xr (n.2.2.2.2.1 != (0 : Int)) (fun h9 => ?_) (fun h9 => ?_)
    ·
     refine Xr (n.2.1 == (0 : Int)) (fun h10 => ?_) (fun h10 => ?_)
     ·
      refine rn Qa [4] [] (pc 2 (cb h7 (Xt n.2.2.2.1)) (pc 6 (cb h8 (Ya n.2.2.2.2)) (pt 12 h9 (pt 17 h10 p0)))) ?_
      exact ⟨rfl, Qd (by rw [h7, h8, h9, h10] <;> kernel_rfl)⟩
     refine rn Qa [4] [] (pc 2 (cb h7 (Xt n.2.2.2.1)) (pc 6 (cb h8 (Ya n.2.2.2.2)) (pt 12 h9 (pf 17 h10 p0)))) ?_
     exact ⟨rfl, Qd (by rw [h7, h8, h9, h10] <;> kernel_rfl)⟩
    refine rn Qa [4] [] (pc 2 (cb h7 (Xt n.2.2.2.1)) (pc 6 (cb h8 (Ya n.2.2.2.2)) (pf 12 h9 p0))) ?_
    exact ⟨rfl, Qd (by rw [h7, h8, h9] <;> kernel_rfl)⟩
   refine rn Qa [4] [] (pc 2 (cb h7 (Xt n.2.2.2.1)) (pc 6 (cb h8 (Ya n.2.2.2.2)) p0)) ?_
   exact ⟨rfl, Qd (by rw [h7, h8] <;> kernel_rfl)⟩
  ·
   refine rn Qa [4] [] (pc 2 (cb h7 (Xt n.2.2.2.1)) p0) ?_
   exact ⟨rfl, Qd (by rw [h7] <;> kernel_rfl)⟩
  refine Qe ?_
  exact pb [] (Qk h3 (Qk h4 (Xi h6 (rfl))))
 refine tn Qa [2, 4, 5, 6, 25, 71] [2] (p0) ?_
 refine ck (n.1 == (4 : Int)) (fun h11 => ?_) (fun h11 => ?_)
 ·
  refine Qc ?_
  refine mz [(71, .b (n.1 == (4 : Int)))] [31] [] [] ?_
  refine jn [(4, .b ((Xb n.2.2.2.1) && ((Xg n.2.2.2.2) && ((n.2.2.2.2.1 == (1 : Int)) && ((n.2.1 == (0 : Int)) && (n.2.2.1 == (0 : Int)))))))] [2, 4, 5, 6, 25, 71] [] [2] (Xb n.2.2.2.1) (fun h12 => ?_) (fun h12 => ?_) ?_
  ·
   refine Xr (Xg n.2.2.2.2) (fun h13 => ?_) (fun h13 => ?_)
   ·
    refine Xr (n.2.2.2.2.1 == (1 : Int)) (fun h14 => ?_) (fun h14 => ?_)
    ·
     refine Xr (n.2.1 == (0 : Int)) (fun h15 => ?_) (fun h15 => ?_)
     ·
      refine rn Qa [4] [] (pc 2 (cb h12 (Xt n.2.2.2.1)) (pc 6 (cb h13 (Ya n.2.2.2.2)) (pt 12 h14 (pt 17 h15 p0)))) ?_
      exact ⟨rfl, Qd (by rw [h12, h13, h14, h15] <;> kernel_rfl)⟩
     refine rn Qa [4] [] (pc 2 (cb h12 (Xt n.2.2.2.1)) (pc 6 (cb h13 (Ya n.2.2.2.2)) (pt 12 h14 (pf 17 h15 p0)))) ?_
     exact ⟨rfl, Qd (by rw [h12, h13, h14, h15] <;> kernel_rfl)⟩
    refine rn Qa [4] [] (pc 2 (cb h12 (Xt n.2.2.2.1)) (pc 6 (cb h13 (Ya n.2.2.2.2)) (pf 12 h14 p0))) ?_
    exact ⟨rfl, Qd (by rw [h12, h13, h14] <;> kernel_rfl)⟩
   refine rn Qa [4] [] (pc 2 (cb h12 (Xt n.2.2.2.1)) (pc 6 (cb h13 (Ya n.2.2.2.2)) p0)) ?_
   exact ⟨rfl, Qd (by rw [h12, h13] <;> kernel_rfl)⟩
  ·
   refine rn Qa [4] [] (pc 2 (cb h12 (Xt n.2.2.2.1)) p0) ?_
   exact ⟨rfl, Qd (by rw [h12] <;> kernel_rfl)⟩
  refine Qe ?_
  exact pb [] (Qk h3 (Qk h4 (Qk h6 (Xi h11 (rfl)))))
 refine tu Qa [(97, .b (n.1 == (5 : Int)))] [31] [] [] (p0) ?_
 refine ck (n.1 == (5 : Int)) (fun h16 => ?_) (fun h16 => ?_)
 ·
  refine Qc ?_
  refine jn [(4, .b (((Xf n.2.1 0 (IntKind.i64.wrap (at_ - 1))) && decide (at_ > (0 : Int))) && ((n.2.2.1 == (0 : Int)) && ((n.2.2.2.1.toList == (⟨#[]⟩ : ByteArray).toList) && ((n.2.2.2.2.1 == 0) && ((n.2.2.2.2.2.1 == 0) && ((n.2.2.2.2.2.2.toList == (⟨#[]⟩ : ByteArray).toList) && true)))))))] [2, 4, 5, 6, 25, 97] [] [2] ((Xf n.2.1 0 (IntKind.i64.wrap (at_ - 1))) && decide (at_ > (0 : Int))) (fun h17 => ?_) (fun h17 => ?_) ?_
  ·
   refine Xr (n.2.2.1 == (0 : Int)) (fun h18 => ?_) (fun h18 => ?_)
   ·
    refine Xr (n.2.2.2.1.toList == (⟨#[]⟩ : ByteArray).toList) (fun h19 => ?_) (fun h19 => ?_)
    ·
     refine rn Qa [4] [] (pt 0 h17 (pt 4 h18 (pt 9 h19 p0))) ?_
     exact ⟨rfl, Qd (by rw [h17, h18, h19] <;> kernel_rfl)⟩
    refine rn Qa [4] [] (pt 0 h17 (pt 4 h18 (pf 9 h19 p0))) ?_
    exact ⟨rfl, Qd (by rw [h17, h18, h19] <;> kernel_rfl)⟩
   refine rn Qa [4] [] (pt 0 h17 (pf 4 h18 p0)) ?_
   exact ⟨rfl, Qd (by rw [h17, h18] <;> kernel_rfl)⟩
  ·
   refine rn Qa [4] [] (pf 0 h17 p0) ?_
   exact ⟨rfl, Qd (by rw [h17] <;> kernel_rfl)⟩
  refine Qe ?_
  exact pb [] (Qk h3 (Qk h4 (Qk h6 (Qk h11 (Xi h16 (rfl))))))
 refine Qc ?_
 refine sn Qa [2, 4, 6, 25, 116] [2] (p0) ?_
 refine mz [(116, .b (n.1 == (6 : Int)))] [5, 97] [] [] ?_
 refine jn [(116, .b (bif (n.1 == (6 : Int)) then (n.1 == (6 : Int)) else (n.1 == (7 : Int))))] [116] [] [] (n.1 == (6 : Int)) (fun h20 => ?_) (fun h20 => ?_) ?_
 ·
  refine ckt h20 ?_
  refine Qf ?_
  exact ⟨rfl, Qd (by rw [h20] <;> kernel_rfl)⟩
 ·
  refine ckf h20 ?_
  refine rn Qa [2, 4, 6, 25, 116] [2] (p0) ?_
  exact ⟨rfl, Qd (by rw [h20] <;> kernel_rfl)⟩
 refine ck (bif (n.1 == (6 : Int)) then (n.1 == (6 : Int)) else (n.1 == (7 : Int))) (fun h21 => ?_) (fun h21 => ?_)
 ·
  refine Qc ?_
  refine jn [(4, .b ((((Xf n.2.1 0 (IntKind.i64.wrap (at_ - 1))) && decide (at_ > (0 : Int))) && (Xf n.2.2.1 0 (IntKind.i64.wrap (at_ - 1)))) && ((n.2.2.2.1.toList == (⟨#[]⟩ : ByteArray).toList) && ((n.2.2.2.2.1 == 0) && ((n.2.2.2.2.2.1 == 0) && ((n.2.2.2.2.2.2.toList == (⟨#[]⟩ : ByteArray).toList) && true))))))] [2, 4, 6, 25, 116] [] [2] (((Xf n.2.1 0 (IntKind.i64.wrap (at_ - 1))) && decide (at_ > (0 : Int))) && (Xf n.2.2.1 0 (IntKind.i64.wrap (at_ - 1)))) (fun h22 => ?_) (fun h22 => ?_) ?_
  ·
   refine Xr (n.2.2.2.1.toList == (⟨#[]⟩ : ByteArray).toList) (fun h23 => ?_) (fun h23 => ?_)
   ·
    refine rn Qa [4] [] (pt 0 h22 (pt 4 h23 p0)) ?_
    exact ⟨rfl, Qd (by rw [h22, h23] <;> kernel_rfl)⟩
   refine rn Qa [4] [] (pt 0 h22 (pf 4 h23 p0)) ?_
   exact ⟨rfl, Qd (by rw [h22, h23] <;> kernel_rfl)⟩
  ·
   refine rn Qa [4] [] (pf 0 h22 p0) ?_
   exact ⟨rfl, Qd (by rw [h22] <;> kernel_rfl)⟩
  refine Qe ?_
  exact pb [] (Qk h3 (Qk h4 (Qk h6 (Qk h11 (Qk h16 (Xi h21 (rfl)))))))
 refine Qc ?_
 refine sn Qa [2, 4, 25, 131] [2] (p0) ?_
 refine ck (n.1 == (8 : Int)) (fun h24 => ?_) (fun h24 => ?_)
 ·
  refine Qf ?_
  refine ckt h24 ?_
  refine Qc ?_
  refine mz [(131, .b (n.1 == (8 : Int)))] [6, 116] [] [] ?_
  refine jn [(4, .b ((Xz n.2.2.2.1) && ((n.1 == n.1) && ((n.2.1 == 0) && ((n.2.2.1 == 0) && ((n.2.2.2.1.toList == n.2.2.2.1.toList) && ((n.2.2.2.2.1 == 0) && ((n.2.2.2.2.2.1 == 0) && ((n.2.2.2.2.2.2.toList == (⟨#[]⟩ : ByteArray).toList) && true)))))))))] [2, 4, 25, 131] [] [2] (Xz n.2.2.2.1) (fun h25 => ?_) (fun h25 => ?_) ?_
  ·
   refine rn Qa [4] [] (pc 2 (cb h25 (Zg n.2.2.2.1)) p0) ?_
   exact ⟨rfl, Qd (by rw [h25] <;> kernel_rfl)⟩
  ·
   refine rn Qa [4] [] (pc 2 (cb h25 (Zg n.2.2.2.1)) p0) ?_
   exact ⟨rfl, Qd (by rw [h25] <;> kernel_rfl)⟩
  refine Qe ?_
  exact pb [] (Qk h3 (Qk h4 (Qk h6 (Qk h11 (Qk h16 (Qk h21 (Xi h24 (rfl))))))))
 refine qn Qa [2, 4, 131] [2] (p0) ?_
 refine ck (n.1 == (9 : Int)) (fun h26 => ?_) (fun h26 => ?_)
 ·
  refine Qc ?_
  refine mz [(131, .b (n.1 == (9 : Int)))] [6, 25, 116] [] [] ?_
  refine jn [(4, .b ((Xz n.2.2.2.1) && ((n.1 == n.1) && ((n.2.1 == 0) && ((n.2.2.1 == 0) && ((n.2.2.2.1.toList == n.2.2.2.1.toList) && ((n.2.2.2.2.1 == 0) && ((n.2.2.2.2.2.1 == 0) && ((n.2.2.2.2.2.2.toList == (⟨#[]⟩ : ByteArray).toList) && true)))))))))] [2, 4, 131] [] [2] (Xz n.2.2.2.1) (fun h27 => ?_) (fun h27 => ?_) ?_
  ·
   refine rn Qa [4] [] (pc 2 (cb h27 (Zg n.2.2.2.1)) p0) ?_
   exact ⟨rfl, Qd (by rw [h27] <;> kernel_rfl)⟩
  ·
   refine rn Qa [4] [] (pc 2 (cb h27 (Zg n.2.2.2.1)) p0) ?_
   exact ⟨rfl, Qd (by rw [h27] <;> kernel_rfl)⟩
  refine Qe ?_
  exact pb [] (Qk h3 (Qk h4 (Qk h6 (Qk h11 (Qk h16 (Qk h21 (Qk h24 (Xi h26 (rfl)))))))))
 refine Qf ?_
 refine tu Qa [] [2, 6, 25, 116] [] [2] (p0) ?_
 refine Qe ?_
 exact pb [] (Qk h3 (Qk h4 (Qk h6 (Qk h11 (Qk h16 (Qk h21 (Qk h24 (Qk h26 (rfl)))))))))
def Ky (at_ : Int) (_ : Nat) (a0 : Qw) (s0 : Int) : Rd (Int) (Int) (Int) := (bif (bif ((a0.1 == (6 : Int)) || (a0.1 == (7 : Int))) then (a0.2.1 == at_) else ((a0.1 == (5 : Int)) && (a0.2.1 == at_))) then (bif (((a0.1 == (6 : Int)) || (a0.1 == (7 : Int))) && (a0.2.2.1 == at_)) then (.next (IntKind.i64.wrap (IntKind.i64.wrap (s0 + 1) + 1))) else (.next (IntKind.i64.wrap (s0 + 1)))) else (bif (((a0.1 == (6 : Int)) || (a0.1 == (7 : Int))) && (a0.2.2.1 == at_)) then (.next (IntKind.i64.wrap (s0 + 1))) else (.next s0)))
def Wm (_ : Nat) (s0 : Int) : Int := s0
def Ju (q : (List Qw)) (at_ : Int) : Int := (Out.on (Yt (Ky at_) Wm q 0 0) (fun y0 => y0))
theorem Fb (q : (List Qw)) (at_ : Int) : ACalls Tryz.prog 138 [.h q, .i at_] (.i (Ju q at_)) := by
 refine en Qa Tryz.func138 fun w0 F0 hG => ?_
 refine sn Qa [0, 1, 4] [] (p0) ?_
 refine tn Qa [0, 1, 4, 5] [] (p0) ?_
 refine Qc ?_
 refine tu Qa [(4, .i 0), (5, .i 0), (6, .i 0)] [] [] [] (p0) ?_
 refine wT 0 0 .sh q (fun hw1 hl2 => ?_)
 refine Su (Ky at_) Wm q 0 (fun k0 s0 => [(5, .i s0), (6, .i ((k0 : Nat) : Int))]) [5, 6] (fun y0 => [(5, .i y0)]) [0, 1, 5, 6] wf0 (fun k0 s0 hk0 hI0 => ?_) (fun k0 s0 hk0 hI0 => ?_) (fun y0 hD0 => ?_)
 ·
  obtain ⟨a0, hx0⟩ := Yi (l := q) (i := k0) hk0
  refine Qc ?_
  refine sn Qa [0, 1, 4, 5, 6, 11] [] (pl 2 q (pe 3 (Qz (decide_eq_true (p := ((k0 : Nat) : Int) < (q.length : Int)) (by omega))) p0)) ?_
  refine ckT ?_
  refine Qf ?_
  refine Qc ?_
  refine Qy ?_
  refine Qc ?_
  refine mz [(11, .b true)] [] [] [] ?_
  refine jn [(7, .b ((a0.1 == (6 : Int)) || (a0.1 == (7 : Int))))] [11] [] [] (a0.1 == (6 : Int)) (fun h3 => ?_) (fun h3 => ?_) ?_
  ·
   refine rn Qa [0, 1, 4, 5, 6, 7] [] (pn 2 hx0 (pt 5 h3 p0)) ?_
   exact ⟨rfl, Qd (by rw [h3] <;> kernel_rfl)⟩
  ·
   refine rn Qa [0, 1, 4, 5, 6, 7] [] (pn 2 hx0 (pf 5 h3 (pn 9 hx0 p0))) ?_
   exact ⟨rfl, Qd (by rw [h3] <;> kernel_rfl)⟩
  refine Qc ?_
  refine Qc ?_
  refine jn [(45, .b (bif ((a0.1 == (6 : Int)) || (a0.1 == (7 : Int))) then (a0.2.1 == at_) else ((a0.1 == (5 : Int)) && (a0.2.1 == at_))))] [] [] [] ((a0.1 == (6 : Int)) || (a0.1 == (7 : Int))) (fun h4 => ?_) (fun h4 => ?_) ?_
  ·
   refine rn Qa [0, 1, 4, 5, 6, 7, 45] [] (pt 0 h4 (pn 12 hx0 p0)) ?_
   exact ⟨rfl, Qd (by rw [h4] <;> kernel_rfl)⟩
  ·
   refine Xr (a0.1 == (5 : Int)) (fun h5 => ?_) (fun h5 => ?_)
   ·
    refine rn Qa [0, 1, 4, 5, 6, 7, 45] [] (pf 0 h4 (pn 4 hx0 (pt 7 h5 (pn 12 hx0 p0)))) ?_
    exact ⟨rfl, Qd (by rw [h4, h5] <;> kernel_rfl)⟩
   refine ru Qa [(45, .b false)] [] [] [] (pf 0 h4 (pn 4 hx0 (pf 7 h5 p0))) ?_
   exact ⟨rfl, Qd (by rw [h4, h5] <;> kernel_rfl)⟩
  refine ck (bif ((a0.1 == (6 : Int)) || (a0.1 == (7 : Int))) then (a0.2.1 == at_) else ((a0.1 == (5 : Int)) && (a0.2.1 == at_))) (fun h6 => ?_) (fun h6 => ?_)
  ·
   refine rn Qa [0, 1, 4, 5, 6, 7] [] (p0) ?_
   refine Qc ?_
   refine mz [(5, .i (IntKind.i64.wrap (s0 + 1)))] [5, 45] [] [] ?_
   refine jn [(57, .b (((a0.1 == (6 : Int)) || (a0.1 == (7 : Int))) && (a0.2.2.1 == at_)))] [7] [] [] ((a0.1 == (6 : Int)) || (a0.1 == (7 : Int))) (fun h7 => ?_) (fun h7 => ?_) ?_
   ·
    refine rn Qa [0, 1, 4, 5, 6, 57] [] (pt 0 h7 (pn 4 hx0 p0)) ?_
    exact ⟨rfl, Qd (by rw [h7] <;> kernel_rfl)⟩
   ·
    refine rn Qa [0, 1, 4, 5, 6, 57] [] (pf 0 h7 p0) ?_
    exact ⟨rfl, Qd (by rw [h7] <;> kernel_rfl)⟩
   refine ck (((a0.1 == (6 : Int)) || (a0.1 == (7 : Int))) && (a0.2.2.1 == at_)) (fun h8 => ?_) (fun h8 => ?_)
   ·
    have h8r : ((a0.2.2.1 == at_)) = true := N8 h8
    have h8rd := eq_of_beq h8r
    refine rn Qa [0, 1, 4, 5, 6] [] (p0) ?_
    refine qn Qa [0, 1, 4, 5, 6] [] (pe 1 (Jr (Q1 k0 (by omega))) p0) ?_
    exact xw _ (Xl hx0 (Xi h6 (Xi h8 (rfl))) hI0)
   refine Qf ?_
   refine rn Qa [0, 1, 4, 5, 6] [] (pe 1 (Jr (Q1 k0 (by omega))) p0) ?_
   exact xw _ (Xl hx0 (Xi h6 (Qk h8 (rfl))) hI0)
  refine Qf ?_
  refine Qc ?_
  refine jn [(57, .b (((a0.1 == (6 : Int)) || (a0.1 == (7 : Int))) && (a0.2.2.1 == at_)))] [7, 45] [] [] ((a0.1 == (6 : Int)) || (a0.1 == (7 : Int))) (fun h9 => ?_) (fun h9 => ?_) ?_
  ·
   refine rn Qa [0, 1, 4, 5, 6, 57] [] (pt 0 h9 (pn 4 hx0 p0)) ?_
   exact ⟨rfl, Qd (by rw [h9] <;> kernel_rfl)⟩
  ·
   refine rn Qa [0, 1, 4, 5, 6, 57] [] (pf 0 h9 p0) ?_
   exact ⟨rfl, Qd (by rw [h9] <;> kernel_rfl)⟩
  refine ck (((a0.1 == (6 : Int)) || (a0.1 == (7 : Int))) && (a0.2.2.1 == at_)) (fun h10 => ?_) (fun h10 => ?_)
  ·
   have h10r : ((a0.2.2.1 == at_)) = true := N8 h10
   have h10rd := eq_of_beq h10r
   refine rn Qa [0, 1, 4, 5, 6] [] (p0) ?_
   refine qn Qa [0, 1, 4, 5, 6] [] (pe 1 (Jr (Q1 k0 (by omega))) p0) ?_
   exact xw _ (Xl hx0 (Qk h6 (Xi h10 (rfl))) hI0)
  refine Qf ?_
  refine rn Qa [0, 1, 4, 5, 6] [] (pe 1 (Jr (Q1 k0 (by omega))) p0) ?_
  exact xw _ (Xl hx0 (Qk h6 (Qk h10 (rfl))) hI0)
 ·
  refine Qc ?_
  refine sn Qa [0, 1, 4, 5, 6, 11] [] (pl 2 q (pe 3 (Qz (decide_eq_false (p := ((k0 : Nat) : Int) < (q.length : Int)) (by omega))) p0)) ?_
  refine ckF ?_
  refine Xs ?_
  exact xw _ (Yn hk0 (rfl) hI0)
 refine sn Qa [4] [] (p0) ?_
 refine Qe ?_
 exact pi [] (V4 hD0 (rfl))
def Kp (q : (List Qw)) (k0 : Nat) (a0 : Qw) (_ : Unit) : Rd (Bool) (Unit) (Unit) := (bif ((!(Jh a0 ((k0 : Nat) : Int))) || (decide (((k0 : Nat) : Int) < ((q.length : Int) - 1)) && ((Ju q ((k0 : Nat) : Int)) != (1 : Int)))) then (.ret false) else (.next ()))
def V5 (_ : Nat) (_ : Unit) : Unit := ()
def Yj (q : (List Qw)) : Bool := (Out.on (Yt (Kp q) V5 q 0 ()) (fun _ => (Xf (q.length : Int) 1 9)))
theorem K8 (q : (List Qw)) : ACalls Tryz.prog 102 [.h q] (.b (Yj q)) := by
 refine en Qa Tryz.func102 fun w0 F0 hG => ?_
 refine sn Qa [0, 2] [] (p0) ?_
 refine Qc ?_
 refine tn Qa [0, 2, 3] [] (p0) ?_
 refine mz [(2, .b false), (3, .i 0)] [] [] [] ?_
 refine wT 0 0 .sh q (fun hw1 hl2 => ?_)
 refine Su (Kp q) V5 q () (fun k0 _ => [(3, .i ((k0 : Nat) : Int))]) [3] (fun _ => []) [3] wf0 (fun k0 s0 hk0 hI0 => ?_) (fun k0 s0 hk0 hI0 => ?_) (fun y0 hD0 => ?_)
 ·
  obtain ⟨a0, hx0⟩ := Yi (l := q) (i := k0) hk0
  refine Qc ?_
  refine sn Qa [0, 2, 3, 7] [] (pl 2 q (pe 3 (Qz (decide_eq_true (p := ((k0 : Nat) : Int) < (q.length : Int)) (by omega))) p0)) ?_
  refine ckT ?_
  refine Qf ?_
  refine Qc ?_
  refine Qy ?_
  refine Qc ?_
  refine mz [(7, .b true)] [] [] [] ?_
  refine jn [(29, .b ((!(Jh a0 ((k0 : Nat) : Int))) || (decide (((k0 : Nat) : Int) < ((q.length : Int) - 1)) && ((Ju q ((k0 : Nat) : Int)) != (1 : Int)))))] [7] [] [] (!(Jh a0 ((k0 : Nat) : Int))) (fun h3 => ?_) (fun h3 => ?_) ?_
  ·
   have h3n : (Jh a0 ((k0 : Nat) : Int)) = false := Vz h3
   refine rn Qa [0, 2, 3, 29] [] (pn 2 hx0 (pc 5 (cb h3n (Ag a0 ((k0 : Nat) : Int))) (pe 6 (show .b (!false) = .b true from rfl) p0))) ?_
   exact ⟨rfl, Qd (by rw [h3] <;> kernel_rfl)⟩
  ·
   have h3n : (Jh a0 ((k0 : Nat) : Int)) = true := Jb h3
   refine Xr (decide (((k0 : Nat) : Int) < ((q.length : Int) - 1))) (fun h4 => ?_) (fun h4 => ?_)
   ·
    have h4d := of_decide_eq_true h4
    refine rn Qa [0, 2, 3, 29] [] (pn 2 hx0 (pc 5 (cb h3n (Ag a0 ((k0 : Nat) : Int))) (pe 6 (show .b (!true) = .b false from rfl) (pl 10 q (pe 11 (Jr (IntWalk.i64_in ((q.length : Int) - 1) (by omega))) (pt 12 h4 (pc 16 (Fb q ((k0 : Nat) : Int)) p0))))))) ?_
    exact ⟨rfl, Qd (by rw [h3, h4] <;> kernel_rfl)⟩
   have h4d := of_decide_eq_false h4
   refine rn Qa [0, 2, 3, 29] [] (pn 2 hx0 (pc 5 (cb h3n (Ag a0 ((k0 : Nat) : Int))) (pe 6 (show .b (!true) = .b false from rfl) (pl 10 q (pe 11 (Jr (IntWalk.i64_in ((q.length : Int) - 1) (by omega))) (pf 12 h4 p0)))))) ?_
   exact ⟨rfl, Qd (by rw [h3, h4] <;> kernel_rfl)⟩
  refine ck ((!(Jh a0 ((k0 : Nat) : Int))) || (decide (((k0 : Nat) : Int) < ((q.length : Int) - 1)) && ((Ju q ((k0 : Nat) : Int)) != (1 : Int)))) (fun h5 => ?_) (fun h5 => ?_)
  ·
   refine sn Qa [0, 2, 3] [] (p0) ?_
   refine Qe ?_
   have hr6 : (Yt (Kp q) V5 q 0 ()) = .ret false := Kh hx0 (Xi h5 (rfl)) hI0
   exact pb [] (N7 hr6)
  refine Qf ?_
  refine rn Qa [0, 2, 3] [] (pe 1 (Jr (Q1 k0 (by omega))) p0) ?_
  exact xw _ (Xl hx0 (Qk h5 (rfl)) hI0)
 ·
  refine Qc ?_
  refine sn Qa [0, 2, 3, 7] [] (pl 2 q (pe 3 (Qz (decide_eq_false (p := ((k0 : Nat) : Int) < (q.length : Int)) (by omega))) p0)) ?_
  refine ckF ?_
  refine Xs ?_
  exact xw _ (Yn hk0 (rfl) hI0)
 refine sn Qa [2] [] (pl 1 q (pc 2 (Y5 (q.length : Int) 1 9) p0)) ?_
 refine Qe ?_
 exact pb [] (V4 hD0 (rfl))
theorem Rl (a b c : Int) : Q9 a b c = Xf a b c := rfl
theorem Jv {a b c : Int} : Q9 a b c = true ↔ b ≤ a ∧ a ≤ c := by simp [Q9]
theorem Rm {a b c : Int} : Xf a b c = true ↔ b ≤ a ∧ a ≤ c := by simp [Xf]
theorem IB (s : ByteArray) : Q0 s = Xz s := rfl
theorem Ov (s : ByteArray) : Qs s = Xb s := by
  unfold Qs Xb Ae
  by_cases h : s.size = 1
  · simp only [h, Int.toNat_natCast, Jn, Vk]
    by_cases h1 : Yw s 0 < 97 <;> by_cases h2 : Yw s 0 > 122 <;> simp [h1, h2, Out.on, Xf, Wi] <;> omega
  have h1 : ((s.size : Int) == 1) = false := by simpa using fun e : (s.size : Int) = 1 => h (by omega)
  have h2 : Xf (s.size : Int) 1 1 = false := by simp [Xf]; omega
  rw [h1, h2, Bool.false_and]
  cases hf : Jn (Vk s) Wi (Int.toNat (s.size : Int)) 0 () with
  | brk t => rfl
  | ret r =>
    have key : ∀ n k, ∀ r, Jn (Vk s) Wi n k () = .ret r → r = false := by
      intro n
      induction n with
      | zero => intro k r h; simp [Jn] at h
      | succ n ih =>
        intro k r h
        simp only [Jn, Vk] at h
        cases hc : (decide (Yw s ((k : Nat) : Int) < (97 : Int)) || decide (Yw s ((k : Nat) : Int) > (122 : Int))) with
        | true => rw [hc] at h; simp only [cond_true] at h; cases h; rfl
        | false => rw [hc] at h; exact ih _ _ h
    exact (key _ _ _ hf).symm
theorem IC (v : Jf) : Qu v = Xg v := rfl
theorem PH (n : Qw) (k : Int) : Yo n k = Jh n k := by
  unfold Yo Jh
  rw [Ov, IC, IB]
  simp only [Rl]
  by_cases h1 : n.1 = 1
  · simp [h1]
  by_cases h2 : n.1 = 2
  · simp [h1, h2, Bool.and_comm]
  by_cases h3 : n.1 = 3
  · simp [h1, h2, h3]; ac_rfl
  by_cases h4 : n.1 = 4
  · simp [h1, h2, h3, h4]; cases h : (n.2.2.2.2.1 == 1) <;> simp_all <;> ac_rfl
  by_cases h5 : n.1 = 5
  · simp [h1, h2, h3, h4, h5]; ac_rfl
  by_cases h6 : n.1 = 6
  · simp [h1, h2, h3, h4, h5, h6]; ac_rfl
  by_cases h7 : n.1 = 7
  · simp [h1, h2, h3, h4, h5, h6, h7]; ac_rfl
  by_cases h8 : n.1 = 8
  · simp [h1, h2, h3, h4, h5, h6, h7, h8, Bool.and_comm]
  by_cases h9 : n.1 = 9
  · simp [h1, h2, h3, h4, h5, h6, h7, h8, h9, Bool.and_comm]
  simp only [beq_eq_false_iff_ne.2 h1, beq_eq_false_iff_ne.2 h2, beq_eq_false_iff_ne.2 h3, beq_eq_false_iff_ne.2 h4, beq_eq_false_iff_ne.2 h5, beq_eq_false_iff_ne.2 h6, beq_eq_false_iff_ne.2 h7, beq_eq_false_iff_ne.2 h8, beq_eq_false_iff_ne.2 h9, cond_false]
theorem Qa8 (q : List Qw) (k : Int) : Jt q k = Ju q k := by
  unfold Jt Ju
  rw [Fx (f := Kx k) (g := Ky k) (e := Wl) (e' := Wm) (fun i a s => by
    unfold Kx Ky
    cases (a.2.1 == k) <;> cases (a.2.2.1 == k) <;> cases (a.1 == 6) <;> cases (a.1 == 7) <;> cases (a.1 == 5) <;> rfl) (fun _ _ => rfl)]
theorem PI (q : List Qw) : Qj q = Yj q := by
  unfold Qj Yj
  rw [Fx (f := Yz q) (g := Kp q) (e := Jc) (e' := V5) (fun i a s => by
    unfold Yz Kp
    rw [PH, Qa8]) (fun _ _ => rfl)]
  rfl
theorem Ia {q : List Qw} (h : Yj q = true) : Qj q = true := (PI q).trans h
theorem ST {q : List Qw} (h : Qj q = true) : (∃ t, Yt (Yz q) Jc q 0 () = .brk t) ∧ Q9 (q.length : Int) 1 9 = true := by
  unfold Qj at h
  cases hf : Yt (Yz q) Jc q 0 () with
  | brk t => rw [hf] at h; exact ⟨⟨t, rfl⟩, h⟩
  | ret r =>
    rw [hf] at h
    obtain rfl : r = true := h
    exfalso
    have key : ∀ (l : List Qw) k, Yt (Yz q) Jc l k () ≠ .ret true := by
      intro l
      induction l with
      | nil => intro k h; simp [Yt] at h
      | cons a l ih =>
        intro k h
        simp only [Yt] at h
        unfold Yz at h
        split at h
        · rename_i hf; exact ih _ h
        · cases h
        rename_i r hf; cases h; revert hf; generalize (_ || _ : Bool) = c; cases c <;> simp
    exact key _ _ hf
theorem Ei {q : List Qw} (h : Qj q = true) : 1 ≤ q.length ∧ q.length ≤ 9 := by
  have := Jv.1 (ST h).2
  omega
theorem XS {q : List Qw} (h : Qj q = true) {i : Nat} {n : Qw} (hi : q[i]? = some n) : Yo n (i : Int) = true := by
  obtain ⟨⟨t, ht⟩, _⟩ := ST h
  have := XO (fun k a t => by unfold Yz; generalize (_ || _ : Bool) = c; cases c <;> simp) ht i n hi
  unfold Yz at this
  rw [Nat.zero_add] at this
  cases hn : Yo n (i : Int) with
  | true => rfl
  | false => rw [hn] at this; simp at this
theorem Qa9 {n : Qw} {k : Int} (h : Yo n k = true) (hk : 0 ≤ k ∧ k < 4611686018427387904) : (n.1 = 5 ∨ n.1 = 6 ∨ n.1 = 7 → 0 ≤ n.2.1 ∧ n.2.1 < k) ∧ (n.1 = 6 ∨ n.1 = 7 → 0 ≤ n.2.2.1 ∧ n.2.2.1 < k) := by
  have hw : IntKind.i64.wrap (k - 1) = k - 1 := IntWalk.i64_in _ (by omega)
  unfold Yo at h
  rw [hw] at h
  refine ⟨fun h5 => ?_, fun h5 => ?_⟩
  · rcases h5 with h5 | h5 | h5 <;> (simp [h5, Q9] at h; omega)
  rcases h5 with h5 | h5 <;> (simp [h5, Q9] at h; omega)
theorem Fd {q : List Qw} (h : Qj q = true) {k : Int} (ha : 0 ≤ k) (hb : k < (q.length : Int)) :
    ((nth q (Int.toNat k)).1 = 5 ∨ (nth q (Int.toNat k)).1 = 6 ∨ (nth q (Int.toNat k)).1 = 7 → 0 ≤ (nth q (Int.toNat k)).2.1 ∧ (nth q (Int.toNat k)).2.1 < k) ∧ ((nth q (Int.toNat k)).1 = 6 ∨ (nth q (Int.toNat k)).1 = 7 → 0 ≤ (nth q (Int.toNat k)).2.2.1 ∧ (nth q (Int.toNat k)).2.2.1 < k) := by
  have hi : q[Int.toNat k]? = some (nth q (Int.toNat k)) := G9 (by omega)
  have := XS h hi
  rw [Int.toNat_of_nonneg ha] at this
  exact Qa9 this ⟨ha, by have := (Ei h).2; omega⟩
section
variable {q : List Qw} {k : Int} (h : Qj q = true) (ha : 0 ≤ k) (hb : k < (q.length : Int))
include h ha hb
theorem EP (h5 : ((nth q (Int.toNat k)).1 == (5 : Int)) = true) : 0 ≤ (nth q (Int.toNat k)).2.1 ∧ (nth q (Int.toNat k)).2.1 < k := (Fd h ha hb).1 (.inl (eq_of_beq h5))
theorem EQ (h5 : ((nth q (Int.toNat k)).1 == (6 : Int)) = true) : 0 ≤ (nth q (Int.toNat k)).2.1 ∧ (nth q (Int.toNat k)).2.1 < k := (Fd h ha hb).1 (.inr (.inl (eq_of_beq h5)))
theorem ID (h5 : ((nth q (Int.toNat k)).1 == (7 : Int)) = true) : 0 ≤ (nth q (Int.toNat k)).2.1 ∧ (nth q (Int.toNat k)).2.1 < k := (Fd h ha hb).1 (.inr (.inr (eq_of_beq h5)))
theorem ER (h5 : ((nth q (Int.toNat k)).1 == (6 : Int)) = true) : 0 ≤ (nth q (Int.toNat k)).2.2.1 ∧ (nth q (Int.toNat k)).2.2.1 < k := (Fd h ha hb).2 (.inl (eq_of_beq h5))
theorem IE (h5 : ((nth q (Int.toNat k)).1 == (7 : Int)) = true) : 0 ≤ (nth q (Int.toNat k)).2.2.1 ∧ (nth q (Int.toNat k)).2.2.1 < k := (Fd h ha hb).2 (.inr (eq_of_beq h5))
theorem SU (h5 : (((nth q (Int.toNat k)).1 == (6 : Int)) || ((nth q (Int.toNat k)).1 == (7 : Int))) = true) : (0 ≤ (nth q (Int.toNat k)).2.1 ∧ (nth q (Int.toNat k)).2.1 < k) ∧ (0 ≤ (nth q (Int.toNat k)).2.2.1 ∧ (nth q (Int.toNat k)).2.2.1 < k) := by
  have h6 : (nth q (Int.toNat k)).1 = 6 ∨ (nth q (Int.toNat k)).1 = 7 := by simpa using h5
  exact ⟨(Fd h ha hb).1 (.inr h6), (Fd h ha hb).2 h6⟩
end
open GoE (enc wide)
def Zz (q : (List Qw)) (k0 : Nat) (s0 : (List Bool)) : Rd ((List Bool)) ((List Bool)) ((List Bool)) := (bif ((nth q (Int.toNat (dn ((q.length : Int) - 1) k0))).1 == (5 : Int)) then (.next (List.set s0 (Int.toNat ((nth q (Int.toNat (dn ((q.length : Int) - 1) k0))).2.1)) ((nth s0 (Int.toNat (dn ((q.length : Int) - 1) k0))) || ((nth q (Int.toNat (dn ((q.length : Int) - 1) k0))).1 == (5 : Int))))) else (bif ((nth q (Int.toNat (dn ((q.length : Int) - 1) k0))).1 == (6 : Int)) then (.next (List.set (List.set s0 (Int.toNat ((nth q (Int.toNat (dn ((q.length : Int) - 1) k0))).2.1)) ((nth s0 (Int.toNat (dn ((q.length : Int) - 1) k0))) || ((nth q (Int.toNat (dn ((q.length : Int) - 1) k0))).1 == (5 : Int)))) (Int.toNat ((nth q (Int.toNat (dn ((q.length : Int) - 1) k0))).2.2.1)) ((nth s0 (Int.toNat (dn ((q.length : Int) - 1) k0))) || ((nth q (Int.toNat (dn ((q.length : Int) - 1) k0))).1 == (5 : Int))))) else (bif ((nth q (Int.toNat (dn ((q.length : Int) - 1) k0))).1 == (7 : Int)) then (.next (List.set (List.set s0 (Int.toNat ((nth q (Int.toNat (dn ((q.length : Int) - 1) k0))).2.1)) ((nth s0 (Int.toNat (dn ((q.length : Int) - 1) k0))) || ((nth q (Int.toNat (dn ((q.length : Int) - 1) k0))).1 == (5 : Int)))) (Int.toNat ((nth q (Int.toNat (dn ((q.length : Int) - 1) k0))).2.2.1)) ((nth s0 (Int.toNat (dn ((q.length : Int) - 1) k0))) || ((nth q (Int.toNat (dn ((q.length : Int) - 1) k0))).1 == (5 : Int))))) else (.next s0))))
def V6 (_ : Nat) (s0 : (List Bool)) : (List Bool) := s0
def Ye (q : (List Qw)) : (List Bool) := (bif (!(Qj q)) then [] else (Out.on (Jn (Zz q) V6 (List.length q) 0 (List.replicate (Int.toNat (q.length : Int)) false)) (fun y0 => y0)))
theorem Le (q : (List Qw)) : ACalls Tryz.prog 238 [.h q] (.o 0 (Ye q)) := by
 refine en Qa Tryz.func238 fun w0 F0 hG => ?_
 refine sn Qa [0, 2] [] (p0) ?_
 refine Qc ?_
 refine tn Qa [0, 2, 8] [] (pc 1 (K7 q) p0) ?_
 refine ck (!(Qj q)) (fun h1 => ?_) (fun h1 => ?_)
 ·
  refine tu Qa [(2, .e 0)] [] [] [] (p0) ?_
  refine opn [(false, 2, 0, true, 384000, 1)] ?_
  refine Qe ?_
  exact po0 [] (Xi h1 (rfl))
 have h1n : (Qj q) = true := Jb h1
 refine Qf ?_
 refine wT 0 0 .sh q (fun hw2 hl3 => ?_)
 refine tu Qa [(2, .e 0), (3, .one (.slc (.own true 704) 1 (List.replicate (Int.toNat (q.length : Int)) [.b false])))] [] [] [] (pl 1 q (px (Co (lo := 0) (hi := (q.length : Int)) (n := 1073741824) (⟨by omega, by omega, by omega⟩)) p0)) ?_
 refine eqn [(3, .o 704 (List.replicate (Int.toNat (q.length : Int)) false))] [3] [] [] (by rw [show (List.replicate (Int.toNat (q.length : Int)) [.b false]) = (eL (List.replicate (Int.toNat (q.length : Int)) false)) from PC _ false]; first | done | kernel_rfl) ?_
 refine Qc ?_
 refine sn Qa [0, 2, 3, 4] [] (pl 1 q (pe 2 (Jr (IntWalk.i64_in ((q.length : Int) - 1) (by omega))) p0)) ?_
 refine mz [(4, .i ((q.length : Int) - 1))] [] [] [] ?_
 refine Qa4 (Zz q) V6 (List.length q) (List.replicate (Int.toNat (q.length : Int)) false) (fun k0 s0 => [(3, .o 704 s0), (4, .i (dn ((q.length : Int) - 1) k0))]) [3, 4] (fun y0 => [(3, .o 704 y0)]) [0, 3, 4] (fun _ s0 => List.length s0 = (Int.toNat (q.length : Int))) (fun y0 => List.length y0 = (Int.toNat (q.length : Int))) wf0 (by simp) (fun k0 s0 hk0 hI0 => ?_) (fun k0 s0 hk0 hI0 => ?_) (fun y0 hD0 => ?_)
 ·
  have hA0_0 := hI0.2
  have hdn0 := DB ((q.length : Int) - 1) k0
  refine Qc ?_
  refine sn Qa [0, 2, 3, 4, 16] [] (pe 1 (Qz (decide_eq_true (p := (dn ((q.length : Int) - 1) k0) ≥ (0 : Int)) (by omega))) p0) ?_
  refine ckT ?_
  refine Qf ?_
  refine Qc ?_
  refine Qy ?_
  refine Qc ?_
  refine mz [(16, .b true)] [] [] [] ?_
  refine jn [(5, .b ((nth s0 (Int.toNat (dn ((q.length : Int) - 1) k0))) || ((nth q (Int.toNat (dn ((q.length : Int) - 1) k0))).1 == (5 : Int))))] [16] [] [] (nth s0 (Int.toNat (dn ((q.length : Int) - 1) k0))) (fun h4 => ?_) (fun h4 => ?_) ?_
  ·
   refine wT 3 0 (.own true 704) s0 (fun hw6 hl7 => ?_)
   have hx5 := ng s0 (Int.toNat (dn ((q.length : Int) - 1) k0))
   refine rn Qa [0, 2, 3, 4, 5] [] (pG 2 (dn ((q.length : Int) - 1) k0) hx5 (pt 3 h4 p0)) ?_
   exact ⟨rfl, Qd (by rw [h4] <;> kernel_rfl)⟩
  ·
   refine wT 3 0 (.own true 704) s0 (fun hw9 hl10 => ?_)
   have hx8 := ng s0 (Int.toNat (dn ((q.length : Int) - 1) k0))
   have hx11 := ng q (Int.toNat (dn ((q.length : Int) - 1) k0))
   refine rn Qa [0, 2, 3, 4, 5] [] (pG 2 (dn ((q.length : Int) - 1) k0) hx8 (pf 3 h4 (pg 7 (dn ((q.length : Int) - 1) k0) hx11 p0))) ?_
   exact ⟨rfl, Qd (by rw [h4] <;> kernel_rfl)⟩
  have hx12 := ng q (Int.toNat (dn ((q.length : Int) - 1) k0))
  refine sn Qa [0, 2, 3, 4, 5, 35] [] (pg 2 (dn ((q.length : Int) - 1) k0) hx12 p0) ?_
  refine Qy ?_
  refine tn Qa [0, 2, 3, 4, 5, 35, 36] [] (p0) ?_
  refine ck ((nth q (Int.toNat (dn ((q.length : Int) - 1) k0))).1 == (5 : Int)) (fun h13 => ?_) (fun h13 => ?_)
  ·
   have h13k := EP h1n (by omega) (by omega) h13
   have h13d := eq_of_beq h13
   refine wT 3 0 (.own true 704) s0 (fun hw15 hl16 => ?_)
   have hx14 := ng s0 (Int.toNat ((nth q (Int.toNat (dn ((q.length : Int) - 1) k0))).2.1))
   refine qu Qa [(3, .one (.slc (.own true 704) 1 (setRow (eL s0) (Int.toNat ((nth q (Int.toNat (dn ((q.length : Int) - 1) k0))).2.1)) 0 [.b ((nth s0 (Int.toNat (dn ((q.length : Int) - 1) k0))) || ((nth q (Int.toNat (dn ((q.length : Int) - 1) k0))).1 == (5 : Int)))])))] [3, 5] [] [] (pg 3 (dn ((q.length : Int) - 1) k0) hx12 (pG 7 ((nth q (Int.toNat (dn ((q.length : Int) - 1) k0))).2.1) hx14 p0)) ?_
   refine eqn [(3, .o 704 (List.set s0 (Int.toNat ((nth q (Int.toNat (dn ((q.length : Int) - 1) k0))).2.1)) ((nth s0 (Int.toNat (dn ((q.length : Int) - 1) k0))) || ((nth q (Int.toNat (dn ((q.length : Int) - 1) k0))).1 == (5 : Int)))))] [3] [] [] (by rw [Jx (y := ((nth s0 (Int.toNat (dn ((q.length : Int) - 1) k0))) || ((nth q (Int.toNat (dn ((q.length : Int) - 1) k0))).1 == (5 : Int)))) hx14 rfl] <;> kernel_rfl) ?_
   refine rn Qa [0, 2, 3, 4] [] (pe 1 (show .i (IntKind.i64.wrap ((dn ((q.length : Int) - 1) k0) - 1)) = .i (dn ((q.length : Int) - 1) (k0 + 1)) from Jr (show IntKind.i64.wrap ((dn ((q.length : Int) - 1) k0) - 1) = (dn ((q.length : Int) - 1) (k0 + 1)) from IntWalk.i64_in ((dn ((q.length : Int) - 1) k0) - 1) (by omega))) p0) ?_
   exact xw (List.set s0 (Int.toNat ((nth q (Int.toNat (dn ((q.length : Int) - 1) k0))).2.1)) ((nth s0 (Int.toNat (dn ((q.length : Int) - 1) k0))) || ((nth q (Int.toNat (dn ((q.length : Int) - 1) k0))).1 == (5 : Int)))) ⟨Zu hk0 (Xi h13 (rfl)) hI0.1, (by first | omega | (simp only [List.length_set]; omega))⟩
  have h13d := Yg h13
  refine Qc ?_
  refine tu Qa [(35, .i ((nth q (Int.toNat (dn ((q.length : Int) - 1) k0))).1)), (46, .b ((nth q (Int.toNat (dn ((q.length : Int) - 1) k0))).1 == (6 : Int)))] [] [] [] (p0) ?_
  refine ck ((nth q (Int.toNat (dn ((q.length : Int) - 1) k0))).1 == (6 : Int)) (fun h17 => ?_) (fun h17 => ?_)
  ·
   have h17k := EQ h1n (by omega) (by omega) h17; have h17m := ER h1n (by omega) (by omega) h17
   have h17d := eq_of_beq h17
   refine Qf ?_
   refine ckt h17 ?_
   refine wT 3 0 (.own true 704) s0 (fun hw19 hl20 => ?_)
   have hx18 := ng s0 (Int.toNat ((nth q (Int.toNat (dn ((q.length : Int) - 1) k0))).2.1))
   have hx21 : (List.set s0 (Int.toNat ((nth q (Int.toNat (dn ((q.length : Int) - 1) k0))).2.1)) ((nth s0 (Int.toNat (dn ((q.length : Int) - 1) k0))) || ((nth q (Int.toNat (dn ((q.length : Int) - 1) k0))).1 == (5 : Int))))[(Int.toNat ((nth q (Int.toNat (dn ((q.length : Int) - 1) k0))).2.2.1))]? = some (nth (List.set s0 (Int.toNat ((nth q (Int.toNat (dn ((q.length : Int) - 1) k0))).2.1)) ((nth s0 (Int.toNat (dn ((q.length : Int) - 1) k0))) || ((nth q (Int.toNat (dn ((q.length : Int) - 1) k0))).1 == (5 : Int)))) (Int.toNat ((nth q (Int.toNat (dn ((q.length : Int) - 1) k0))).2.2.1))) := G9 (by first | omega | (simp only [List.length_set]; omega))
   refine rU Qa Yp [(3, .one (.slc (.own true 704) 1 (setRow (setRow (eL s0) (Int.toNat ((nth q (Int.toNat (dn ((q.length : Int) - 1) k0))).2.1)) 0 [.b ((nth s0 (Int.toNat (dn ((q.length : Int) - 1) k0))) || ((nth q (Int.toNat (dn ((q.length : Int) - 1) k0))).1 == (5 : Int)))]) (Int.toNat ((nth q (Int.toNat (dn ((q.length : Int) - 1) k0))).2.2.1)) 0 [.b ((nth s0 (Int.toNat (dn ((q.length : Int) - 1) k0))) || ((nth q (Int.toNat (dn ((q.length : Int) - 1) k0))).1 == (5 : Int)))])))] [3, 5, 35, 46] [] [] (pg 3 (dn ((q.length : Int) - 1) k0) hx12 (pg 9 (dn ((q.length : Int) - 1) k0) hx12 (pG 14 ((nth q (Int.toNat (dn ((q.length : Int) - 1) k0))).2.1) hx18 (pR 16 (l := (setRow (eL s0) (Int.toNat ((nth q (Int.toNat (dn ((q.length : Int) - 1) k0))).2.1)) 0 [.b ((nth s0 (Int.toNat (dn ((q.length : Int) - 1) k0))) || ((nth q (Int.toNat (dn ((q.length : Int) - 1) k0))).1 == (5 : Int)))])) (j := ((nth q (Int.toNat (dn ((q.length : Int) - 1) k0))).2.2.1)) (r := [.b (nth (List.set s0 (Int.toNat ((nth q (Int.toNat (dn ((q.length : Int) - 1) k0))).2.1)) ((nth s0 (Int.toNat (dn ((q.length : Int) - 1) k0))) || ((nth q (Int.toNat (dn ((q.length : Int) - 1) k0))).1 == (5 : Int)))) (Int.toNat ((nth q (Int.toNat (dn ((q.length : Int) - 1) k0))).2.2.1)))]) (by rw [Jx (y := ((nth s0 (Int.toNat (dn ((q.length : Int) - 1) k0))) || ((nth q (Int.toNat (dn ((q.length : Int) - 1) k0))).1 == (5 : Int)))) hx18 rfl]; exact DC (by omega) rfl hx21) p0)))) ?_
   refine eqn [(3, .o 704 (List.set (List.set s0 (Int.toNat ((nth q (Int.toNat (dn ((q.length : Int) - 1) k0))).2.1)) ((nth s0 (Int.toNat (dn ((q.length : Int) - 1) k0))) || ((nth q (Int.toNat (dn ((q.length : Int) - 1) k0))).1 == (5 : Int)))) (Int.toNat ((nth q (Int.toNat (dn ((q.length : Int) - 1) k0))).2.2.1)) ((nth s0 (Int.toNat (dn ((q.length : Int) - 1) k0))) || ((nth q (Int.toNat (dn ((q.length : Int) - 1) k0))).1 == (5 : Int)))))] [3] [] [] (by rw [Jx (y := ((nth s0 (Int.toNat (dn ((q.length : Int) - 1) k0))) || ((nth q (Int.toNat (dn ((q.length : Int) - 1) k0))).1 == (5 : Int)))) hx18 rfl, Jx (y := ((nth s0 (Int.toNat (dn ((q.length : Int) - 1) k0))) || ((nth q (Int.toNat (dn ((q.length : Int) - 1) k0))).1 == (5 : Int)))) hx21 rfl] <;> kernel_rfl) ?_
   refine rn Qa [0, 2, 3, 4] [] (pe 1 (show .i (IntKind.i64.wrap ((dn ((q.length : Int) - 1) k0) - 1)) = .i (dn ((q.length : Int) - 1) (k0 + 1)) from Jr (show IntKind.i64.wrap ((dn ((q.length : Int) - 1) k0) - 1) = (dn ((q.length : Int) - 1) (k0 + 1)) from IntWalk.i64_in ((dn ((q.length : Int) - 1) k0) - 1) (by omega))) p0) ?_
   exact xw (List.set (List.set s0 (Int.toNat ((nth q (Int.toNat (dn ((q.length : Int) - 1) k0))).2.1)) ((nth s0 (Int.toNat (dn ((q.length : Int) - 1) k0))) || ((nth q (Int.toNat (dn ((q.length : Int) - 1) k0))).1 == (5 : Int)))) (Int.toNat ((nth q (Int.toNat (dn ((q.length : Int) - 1) k0))).2.2.1)) ((nth s0 (Int.toNat (dn ((q.length : Int) - 1) k0))) || ((nth q (Int.toNat (dn ((q.length : Int) - 1) k0))).1 == (5 : Int)))) ⟨Zu hk0 (Qk h13 (Xi h17 (rfl))) hI0.1, (by first | omega | (simp only [List.length_set]; omega))⟩
  have h17d := Yg h17
  refine rn Qa [0, 2, 3, 4, 5, 46] [] (p0) ?_
  refine ck ((nth q (Int.toNat (dn ((q.length : Int) - 1) k0))).1 == (7 : Int)) (fun h22 => ?_) (fun h22 => ?_)
  ·
   have h22k := ID h1n (by omega) (by omega) h22; have h22m := IE h1n (by omega) (by omega) h22
   have h22d := eq_of_beq h22
   refine wT 3 0 (.own true 704) s0 (fun hw24 hl25 => ?_)
   have hx23 := ng s0 (Int.toNat ((nth q (Int.toNat (dn ((q.length : Int) - 1) k0))).2.1))
   have hx26 : (List.set s0 (Int.toNat ((nth q (Int.toNat (dn ((q.length : Int) - 1) k0))).2.1)) ((nth s0 (Int.toNat (dn ((q.length : Int) - 1) k0))) || ((nth q (Int.toNat (dn ((q.length : Int) - 1) k0))).1 == (5 : Int))))[(Int.toNat ((nth q (Int.toNat (dn ((q.length : Int) - 1) k0))).2.2.1))]? = some (nth (List.set s0 (Int.toNat ((nth q (Int.toNat (dn ((q.length : Int) - 1) k0))).2.1)) ((nth s0 (Int.toNat (dn ((q.length : Int) - 1) k0))) || ((nth q (Int.toNat (dn ((q.length : Int) - 1) k0))).1 == (5 : Int)))) (Int.toNat ((nth q (Int.toNat (dn ((q.length : Int) - 1) k0))).2.2.1))) := G9 (by first | omega | (simp only [List.length_set]; omega))
   refine qU Qa Yp [(3, .one (.slc (.own true 704) 1 (setRow (setRow (eL s0) (Int.toNat ((nth q (Int.toNat (dn ((q.length : Int) - 1) k0))).2.1)) 0 [.b ((nth s0 (Int.toNat (dn ((q.length : Int) - 1) k0))) || ((nth q (Int.toNat (dn ((q.length : Int) - 1) k0))).1 == (5 : Int)))]) (Int.toNat ((nth q (Int.toNat (dn ((q.length : Int) - 1) k0))).2.2.1)) 0 [.b ((nth s0 (Int.toNat (dn ((q.length : Int) - 1) k0))) || ((nth q (Int.toNat (dn ((q.length : Int) - 1) k0))).1 == (5 : Int)))])))] [3, 5, 35, 46] [] [] (pg 3 (dn ((q.length : Int) - 1) k0) hx12 (pg 9 (dn ((q.length : Int) - 1) k0) hx12 (pG 14 ((nth q (Int.toNat (dn ((q.length : Int) - 1) k0))).2.1) hx23 (pR 16 (l := (setRow (eL s0) (Int.toNat ((nth q (Int.toNat (dn ((q.length : Int) - 1) k0))).2.1)) 0 [.b ((nth s0 (Int.toNat (dn ((q.length : Int) - 1) k0))) || ((nth q (Int.toNat (dn ((q.length : Int) - 1) k0))).1 == (5 : Int)))])) (j := ((nth q (Int.toNat (dn ((q.length : Int) - 1) k0))).2.2.1)) (r := [.b (nth (List.set s0 (Int.toNat ((nth q (Int.toNat (dn ((q.length : Int) - 1) k0))).2.1)) ((nth s0 (Int.toNat (dn ((q.length : Int) - 1) k0))) || ((nth q (Int.toNat (dn ((q.length : Int) - 1) k0))).1 == (5 : Int)))) (Int.toNat ((nth q (Int.toNat (dn ((q.length : Int) - 1) k0))).2.2.1)))]) (by rw [Jx (y := ((nth s0 (Int.toNat (dn ((q.length : Int) - 1) k0))) || ((nth q (Int.toNat (dn ((q.length : Int) - 1) k0))).1 == (5 : Int)))) hx23 rfl]; exact DC (by omega) rfl hx26) p0)))) ?_
   refine eqn [(3, .o 704 (List.set (List.set s0 (Int.toNat ((nth q (Int.toNat (dn ((q.length : Int) - 1) k0))).2.1)) ((nth s0 (Int.toNat (dn ((q.length : Int) - 1) k0))) || ((nth q (Int.toNat (dn ((q.length : Int) - 1) k0))).1 == (5 : Int)))) (Int.toNat ((nth q (Int.toNat (dn ((q.length : Int) - 1) k0))).2.2.1)) ((nth s0 (Int.toNat (dn ((q.length : Int) - 1) k0))) || ((nth q (Int.toNat (dn ((q.length : Int) - 1) k0))).1 == (5 : Int)))))] [3] [] [] (by rw [Jx (y := ((nth s0 (Int.toNat (dn ((q.length : Int) - 1) k0))) || ((nth q (Int.toNat (dn ((q.length : Int) - 1) k0))).1 == (5 : Int)))) hx23 rfl, Jx (y := ((nth s0 (Int.toNat (dn ((q.length : Int) - 1) k0))) || ((nth q (Int.toNat (dn ((q.length : Int) - 1) k0))).1 == (5 : Int)))) hx26 rfl] <;> kernel_rfl) ?_
   refine rn Qa [0, 2, 3, 4] [] (pe 1 (show .i (IntKind.i64.wrap ((dn ((q.length : Int) - 1) k0) - 1)) = .i (dn ((q.length : Int) - 1) (k0 + 1)) from Jr (show IntKind.i64.wrap ((dn ((q.length : Int) - 1) k0) - 1) = (dn ((q.length : Int) - 1) (k0 + 1)) from IntWalk.i64_in ((dn ((q.length : Int) - 1) k0) - 1) (by omega))) p0) ?_
   exact xw (List.set (List.set s0 (Int.toNat ((nth q (Int.toNat (dn ((q.length : Int) - 1) k0))).2.1)) ((nth s0 (Int.toNat (dn ((q.length : Int) - 1) k0))) || ((nth q (Int.toNat (dn ((q.length : Int) - 1) k0))).1 == (5 : Int)))) (Int.toNat ((nth q (Int.toNat (dn ((q.length : Int) - 1) k0))).2.2.1)) ((nth s0 (Int.toNat (dn ((q.length : Int) - 1) k0))) || ((nth q (Int.toNat (dn ((q.length : Int) - 1) k0))).1 == (5 : Int)))) ⟨Zu hk0 (Qk h13 (Qk h17 (Xi h22 (rfl)))) hI0.1, (by first | omega | (simp only [List.length_set]; omega))⟩
  have h22d := Yg h22
  refine Qf ?_
  refine qn Qa [0, 2, 3, 4] [] (pe 1 (show .i (IntKind.i64.wrap ((dn ((q.length : Int) - 1) k0) - 1)) = .i (dn ((q.length : Int) - 1) (k0 + 1)) from Jr (show IntKind.i64.wrap ((dn ((q.length : Int) - 1) k0) - 1) = (dn ((q.length : Int) - 1) (k0 + 1)) from IntWalk.i64_in ((dn ((q.length : Int) - 1) k0) - 1) (by omega))) p0) ?_
  exact xw s0 ⟨Zu hk0 (Qk h13 (Qk h17 (Qk h22 (rfl)))) hI0.1, (by first | omega | (simp only [List.length_set]; omega))⟩
 ·
  have hA0_0 := hI0.2
  have hdn0 := DB ((q.length : Int) - 1) k0
  refine Qc ?_
  refine sn Qa [0, 2, 3, 4, 16] [] (pe 1 (Qz (decide_eq_false (p := (dn ((q.length : Int) - 1) k0) ≥ (0 : Int)) (by omega))) p0) ?_
  refine ckF ?_
  refine Xs ?_
  exact xw s0 ⟨Up hk0 (rfl) hI0.1, by first | omega | (simp only [List.length_set]; omega)⟩
 have hD0_0 := hD0.2
 refine sn Qa [2] [] (p0) ?_
 refine Qe ?_
 exact po0 [] (Qk h1 (V4 hD0.1 (rfl)))
def Kq (q : (List Qw)) (k0 : Nat) (s0 : (List Bool)) : Rd ((List Bool)) ((List Bool)) ((List Bool)) := (bif ((nth q (Int.toNat (dn ((q.length : Int) - 1) k0))).1 == (5 : Int)) then (bif (((nth q (Int.toNat (dn ((q.length : Int) - 1) k0))).1 == (6 : Int)) || ((nth q (Int.toNat (dn ((q.length : Int) - 1) k0))).1 == (7 : Int))) then (.next (List.set (List.set (List.set s0 (Int.toNat ((nth q (Int.toNat (dn ((q.length : Int) - 1) k0))).2.1)) true) (Int.toNat ((nth q (Int.toNat (dn ((q.length : Int) - 1) k0))).2.1)) (nth (List.set s0 (Int.toNat ((nth q (Int.toNat (dn ((q.length : Int) - 1) k0))).2.1)) true) (Int.toNat (dn ((q.length : Int) - 1) k0)))) (Int.toNat ((nth q (Int.toNat (dn ((q.length : Int) - 1) k0))).2.2.1)) (nth (List.set (List.set s0 (Int.toNat ((nth q (Int.toNat (dn ((q.length : Int) - 1) k0))).2.1)) true) (Int.toNat ((nth q (Int.toNat (dn ((q.length : Int) - 1) k0))).2.1)) (nth (List.set s0 (Int.toNat ((nth q (Int.toNat (dn ((q.length : Int) - 1) k0))).2.1)) true) (Int.toNat (dn ((q.length : Int) - 1) k0)))) (Int.toNat (dn ((q.length : Int) - 1) k0))))) else (.next (List.set s0 (Int.toNat ((nth q (Int.toNat (dn ((q.length : Int) - 1) k0))).2.1)) true))) else (bif (((nth q (Int.toNat (dn ((q.length : Int) - 1) k0))).1 == (6 : Int)) || ((nth q (Int.toNat (dn ((q.length : Int) - 1) k0))).1 == (7 : Int))) then (.next (List.set (List.set s0 (Int.toNat ((nth q (Int.toNat (dn ((q.length : Int) - 1) k0))).2.1)) (nth s0 (Int.toNat (dn ((q.length : Int) - 1) k0)))) (Int.toNat ((nth q (Int.toNat (dn ((q.length : Int) - 1) k0))).2.2.1)) (nth (List.set s0 (Int.toNat ((nth q (Int.toNat (dn ((q.length : Int) - 1) k0))).2.1)) (nth s0 (Int.toNat (dn ((q.length : Int) - 1) k0)))) (Int.toNat (dn ((q.length : Int) - 1) k0))))) else (.next s0)))
def Hc (_ : Nat) (s0 : (List Bool)) : (List Bool) := s0
def Y7 (q : (List Qw)) : (List Bool) := (bif (!(Yj q)) then [] else (Out.on (Jn (Kq q) Hc (List.length q) 0 (List.replicate (Int.toNat (q.length : Int)) false)) (fun y0 => y0)))
theorem Lf (q : (List Qw)) : ACalls Tryz.prog 246 [.h q] (.o 0 (Y7 q)) := by
 refine en Qa Tryz.func246 fun w0 F0 hG => ?_
 refine sn Qa [0, 2] [] (p0) ?_
 refine Qc ?_
 refine tn Qa [0, 2, 9] [] (pc 1 (K8 q) p0) ?_
 refine ck (!(Yj q)) (fun h1 => ?_) (fun h1 => ?_)
 ·
  refine tu Qa [(2, .one (.slc (.own true 640) 1 []))] [] [] [] (p0) ?_
  refine Qe ?_
  exact po0 [] (Xi h1 (rfl))
 have h1n : (Yj q) = true := Jb h1
 refine Qf ?_
 refine wT 0 0 .sh q (fun hw2 hl3 => ?_)
 refine tu Qa [(2, .e 0), (3, .one (.slc (.own true 832) 1 (List.replicate (Int.toNat (q.length : Int)) [.b false])))] [] [] [] (pl 1 q (px (Co (lo := 0) (hi := (q.length : Int)) (n := 1073741824) (⟨by omega, by omega, by omega⟩)) p0)) ?_
 refine eqn [(3, .o 832 (List.replicate (Int.toNat (q.length : Int)) false))] [3] [] [] (by rw [show (List.replicate (Int.toNat (q.length : Int)) [.b false]) = (eL (List.replicate (Int.toNat (q.length : Int)) false)) from PC _ false]; first | done | kernel_rfl) ?_
 refine Qc ?_
 refine sn Qa [0, 2, 3, 4] [] (pl 1 q (pe 2 (Jr (IntWalk.i64_in ((q.length : Int) - 1) (by omega))) p0)) ?_
 refine mz [(4, .i ((q.length : Int) - 1))] [] [] [] ?_
 refine Qa4 (Kq q) Hc (List.length q) (List.replicate (Int.toNat (q.length : Int)) false) (fun k0 s0 => [(3, .o 832 s0), (4, .i (dn ((q.length : Int) - 1) k0))]) [3, 4] (fun y0 => [(3, .o 832 y0)]) [0, 3, 4] (fun _ s0 => List.length s0 = (Int.toNat (q.length : Int))) (fun y0 => List.length y0 = (Int.toNat (q.length : Int))) wf0 (by simp) (fun k0 s0 hk0 hI0 => ?_) (fun k0 s0 hk0 hI0 => ?_) (fun y0 hD0 => ?_)
 ·
  have hA0_0 := hI0.2
  have hdn0 := DB ((q.length : Int) - 1) k0
  refine Qc ?_
  refine sn Qa [0, 2, 3, 4, 18] [] (pe 1 (Qz (decide_eq_true (p := (dn ((q.length : Int) - 1) k0) ≥ (0 : Int)) (by omega))) p0) ?_
  refine ckT ?_
  refine Qf ?_
  refine Qc ?_
  refine Qy ?_
  have hx4 := ng q (Int.toNat (dn ((q.length : Int) - 1) k0))
  refine tn Qa [0, 2, 3, 4, 5] [5] (pg 2 (dn ((q.length : Int) - 1) k0) hx4 p0) ?_
  refine Qc ?_
  refine mz [(5, .p 5 0)] [] [(5, [.i ((nth q (Int.toNat (dn ((q.length : Int) - 1) k0))).1), .i ((nth q (Int.toNat (dn ((q.length : Int) - 1) k0))).2.1), .i ((nth q (Int.toNat (dn ((q.length : Int) - 1) k0))).2.2.1), .s ((nth q (Int.toNat (dn ((q.length : Int) - 1) k0))).2.2.2.1), .i ((nth q (Int.toNat (dn ((q.length : Int) - 1) k0))).2.2.2.2.1), .i ((nth q (Int.toNat (dn ((q.length : Int) - 1) k0))).2.2.2.2.2.1), .s ((nth q (Int.toNat (dn ((q.length : Int) - 1) k0))).2.2.2.2.2.2)])] [] ?_
  refine jn [(6, .b (((nth q (Int.toNat (dn ((q.length : Int) - 1) k0))).1 == (6 : Int)) || ((nth q (Int.toNat (dn ((q.length : Int) - 1) k0))).1 == (7 : Int))))] [] [] [] ((nth q (Int.toNat (dn ((q.length : Int) - 1) k0))).1 == (6 : Int)) (fun h5 => ?_) (fun h5 => ?_) ?_
  ·
   have h5k := EQ (Ia h1n) (by omega) (by omega) h5; have h5m := ER (Ia h1n) (by omega) (by omega) h5
   refine rn Qa [0, 2, 3, 4, 5, 6] [5] (pt 2 h5 p0) ?_
   exact ⟨rfl, Qd (by rw [h5] <;> kernel_rfl)⟩
  ·
   refine rn Qa [0, 2, 3, 4, 5, 6] [5] (pf 2 h5 p0) ?_
   exact ⟨rfl, Qd (by rw [h5] <;> kernel_rfl)⟩
  refine Qc ?_
  refine sn Qa [0, 2, 3, 4, 5, 6, 35] [5] (p0) ?_
  refine ck ((nth q (Int.toNat (dn ((q.length : Int) - 1) k0))).1 == (5 : Int)) (fun h6 => ?_) (fun h6 => ?_)
  ·
   have h6k := EP (Ia h1n) (by omega) (by omega) h6
   have h6d := eq_of_beq h6
   refine wT 3 0 (.own true 832) s0 (fun hw8 hl9 => ?_)
   have hx7 := ng s0 (Int.toNat ((nth q (Int.toNat (dn ((q.length : Int) - 1) k0))).2.1))
   refine qu Qa [(3, .one (.slc (.own true 832) 1 (setRow (eL s0) (Int.toNat ((nth q (Int.toNat (dn ((q.length : Int) - 1) k0))).2.1)) 0 [.b true])))] [3] [] [] (pG 3 ((nth q (Int.toNat (dn ((q.length : Int) - 1) k0))).2.1) hx7 p0) ?_
   refine eqn [(3, .o 832 (List.set s0 (Int.toNat ((nth q (Int.toNat (dn ((q.length : Int) - 1) k0))).2.1)) true))] [3] [] [] (by rw [Jx (y := true) hx7 rfl] <;> kernel_rfl) ?_
   refine sn Qa [0, 2, 3, 4, 5, 40] [5] (p0) ?_
   refine ck (((nth q (Int.toNat (dn ((q.length : Int) - 1) k0))).1 == (6 : Int)) || ((nth q (Int.toNat (dn ((q.length : Int) - 1) k0))).1 == (7 : Int))) (fun h10 => ?_) (fun h10 => ?_)
   ·
    have h10k := SU (Ia h1n) (by omega) (by omega) h10
    refine wT 3 0 (.own true 832) (List.set s0 (Int.toNat ((nth q (Int.toNat (dn ((q.length : Int) - 1) k0))).2.1)) true) (fun hw12 hl13 => ?_)
    have hx11 := ng (List.set s0 (Int.toNat ((nth q (Int.toNat (dn ((q.length : Int) - 1) k0))).2.1)) true) (Int.toNat (dn ((q.length : Int) - 1) k0)) (by first | omega | (simp only [List.length_set]; omega))
    have hx14 := ng (List.set s0 (Int.toNat ((nth q (Int.toNat (dn ((q.length : Int) - 1) k0))).2.1)) true) (Int.toNat ((nth q (Int.toNat (dn ((q.length : Int) - 1) k0))).2.1)) (by first | omega | (simp only [List.length_set]; omega))
    refine tU Qa Yp [(3, .one (.slc (.own true 832) 1 (setRow (eL (List.set s0 (Int.toNat ((nth q (Int.toNat (dn ((q.length : Int) - 1) k0))).2.1)) true)) (Int.toNat ((nth q (Int.toNat (dn ((q.length : Int) - 1) k0))).2.1)) 0 [.b (nth (List.set s0 (Int.toNat ((nth q (Int.toNat (dn ((q.length : Int) - 1) k0))).2.1)) true) (Int.toNat (dn ((q.length : Int) - 1) k0)))])))] [3, 6] [] [] (pG 5 (dn ((q.length : Int) - 1) k0) hx11 (pG 7 ((nth q (Int.toNat (dn ((q.length : Int) - 1) k0))).2.1) hx14 p0)) ?_
    refine eqn [(3, .o 832 (List.set (List.set s0 (Int.toNat ((nth q (Int.toNat (dn ((q.length : Int) - 1) k0))).2.1)) true) (Int.toNat ((nth q (Int.toNat (dn ((q.length : Int) - 1) k0))).2.1)) (nth (List.set s0 (Int.toNat ((nth q (Int.toNat (dn ((q.length : Int) - 1) k0))).2.1)) true) (Int.toNat (dn ((q.length : Int) - 1) k0)))))] [3] [] [] (by rw [Jx (y := (nth (List.set s0 (Int.toNat ((nth q (Int.toNat (dn ((q.length : Int) - 1) k0))).2.1)) true) (Int.toNat (dn ((q.length : Int) - 1) k0)))) hx14 rfl] <;> kernel_rfl) ?_
    refine wT 3 0 (.own true 832) (List.set (List.set s0 (Int.toNat ((nth q (Int.toNat (dn ((q.length : Int) - 1) k0))).2.1)) true) (Int.toNat ((nth q (Int.toNat (dn ((q.length : Int) - 1) k0))).2.1)) (nth (List.set s0 (Int.toNat ((nth q (Int.toNat (dn ((q.length : Int) - 1) k0))).2.1)) true) (Int.toNat (dn ((q.length : Int) - 1) k0)))) (fun hw16 hl17 => ?_)
    have hx15 := ng (List.set (List.set s0 (Int.toNat ((nth q (Int.toNat (dn ((q.length : Int) - 1) k0))).2.1)) true) (Int.toNat ((nth q (Int.toNat (dn ((q.length : Int) - 1) k0))).2.1)) (nth (List.set s0 (Int.toNat ((nth q (Int.toNat (dn ((q.length : Int) - 1) k0))).2.1)) true) (Int.toNat (dn ((q.length : Int) - 1) k0)))) (Int.toNat (dn ((q.length : Int) - 1) k0)) (by first | omega | (simp only [List.length_set]; omega))
    have hx18 := ng (List.set (List.set s0 (Int.toNat ((nth q (Int.toNat (dn ((q.length : Int) - 1) k0))).2.1)) true) (Int.toNat ((nth q (Int.toNat (dn ((q.length : Int) - 1) k0))).2.1)) (nth (List.set s0 (Int.toNat ((nth q (Int.toNat (dn ((q.length : Int) - 1) k0))).2.1)) true) (Int.toNat (dn ((q.length : Int) - 1) k0)))) (Int.toNat ((nth q (Int.toNat (dn ((q.length : Int) - 1) k0))).2.2.1)) (by first | omega | (simp only [List.length_set]; omega))
    refine rU Qa Yp [(3, .one (.slc (.own true 832) 1 (setRow (eL (List.set (List.set s0 (Int.toNat ((nth q (Int.toNat (dn ((q.length : Int) - 1) k0))).2.1)) true) (Int.toNat ((nth q (Int.toNat (dn ((q.length : Int) - 1) k0))).2.1)) (nth (List.set s0 (Int.toNat ((nth q (Int.toNat (dn ((q.length : Int) - 1) k0))).2.1)) true) (Int.toNat (dn ((q.length : Int) - 1) k0))))) (Int.toNat ((nth q (Int.toNat (dn ((q.length : Int) - 1) k0))).2.2.1)) 0 [.b (nth (List.set (List.set s0 (Int.toNat ((nth q (Int.toNat (dn ((q.length : Int) - 1) k0))).2.1)) true) (Int.toNat ((nth q (Int.toNat (dn ((q.length : Int) - 1) k0))).2.1)) (nth (List.set s0 (Int.toNat ((nth q (Int.toNat (dn ((q.length : Int) - 1) k0))).2.1)) true) (Int.toNat (dn ((q.length : Int) - 1) k0)))) (Int.toNat (dn ((q.length : Int) - 1) k0)))])))] [3, 5] [] [5] (pG 5 (dn ((q.length : Int) - 1) k0) hx15 (pG 7 ((nth q (Int.toNat (dn ((q.length : Int) - 1) k0))).2.2.1) hx18 p0)) ?_
    refine eqn [(3, .o 832 (List.set (List.set (List.set s0 (Int.toNat ((nth q (Int.toNat (dn ((q.length : Int) - 1) k0))).2.1)) true) (Int.toNat ((nth q (Int.toNat (dn ((q.length : Int) - 1) k0))).2.1)) (nth (List.set s0 (Int.toNat ((nth q (Int.toNat (dn ((q.length : Int) - 1) k0))).2.1)) true) (Int.toNat (dn ((q.length : Int) - 1) k0)))) (Int.toNat ((nth q (Int.toNat (dn ((q.length : Int) - 1) k0))).2.2.1)) (nth (List.set (List.set s0 (Int.toNat ((nth q (Int.toNat (dn ((q.length : Int) - 1) k0))).2.1)) true) (Int.toNat ((nth q (Int.toNat (dn ((q.length : Int) - 1) k0))).2.1)) (nth (List.set s0 (Int.toNat ((nth q (Int.toNat (dn ((q.length : Int) - 1) k0))).2.1)) true) (Int.toNat (dn ((q.length : Int) - 1) k0)))) (Int.toNat (dn ((q.length : Int) - 1) k0)))))] [3] [] [] (by rw [Jx (y := (nth (List.set (List.set s0 (Int.toNat ((nth q (Int.toNat (dn ((q.length : Int) - 1) k0))).2.1)) true) (Int.toNat ((nth q (Int.toNat (dn ((q.length : Int) - 1) k0))).2.1)) (nth (List.set s0 (Int.toNat ((nth q (Int.toNat (dn ((q.length : Int) - 1) k0))).2.1)) true) (Int.toNat (dn ((q.length : Int) - 1) k0)))) (Int.toNat (dn ((q.length : Int) - 1) k0)))) hx18 rfl] <;> kernel_rfl) ?_
    refine rn Qa [0, 2, 3, 4] [] (pe 1 (show .i (IntKind.i64.wrap ((dn ((q.length : Int) - 1) k0) - 1)) = .i (dn ((q.length : Int) - 1) (k0 + 1)) from Jr (show IntKind.i64.wrap ((dn ((q.length : Int) - 1) k0) - 1) = (dn ((q.length : Int) - 1) (k0 + 1)) from IntWalk.i64_in ((dn ((q.length : Int) - 1) k0) - 1) (by omega))) p0) ?_
    exact xw (List.set (List.set (List.set s0 (Int.toNat ((nth q (Int.toNat (dn ((q.length : Int) - 1) k0))).2.1)) true) (Int.toNat ((nth q (Int.toNat (dn ((q.length : Int) - 1) k0))).2.1)) (nth (List.set s0 (Int.toNat ((nth q (Int.toNat (dn ((q.length : Int) - 1) k0))).2.1)) true) (Int.toNat (dn ((q.length : Int) - 1) k0)))) (Int.toNat ((nth q (Int.toNat (dn ((q.length : Int) - 1) k0))).2.2.1)) (nth (List.set (List.set s0 (Int.toNat ((nth q (Int.toNat (dn ((q.length : Int) - 1) k0))).2.1)) true) (Int.toNat ((nth q (Int.toNat (dn ((q.length : Int) - 1) k0))).2.1)) (nth (List.set s0 (Int.toNat ((nth q (Int.toNat (dn ((q.length : Int) - 1) k0))).2.1)) true) (Int.toNat (dn ((q.length : Int) - 1) k0)))) (Int.toNat (dn ((q.length : Int) - 1) k0)))) ⟨Zu hk0 (Xi h6 (Xi h10 (rfl))) hI0.1, (by first | omega | (simp only [List.length_set]; omega))⟩
   have h10l : (((nth q (Int.toNat (dn ((q.length : Int) - 1) k0))).1 == (6 : Int))) = false := UE h10
   have h10ld := Yg h10l
   have h10r : (((nth q (Int.toNat (dn ((q.length : Int) - 1) k0))).1 == (7 : Int))) = false := UF h10
   have h10rd := Yg h10r
   refine Qf ?_
   refine qn Qa [0, 2, 3, 4] [] (pe 1 (show .i (IntKind.i64.wrap ((dn ((q.length : Int) - 1) k0) - 1)) = .i (dn ((q.length : Int) - 1) (k0 + 1)) from Jr (show IntKind.i64.wrap ((dn ((q.length : Int) - 1) k0) - 1) = (dn ((q.length : Int) - 1) (k0 + 1)) from IntWalk.i64_in ((dn ((q.length : Int) - 1) k0) - 1) (by omega))) p0) ?_
   exact xw (List.set s0 (Int.toNat ((nth q (Int.toNat (dn ((q.length : Int) - 1) k0))).2.1)) true) ⟨Zu hk0 (Xi h6 (Qk h10 (rfl))) hI0.1, (by first | omega | (simp only [List.length_set]; omega))⟩
  have h6d := Yg h6
  refine Qf ?_
  refine tn Qa [0, 2, 3, 4, 5, 40] [5] (p0) ?_
  refine ck (((nth q (Int.toNat (dn ((q.length : Int) - 1) k0))).1 == (6 : Int)) || ((nth q (Int.toNat (dn ((q.length : Int) - 1) k0))).1 == (7 : Int))) (fun h19 => ?_) (fun h19 => ?_)
  ·
   have h19k := SU (Ia h1n) (by omega) (by omega) h19
   refine wT 3 0 (.own true 832) s0 (fun hw21 hl22 => ?_)
   have hx20 := ng s0 (Int.toNat (dn ((q.length : Int) - 1) k0))
   have hx23 := ng s0 (Int.toNat ((nth q (Int.toNat (dn ((q.length : Int) - 1) k0))).2.1))
   refine tU Qa Yp [(3, .one (.slc (.own true 832) 1 (setRow (eL s0) (Int.toNat ((nth q (Int.toNat (dn ((q.length : Int) - 1) k0))).2.1)) 0 [.b (nth s0 (Int.toNat (dn ((q.length : Int) - 1) k0)))])))] [3, 6] [] [] (pG 5 (dn ((q.length : Int) - 1) k0) hx20 (pG 7 ((nth q (Int.toNat (dn ((q.length : Int) - 1) k0))).2.1) hx23 p0)) ?_
   refine eqn [(3, .o 832 (List.set s0 (Int.toNat ((nth q (Int.toNat (dn ((q.length : Int) - 1) k0))).2.1)) (nth s0 (Int.toNat (dn ((q.length : Int) - 1) k0)))))] [3] [] [] (by rw [Jx (y := (nth s0 (Int.toNat (dn ((q.length : Int) - 1) k0)))) hx23 rfl] <;> kernel_rfl) ?_
   refine wT 3 0 (.own true 832) (List.set s0 (Int.toNat ((nth q (Int.toNat (dn ((q.length : Int) - 1) k0))).2.1)) (nth s0 (Int.toNat (dn ((q.length : Int) - 1) k0)))) (fun hw25 hl26 => ?_)
   have hx24 := ng (List.set s0 (Int.toNat ((nth q (Int.toNat (dn ((q.length : Int) - 1) k0))).2.1)) (nth s0 (Int.toNat (dn ((q.length : Int) - 1) k0)))) (Int.toNat (dn ((q.length : Int) - 1) k0)) (by first | omega | (simp only [List.length_set]; omega))
   have hx27 := ng (List.set s0 (Int.toNat ((nth q (Int.toNat (dn ((q.length : Int) - 1) k0))).2.1)) (nth s0 (Int.toNat (dn ((q.length : Int) - 1) k0)))) (Int.toNat ((nth q (Int.toNat (dn ((q.length : Int) - 1) k0))).2.2.1)) (by first | omega | (simp only [List.length_set]; omega))
   refine rU Qa Yp [(3, .one (.slc (.own true 832) 1 (setRow (eL (List.set s0 (Int.toNat ((nth q (Int.toNat (dn ((q.length : Int) - 1) k0))).2.1)) (nth s0 (Int.toNat (dn ((q.length : Int) - 1) k0))))) (Int.toNat ((nth q (Int.toNat (dn ((q.length : Int) - 1) k0))).2.2.1)) 0 [.b (nth (List.set s0 (Int.toNat ((nth q (Int.toNat (dn ((q.length : Int) - 1) k0))).2.1)) (nth s0 (Int.toNat (dn ((q.length : Int) - 1) k0)))) (Int.toNat (dn ((q.length : Int) - 1) k0)))])))] [3, 5] [] [5] (pG 5 (dn ((q.length : Int) - 1) k0) hx24 (pG 7 ((nth q (Int.toNat (dn ((q.length : Int) - 1) k0))).2.2.1) hx27 p0)) ?_
   refine eqn [(3, .o 832 (List.set (List.set s0 (Int.toNat ((nth q (Int.toNat (dn ((q.length : Int) - 1) k0))).2.1)) (nth s0 (Int.toNat (dn ((q.length : Int) - 1) k0)))) (Int.toNat ((nth q (Int.toNat (dn ((q.length : Int) - 1) k0))).2.2.1)) (nth (List.set s0 (Int.toNat ((nth q (Int.toNat (dn ((q.length : Int) - 1) k0))).2.1)) (nth s0 (Int.toNat (dn ((q.length : Int) - 1) k0)))) (Int.toNat (dn ((q.length : Int) - 1) k0)))))] [3] [] [] (by rw [Jx (y := (nth (List.set s0 (Int.toNat ((nth q (Int.toNat (dn ((q.length : Int) - 1) k0))).2.1)) (nth s0 (Int.toNat (dn ((q.length : Int) - 1) k0)))) (Int.toNat (dn ((q.length : Int) - 1) k0)))) hx27 rfl] <;> kernel_rfl) ?_
   refine rn Qa [0, 2, 3, 4] [] (pe 1 (show .i (IntKind.i64.wrap ((dn ((q.length : Int) - 1) k0) - 1)) = .i (dn ((q.length : Int) - 1) (k0 + 1)) from Jr (show IntKind.i64.wrap ((dn ((q.length : Int) - 1) k0) - 1) = (dn ((q.length : Int) - 1) (k0 + 1)) from IntWalk.i64_in ((dn ((q.length : Int) - 1) k0) - 1) (by omega))) p0) ?_
   exact xw (List.set (List.set s0 (Int.toNat ((nth q (Int.toNat (dn ((q.length : Int) - 1) k0))).2.1)) (nth s0 (Int.toNat (dn ((q.length : Int) - 1) k0)))) (Int.toNat ((nth q (Int.toNat (dn ((q.length : Int) - 1) k0))).2.2.1)) (nth (List.set s0 (Int.toNat ((nth q (Int.toNat (dn ((q.length : Int) - 1) k0))).2.1)) (nth s0 (Int.toNat (dn ((q.length : Int) - 1) k0)))) (Int.toNat (dn ((q.length : Int) - 1) k0)))) ⟨Zu hk0 (Qk h6 (Xi h19 (rfl))) hI0.1, (by first | omega | (simp only [List.length_set]; omega))⟩
  have h19l : (((nth q (Int.toNat (dn ((q.length : Int) - 1) k0))).1 == (6 : Int))) = false := UE h19
  have h19ld := Yg h19l
  have h19r : (((nth q (Int.toNat (dn ((q.length : Int) - 1) k0))).1 == (7 : Int))) = false := UF h19
  have h19rd := Yg h19r
  refine Qf ?_
  refine qu Qa [(4, .i (dn ((q.length : Int) - 1) (k0 + 1)))] [4, 5, 6] [] [5] (pe 1 (show .i (IntKind.i64.wrap ((dn ((q.length : Int) - 1) k0) - 1)) = .i (dn ((q.length : Int) - 1) (k0 + 1)) from Jr (show IntKind.i64.wrap ((dn ((q.length : Int) - 1) k0) - 1) = (dn ((q.length : Int) - 1) (k0 + 1)) from IntWalk.i64_in ((dn ((q.length : Int) - 1) k0) - 1) (by omega))) p0) ?_
  exact xw s0 ⟨Zu hk0 (Qk h6 (Qk h19 (rfl))) hI0.1, (by first | omega | (simp only [List.length_set]; omega))⟩
 ·
  have hA0_0 := hI0.2
  have hdn0 := DB ((q.length : Int) - 1) k0
  refine Qc ?_
  refine sn Qa [0, 2, 3, 4, 18] [] (pe 1 (Qz (decide_eq_false (p := (dn ((q.length : Int) - 1) k0) ≥ (0 : Int)) (by omega))) p0) ?_
  refine ckF ?_
  refine Xs ?_
  exact xw s0 ⟨Up hk0 (rfl) hI0.1, by first | omega | (simp only [List.length_set]; omega)⟩
 have hD0_0 := hD0.2
 refine sn Qa [2] [] (p0) ?_
 refine Qe ?_
 exact po0 [] (Qk h1 (V4 hD0.1 (rfl)))
theorem T4 {α : Type} [Inhabited α] {l : List α} {i j : Nat} (x : α) (h : j ≠ i) : nth (l.set j x) i = nth l i := by
  simp [nth, List.getD, List.getElem?_set_ne h]
theorem IF {q : List Qw} (hv : Qj q = true) {k : Nat} (hk : k < q.length) (s : List Bool) : Zz q k s = Kq q k s := by
  have hdn := DB ((q.length : Int) - 1) k
  obtain ⟨hl, hr⟩ := Fd hv (k := dn ((q.length : Int) - 1) k) (by omega) (by omega)
  unfold Zz Kq
  generalize hi : dn ((q.length : Int) - 1) k = i at hl hr ⊢
  generalize nth q (Int.toNat i) = n at hl hr ⊢
  by_cases h5 : n.1 = 5
  · simp [h5]
  by_cases h6 : n.1 = 6
  · have := hl (.inr (.inl h6))
    simp [h6]
    rw [T4 _ (by omega)]
  by_cases h7 : n.1 = 7
  · have := hl (.inr (.inr h7))
    simp [h7]
    rw [T4 _ (by omega)]
  simp only [beq_eq_false_iff_ne.2 h5, beq_eq_false_iff_ne.2 h6, beq_eq_false_iff_ne.2 h7, Bool.or_false, cond_false]
theorem T5 (q : List Qw) : Y7 q = Ye q := by
  unfold Y7 Ye
  rw [← PI]
  cases hv : Qj q with
  | false => rfl
  | true =>
    simp only [Bool.not_true, cond_false]
    rw [T2 (f := Kq q) (g := Zz q) (e := Hc) (e' := V6) (fun _ _ => rfl) _ _ _ fun i s _ hi => (IF hv (by omega) s).symm]
theorem JM (q : List Qw) (k : Nat) (s : List Bool) : ∃ s', Zz q k s = .next s' ∧ s'.length = s.length := by
  unfold Zz
  generalize ((nth q (Int.toNat (dn ((q.length : Int) - 1) k))).1 == (5 : Int)) = a
  generalize ((nth q (Int.toNat (dn ((q.length : Int) - 1) k))).1 == (6 : Int)) = b
  generalize ((nth q (Int.toNat (dn ((q.length : Int) - 1) k))).1 == (7 : Int)) = c
  cases a <;> cases b <;> cases c <;> exact ⟨_, rfl, by simp⟩
theorem Ny (q : List Qw) : ∀ (n k : Nat) (s : List Bool), ∃ s', Jn (Zz q) V6 n k s = .brk s' ∧ s'.length = s.length
  | 0, k, s => ⟨s, rfl, rfl⟩
  | n + 1, k, s => by
    obtain ⟨s1, h1, h2⟩ := JM q k s
    obtain ⟨s2, h3, h4⟩ := Ny q n (k + 1) s1
    refine ⟨s2, ?_, h4.trans h2⟩
    simp only [Jn, h1]
    exact h3
theorem Ib (q : List Qw) : List.length (Ye q) ≤ List.length q := by
  unfold Ye
  cases Qj q with
  | false => exact Nat.zero_le _
  | true =>
    obtain ⟨s, h1, h2⟩ := Ny q (List.length q) 0 (List.replicate (Int.toNat (q.length : Int)) false)
    simp only [Bool.not_true, cond_false, h1, Out.on]
    rw [h2]
    simp
theorem JN (q : List Qw) : List.length (Y7 q) ≤ List.length q := by rw [T5]; exact Ib q
end
section
open Go.RowKit Go.Sort
open GoE (enc)
structure OneC (α σ : Type) [GoE α] where
  tu : α → σ
  of : σ → α
  cell : σ → Value
  pv : α → PV
  ok : α → Prop
  of_tu : ∀ a, of (tu a) = a
  tu_of : ∀ s, tu (of s) = s
  enc_eq : ∀ a, enc a = [pv a]
  flat : ∀ a, (pv a).flat
  vv : ∀ (X : Nat → Prop) (w : World) v a, VV X w v (pv a) ↔ v = cell (tu a) ∧ ok a
def oneS : OneC ByteArray (List UInt8) where
  tu b := b.data.toList
  of s := ⟨s.toArray⟩
  cell := encStr
  pv := .str
  ok b := b.size ≤ maxLen
  of_tu b := by cases b; simp
  tu_of s := by simp
  enc_eq _ := rfl
  flat _ := trivial
  vv X w v a := by
    have e : encStr a.data.toList = .string a := by cases a; simp [encStr]
    rw [e]
    exact ⟨fun h => by cases h with | str h => exact ⟨rfl, h⟩, fun ⟨h1, h2⟩ => by subst h1; exact .str h2⟩
section
variable {α σ : Type} [GoE α] (C : OneC α σ)
theorem IG {X : Nat → Prop} {w : World} : ∀ {l : List α} {cs : List Value}, VR X w 1 cs (eL l) → cs = (l.map C.tu).map C.cell ∧ ∀ a, a ∈ l → C.ok a
  | [], cs, h => by
    generalize hr : eL ([] : List α) = r at h
    cases h with
    | nil => exact ⟨rfl, fun a ha => by simp at ha⟩
    | cons => cases hr
  | a :: l, cs, h => by
    generalize hr : eL (a :: l) = r at h
    cases h with
    | nil => cases hr
    | cons h1 h2 h3 =>
      rw [Rb, C.enc_eq] at hr
      obtain ⟨rfl, rfl⟩ : [C.pv a] = _ ∧ eL l = _ := by simpa using hr
      obtain ⟨e, hok⟩ := IG h3
      cases h1 with
      | cons h4 h5 =>
        cases h5
        obtain ⟨rfl, ha⟩ := (C.vv X w _ a).1 h4
        exact ⟨by rw [e]; rfl, fun b hb => (List.mem_cons.1 hb).elim (fun e => e ▸ ha) (hok b)⟩
theorem IH {X : Nat → Prop} {w : World} : ∀ {l : List α}, (∀ a, a ∈ l → C.ok a) → VR X w 1 ((l.map C.tu).map C.cell) (eL l)
  | [], _ => .nil 1
  | a :: l, h => by
    rw [Rb, C.enc_eq]
    exact VR.cons (ce := [C.cell (C.tu a)]) (.cons ((C.vv X w _ a).2 ⟨rfl, h a List.mem_cons_self⟩) .nil) rfl (IH fun b hb => h b (List.mem_cons_of_mem _ hb))
theorem Qba (l : List α) : (eL l).flatten = l.map C.pv := by
  induction l with
  | nil => rfl
  | cons a l ih => rw [Rb, C.enc_eq, List.flatten_cons, ih]; rfl
theorem Qem (l : List α) : eL l = (l.map C.pv).map fun c => [c] := by
  simp [eL, C.enc_eq, Function.comp_def]
theorem BB (e : σ → Value) [Inhabited σ] (d : Array σ) (cur : Array Value) (h : d.size ≤ cur.size) : (Go.Sort.putCells e 0 d cur).toList = d.toList.map e ++ cur.toList.drop d.size := by
  apply List.ext_getElem?
  intro j
  unfold Go.Sort.putCells
  rw [Array.getElem?_toList, Array.getElem?_mapIdx]
  by_cases hj : j < d.size
  · rw [List.getElem?_append_left (by simpa using hj), Array.getElem?_eq_getElem (by omega : j < cur.size), List.getElem?_map, Array.getElem?_toList, Array.getElem?_eq_getElem hj]
    simp only [Option.map_some]
    rw [if_pos ⟨Nat.zero_le _, by omega⟩, Nat.sub_zero, getElem!_pos d j hj]
  rw [List.getElem?_append_right (by simpa using Nat.le_of_not_lt hj), List.getElem?_drop]
  have e1 : d.size + (j - (d.toList.map e).length) = j := by simp; omega
  rw [e1, Array.getElem?_toList]
  cases cur[j]? with
  | none => rfl
  | some x => simp; omega
theorem Ic {e : σ → Value} [Inhabited σ] {w : World} {g : Nat} {cur : Array Value} {ty : TypeId} (hg : w.heap[g]? = some (.cells cur ty (0, 0))) (q : Nat) (d : Array σ) (os : Array Obj) :
    (grow (putRow e (Sort.ahead w q) g 0 d) os).heap[g]? = some (.cells (Go.Sort.putCells e 0 d cur) ty (0, 0)) := by
  have hlt : g < w.heap.size := Q2 hg
  unfold grow putRow mapBlock Sort.ahead
  simp only [Array.getElem?_append, Array.size_modify]
  rw [if_pos hlt, Array.getElem?_modify, if_pos rfl, hg]
  rfl
theorem Nz {e : σ → Value} [Inhabited σ] (w : World) (g q : Nat) (d : Array σ) (os : Array Obj) : (∀ b, b < w.heap.size → b ≠ g → (grow (putRow e (Sort.ahead w q) g 0 d) os).heap[b]? = w.heap[b]?) ∧ ∀ m, m ≤ g → m ≤ w.heap.size → Below m w (grow (putRow e (Sort.ahead w q) g 0 d) os) := by
  have h : ∀ b, b < w.heap.size → b ≠ g → (grow (putRow e (Sort.ahead w q) g 0 d) os).heap[b]? = w.heap[b]? := fun b hb hn => by
    unfold grow putRow mapBlock Sort.ahead
    simp only [Array.getElem?_append, Array.size_modify]
    rw [if_pos hb, Array.getElem?_modify, if_neg (fun e => hn e.symm)]
  refine ⟨h, fun m hm hs => ⟨rfl, rfl, rfl, ?_, fun b hb => h b (by omega) (by omega)⟩⟩
  unfold grow putRow mapBlock Sort.ahead
  simp
theorem BC {e : σ → Value} [Inhabited σ] {g : Nat} {w : World} {cur : Array Value} {ty : TypeId} {l : List σ} (hg : w.heap[g]? = some (.cells cur ty (0, 0))) (ht : cur.toList.take l.length = l.map e) : Holds e w g 0 l.toArray := by
  intro j hj
  have hjl : j < l.length := by simpa using hj
  have hc : cur[j]? = some (e l[j]) := by
    have h5 : (cur.toList.take l.length)[j]? = (l.map e)[j]? := by rw [ht]
    rw [List.getElem?_take, if_pos hjl, List.getElem?_map, List.getElem?_eq_getElem hjl, Array.getElem?_toList] at h5
    exact h5
  refine ⟨?_, ?_⟩
  · rw [Nat.zero_add]
    simp [World.cell?, hg, hc, getElem!_pos, hjl]
  simp [World.frozen?, hg]
variable {P : Program} [Inhabited σ]
theorem II (F : Nat → Prop) (L : List Nat) (w : World) (oa : Option Addr) : Qez F L w 1 true [] (.returned (.tuple #[])) w :=
  ⟨_, rfl, fun m _ _ => Below.refl _ _, fun _ _ _ => rfl, rfl, fun v2 l2 h => by simpa [Pj] using h⟩
theorem DH {f : Nat} (hok : Bu P f) (srt : List σ → List σ) (hlen : ∀ l, (srt l).length = l.length) (hmem : ∀ l x, x ∈ srt l → x ∈ l)
    (h0 : ∀ oa cap w, Calls P f #[.slice oa 0 cap] w fun e w' => e = .returned (.tuple #[]) ∧ w' = w)
    (h1 : ∀ g cap (l : List σ) w, Holds C.cell w g 0 l.toArray → g < w.heap.size → l.length < 4611686018427387904 → Calls P f #[.slice (some ⟨g, 0, none⟩) l.length cap] w fun e w' => e = .returned (.tuple #[]) ∧ ∃ n os, w' = grow (putRow C.cell (Sort.ahead w n) g 0 (srt l).toArray) os)
    (l : List α) : ATake P f 1 (eL l) [] false true (eL ((srt (l.map C.tu)).map C.of)) := by
  refine ⟨hok, fun w F G L v vals _ hFG _ hGs _ hLG hrow hargs => ?_⟩
  cases hargs
  rcases hrow with ⟨hl, oa, rfl⟩ | ⟨g, cap, cur, ty, rfl, rfl, hg, hs, hr, h5, h6⟩
  · obtain rfl : l = [] := by simpa [eL] using hl
    have hs0 : srt [] = [] := List.eq_nil_of_length_eq_zero (by rw [hlen]; rfl)
    refine (h0 oa 0 w).mono ?_
    rintro e w' ⟨rfl, rfl⟩
    rw [List.map_nil, hs0]
    exact II F L w' oa
  have hll : (eL l).length = l.length := by simp [eL]
  rw [hll] at hr h5 h6 ⊢
  rw [Nat.mul_one] at hr hs
  obtain ⟨hcs, hok'⟩ := IG C hr
  have hH : Holds C.cell w g 0 (l.map C.tu).toArray := BC hg (by rw [List.length_map]; exact hcs)
  have hc := h1 g cap (l.map C.tu) w hH (Q2 hg) (by rw [List.length_map]; have := h6.2; omega)
  rw [List.length_map] at hc
  refine hc.mono ?_
  rintro e w' ⟨rfl, n, os, rfl⟩
  have hother := Nz (e := C.cell) w g n (srt (l.map C.tu)).toArray os
  have hgl := Q2 hg
  refine ⟨_, rfl, fun m hm hL => hother.2 m (hL g (by simp)) hm, fun b hb hn => hother.1 b hb (by simpa using hn), rfl, fun v2 l2 h2 => ?_⟩
  rcases h2 with ⟨rfl, oa, rfl⟩ | ⟨g2, cap2, cur2, ty2, hL2, rfl, hg2, hs2, hr2, h7, h8⟩
  · exact .inl ⟨by simp [Pj], oa, rfl⟩
  obtain rfl : g = g2 := by simpa using hL2
  rw [hg] at hg2
  cases hg2
  rw [Qba C, Pj]
  have hd : (srt (l.map C.tu)).toArray.size ≤ cur.size := by simp only [List.size_toArray, hlen, List.length_map]; omega
  have hlen2 : (List.map (fun c => [c]) (List.take l2.length (List.map C.pv (List.map C.of (srt (l.map C.tu))))) ++ List.drop (List.map C.pv (List.map C.of (srt (l.map C.tu)))).length l2).length = l2.length := by
    simp only [List.length_append, List.length_map, List.length_take, List.length_drop]
    omega
  refine .inr ⟨g, cap2, _, ty, rfl, by rw [hlen2], Ic hg n _ os, ?_, ?_, by rw [hlen2]; exact h7, by rw [hlen2]; exact h8⟩
  · simp [Go.Sort.putCells, hs2]
  rw [hlen2, Nat.mul_one, BB C.cell _ cur hd, List.take_append]
  rw [Nat.mul_one] at hr2
  refine VR.append ?_ ?_
  · have hk : VR F (grow (putRow C.cell (Sort.ahead w n) g 0 (srt (l.map C.tu)).toArray) os) 1 (cur.toList.take l2.length) l2 := by
      refine hr2.keep fun b hb => ⟨hb, hother.1 b (hGs b (hFG b hb)) fun e => (hLG g (by simp)).2 (hFG g (e ▸ hb))⟩
    have := VR.drop (srt (l.map C.tu)).length hk
    rw [Nat.mul_one, List.drop_take] at this
    simpa using this
  have hm : ∀ a, a ∈ (srt (l.map C.tu)).map C.of → C.ok a := fun a ha => by
    obtain ⟨x, hx, rfl⟩ := List.mem_map.1 ha
    obtain ⟨b, hb, rfl⟩ := List.mem_map.1 (hmem _ _ hx)
    rw [C.of_tu]; exact hok' b hb
  have := VR.take l2.length (IH C (X := F) (w := grow (putRow C.cell (Sort.ahead w n) g 0 (srt (l.map C.tu)).toArray) os) hm)
  rw [Nat.mul_one, Qem C] at this
  simpa [List.map_take, Function.comp_def, C.tu_of] using this
theorem DI {f : Nat} (hok : Bu P f) (cmp : List σ → List σ) (hlen : ∀ l, (cmp l).length ≤ l.length) (hmem : ∀ l x, x ∈ cmp l → x ∈ l)
    (h0 : ∀ oa cap w, Calls P f #[.slice oa 0 cap] w fun e w' => e = .returned (.slice oa 0 cap) ∧ w' = w)
    (h1 : ∀ g cap (l : List σ) w, Holds C.cell w g 0 l.toArray → l.length ≤ 9223372036854775807 → l.length ≤ cap → Calls P f #[.slice (some ⟨g, 0, none⟩) l.length cap] w fun e w' => e = .returned (.slice (some ⟨g, 0, none⟩) (cmp l).length cap) ∧ ∃ q pad, (cmp l ++ pad).length = l.length ∧ w' = putRow C.cell (Sort.ahead w q) g 0 (cmp l ++ pad).toArray)
    (l : List α) : ATake P f 1 (eL l) [] false false (eL ((cmp (l.map C.tu)).map C.of)) := by
  refine ⟨hok, fun w F G L v vals _ hFG _ hGs _ hLG hrow hargs => ?_⟩
  cases hargs
  rcases hrow with ⟨hl, oa, rfl⟩ | ⟨g, cap, cur, ty, rfl, rfl, hg, hs, hr, h5, h6⟩
  · obtain rfl : l = [] := by simpa [eL] using hl
    have hs0 : cmp [] = [] := List.eq_nil_of_length_eq_zero (by have := hlen []; simpa using this)
    refine (h0 oa 0 w).mono ?_
    rintro e w' ⟨rfl, rfl⟩
    rw [List.map_nil, hs0]
    exact ⟨_, rfl, fun m _ _ => Below.refl _ _, fun _ _ _ => rfl, [], List.nodup_nil, fun b hb => (by simp at hb), .inl ⟨rfl, oa, rfl⟩⟩
  have hll : (eL l).length = l.length := by simp [eL]
  rw [hll] at hr h5 h6 ⊢
  rw [Nat.mul_one] at hr hs
  obtain ⟨hcs, hok'⟩ := IG C hr
  have hH : Holds C.cell w g 0 (l.map C.tu).toArray := BC hg (by rw [List.length_map]; exact hcs)
  have hc := h1 g cap (l.map C.tu) w hH (by rw [List.length_map]; have := h6.2; omega) (by rw [List.length_map]; exact h5)
  rw [List.length_map] at hc
  refine hc.mono ?_
  rintro e w' ⟨rfl, q, pad, hpad, rfl⟩
  have hw : putRow C.cell (Sort.ahead w q) g 0 (cmp (l.map C.tu) ++ pad).toArray = grow (putRow C.cell (Sort.ahead w q) g 0 (cmp (l.map C.tu) ++ pad).toArray) #[] := (grow_empty _).symm
  rw [hw]
  have hother := Nz (e := C.cell) w g q (cmp (l.map C.tu) ++ pad).toArray #[]
  have hgl := Q2 hg
  have hd : (cmp (l.map C.tu) ++ pad).toArray.size ≤ cur.size := by rw [List.size_toArray, hpad]; omega
  have hle := hlen (l.map C.tu)
  rw [List.length_map] at hle
  have hel : (eL ((cmp (l.map C.tu)).map C.of)).length = (cmp (l.map C.tu)).length := by simp [eL]
  have hsz : g < (grow (putRow C.cell (Sort.ahead w q) g 0 (cmp (l.map C.tu) ++ pad).toArray) #[]).heap.size := Q2 (Ic hg q _ #[])
  refine ⟨_, rfl, fun m hm hL => hother.2 m (hL g (by simp)) hm, fun b hb hn => hother.1 b hb (by simpa using hn), [g], by simp, fun b hb => ?_, .inr ⟨g, cap, _, ty, rfl, by rw [hel], Ic hg q _ #[], ?_, ?_, by rw [hel]; omega, h6.1, by rw [hel]; have := h6.2; omega⟩⟩
  · obtain rfl := List.mem_singleton.1 hb
    exact ⟨hsz, .inr (by simp)⟩
  · simp [Go.Sort.putCells, hs]
  rw [hel, Nat.mul_one, BB C.cell _ cur hd]
  have hm : ∀ a, a ∈ (cmp (l.map C.tu)).map C.of → C.ok a := fun a ha => by
    obtain ⟨x, hx, rfl⟩ := List.mem_map.1 ha
    obtain ⟨b, hb, rfl⟩ := List.mem_map.1 (hmem _ _ hx)
    rw [C.of_tu]; exact hok' b hb
  have := IH C (X := F) (w := grow (putRow C.cell (Sort.ahead w q) g 0 (cmp (l.map C.tu) ++ pad).toArray) #[]) hm
  have e1 : ((cmp (l.map C.tu)).map C.of).map C.tu = cmp (l.map C.tu) := by simp [Function.comp_def, C.tu_of]
  rw [e1] at this
  rw [List.map_append, List.append_assoc, List.take_left' (by simp)]
  exact VR.keep (fun b hb => ⟨.inl hb, rfl⟩) this
end
/-! ### the rows that Sort and Compact give, typed -/
def Fe (l : List ByteArray) : List ByteArray := ((l.map oneS.tu).mergeSort fun x y => decide (x ≤ y)).map oneS.of
def Rn (l : List ByteArray) : List ByteArray := (Lib.compact (l.map oneS.tu)).map oneS.of
theorem PJ {σ : Type} [Inhabited σ] [DecidableEq σ] (l : List σ) (x : σ) (h : x ∈ Lib.compact l) : x ∈ l := by
  unfold Lib.compact Lib.compactUpTo at h
  simp only [List.mem_map, List.mem_filter, List.mem_range] at h
  obtain ⟨j, ⟨hj, _⟩, e⟩ := h
  have e1 : l.toArray[j]! = l[j] := by rw [getElem!_pos l.toArray j (by simpa using hj)]; simp
  rw [e1] at e
  exact e ▸ List.getElem_mem hj
theorem XT {σ : Type} [Inhabited σ] [DecidableEq σ] (l : List σ) : (Lib.compact l).length ≤ l.length := by
  unfold Lib.compact Lib.compactUpTo
  rw [List.length_map]
  exact Nat.le_trans (List.length_filter_le _ _) (by rw [List.length_range]; exact Nat.le_refl _)
theorem JO (l : List ByteArray) : (Fe l).length = l.length := by simp [Fe, List.length_mergeSort]
theorem IJ (l : List ByteArray) : (Rn l).length ≤ l.length := by
  have := XT (l.map oneS.tu)
  rw [List.length_map] at this
  simpa [Rn] using this
theorem PK {α : Type} [GoE α] {l k : List α} (h1 : ∀ a : α, (enc a).length = 1) (h : k.length = l.length) : NF (eL l) 0 4294967296 (eL k).flatten = eL k := by
  have hk : ∀ k : List α, ((eL k).flatten.map fun c => [c]) = eL k := fun k => by
    induction k with
    | nil => rfl
    | cons a k ih =>
      rw [Rb, List.flatten_cons, List.map_append, ih]
      have := h1 a
      match enc a, this with
      | [p], _ => rfl
  have hf : (eL k).flatten.length = k.length := by
    have := congrArg List.length (hk k)
    rw [List.length_map] at this
    rw [this]
    simp [eL]
  show Pj (eL l) (eL k).flatten = eL k
  unfold Pj
  have e1 : (eL l).length = l.length := by simp [eL]
  rw [e1, List.take_of_length_le (by omega), hk, List.drop_of_length_le (by omega), List.append_nil]
end
section
open Go.RowKit
section
variable {σ : Type} (lt : σ → σ → Prop)
theorem BD (irr : ∀ a, ¬ lt a a) (tr : ∀ a b c, lt a b → lt b c → lt a c) : ∀ (a b : List σ), a.Pairwise lt → b.Pairwise lt → (∀ x, x ∈ a ↔ x ∈ b) → a = b
  | [], [], _, _, _ => rfl
  | [], y :: b, _, _, h => by have := (h y).2 (by simp); simp at this
  | x :: a, [], _, _, h => by have := (h x).1 (by simp); simp at this
  | x :: a, y :: b, ha, hb, h => by
    rw [List.pairwise_cons] at ha hb
    have h1 : x = y := by
      have hx := (h x).1 (by simp)
      have hy := (h y).2 (by simp)
      simp only [List.mem_cons] at hx hy
      rcases hx with e | hx
      · exact e
      rcases hy with e | hy
      · exact e.symm
      exact (irr x (tr _ _ _ (ha.1 y hy) (hb.1 x hx))).elim
    subst h1
    congr 1
    refine BD irr tr a b ha.2 hb.2 fun z => ?_
    have hz := h z
    simp only [List.mem_cons] at hz
    constructor
    · intro hm
      have hlt := ha.1 z hm
      rcases hz.1 (.inr hm) with e | e
      · subst e; exact (irr z hlt).elim
      exact e
    intro hm
    have hlt := hb.1 z hm
    rcases hz.2 (.inr hm) with e | e
    · subst e; exact (irr z hlt).elim
    exact e
theorem BE [Inhabited σ] [DecidableEq σ] (d : Array σ) (tr : ∀ a b c, ¬ lt b a → lt b c → lt a c) (tri : ∀ a b, ¬ lt b a → a ≠ b → lt a b) (hs : ∀ i j, i ≤ j → j < d.size → ¬ lt d[j]! d[i]!) :
    ∀ m, m ≤ d.size → (Lib.compactUpTo d m).Pairwise lt ∧ ∀ x, x ∈ Lib.compactUpTo d m ↔ ∃ j, j < m ∧ d[j]! = x
  | 0, _ => by simp [Lib.compactUpTo]
  | m + 1, hm => by
    obtain ⟨h1, h2⟩ := BE d tr tri hs m (by omega)
    rw [Lib.compactUpTo_succ]
    by_cases hk : Lib.keeps d m = true
    · rw [if_pos hk]
      refine ⟨?_, fun x => ?_⟩
      · rw [List.pairwise_append]
        refine ⟨h1, by simp, fun a ha b hb => ?_⟩
        obtain ⟨j, hj, rfl⟩ := (h2 a).1 ha
        obtain rfl : b = d[m]! := by simpa using hb
        have hle := hs j (m - 1) (by omega) (by omega)
        have hle2 := hs (m - 1) m (by omega) (by omega)
        have hne : d[m]! ≠ d[m - 1]! := by
          unfold Lib.keeps at hk
          simp only [Bool.or_eq_true, beq_iff_eq, bne_iff_ne, decide_eq_true_eq] at hk
          rcases hk with h | h
          · omega
          exact h
        exact tr _ _ _ hle (tri _ _ hle2 fun e => hne e.symm)
      rw [List.mem_append, h2 x]
      constructor
      · rintro (⟨j, hj, e⟩ | h)
        · exact ⟨j, by omega, e⟩
        exact ⟨m, by omega, by simpa using (by simpa using h : x = d[m]!).symm⟩
      rintro ⟨j, hj, e⟩
      by_cases hjm : j = m
      · subst hjm; exact .inr (by simp [e])
      exact .inl ⟨j, by omega, e⟩
    rw [if_neg hk, List.append_nil]
    refine ⟨h1, fun x => ?_⟩
    rw [h2 x]
    have hm0 : m ≠ 0 ∧ d[m]! = d[m - 1]! := by
      unfold Lib.keeps at hk
      simp only [Bool.or_eq_true, beq_iff_eq, bne_iff_ne, decide_eq_true_eq, not_or, Decidable.not_not] at hk
      exact hk
    constructor
    · rintro ⟨j, hj, e⟩; exact ⟨j, by omega, e⟩
    rintro ⟨j, hj, e⟩
    by_cases hjm : j = m
    · subst hjm; exact ⟨j - 1, by omega, hm0.2 ▸ e⟩
    exact ⟨j, by omega, e⟩
end
/-! ### texts -/
def bl (a b : ByteArray) : Bool := Op.bytesLess a.toList b.toList
theorem JP {a b c : List UInt8} (h : a < b) (h' : b < c) : a < c := List.lt_trans h h'
theorem IK (a : List UInt8) : ¬ a < a := List.lt_irrefl a
theorem UL {a b : List UInt8} (h : ¬ b < a) (hn : a ≠ b) : a < b := Classical.byContradiction fun h' => hn (List.le_antisymm h h')
theorem Ro (a b : ByteArray) : bl a b = true ↔ a.data.toList < b.data.toList := by
  unfold bl
  rw [bytesLess_eq, ByteArray.toList_eq, ByteArray.toList_eq, decide_eq_true_iff]
theorem SV (a : ByteArray) : bl a a = false := by
  cases h : bl a a with
  | false => rfl
  | true => exact (IK _ ((Ro a a).1 h)).elim
theorem XU {a b c : ByteArray} (h : bl a b = true) (h' : bl b c = true) : bl a c = true := (Ro _ _).2 (JP ((Ro _ _).1 h) ((Ro _ _).1 h'))
theorem Qc7 {a b : ByteArray} (h : bl b a = false) (hn : a ≠ b) : bl a b = true := (Ro _ _).2 (UL (fun hb => by rw [(Ro _ _).2 hb] at h; cases h) fun e => hn (by cases a; cases b; simp at e; rw [e]))
def JQ : List ByteArray → ByteArray → List ByteArray
  | [], s => [s]
  | x :: l, s => if bl x s then x :: JQ l s else if x = s then x :: l else s :: x :: l
def SW (l : List ByteArray) : Prop := l.Pairwise fun a b => bl a b = true
theorem XV (s x : ByteArray) : ∀ l, x ∈ JQ l s ↔ x = s ∨ x ∈ l
  | [] => by simp [JQ]
  | y :: l => by
    simp only [JQ]
    split
    · rw [List.mem_cons, XV s x l, List.mem_cons]
      constructor
      · rintro (h | h | h) <;> simp [h]
      rintro (h | h | h) <;> simp [h]
    split
    · rename_i e
      subst e
      simp
    simp
theorem BF (s : ByteArray) : ∀ l, SW l → SW (JQ l s)
  | [], _ => by simp [SW, JQ]
  | y :: l, h => by
    have h := List.pairwise_cons.1 h
    simp only [JQ]
    split
    · rename_i hl
      refine List.pairwise_cons.2 ⟨fun z hz => ?_, BF s l h.2⟩
      rcases (XV s z l).1 hz with e | hz
      · exact e ▸ hl
      exact h.1 z hz
    split
    · exact List.pairwise_cons.2 h
    rename_i hl hn
    have hs : bl s y = true := Qc7 (by simpa using hl) fun e => hn e.symm
    refine List.pairwise_cons.2 ⟨fun z hz => ?_, List.pairwise_cons.2 h⟩
    rcases List.mem_cons.1 hz with rfl | hz
    · exact hs
    exact XU hs (h.1 z hz)
theorem BG (s : ByteArray) : ∀ l, (JQ l s).length ≤ l.length + 1
  | [] => by simp [JQ]
  | y :: l => by
    have := BG s l
    simp only [JQ]
    split
    · simp only [List.length_cons]; omega
    split <;> simp
def Ie (l xs : List ByteArray) : List ByteArray := xs.foldl JQ l
theorem Rp (x : ByteArray) : ∀ xs l, x ∈ Ie l xs ↔ x ∈ xs ∨ x ∈ l
  | [], l => by simp [Ie]
  | y :: xs, l => by
    show x ∈ Ie (JQ l y) xs ↔ _
    rw [Rp x xs, XV, List.mem_cons]
    constructor
    · rintro (h | h | h) <;> simp [h]
    rintro ((h | h) | h) <;> simp [h]
theorem Rq : ∀ xs l, SW l → SW (Ie l xs)
  | [], _, h => h
  | y :: xs, l, h => Rq xs (JQ l y) (BF y l h)
theorem PM (a b : List ByteArray) (ha : SW a) (hb : SW b) (h : ∀ x, x ∈ a ↔ x ∈ b) : a = b :=
  BD (fun a b => bl a b = true) (fun a h => by rw [SV] at h; cases h) (fun _ _ _ => XU) a b ha hb h
theorem JR (l : List ByteArray) : SW (Rn (Fe l)) ∧ ∀ x, x ∈ Rn (Fe l) ↔ x ∈ l := by
  have hto : (Fe l).map oneS.tu = (l.map oneS.tu).mergeSort fun x y => decide (x ≤ y) := by simp [Fe, Function.comp_def, oneS.tu_of]
  unfold Rn
  rw [hto]
  generalize hm : l.map oneS.tu = m
  have hp := List.mergeSort_perm m (fun x y => decide (x ≤ y))
  have hs := List.pairwise_mergeSort (le := fun (x y : List UInt8) => decide (x ≤ y)) (fun a b c h1 h2 => by
    simp only [decide_eq_true_eq] at h1 h2 ⊢; exact List.le_trans h1 h2) (fun a b => by
    have := List.le_total a b
    simpa using this) m
  generalize (m.mergeSort fun x y => decide (x ≤ y)) = s at hp hs
  have hget : ∀ j, j < s.length → s.toArray[j]! = s[j]! := fun j hj => by simp
  have hmono : ∀ i j, i ≤ j → j < s.toArray.size → ¬ s.toArray[j]! < s.toArray[i]! := fun i j hij hj => by
    have hj : j < s.length := by simpa using hj
    rw [hget i (by omega), hget j hj, getElem!_pos s i (by omega), getElem!_pos s j hj]
    by_cases e : i = j
    · subst e; exact IK _
    have := List.pairwise_iff_getElem.1 hs i j (by omega) hj (by omega)
    simpa using this
  obtain ⟨h1, h2⟩ := BE (fun a b : List UInt8 => a < b) s.toArray (fun a b c hab hbc => by
    by_cases e : a = b
    · exact e ▸ hbc
    exact JP (UL hab e) hbc) (fun a b h hn => UL h hn) hmono s.length (by simp)
  refine ⟨?_, fun x => ?_⟩
  · refine List.pairwise_map.2 (h1.imp fun {a b} h => (Ro _ _).2 ?_)
    simpa [oneS] using h
  have hmem : x ∈ l ↔ oneS.tu x ∈ m := by
    rw [← hm, List.mem_map]
    refine ⟨fun h => ⟨x, h, rfl⟩, fun ⟨y, h, e⟩ => ?_⟩
    have := congrArg oneS.of e
    rw [oneS.of_tu, oneS.of_tu] at this
    exact this ▸ h
  rw [hmem, ← hp.mem_iff, List.mem_map]
  constructor
  · rintro ⟨y, hy, rfl⟩
    obtain ⟨j, hj, e⟩ := (h2 y).1 hy
    rw [hget j hj, getElem!_pos s j hj] at e
    rw [oneS.tu_of]
    exact e ▸ List.getElem_mem hj
  intro h
  obtain ⟨j, hj, e⟩ := List.getElem_of_mem h
  exact ⟨oneS.tu x, (h2 _).2 ⟨j, hj, by rw [hget j hj, getElem!_pos s j hj]; exact e⟩, oneS.of_tu x⟩
theorem PN (l : List ByteArray) : Rn (Fe l) = Ie [] l :=
  PM _ _ (JR l).1 (Rq l [] List.Pairwise.nil) fun x => by rw [(JR l).2, Rp]; simp
end
section
abbrev Jw := List (Nat × Int)
def Cs (E : Jw) (L : List Int) : Int := E.foldl (fun m e => max m (nth L e.1 + e.2)) 0
theorem D3 (L : List Int) (x : Int) : ∀ (E : Jw) (m : Int), E.foldl (fun m e => max m (nth L e.1 + e.2)) m ≤ x ↔ m ≤ x ∧ ∀ e, e ∈ E → nth L e.1 + e.2 ≤ x
  | [], m => by simp
  | e :: E, m => by
    rw [List.foldl_cons, D3 L x E]
    constructor
    · rintro ⟨h1, h2⟩
      refine ⟨by omega, fun e' he => ?_⟩
      rcases List.mem_cons.1 he with rfl | he
      · omega
      exact h2 e' he
    rintro ⟨h1, h2⟩
    have := h2 e List.mem_cons_self
    exact ⟨by omega, fun e' he => h2 e' (List.mem_cons_of_mem _ he)⟩
theorem Hu {E : Jw} {L : List Int} {x : Int} : Cs E L ≤ x ↔ 0 ≤ x ∧ ∀ e, e ∈ E → nth L e.1 + e.2 ≤ x := D3 L x E 0
theorem Ig (E : Jw) (L : List Int) : 0 ≤ Cs E L := (Hu.1 (Int.le_refl _)).1
theorem JS {E : Jw} {L M : List Int} (h : ∀ j, nth L j ≤ nth M j) : Cs E L ≤ Cs E M :=
  Hu.2 ⟨Ig E M, fun e he => by
    have := (Hu.1 (Int.le_refl (Cs E M))).2 e he
    have := h e.1
    omega⟩
theorem Ih {L : List Int} {i : Nat} (x : Int) (j : Nat) (hi : i < L.length) : nth (L.set i x) j = if j = i then x else nth L j := by
  unfold nth
  by_cases h : j = i
  · subst h; simp [List.getD, hi]
  rw [if_neg h]; simp [List.getD, List.getElem?_set, Ne.symm h]
theorem UM {L : List Int} {i : Nat} (h : L.length ≤ i) : nth L i = 0 := by
  unfold nth
  simp [List.getD, List.getElem?_eq_none h]
def Vn (E : Nat → Jw) (L : List Int) (i : Nat) : List Int := if nth L i < Cs (E i) L then L.set i (Cs (E i) L) else L
theorem B4 (E : Nat → Jw) (L : List Int) (i : Nat) : (Vn E L i).length = L.length := by unfold Vn; split <;> simp
theorem XW (E : Nat → Jw) (L : List Int) (i j : Nat) : nth L j ≤ nth (Vn E L i) j := by
  unfold Vn
  split
  · rename_i h
    by_cases hi : i < L.length
    · rw [Ih _ _ hi]; split
      · rename_i e; subst e; omega
      omega
    rw [List.set_eq_of_length_le (by omega)]; omega
  omega
def rounds (E : Nat → Jw) (is : List Nat) (L : List Int) : List Int := is.foldl (Vn E) L
theorem Fy (E : Nat → Jw) : ∀ (is : List Nat) (L : List Int), (rounds E is L).length = L.length
  | [], _ => rfl
  | i :: is, L => (Fy E is (Vn E L i)).trans (B4 E L i)
theorem Lg (E : Nat → Jw) (j : Nat) : ∀ (is : List Nat) (L : List Int), nth L j ≤ nth (rounds E is L) j
  | [], _ => Int.le_refl _
  | i :: is, L => Int.le_trans (XW E L i j) (Lg E j is (Vn E L i))
theorem IM {L M : List Int} (hl : L.length = M.length) (h : ∀ j, nth L j = nth M j) : L = M := by
  apply List.ext_getElem hl
  intro i h1 h2
  have := h i
  simpa [nth, List.getD, h1, h2] using this
theorem T6 (E : Nat → Jw) : ∀ (is : List Nat) (L : List Int), rounds E is L = L → ∀ i, i ∈ is → Vn E L i = L
  | [], _, _, i, hi => by simp at hi
  | a :: is, L, h, i, hi => by
    have h1 : Vn E L a = L := IM (B4 E L a) fun j => by
      have h2 := XW E L a j
      have h3 := Lg E j is (Vn E L a)
      have h4 : nth (rounds E is (Vn E L a)) j = nth L j := congrArg (nth · j) h
      omega
    rcases List.mem_cons.1 hi with rfl | hi
    · exact h1
    refine T6 E is L ?_ i hi
    have : rounds E is (Vn E L a) = L := h
    rwa [h1] at this
theorem T7 {E : Nat → Jw} {L : List Int} {i : Nat} (hi : i < L.length) : Vn E L i = L ↔ Cs (E i) L ≤ nth L i := by
  unfold Vn
  constructor
  · intro h
    split at h
    · rename_i hlt
      have h2 : nth (L.set i (Cs (E i) L)) i = nth L i := by rw [h]
      rw [Ih _ _ hi, if_pos rfl] at h2
      omega
    omega
  intro h
  rw [if_neg (by omega)]
def Sat (E : Nat → Jw) (n : Nat) (g : List Int) : Prop := ∀ i, i < n → Cs (E i) g ≤ nth g i
theorem UN {E : Nat → Jw} {n : Nat} {L g : List Int} {i : Nat} (hi : i < n) (hn : L.length = n) (hs : Sat E n g) (h : ∀ j, nth L j ≤ nth g j) : ∀ j, nth (Vn E L i) j ≤ nth g j := by
  intro j
  unfold Vn
  split
  · rw [Ih _ _ (by omega)]
    split
    · rename_i e; subst e
      exact Int.le_trans (JS h) (hs j hi)
    exact h j
  exact h j
theorem Ff {E : Nat → Jw} {n : Nat} {g : List Int} (hs : Sat E n g) : ∀ (is : List Nat) (L : List Int), (∀ i, i ∈ is → i < n) → L.length = n → (∀ j, nth L j ≤ nth g j) → ∀ j, nth (rounds E is L) j ≤ nth g j
  | [], _, _, _, h => h
  | i :: is, L, hi, hn, h => Ff hs is (Vn E L i) (fun k hk => hi k (List.mem_cons_of_mem _ hk)) ((B4 E L i).trans hn) (UN (hi i List.mem_cons_self) hn hs h)
theorem SX : ∀ (m : Nat) (l : List Int), (∀ v : Nat, v < m → ((v : Nat) : Int) ∈ l) → m ≤ l.length
  | 0, _, _ => Nat.zero_le _
  | m + 1, l, h => by
    have hm := h m (by omega)
    have := SX m (l.erase (m : Int)) fun v hv => (List.mem_erase_of_ne (by omega)).2 (h v (by omega))
    rw [List.length_erase_of_mem hm] at this
    have : 0 < l.length := List.length_pos_of_mem hm
    omega
theorem Qbb {L : List Int} {i : Nat} (h : i < L.length) : nth L i ∈ L := by
  have : nth L i = L[i] := by simp [nth, List.getD, h]
  rw [this]; exact List.getElem_mem h
theorem UO {L : List Int} {x : Int} (h : x ∈ L) : ∃ i, i < L.length ∧ nth L i = x := by
  obtain ⟨i, hi, e⟩ := List.getElem_of_mem h
  exact ⟨i, hi, by rw [← e]; simp [nth, List.getD, hi]⟩
theorem Qbc {L : List Int} {f : Int → Int} {i : Nat} (h : i < L.length) : nth (L.map f) i = f (nth L i) := by simp [nth, List.getD, h]
theorem DJ {E : Nat → Jw} {n : Nat} {f : List Int} (hw : ∀ i e, e ∈ E i → e.2 ≤ 1 ∧ e.1 < n) (hlen : f.length = n) (hs : Sat E n f) (hleast : ∀ g : List Int, g.length = n → Sat E n g → (∀ j, 0 ≤ nth g j) → ∀ j, nth f j ≤ nth g j) (h0 : ∀ j, 0 ≤ nth f j) :
    ∀ i, i < n → nth f i < (n : Int) := by
  intro i hi
  have hall : ∀ v : Nat, (v : Int) ≤ nth f i → ((v : Nat) : Int) ∈ f := fun v hv => by
    refine Classical.byContradiction fun hno => ?_
    have hne : ∀ j, j < n → nth f j ≠ v := fun j hj e => hno (e ▸ Qbb (by omega))
    have hvi : (v : Int) < nth f i := by have := hne i hi; omega
    let g := f.map fun x => if (v : Int) < x then x - 1 else x
    have hg : ∀ j, j < n → nth g j = if (v : Int) < nth f j then nth f j - 1 else nth f j := fun j hj => Qbc (by omega)
    have hg0 : ∀ j, ¬ j < n → nth g j = 0 := fun j hj => UM (by simp only [g, List.length_map]; omega)
    have hf0 : ∀ j, ¬ j < n → nth f j = 0 := fun j hj => UM (by omega)
    have hpos : ∀ j, 0 ≤ nth g j := fun j => by
      by_cases hj : j < n
      · rw [hg j hj]; have := h0 j; split <;> omega
      rw [hg0 j hj]; omega
    have := hleast g (by simp only [g, List.length_map]; exact hlen) (fun k hk => Hu.2 ⟨hpos k, fun e he => ?_⟩) hpos i
    · rw [hg i hi, if_pos hvi] at this; omega
    have h1 := (Hu.1 (hs k hk)).2 e he
    obtain ⟨h2, hj⟩ := hw k e he
    have h3 := hne k hk
    rw [hg k hk]
    have h4 := hne e.1 hj
    rw [hg e.1 hj]
    split <;> split <;> omega
  have hp := SX ((nth f i).toNat + 1) f fun v hv => hall v (by have := h0 i; omega)
  have := h0 i
  omega
/-! ### rounds until rest -/
theorem IN : ∀ (L : List Int) (i : Nat) (x : Int), i < L.length → (L.set i x).sum = L.sum + (x - nth L i)
  | [], i, x, h => by simp at h
  | a :: L, 0, x, _ => by simp [nth]; omega
  | a :: L, i + 1, x, h => by
    have := IN L i x (by simpa using h)
    have e : nth (a :: L) (i + 1) = nth L i := rfl
    rw [e, List.set_cons_succ, List.sum_cons, List.sum_cons, this]
    omega
theorem BH : ∀ (L : List Int) (N : Int), (∀ x, x ∈ L → x ≤ N) → L.sum ≤ (L.length : Int) * N
  | [], N, _ => by simp
  | a :: L, N, h => by
    have h1 := BH L N fun x hx => h x (List.mem_cons_of_mem _ hx)
    have h2 := h a List.mem_cons_self
    rw [List.sum_cons, List.length_cons, Int.natCast_add, Int.add_mul]
    omega
theorem JT {E : Nat → Jw} {L : List Int} {i : Nat} (hi : i < L.length) : L.sum ≤ (Vn E L i).sum ∧ (Vn E L i ≠ L → L.sum + 1 ≤ (Vn E L i).sum) := by
  unfold Vn
  split
  · rename_i h
    have := IN L i (Cs (E i) L) hi
    omega
  exact ⟨Int.le_refl _, fun h => (h rfl).elim⟩
theorem Fz {E : Nat → Jw} : ∀ (is : List Nat) (L : List Int), (∀ i, i ∈ is → i < L.length) → L.sum ≤ (rounds E is L).sum ∧ (rounds E is L ≠ L → L.sum + 1 ≤ (rounds E is L).sum)
  | [], L, _ => ⟨Int.le_refl _, fun h => (h rfl).elim⟩
  | i :: is, L, h => by
    obtain ⟨h1, h2⟩ := JT (E := E) (h i List.mem_cons_self)
    obtain ⟨h3, h4⟩ := Fz (E := E) is (Vn E L i) fun k hk => by rw [B4]; exact h k (List.mem_cons_of_mem _ hk)
    show L.sum ≤ (rounds E is (Vn E L i)).sum ∧ (rounds E is (Vn E L i) ≠ L → L.sum + 1 ≤ (rounds E is (Vn E L i)).sum)
    refine ⟨by omega, fun hn => ?_⟩
    by_cases e : Vn E L i = L
    · have := h4 (by rw [e] at hn ⊢; exact hn)
      omega
    have := h2 e
    omega
def Ah (E : Nat → Jw) (N : Int) : List Nat → Bool × List Int → Option (Bool × List Int)
  | [], s => some s
  | i :: is, s => if N < Cs (E i) s.2 then none else Ah E N is (if nth s.2 i < Cs (E i) s.2 then (true, s.2.set i (Cs (E i) s.2)) else s)
theorem A4 {E : Nat → Jw} {N : Int} : ∀ (is : List Nat) (c : Bool) (L : List Int) (s : Bool × List Int), (∀ i, i ∈ is → i < L.length) → Ah E N is (c, L) = some s → s.2 = rounds E is L ∧ (s.1 = true → c = true ∨ rounds E is L ≠ L) ∧ (s.1 = false → c = false ∧ rounds E is L = L) ∧ ((∀ j, nth L j ≤ N) → ∀ j, nth s.2 j ≤ N)
  | [], c, L, s, _, h => by
    obtain rfl := Option.some.inj h
    exact ⟨rfl, fun h => .inl h, fun h => ⟨h, rfl⟩, fun h => h⟩
  | i :: is, c, L, s, hi, h => by
    have hil := hi i List.mem_cons_self
    have hlen : ∀ k, k ∈ is → k < (Vn E L i).length := fun k hk => by rw [B4]; exact hi k (List.mem_cons_of_mem _ hk)
    simp only [Ah] at h
    split at h
    · cases h
    rename_i hN
    split at h
    · rename_i hlt
      have er : Vn E L i = L.set i (Cs (E i) L) := by unfold Vn; rw [if_pos hlt]
      rw [← er] at h
      obtain ⟨h1, h2, h3, h4⟩ := A4 is true (Vn E L i) s hlen h
      have hne : rounds E (i :: is) L ≠ L := fun e => by
        have := (Fz (E := E) is (Vn E L i) hlen).1
        have h5 := (JT (E := E) hil).2 fun e' => by
          have := (T7 hil).1 e'
          omega
        have h6 : (rounds E is (Vn E L i)).sum = L.sum := congrArg List.sum e
        omega
      refine ⟨h1, fun _ => .inr hne, fun h => (by have := (h3 h).1; cases this), fun hb j => h4 (fun j => ?_) j⟩
      rw [er, Ih _ _ hil]
      split
      · omega
      exact hb j
    rename_i hlt
    have er : Vn E L i = L := by unfold Vn; rw [if_neg hlt]
    have e2 : rounds E (i :: is) L = rounds E is L := by show rounds E is (Vn E L i) = _; rw [er]
    rw [e2]
    exact A4 is c L s (fun k hk => hi k (List.mem_cons_of_mem _ hk)) h
theorem N0 {E : Nat → Jw} {N : Int} : ∀ (is : List Nat) (c : Bool) (L : List Int), Ah E N is (c, L) = none → ∃ pre i, (∀ k, k ∈ pre → k ∈ is) ∧ i ∈ is ∧ N < Cs (E i) (rounds E pre L)
  | [], c, L, h => by cases h
  | i :: is, c, L, h => by
    simp only [Ah] at h
    split at h
    · rename_i hN
      exact ⟨[], i, fun k hk => by simp at hk, List.mem_cons_self, hN⟩
    have key : ∀ c' L', L' = Vn E L i → Ah E N is (c', L') = none → ∃ pre k, (∀ x, x ∈ pre → x ∈ i :: is) ∧ k ∈ i :: is ∧ N < Cs (E k) (rounds E pre L) := fun c' L' e h => by
      obtain ⟨pre, k, h1, h2, h3⟩ := N0 is c' L' h
      subst e
      refine ⟨i :: pre, k, fun x hx => ?_, List.mem_cons_of_mem _ h2, h3⟩
      rcases List.mem_cons.1 hx with rfl | hx
      · exact List.mem_cons_self
      exact List.mem_cons_of_mem _ (h1 x hx)
    split at h
    · rename_i hlt
      exact key true _ (by unfold Vn; rw [if_pos hlt]) h
    rename_i hlt
    exact key c _ (by unfold Vn; rw [if_neg hlt]) h
def Sv (E : Nat → Jw) (N : Int) (n : Nat) : Nat → Bool × List Int → Option (Option (List Int))
  | 0, _ => none
  | k + 1, s => match s.1 with
    | true => (match Ah E N (List.range n) (false, s.2) with
      | none => some none
      | some s' => Sv E N n k s')
    | false => some (some s.2)
theorem U8 {n i : Nat} (h : i ∈ List.range n) : i < n := List.mem_range.1 h
theorem T8 {E : Nat → Jw} {n : Nat} : ∀ (k : Nat) (c : Bool) (L : List Int), L.length = n → (∀ j, nth L j ≤ (n : Int)) → (n : Int) * (n : Int) - L.sum + 2 ≤ (k : Int) → (Sv E n n k (c, L)).isSome = true
  | 0, c, L, hl, hb, hk => by
    have := BH L n fun x hx => by obtain ⟨i, _, e⟩ := UO hx; exact e ▸ hb i
    rw [hl] at this
    omega
  | k + 1, false, L, hl, hb, hk => rfl
  | k + 1, true, L, hl, hb, hk => by
    simp only [Sv]
    cases hc : Ah E n (List.range n) (false, L) with
    | none => rfl
    | some s =>
      obtain ⟨h1, h2, h3, h4⟩ := A4 (List.range n) false L s (fun i hi => by rw [hl]; exact U8 hi) hc
      obtain ⟨c', L'⟩ := s
      simp only at h1 h2 h3 h4 ⊢
      have hl' : L'.length = n := by rw [h1, Fy, hl]
      have hs := Fz (E := E) (List.range n) L fun i hi => by rw [hl]; exact U8 hi
      rw [← h1] at hs
      cases c' with
      | false =>
        cases k with
        | zero =>
          have := BH L n fun x hx => by obtain ⟨i, _, e⟩ := UO hx; exact e ▸ hb i
          rw [hl] at this
          omega
        | succ k => rfl
      | true =>
        have hne : L' ≠ L := by
          rcases h2 rfl with h | h
          · cases h
          rw [h1]; exact h
        have := hs.2 hne
        exact T8 k true L' hl' (h4 hb) (by omega)
def after (E : Nat → Jw) (n : Nat) : Nat → List Int
  | 0 => List.replicate n 0
  | k + 1 => rounds E (List.range n) (after E n k)
theorem K9 (E : Nat → Jw) (n : Nat) : ∀ k, (after E n k).length = n
  | 0 => by simp [after]
  | k + 1 => by rw [after, Fy, K9 E n k]
def ES (E : Nat → Jw) (n : Nat) (L : List Int) : Prop := rounds E (List.range n) L = L
theorem Ow (n j : Nat) : nth (List.replicate n (0 : Int)) j = 0 := by
  by_cases h : j < n
  · simp [nth, List.getD, h]
  exact UM (by simp; omega)
theorem Hj (E : Nat → Jw) (n j : Nat) : ∀ k, 0 ≤ nth (after E n k) j
  | 0 => by rw [after, Ow]; omega
  | k + 1 => Int.le_trans (Hj E n j k) (Lg E j _ _)
theorem Ox {E : Nat → Jw} {n : Nat} {L : List Int} (hl : L.length = n) (h : ES E n L) : Sat E n L := fun i hi => (T7 (by omega)).1 (T6 E _ L h i (List.mem_range.2 hi))
theorem D4 {E : Nat → Jw} {n : Nat} {g : List Int} (hs : Sat E n g) (h0 : ∀ j, 0 ≤ nth g j) : ∀ k j, nth (after E n k) j ≤ nth g j
  | 0, j => by rw [after, Ow]; exact h0 j
  | k + 1, j => Ff hs _ _ (fun i hi => U8 hi) (K9 E n k) (D4 hs h0 k) j
theorem F1 {E : Nat → Jw} {n k : Nat} (h : ES E n (after E n k)) : ∀ d, after E n (k + d) = after E n k
  | 0 => rfl
  | d + 1 => by
    show rounds E (List.range n) (after E n (k + d)) = _
    rw [F1 h d]
    exact h
theorem IP {E : Nat → Jw} {n k m : Nat} (hk : ES E n (after E n k)) (hm : ES E n (after E n m)) : after E n k = after E n m := by
  rcases Nat.le_total k m with h | h
  · have := F1 hk (m - k)
    rw [show k + (m - k) = m by omega] at this
    exact this.symm
  have := F1 hm (k - m)
  rwa [show m + (k - m) = k by omega] at this
theorem Rr {E : Nat → Jw} {n : Nat} : ∀ k, (∀ j, j < k → ¬ ES E n (after E n j)) → (k : Int) ≤ (after E n k).sum
  | 0, _ => by
    have : ∀ n : Nat, (List.replicate n (0 : Int)).sum = 0 := fun n => by simp
    rw [after, this]; omega
  | k + 1, h => by
    have h1 := Rr k fun j hj => h j (by omega)
    have h2 := (Fz (E := E) (List.range n) (after E n k) fun i hi => by rw [K9]; exact U8 hi).2 (h k (by omega))
    show ((k + 1 : Nat) : Int) ≤ (rounds E (List.range n) (after E n k)).sum
    omega
variable {E : Nat → Jw} {n : Nat} (hw : ∀ i e, e ∈ E i → e.2 ≤ 1 ∧ e.1 < n)
include hw in
theorem IQ {k : Nat} (h : ES E n (after E n k)) : ∀ i, i < n → nth (after E n k) i < (n : Int) :=
  DJ hw (K9 E n k) (Ox (K9 E n k) h) (fun _ _ hs h0 => D4 hs h0 k) fun j => Hj E n j k
include hw in
theorem IR {k : Nat} (h : ES E n (after E n k)) : ES E n (after E n (n * n + 2)) := by
  have hex : ∃ j, j ≤ n * n + 1 ∧ ES E n (after E n j) := Classical.byContradiction fun hno => by
    have h1 := Rr (E := E) (n := n) (n * n + 2) fun j hj hr => hno ⟨j, by omega, hr⟩
    have h2 := BH (after E n (n * n + 2)) n fun x hx => by
      obtain ⟨i, hi, e⟩ := UO hx
      rw [K9] at hi
      have h3 := D4 (Ox (K9 E n k) h) (fun j => Hj E n j k) (n * n + 2) i
      have := IQ hw h i hi
      omega
    rw [K9] at h2
    have h3 : ((n * n + 2 : Nat) : Int) = (n : Int) * (n : Int) + 2 := by rw [Int.natCast_add, Int.natCast_mul]; rfl
    omega
  obtain ⟨j, hj, hr⟩ := hex
  have := F1 hr (n * n + 2 - j)
  rw [show j + (n * n + 2 - j) = n * n + 2 by omega] at this
  rw [this]; exact hr
include hw in
theorem BI : ∀ (k m : Nat) (c : Bool) (r : Option (List Int)), (c = false → ES E n (after E n m)) → Sv E n n k (c, after E n m) = some r →
    (∀ L, r = some L → ES E n (after E n (n * n + 2)) ∧ L = after E n (n * n + 2)) ∧ (r = none → ¬ ES E n (after E n (n * n + 2)))
  | 0, m, c, r, _, h => by cases h
  | k + 1, m, false, r, hc, h => by
    obtain rfl := Option.some.inj h
    have hr := hc rfl
    have hs := IR hw hr
    refine ⟨fun L e => ⟨hs, ?_⟩, fun e => by cases e⟩
    obtain rfl := Option.some.inj e
    exact IP hr hs
  | k + 1, m, true, r, _, h => by
    simp only [Sv] at h
    have hlt : ∀ i, i ∈ List.range n → i < (after E n m).length := fun i hi => by rw [K9]; exact U8 hi
    cases hcr : Ah E n (List.range n) (false, after E n m) with
    | none =>
      rw [hcr] at h
      obtain rfl := Option.some.inj h
      refine ⟨fun L e => (by cases e), fun _ hr => ?_⟩
      obtain ⟨pre, i, h1, h2, h3⟩ := N0 _ _ _ hcr
      have hsat := Ox (K9 E n _) hr
      have h4 := Ff hsat pre (after E n m) (fun i hi => U8 (h1 i hi)) (K9 E n m) (D4 hsat (fun j => Hj E n j _) m)
      have h5 := JS (E := E i) h4
      have h6 := hsat i (U8 h2)
      have h7 := IQ hw hr i (U8 h2)
      omega
    | some s =>
      rw [hcr] at h
      obtain ⟨h1, _, h3, _⟩ := A4 _ _ _ s hlt hcr
      obtain ⟨c', L'⟩ := s
      simp only at h1 h3 h
      have e : L' = after E n (m + 1) := h1
      subst e
      refine BI k (m + 1) c' r (fun hc => ?_) h
      have h5 := (h3 hc).2
      show rounds E (List.range n) (after E n (m + 1)) = after E n (m + 1)
      have e2 : after E n (m + 1) = after E n m := h5
      rw [e2]; exact h5
omit hw
/-! ### the other way to Vn: edge by edge -/
def Mj (i : Nat) (L : List Int) (e : Nat × Int) : List Int := if nth L i < nth L e.1 + e.2 then L.set i (nth L e.1 + e.2) else L
def Hd (i : Nat) (E : Jw) (L : List Int) : List Int := E.foldl (Mj i) L
theorem D5 (i : Nat) (L : List Int) (e : Nat × Int) : (Mj i L e).length = L.length := by unfold Mj; split <;> simp
theorem B5 (i : Nat) : ∀ (E : Jw) (L : List Int), (Hd i E L).length = L.length
  | [], _ => rfl
  | e :: E, L => (B5 i E (Mj i L e)).trans (D5 i L e)
theorem Oy {i : Nat} {L : List Int} (e : Nat × Int) (hi : i < L.length) (j : Nat) : nth (Mj i L e) j = if j = i then max (nth L i) (nth L e.1 + e.2) else nth L j := by
  unfold Mj
  split
  · rw [Ih _ _ hi]; split <;> omega
  split
  · rename_i h; subst h; omega
  rfl
theorem JU {i : Nat} : ∀ (E : Jw) {L M : List Int}, i < M.length → (∀ j, j ≠ i → nth M j = nth L j) → nth L i ≤ nth M i → (∀ e, e ∈ E → e.1 = i → e.2 ≤ 0) → ∀ j, nth (Hd i E M) j = if j = i then E.foldl (fun m e => max m (nth L e.1 + e.2)) (nth M i) else nth L j
  | [], L, M, hi, hj, h0, hs, j => by
    show nth M j = _
    split
    · rename_i e; subst e; rfl
    rename_i e; exact hj j e
  | e :: E, L, M, hi, hj, h0, hs, j => by
    show nth (Hd i E (Mj i M e)) j = _
    have hb := Oy e hi
    have hmax : nth (Mj i M e) i = max (nth M i) (nth L e.1 + e.2) := by
      rw [hb, if_pos rfl]
      by_cases he : e.1 = i
      · have := hs e List.mem_cons_self he
        rw [he]; omega
      rw [hj e.1 he]
    rw [JU E (L := L) (M := Mj i M e) (by rw [D5]; exact hi) (fun k hk => by rw [hb, if_neg hk]; exact hj k hk) (by rw [hmax]; omega) (fun e' he' => hs e' (List.mem_cons_of_mem _ he')) j, hmax, List.foldl_cons]
theorem PO (L : List Int) : ∀ (E : Jw) (m : Int), 0 ≤ m → E.foldl (fun m e => max m (nth L e.1 + e.2)) m = max m (Cs E L) := fun E m hm => by
  have h1 := D3 L (E.foldl (fun m e => max m (nth L e.1 + e.2)) m) E m
  have h2 := h1.1 (Int.le_refl _)
  have h3 : Cs E L ≤ E.foldl (fun m e => max m (nth L e.1 + e.2)) m := Hu.2 ⟨by omega, h2.2⟩
  have h4 := (D3 L (max m (Cs E L)) E m).2 ⟨by omega, fun e he => by have := (Hu.1 (Int.le_refl (Cs E L))).2 e he; omega⟩
  omega
theorem PP {E : Nat → Jw} {L : List Int} {i : Nat} (hi : i < L.length) (h0 : 0 ≤ nth L i) (hs : ∀ e, e ∈ E i → e.1 = i → e.2 ≤ 0) : Hd i (E i) L = Vn E L i :=
  IM ((B5 i (E i) L).trans (B4 E L i).symm) fun j => by
    rw [JU (E i) hi (fun _ _ => rfl) (Int.le_refl _) hs, PO _ _ _ h0]
    unfold Vn
    by_cases hlt : nth L i < Cs (E i) L
    · rw [if_pos hlt, Ih _ _ hi]; split <;> omega
    rw [if_neg hlt]; split
    · rename_i e; subst e; omega
    rfl
theorem Oz {i : Nat} : ∀ (E : Jw) {L : List Int}, i < L.length → ∀ j, nth L j ≤ nth (Hd i E L) j
  | [], _, _, _ => Int.le_refl _
  | e :: E, L, hi, j => by
    have h1 := Oz E (L := Mj i L e) (by rw [D5]; exact hi) j
    have h2 := Oy e hi j
    show _ ≤ nth (Hd i E (Mj i L e)) j
    split at h2
    · rename_i h; subst h; omega
    omega
theorem T9 {i : Nat} : ∀ (E : Jw) {L : List Int}, i < L.length → (∃ e, e ∈ E ∧ e.1 = i ∧ 1 ≤ e.2) → nth L i + 1 ≤ nth (Hd i E L) i
  | [], _, _, ⟨e, he, _⟩ => by simp at he
  | e :: E, L, hi, ⟨e', he, h1, h2⟩ => by
    have h3 := Oy e hi i
    rw [if_pos rfl] at h3
    have hb := Oz E (L := Mj i L e) (by rw [D5]; exact hi) i
    show _ ≤ nth (Hd i E (Mj i L e)) i
    rcases List.mem_cons.1 he with rfl | he
    · rw [h1] at h3; omega
    have := T9 E (L := Mj i L e) (by rw [D5]; exact hi) ⟨e', he, h1, h2⟩
    omega
def Uz (E : Nat → Jw) (is : List Nat) (L : List Int) : List Int := is.foldl (fun L i => Hd i (E i) L) L
theorem Ii (E : Nat → Jw) : ∀ (is : List Nat) (L : List Int), (Uz E is L).length = L.length
  | [], _ => rfl
  | i :: is, L => (Ii E is (Hd i (E i) L)).trans (B5 i _ L)
theorem M4 {E : Nat → Jw} (hs : ∀ i e, e ∈ E i → e.1 = i → e.2 ≤ 0) : ∀ (is : List Nat) (L : List Int), (∀ i, i ∈ is → i < L.length) → (∀ j, 0 ≤ nth L j) → Uz E is L = rounds E is L
  | [], _, _, _ => rfl
  | i :: is, L, hi, h0 => by
    have hil := hi i List.mem_cons_self
    show Uz E is (Hd i (E i) L) = rounds E is (Vn E L i)
    rw [PP hil (h0 i) (hs i)]
    exact M4 hs is _ (fun k hk => by rw [B4]; exact hi k (List.mem_cons_of_mem _ hk)) fun j => Int.le_trans (h0 j) (XW E L i j)
theorem QA {E : Nat → Jw} : ∀ (is : List Nat) (L : List Int), (∀ i, i ∈ is → i < L.length) → ∀ j, nth L j ≤ nth (Uz E is L) j
  | [], _, _, _ => Int.le_refl _
  | i :: is, L, hi, j => Int.le_trans (Oz (E i) (hi i List.mem_cons_self) j) (QA is (Hd i (E i) L) (fun k hk => by rw [B5]; exact hi k (List.mem_cons_of_mem _ hk)) j)
theorem N1 {E : Nat → Jw} {i : Nat} (he : ∃ e, e ∈ E i ∧ e.1 = i ∧ 1 ≤ e.2) : ∀ (is : List Nat) (L : List Int), (∀ i, i ∈ is → i < L.length) → i ∈ is → nth L i + 1 ≤ nth (Uz E is L) i
  | [], _, _, h => by simp at h
  | k :: is, L, hi, h => by
    have hk := hi k List.mem_cons_self
    have hl : ∀ x, x ∈ is → x < (Hd k (E k) L).length := fun x hx => by rw [B5]; exact hi x (List.mem_cons_of_mem _ hx)
    show _ ≤ nth (Uz E is (Hd k (E k) L)) i
    have h1 := Oz (E k) hk i
    have h2 := QA (E := E) is (Hd k (E k) L) hl i
    rcases List.mem_cons.1 h with rfl | h
    · have := T9 (E i) hk he
      omega
    have := N1 he is (Hd k (E k) L) hl h
    omega
def Wx (E : Nat → Jw) (n : Nat) : Nat → List Int
  | 0 => List.replicate n 0
  | k + 1 => Uz E (List.range n) (Wx E n k)
theorem F2 (E : Nat → Jw) (n : Nat) : ∀ k, (Wx E n k).length = n
  | 0 => by simp [Wx]
  | k + 1 => by rw [Wx, Ii, F2 E n k]
theorem JV {E : Nat → Jw} {n : Nat} (hs : ∀ i e, e ∈ E i → e.1 = i → e.2 ≤ 0) : ∀ k, Wx E n k = after E n k
  | 0 => rfl
  | k + 1 => by
    rw [Wx, after, JV hs k]
    exact M4 hs _ _ (fun i hi => by rw [K9]; exact U8 hi) fun j => Hj E n j k
theorem IS {E : Nat → Jw} {n : Nat} (hw : ∀ i e, e ∈ E i → e.2 ≤ 1 ∧ e.1 < n ∧ i < n) {k : Nat} {r : Option (List Int)} (h : Sv E n n k (true, List.replicate n 0) = some r) :
    (Uz E (List.range n) (Wx E n (n * n + 2)) = Wx E n (n * n + 2) → r = some (Wx E n (n * n + 2))) ∧ (Uz E (List.range n) (Wx E n (n * n + 2)) ≠ Wx E n (n * n + 2) → r = none) := by
  have hw' : ∀ i e, e ∈ E i → e.2 ≤ 1 ∧ e.1 < n := fun i e he => ⟨(hw i e he).1, (hw i e he).2.1⟩
  obtain ⟨h1, h2⟩ := BI hw' k 0 true r (fun e => by cases e) h
  by_cases hself : ∃ i, ∃ e, e ∈ E i ∧ e.1 = i ∧ 1 ≤ e.2
  · obtain ⟨i, e, he, hei, h3⟩ := hself
    have hi : i < n := (hw i e he).2.2
    have hne : Uz E (List.range n) (Wx E n (n * n + 2)) ≠ Wx E n (n * n + 2) := fun heq => by
      have := N1 (E := E) ⟨e, he, hei, h3⟩ (List.range n) (Wx E n (n * n + 2)) (fun k hk => by rw [F2]; exact U8 hk) (List.mem_range.2 hi)
      rw [heq] at this; omega
    refine ⟨fun h => (hne h).elim, fun _ => ?_⟩
    cases r with
    | none => rfl
    | some L =>
      obtain ⟨hr, _⟩ := h1 L rfl
      have h4 := Ox (K9 E n _) hr i hi
      have h5 := (Hu.1 h4).2 e he
      rw [hei] at h5
      omega
  have hs : ∀ i e, e ∈ E i → e.1 = i → e.2 ≤ 0 := fun i e he hei => Classical.byContradiction fun hn => hself ⟨i, e, he, hei, by omega⟩
  rw [JV hs, M4 hs _ _ (fun i hi => by rw [K9]; exact U8 hi) fun j => Hj E n j _]
  refine ⟨fun hr => ?_, fun hr => ?_⟩
  · cases r with
    | none => exact (h2 rfl hr).elim
    | some L => rw [(h1 L rfl).2]
  cases r with
  | none => rfl
  | some L => exact (hr (h1 L rfl).1).elim
end
section
open Go.Shelf
def Sh.lays156_ren : Go.Shelf.Ren := ⟨fun | 156 => 118 | 165 => 152 | 166 => 153 | 169 => 154 | 240 => 191 | 241 => 192 | 276 => 221 | 277 => 222 | n => n, fun | 31 => 91 | 9 => 9 | 3 => 3 | 4 => 4 | 0 => 0 | 20 => 20 | 72 => 219 | 76 => 215 | 70 => 217 | 37 => 171 | 75 => 214 | 127 => 252 | 164 => 281 | 5 => 5 | 80 => 221 | n => n, fun | n => n⟩
theorem Sh.lays156 : Go.Proofs.Lays.n156 Tryz.prog Sh.lays156_ren := {
  mixed := by kernel_rfl
  f156 := Tryz.func118.trans (congrArg some (by kernel_rfl))
  f165 := Tryz.func152.trans (congrArg some (by kernel_rfl))
  f166 := Tryz.func153.trans (congrArg some (by kernel_rfl))
  f169 := Tryz.func154.trans (congrArg some (by kernel_rfl))
  f240 := Tryz.func191.trans (congrArg some (by kernel_rfl))
  f241 := Tryz.func192.trans (congrArg some (by kernel_rfl))
  f276 := Tryz.func221.trans (congrArg some (by kernel_rfl))
  f277 := Tryz.func222.trans (congrArg some (by kernel_rfl))
  t0 := Tryz.underlying0
  a0 := Tryz.isAgg0
  z0 := Tryz.sizeOf0
  v0 := Tryz.zeroValue0
  t3 := Tryz.underlying3
  a3 := Tryz.isAgg3
  z3 := Tryz.sizeOf3
  v3 := Tryz.zeroValue3
  t4 := Tryz.underlying4
  a4 := Tryz.isAgg4
  z4 := Tryz.sizeOf4
  v4 := Tryz.zeroValue4
  t9 := Tryz.underlying9
  a9 := Tryz.isAgg9
  z9 := Tryz.sizeOf9
  v9 := Tryz.zeroValue9
  t20 := Tryz.underlying20
  a20 := Tryz.isAgg20
  z20 := Tryz.sizeOf20
  v20 := Tryz.zeroValue20
  t31 := Tryz.underlying91
  a31 := Tryz.isAgg91
  z31 := Tryz.sizeOf91
  v31 := Tryz.zeroValue91
  t37 := Tryz.underlying171
  a37 := Tryz.isAgg171
  z37 := Tryz.sizeOf171
  v37 := Tryz.zeroValue171
  t70 := Tryz.underlying217
  a70 := Tryz.isAgg217
  z70 := Tryz.sizeOf217
  v70 := Tryz.zeroValue217
  t72 := Tryz.underlying219
  a72 := Tryz.isAgg219
  z72 := Tryz.sizeOf219
  v72 := Tryz.zeroValue219
  t75 := Tryz.underlying214
  a75 := Tryz.isAgg214
  z75 := Tryz.sizeOf214
  v75 := Tryz.zeroValue214
  t76 := Tryz.underlying215
  a76 := Tryz.isAgg215
  z76 := Tryz.sizeOf215
  v76 := Tryz.zeroValue215
  t127 := Tryz.underlying252
  a127 := Tryz.isAgg252
  z127 := Tryz.sizeOf252
  v127 := Tryz.zeroValue252
  t164 := Tryz.underlying281
  a164 := Tryz.isAgg281
  z164 := Tryz.sizeOf281
  v164 := Tryz.zeroValue281 }
theorem Sh.Builder_Extra_156 : Builder.Extra Tryz.prog Sh.lays156_ren := {
  sizeBuilder := by kernel_rfl
  liesBuilder := by kernel_rfl
  t5 := Tryz.underlying5
  a5 := Tryz.isAgg5
  z5 := Tryz.sizeOf5
  v5 := Tryz.zeroValue5
  infoByte := by kernel_rfl
  cellsByte := by kernel_rfl
  sizeByte := by kernel_rfl
  neB5 := by decide }
open Go.RowKit in
theorem Sh.strings_Join_none (a : Option Addr) (c : Nat) (sep : ByteArray) (w : World) :
    Calls Tryz.prog 118 #[.slice a 0 c, .string sep] w fun e w' => e = .returned (.string ⟨#[]⟩) ∧ w' = w := Any.strings_Join_none Sh.lays156 Sh.Builder_Extra_156 a c sep w
open Go.RowKit in
theorem Sh.strings_Join (bk o c : Nat) (xs : List ByteArray) (sep : ByteArray) (w : World) (hcells : ∀ (j : Nat) x, xs[j]? = some x → w.cell? ⟨bk, o + j, none⟩ = some (.string x)) (hbk : bk < w.heap.size) (hN : xs.length ≤ 140737488355328) (hcap : xs.length ≤ c) (hlen : (Lib.join (xs.map (·.data.toList)) sep.data.toList).length ≤ 140737488355328) :
    Calls Tryz.prog 118 #[.slice (some ⟨bk, o, none⟩) xs.length c, .string sep] w fun e w' => e = .returned (.string ⟨(Lib.join (xs.map (·.data.toList)) sep.data.toList).toArray⟩) ∧ Below w.heap.size w w' := Any.strings_Join Sh.lays156 Sh.Builder_Extra_156 bk o c xs sep w hcells hbk hN hcap hlen
def Sh.lays172_ren : Go.Shelf.Ren := ⟨fun | 172 => 143 | 244 => 179 | 245 => 180 | 247 => 206 | 279 => 207 | 280 => 208 | 281 => 209 | 282 => 210 | 287 => 229 | 316 => 230 | 171 => 116 | 205 => 231 | 321 => 250 | 322 => 251 | 243 => 150 | 246 => 189 | 283 => 217 | 284 => 218 | 285 => 219 | 286 => 220 | 129 => 242 | 317 => 241 | 318 => 243 | 319 => 244 | 320 => 245 | 337 => 257 | 338 => 258 | n => n, fun | 9 => 9 | 3 => 3 | 75 => 214 | 76 => 215 | 4 => 4 | 5 => 5 | 167 => 264 | 37 => 171 | 0 => 0 | 85 => 265 | 2 => 2 | 168 => 267 | 53 => 276 | 175 => 286 | 46 => 285 | 210 => 290 | 127 => 252 | 145 => 313 | 143 => 311 | 21 => 21 | 171 => 275 | 173 => 279 | 212 => 299 | 51 => 300 | 20 => 20 | 213 => 301 | 232 => 324 | 233 => 325 | 80 => 221 | n => n, fun | 15 => 1 | 16 => 2 | 17 => 3 | 18 => 8 | 19 => 9 | n => n⟩
theorem Sh.lays172 : Go.Proofs.Lays.n172 Tryz.prog Sh.lays172_ren := {
  mixed := by kernel_rfl
  f129 := Tryz.func242.trans (congrArg some (by kernel_rfl))
  f171 := Tryz.func116.trans (congrArg some (by kernel_rfl))
  f172 := Tryz.func143.trans (congrArg some (by kernel_rfl))
  f205 := Tryz.func231.trans (congrArg some (by kernel_rfl))
  f243 := Tryz.func150.trans (congrArg some (by kernel_rfl))
  f244 := Tryz.func179.trans (congrArg some (by kernel_rfl))
  f245 := Tryz.func180.trans (congrArg some (by kernel_rfl))
  f246 := Tryz.func189.trans (congrArg some (by kernel_rfl))
  f247 := Tryz.func206.trans (congrArg some (by kernel_rfl))
  f279 := Tryz.func207.trans (congrArg some (by kernel_rfl))
  f280 := Tryz.func208.trans (congrArg some (by kernel_rfl))
  f281 := Tryz.func209.trans (congrArg some (by kernel_rfl))
  f282 := Tryz.func210.trans (congrArg some (by kernel_rfl))
  f283 := Tryz.func217.trans (congrArg some (by kernel_rfl))
  f284 := Tryz.func218.trans (congrArg some (by kernel_rfl))
  f285 := Tryz.func219.trans (congrArg some (by kernel_rfl))
  f286 := Tryz.func220.trans (congrArg some (by kernel_rfl))
  f287 := Tryz.func229.trans (congrArg some (by kernel_rfl))
  f316 := Tryz.func230.trans (congrArg some (by kernel_rfl))
  f317 := Tryz.func241.trans (congrArg some (by kernel_rfl))
  f318 := Tryz.func243.trans (congrArg some (by kernel_rfl))
  f319 := Tryz.func244.trans (congrArg some (by kernel_rfl))
  f320 := Tryz.func245.trans (congrArg some (by kernel_rfl))
  f321 := Tryz.func250.trans (congrArg some (by kernel_rfl))
  f322 := Tryz.func251.trans (congrArg some (by kernel_rfl))
  f337 := Tryz.func257.trans (congrArg some (by kernel_rfl))
  f338 := Tryz.func258.trans (congrArg some (by kernel_rfl))
  t0 := Tryz.underlying0
  a0 := Tryz.isAgg0
  z0 := Tryz.sizeOf0
  v0 := Tryz.zeroValue0
  t2 := Tryz.underlying2
  a2 := Tryz.isAgg2
  z2 := Tryz.sizeOf2
  v2 := Tryz.zeroValue2
  t3 := Tryz.underlying3
  a3 := Tryz.isAgg3
  z3 := Tryz.sizeOf3
  v3 := Tryz.zeroValue3
  t4 := Tryz.underlying4
  a4 := Tryz.isAgg4
  z4 := Tryz.sizeOf4
  v4 := Tryz.zeroValue4
  t5 := Tryz.underlying5
  a5 := Tryz.isAgg5
  z5 := Tryz.sizeOf5
  v5 := Tryz.zeroValue5
  t9 := Tryz.underlying9
  a9 := Tryz.isAgg9
  z9 := Tryz.sizeOf9
  v9 := Tryz.zeroValue9
  t20 := Tryz.underlying20
  a20 := Tryz.isAgg20
  z20 := Tryz.sizeOf20
  v20 := Tryz.zeroValue20
  t21 := Tryz.underlying21
  a21 := Tryz.isAgg21
  z21 := Tryz.sizeOf21
  v21 := Tryz.zeroValue21
  t37 := Tryz.underlying171
  a37 := Tryz.isAgg171
  z37 := Tryz.sizeOf171
  v37 := Tryz.zeroValue171
  t46 := Tryz.underlying285
  a46 := Tryz.isAgg285
  z46 := Tryz.sizeOf285
  v46 := Tryz.zeroValue285
  t51 := Tryz.underlying300
  a51 := Tryz.isAgg300
  z51 := Tryz.sizeOf300
  v51 := Tryz.zeroValue300
  t53 := Tryz.underlying276
  a53 := Tryz.isAgg276
  z53 := Tryz.sizeOf276
  v53 := Tryz.zeroValue276
  t75 := Tryz.underlying214
  a75 := Tryz.isAgg214
  z75 := Tryz.sizeOf214
  v75 := Tryz.zeroValue214
  t76 := Tryz.underlying215
  a76 := Tryz.isAgg215
  z76 := Tryz.sizeOf215
  v76 := Tryz.zeroValue215
  t85 := Tryz.underlying265
  a85 := Tryz.isAgg265
  z85 := Tryz.sizeOf265
  v85 := Tryz.zeroValue265
  t127 := Tryz.underlying252
  a127 := Tryz.isAgg252
  z127 := Tryz.sizeOf252
  v127 := Tryz.zeroValue252
  t143 := Tryz.underlying311
  a143 := Tryz.isAgg311
  z143 := Tryz.sizeOf311
  v143 := Tryz.zeroValue311
  t145 := Tryz.underlying313
  a145 := Tryz.isAgg313
  z145 := Tryz.sizeOf313
  v145 := Tryz.zeroValue313
  t167 := Tryz.underlying264
  a167 := Tryz.isAgg264
  z167 := Tryz.sizeOf264
  v167 := Tryz.zeroValue264
  t168 := Tryz.underlying267
  a168 := Tryz.isAgg267
  z168 := Tryz.sizeOf267
  v168 := Tryz.zeroValue267
  t171 := Tryz.underlying275
  a171 := Tryz.isAgg275
  z171 := Tryz.sizeOf275
  v171 := Tryz.zeroValue275
  t173 := Tryz.underlying279
  a173 := Tryz.isAgg279
  z173 := Tryz.sizeOf279
  v173 := Tryz.zeroValue279
  t175 := Tryz.underlying286
  a175 := Tryz.isAgg286
  z175 := Tryz.sizeOf286
  v175 := Tryz.zeroValue286
  t210 := Tryz.underlying290
  a210 := Tryz.isAgg290
  z210 := Tryz.sizeOf290
  v210 := Tryz.zeroValue290
  t212 := Tryz.underlying299
  a212 := Tryz.isAgg299
  z212 := Tryz.sizeOf299
  v212 := Tryz.zeroValue299
  t213 := Tryz.underlying301
  a213 := Tryz.isAgg301
  z213 := Tryz.sizeOf301
  t232 := Tryz.underlying324
  a232 := Tryz.isAgg324
  z232 := Tryz.sizeOf324
  v232 := Tryz.zeroValue324
  t233 := Tryz.underlying325
  a233 := Tryz.isAgg325
  z233 := Tryz.sizeOf325
  v233 := Tryz.zeroValue325
  g15 := by kernel_rfl
  g16 := by kernel_rfl
  g17 := by kernel_rfl
  g18 := by kernel_rfl
  g19 := by kernel_rfl }
open Go.RowKit in
theorem Sh.strconv_Atoi (s : ByteArray) (n : Int) (hl : s.size ≤ 18) (h : Lib.atoi s.data.toList = some n) (w : World) :
    Calls Tryz.prog 143 #[.string s] w fun e w' => e = .returned (.tuple #[.int .i64 n, .nilIface]) ∧ ∃ t, w' = Lib.bytesWorld w 5 t := Any.strconv_Atoi Sh.lays172 s n hl h w
def Sh.laysM171_ren : Go.Shelf.Ren := ⟨fun | 171 => 116 | 243 => 150 | 246 => 189 | 283 => 217 | 284 => 218 | 285 => 219 | 286 => 220 | 129 => 242 | 317 => 241 | 318 => 243 | 319 => 244 | 320 => 245 | 337 => 257 | 338 => 258 | n => n, fun | 3 => 3 | 9 => 9 | 2 => 2 | 4 => 4 | 171 => 275 | 0 => 0 | 53 => 276 | 37 => 171 | 5 => 5 | 173 => 279 | 212 => 299 | 51 => 300 | 20 => 20 | 213 => 301 | 46 => 285 | 232 => 324 | 233 => 325 | n => n, fun | 17 => 3 | 18 => 8 | 19 => 9 | n => n⟩
theorem Sh.laysM171 : Go.Proofs.LaysM.n171 Tryz.prog Sh.laysM171_ren := {
  mixed := by kernel_rfl
  f129 := Tryz.func242.trans (congrArg some (by kernel_rfl))
  f171 := Tryz.func116.trans (congrArg some (by kernel_rfl))
  f243 := Tryz.func150.trans (congrArg some (by kernel_rfl))
  f246 := Tryz.func189.trans (congrArg some (by kernel_rfl))
  f283 := Tryz.func217.trans (congrArg some (by kernel_rfl))
  f284 := Tryz.func218.trans (congrArg some (by kernel_rfl))
  f285 := Tryz.func219.trans (congrArg some (by kernel_rfl))
  f286 := Tryz.func220.trans (congrArg some (by kernel_rfl))
  f317 := Tryz.func241.trans (congrArg some (by kernel_rfl))
  f318 := Tryz.func243.trans (congrArg some (by kernel_rfl))
  f319 := Tryz.func244.trans (congrArg some (by kernel_rfl))
  f320 := Tryz.func245.trans (congrArg some (by kernel_rfl))
  f337 := Tryz.func257.trans (congrArg some (by kernel_rfl))
  f338 := Tryz.func258.trans (congrArg some (by kernel_rfl))
  t0 := Tryz.underlying0
  a0 := Tryz.isAgg0
  z0 := Tryz.sizeOf0
  v0 := Tryz.zeroValue0
  t2 := Tryz.underlying2
  a2 := Tryz.isAgg2
  z2 := Tryz.sizeOf2
  v2 := Tryz.zeroValue2
  t3 := Tryz.underlying3
  a3 := Tryz.isAgg3
  z3 := Tryz.sizeOf3
  v3 := Tryz.zeroValue3
  t4 := Tryz.underlying4
  a4 := Tryz.isAgg4
  z4 := Tryz.sizeOf4
  v4 := Tryz.zeroValue4
  t5 := Tryz.underlying5
  a5 := Tryz.isAgg5
  z5 := Tryz.sizeOf5
  v5 := Tryz.zeroValue5
  t9 := Tryz.underlying9
  a9 := Tryz.isAgg9
  z9 := Tryz.sizeOf9
  v9 := Tryz.zeroValue9
  t20 := Tryz.underlying20
  a20 := Tryz.isAgg20
  z20 := Tryz.sizeOf20
  v20 := Tryz.zeroValue20
  t37 := Tryz.underlying171
  a37 := Tryz.isAgg171
  z37 := Tryz.sizeOf171
  v37 := Tryz.zeroValue171
  t46 := Tryz.underlying285
  a46 := Tryz.isAgg285
  z46 := Tryz.sizeOf285
  v46 := Tryz.zeroValue285
  t51 := Tryz.underlying300
  a51 := Tryz.isAgg300
  z51 := Tryz.sizeOf300
  v51 := Tryz.zeroValue300
  t53 := Tryz.underlying276
  a53 := Tryz.isAgg276
  z53 := Tryz.sizeOf276
  v53 := Tryz.zeroValue276
  t171 := Tryz.underlying275
  a171 := Tryz.isAgg275
  z171 := Tryz.sizeOf275
  v171 := Tryz.zeroValue275
  t173 := Tryz.underlying279
  a173 := Tryz.isAgg279
  z173 := Tryz.sizeOf279
  v173 := Tryz.zeroValue279
  t212 := Tryz.underlying299
  a212 := Tryz.isAgg299
  z212 := Tryz.sizeOf299
  v212 := Tryz.zeroValue299
  t213 := Tryz.underlying301
  a213 := Tryz.isAgg301
  z213 := Tryz.sizeOf301
  t232 := Tryz.underlying324
  a232 := Tryz.isAgg324
  z232 := Tryz.sizeOf324
  v232 := Tryz.zeroValue324
  t233 := Tryz.underlying325
  a233 := Tryz.isAgg325
  z233 := Tryz.sizeOf325
  v233 := Tryz.zeroValue325
  g17 := by kernel_rfl
  g18 := by kernel_rfl
  g19 := by kernel_rfl
  i0 := by kernel_rfl
  i2 := by kernel_rfl
  i3 := by kernel_rfl
  i4 := by kernel_rfl
  i5 := by kernel_rfl
  i9 := by kernel_rfl
  i20 := by kernel_rfl
  i37 := by kernel_rfl
  i46 := by kernel_rfl
  i51 := by kernel_rfl
  i53 := by kernel_rfl
  i171 := by kernel_rfl
  i173 := by kernel_rfl
  i212 := by kernel_rfl
  i232 := by kernel_rfl
  i233 := by kernel_rfl
  m17 := by kernel_rfl
  m18 := by kernel_rfl
  m19 := by kernel_rfl }
open Go.RowKit Go.Sort Go.Lib in
theorem Sh.strconv_Itoa (n : Int) (h0 : -9223372036854775808 ≤ n) (h1 : n ≤ 9223372036854775807) (w : World) (htab : Lib.TabIs Tryz.prog w "internal/strconv.uint64pow10" .u64 Lib.pow10Tab) :
    Calls Tryz.prog 116 #[.int .i64 n] w fun e w' => e = .returned (.string ⟨(Lib.itoa n).toArray⟩) ∧ ∃ k os, w' = grow (w.drewN k) os := Any.strconv_Itoa Sh.laysM171 n h0 h1 w htab
def Sh.laysC172_ren : Go.Shelf.Ren := ⟨fun | 172 => 143 | 244 => 179 | 245 => 180 | 247 => 206 | 279 => 207 | 280 => 208 | 281 => 209 | 282 => 210 | 287 => 229 | 316 => 230 | 171 => 116 | 205 => 231 | 321 => 250 | 322 => 251 | 243 => 150 | 246 => 189 | 283 => 217 | 284 => 218 | 285 => 219 | 286 => 220 | 129 => 242 | 317 => 241 | 318 => 243 | 319 => 244 | 320 => 245 | 337 => 257 | 338 => 258 | n => n, fun | 9 => 9 | 3 => 3 | 75 => 214 | 76 => 215 | 4 => 4 | 5 => 5 | 167 => 264 | 37 => 171 | 0 => 0 | 85 => 265 | 2 => 2 | 168 => 267 | 53 => 276 | 175 => 286 | 46 => 285 | 210 => 290 | 127 => 252 | 145 => 313 | 143 => 311 | 21 => 21 | 171 => 275 | 173 => 279 | 212 => 299 | 51 => 300 | 20 => 20 | 213 => 301 | 232 => 324 | 233 => 325 | 80 => 221 | n => n, fun | 15 => 1 | 16 => 2 | 17 => 3 | 18 => 8 | 19 => 9 | n => n⟩
theorem Sh.laysC172 : Go.Proofs.LaysC.n172 Tryz.prog Sh.laysC172_ren := {
  mixed := by kernel_rfl
  f129 := Tryz.func242.trans (congrArg some (by kernel_rfl))
  f171 := Tryz.func116.trans (congrArg some (by kernel_rfl))
  f172 := Tryz.func143.trans (congrArg some (by kernel_rfl))
  f205 := Tryz.func231.trans (congrArg some (by kernel_rfl))
  f243 := Tryz.func150.trans (congrArg some (by kernel_rfl))
  f244 := Tryz.func179.trans (congrArg some (by kernel_rfl))
  f245 := Tryz.func180.trans (congrArg some (by kernel_rfl))
  f246 := Tryz.func189.trans (congrArg some (by kernel_rfl))
  f247 := Tryz.func206.trans (congrArg some (by kernel_rfl))
  f279 := Tryz.func207.trans (congrArg some (by kernel_rfl))
  f280 := Tryz.func208.trans (congrArg some (by kernel_rfl))
  f281 := Tryz.func209.trans (congrArg some (by kernel_rfl))
  f282 := Tryz.func210.trans (congrArg some (by kernel_rfl))
  f283 := Tryz.func217.trans (congrArg some (by kernel_rfl))
  f284 := Tryz.func218.trans (congrArg some (by kernel_rfl))
  f285 := Tryz.func219.trans (congrArg some (by kernel_rfl))
  f286 := Tryz.func220.trans (congrArg some (by kernel_rfl))
  f287 := Tryz.func229.trans (congrArg some (by kernel_rfl))
  f316 := Tryz.func230.trans (congrArg some (by kernel_rfl))
  f317 := Tryz.func241.trans (congrArg some (by kernel_rfl))
  f318 := Tryz.func243.trans (congrArg some (by kernel_rfl))
  f319 := Tryz.func244.trans (congrArg some (by kernel_rfl))
  f320 := Tryz.func245.trans (congrArg some (by kernel_rfl))
  f321 := Tryz.func250.trans (congrArg some (by kernel_rfl))
  f322 := Tryz.func251.trans (congrArg some (by kernel_rfl))
  f337 := Tryz.func257.trans (congrArg some (by kernel_rfl))
  f338 := Tryz.func258.trans (congrArg some (by kernel_rfl))
  t0 := Tryz.underlying0
  a0 := Tryz.isAgg0
  z0 := Tryz.sizeOf0
  v0 := Tryz.zeroValue0
  t2 := Tryz.underlying2
  a2 := Tryz.isAgg2
  z2 := Tryz.sizeOf2
  v2 := Tryz.zeroValue2
  t3 := Tryz.underlying3
  a3 := Tryz.isAgg3
  z3 := Tryz.sizeOf3
  v3 := Tryz.zeroValue3
  t4 := Tryz.underlying4
  a4 := Tryz.isAgg4
  z4 := Tryz.sizeOf4
  v4 := Tryz.zeroValue4
  t5 := Tryz.underlying5
  a5 := Tryz.isAgg5
  z5 := Tryz.sizeOf5
  v5 := Tryz.zeroValue5
  t9 := Tryz.underlying9
  a9 := Tryz.isAgg9
  z9 := Tryz.sizeOf9
  v9 := Tryz.zeroValue9
  t20 := Tryz.underlying20
  a20 := Tryz.isAgg20
  z20 := Tryz.sizeOf20
  v20 := Tryz.zeroValue20
  t21 := Tryz.underlying21
  a21 := Tryz.isAgg21
  z21 := Tryz.sizeOf21
  v21 := Tryz.zeroValue21
  t37 := Tryz.underlying171
  a37 := Tryz.isAgg171
  z37 := Tryz.sizeOf171
  v37 := Tryz.zeroValue171
  t46 := Tryz.underlying285
  a46 := Tryz.isAgg285
  z46 := Tryz.sizeOf285
  v46 := Tryz.zeroValue285
  t51 := Tryz.underlying300
  a51 := Tryz.isAgg300
  z51 := Tryz.sizeOf300
  v51 := Tryz.zeroValue300
  t53 := Tryz.underlying276
  a53 := Tryz.isAgg276
  z53 := Tryz.sizeOf276
  v53 := Tryz.zeroValue276
  t75 := Tryz.underlying214
  a75 := Tryz.isAgg214
  z75 := Tryz.sizeOf214
  v75 := Tryz.zeroValue214
  t76 := Tryz.underlying215
  a76 := Tryz.isAgg215
  z76 := Tryz.sizeOf215
  v76 := Tryz.zeroValue215
  t85 := Tryz.underlying265
  a85 := Tryz.isAgg265
  z85 := Tryz.sizeOf265
  v85 := Tryz.zeroValue265
  t127 := Tryz.underlying252
  a127 := Tryz.isAgg252
  z127 := Tryz.sizeOf252
  v127 := Tryz.zeroValue252
  t143 := Tryz.underlying311
  a143 := Tryz.isAgg311
  z143 := Tryz.sizeOf311
  v143 := Tryz.zeroValue311
  t145 := Tryz.underlying313
  a145 := Tryz.isAgg313
  z145 := Tryz.sizeOf313
  v145 := Tryz.zeroValue313
  t167 := Tryz.underlying264
  a167 := Tryz.isAgg264
  z167 := Tryz.sizeOf264
  v167 := Tryz.zeroValue264
  t168 := Tryz.underlying267
  a168 := Tryz.isAgg267
  z168 := Tryz.sizeOf267
  v168 := Tryz.zeroValue267
  t171 := Tryz.underlying275
  a171 := Tryz.isAgg275
  z171 := Tryz.sizeOf275
  v171 := Tryz.zeroValue275
  t173 := Tryz.underlying279
  a173 := Tryz.isAgg279
  z173 := Tryz.sizeOf279
  v173 := Tryz.zeroValue279
  t175 := Tryz.underlying286
  a175 := Tryz.isAgg286
  z175 := Tryz.sizeOf286
  v175 := Tryz.zeroValue286
  t210 := Tryz.underlying290
  a210 := Tryz.isAgg290
  z210 := Tryz.sizeOf290
  v210 := Tryz.zeroValue290
  t212 := Tryz.underlying299
  a212 := Tryz.isAgg299
  z212 := Tryz.sizeOf299
  v212 := Tryz.zeroValue299
  t213 := Tryz.underlying301
  a213 := Tryz.isAgg301
  z213 := Tryz.sizeOf301
  t232 := Tryz.underlying324
  a232 := Tryz.isAgg324
  z232 := Tryz.sizeOf324
  v232 := Tryz.zeroValue324
  t233 := Tryz.underlying325
  a233 := Tryz.isAgg325
  z233 := Tryz.sizeOf325
  v233 := Tryz.zeroValue325
  g15 := by kernel_rfl
  g16 := by kernel_rfl
  g17 := by kernel_rfl
  g18 := by kernel_rfl
  g19 := by kernel_rfl
  t80 := Tryz.underlying221
  a80 := Tryz.isAgg221
  z80 := Tryz.sizeOf221
  v80 := Tryz.zeroValue221
  i0 := by kernel_rfl
  i2 := by kernel_rfl
  i3 := by kernel_rfl
  i4 := by kernel_rfl
  i5 := by kernel_rfl
  i9 := by kernel_rfl
  i20 := by kernel_rfl
  i21 := by kernel_rfl
  i37 := by kernel_rfl
  i46 := by kernel_rfl
  i51 := by kernel_rfl
  i53 := by kernel_rfl
  i75 := by kernel_rfl
  i76 := by kernel_rfl
  i80 := by kernel_rfl
  i85 := by kernel_rfl
  i127 := by kernel_rfl
  i143 := by kernel_rfl
  i145 := by kernel_rfl
  i167 := by kernel_rfl
  i168 := by kernel_rfl
  i171 := by kernel_rfl
  i173 := by kernel_rfl
  i175 := by kernel_rfl
  i210 := by kernel_rfl
  i212 := by kernel_rfl
  i232 := by kernel_rfl
  i233 := by kernel_rfl
  m15 := by kernel_rfl
  m16 := by kernel_rfl
  m17 := by kernel_rfl
  m18 := by kernel_rfl
  m19 := by kernel_rfl
  c0 := by kernel_rfl
  c2 := by kernel_rfl
  c3 := by kernel_rfl
  c4 := by kernel_rfl
  c5 := by kernel_rfl
  c9 := by kernel_rfl
  c20 := by kernel_rfl
  c21 := by kernel_rfl
  c37 := by kernel_rfl
  c46 := by kernel_rfl
  c51 := by kernel_rfl
  c53 := by kernel_rfl
  c75 := by kernel_rfl
  c76 := by kernel_rfl
  c80 := by kernel_rfl
  c85 := by kernel_rfl
  c127 := by kernel_rfl
  c143 := by kernel_rfl
  c145 := by kernel_rfl
  c167 := by kernel_rfl
  c168 := by kernel_rfl
  c171 := by kernel_rfl
  c173 := by kernel_rfl
  c175 := by kernel_rfl
  c210 := by kernel_rfl
  c212 := by kernel_rfl
  c213 := by kernel_rfl
  c232 := by kernel_rfl
  c233 := by kernel_rfl }
open Go.RowKit in
theorem Sh.strconv_Atoi_err_var (s : ByteArray) (hl : s.size ≤ 18) (h : Lib.atoi s.data.toList = none) (tp : TypeId) (p : Value) (w : World) (hvar : w.var? Tryz.prog "strconv.ErrSyntax" = some #[.iface tp p]) :
    Calls Tryz.prog 143 #[.string s] w fun e w' => ∃ N, e = .returned (.tuple #[.int .i64 0, .iface 267 (.pointer (some ⟨N, 0, none⟩))]) ∧ w.heap.size ≤ N ∧ w'.heap[N]? = some (.cells #[.string ⟨#[65, 116, 111, 105]⟩, .string s, .iface tp p] 290 (0, 0)) ∧ Below w.heap.size w w' := Any.strconv_Atoi_err_var Sh.laysC172 s hl h tp p w hvar
def Sh.lays190_ren : Go.Shelf.Ren := ⟨fun | 190 => 255 | 125 => 261 | 258 => 260 | 128 => 273 | 129 => 242 | 302 => 264 | 303 => 265 | 304 => 266 | 305 => 267 | 306 => 268 | 307 => 269 | 308 => 270 | 309 => 271 | 310 => 272 | 333 => 274 | 329 => 275 | 330 => 276 | 334 => 277 | 335 => 278 | 336 => 279 | 344 => 280 | n => n, fun | 31 => 91 | 9 => 9 | 3 => 3 | 46 => 285 | 0 => 0 | 51 => 300 | 53 => 276 | 4 => 4 | 183 => 339 | 182 => 338 | 131 => 162 | 5 => 5 | 218 => 347 | 222 => 351 | 228 => 353 | 229 => 354 | n => n, fun | n => n⟩
theorem Sh.lays190 : Go.Proofs.Lays.n190 Tryz.prog Sh.lays190_ren := {
  mixed := by kernel_rfl
  f125 := Tryz.func261.trans (congrArg some (by kernel_rfl))
  f128 := Tryz.func273.trans (congrArg some (by kernel_rfl))
  f129 := Tryz.func242.trans (congrArg some (by kernel_rfl))
  f190 := Tryz.func255.trans (congrArg some (by kernel_rfl))
  f258 := Tryz.func260.trans (congrArg some (by kernel_rfl))
  f302 := Tryz.func264.trans (congrArg some (by kernel_rfl))
  f303 := Tryz.func265.trans (congrArg some (by kernel_rfl))
  f304 := Tryz.func266.trans (congrArg some (by kernel_rfl))
  f305 := Tryz.func267.trans (congrArg some (by kernel_rfl))
  f306 := Tryz.func268.trans (congrArg some (by kernel_rfl))
  f307 := Tryz.func269.trans (congrArg some (by kernel_rfl))
  f308 := Tryz.func270.trans (congrArg some (by kernel_rfl))
  f309 := Tryz.func271.trans (congrArg some (by kernel_rfl))
  f310 := Tryz.func272.trans (congrArg some (by kernel_rfl))
  f329 := Tryz.func275.trans (congrArg some (by kernel_rfl))
  f330 := Tryz.func276.trans (congrArg some (by kernel_rfl))
  f333 := Tryz.func274.trans (congrArg some (by kernel_rfl))
  f334 := Tryz.func277.trans (congrArg some (by kernel_rfl))
  f335 := Tryz.func278.trans (congrArg some (by kernel_rfl))
  f336 := Tryz.func279.trans (congrArg some (by kernel_rfl))
  f344 := Tryz.func280.trans (congrArg some (by kernel_rfl))
  t0 := Tryz.underlying0
  a0 := Tryz.isAgg0
  z0 := Tryz.sizeOf0
  v0 := Tryz.zeroValue0
  t3 := Tryz.underlying3
  a3 := Tryz.isAgg3
  z3 := Tryz.sizeOf3
  v3 := Tryz.zeroValue3
  t4 := Tryz.underlying4
  a4 := Tryz.isAgg4
  z4 := Tryz.sizeOf4
  v4 := Tryz.zeroValue4
  t5 := Tryz.underlying5
  a5 := Tryz.isAgg5
  z5 := Tryz.sizeOf5
  v5 := Tryz.zeroValue5
  t9 := Tryz.underlying9
  a9 := Tryz.isAgg9
  z9 := Tryz.sizeOf9
  v9 := Tryz.zeroValue9
  t31 := Tryz.underlying91
  a31 := Tryz.isAgg91
  z31 := Tryz.sizeOf91
  v31 := Tryz.zeroValue91
  t46 := Tryz.underlying285
  a46 := Tryz.isAgg285
  z46 := Tryz.sizeOf285
  v46 := Tryz.zeroValue285
  t51 := Tryz.underlying300
  a51 := Tryz.isAgg300
  z51 := Tryz.sizeOf300
  v51 := Tryz.zeroValue300
  t53 := Tryz.underlying276
  a53 := Tryz.isAgg276
  z53 := Tryz.sizeOf276
  v53 := Tryz.zeroValue276
  t131 := Tryz.underlying162
  a131 := Tryz.isAgg162
  z131 := Tryz.sizeOf162
  v131 := Tryz.zeroValue162
  t182 := Tryz.underlying338
  a182 := Tryz.isAgg338
  z182 := Tryz.sizeOf338
  v182 := Tryz.zeroValue338
  t183 := Tryz.underlying339
  a183 := Tryz.isAgg339
  z183 := Tryz.sizeOf339
  v183 := Tryz.zeroValue339
  t218 := Tryz.underlying347
  a218 := Tryz.isAgg347
  z218 := Tryz.sizeOf347
  v218 := Tryz.zeroValue347
  t222 := Tryz.underlying351
  a222 := Tryz.isAgg351
  z222 := Tryz.sizeOf351
  v222 := Tryz.zeroValue351
  t228 := Tryz.underlying353
  a228 := Tryz.isAgg353
  z228 := Tryz.sizeOf353
  v228 := Tryz.zeroValue353
  t229 := Tryz.underlying354
  a229 := Tryz.isAgg354
  z229 := Tryz.sizeOf354
  v229 := Tryz.zeroValue354 }
open Go.Sort Go.RowKit in
theorem Sh.slices_Sort_string (blk off cap : Nat) (ss : List (List UInt8)) (w : World) (hH : Holds encStr w blk off ss.toArray) (hblk : blk < w.heap.size) (hsz : ss.length < 4611686018427387904) :
    Calls Tryz.prog 255 #[.slice (some ⟨blk, off, none⟩) ss.length cap] w fun e w' =>
      e = .returned (.tuple #[]) ∧ ∃ n os, w' = grow (putRow encStr (Sort.ahead w n) blk off (ss.mergeSort fun x y => decide (x ≤ y)).toArray) os := Any.slices_Sort_string Sh.lays190 blk off cap ss w hH hblk hsz
def Sh.lays146_ren : Go.Shelf.Ren := ⟨fun | 146 => 109 | 221 => 142 | 268 => 176 | 138 => 177 | 143 => 178 | 195 => 202 | 197 => 203 | 218 => 204 | 219 => 205 | 260 => 224 | 217 => 225 | 225 => 226 | 224 => 227 | 267 => 228 | 266 => 248 | 314 => 249 | n => n, fun | 9 => 9 | 31 => 91 | 3 => 3 | 4 => 4 | 0 => 0 | 105 => 261 | 21 => 21 | 5 => 5 | 46 => 285 | 119 => 304 | 139 => 307 | 138 => 306 | 146 => 308 | 51 => 300 | n => n, fun | 1 => 0 | 3 => 4 | 4 => 5 | n => n⟩
theorem Sh.lays146 : Go.Proofs.Lays.n146 Tryz.prog Sh.lays146_ren := {
  mixed := by kernel_rfl
  f138 := Tryz.func177.trans (congrArg some (by kernel_rfl))
  f143 := Tryz.func178.trans (congrArg some (by kernel_rfl))
  f146 := Tryz.func109.trans (congrArg some (by kernel_rfl))
  f195 := Tryz.func202.trans (congrArg some (by kernel_rfl))
  f197 := Tryz.func203.trans (congrArg some (by kernel_rfl))
  f217 := Tryz.func225.trans (congrArg some (by kernel_rfl))
  f218 := Tryz.func204.trans (congrArg some (by kernel_rfl))
  f219 := Tryz.func205.trans (congrArg some (by kernel_rfl))
  f221 := Tryz.func142.trans (congrArg some (by kernel_rfl))
  f224 := Tryz.func227.trans (congrArg some (by kernel_rfl))
  f225 := Tryz.func226.trans (congrArg some (by kernel_rfl))
  f260 := Tryz.func224.trans (congrArg some (by kernel_rfl))
  f266 := Tryz.func248.trans (congrArg some (by kernel_rfl))
  f267 := Tryz.func228.trans (congrArg some (by kernel_rfl))
  f268 := Tryz.func176.trans (congrArg some (by kernel_rfl))
  f314 := Tryz.func249.trans (congrArg some (by kernel_rfl))
  t0 := Tryz.underlying0
  a0 := Tryz.isAgg0
  z0 := Tryz.sizeOf0
  v0 := Tryz.zeroValue0
  t3 := Tryz.underlying3
  a3 := Tryz.isAgg3
  z3 := Tryz.sizeOf3
  v3 := Tryz.zeroValue3
  t4 := Tryz.underlying4
  a4 := Tryz.isAgg4
  z4 := Tryz.sizeOf4
  v4 := Tryz.zeroValue4
  t5 := Tryz.underlying5
  a5 := Tryz.isAgg5
  z5 := Tryz.sizeOf5
  v5 := Tryz.zeroValue5
  t9 := Tryz.underlying9
  a9 := Tryz.isAgg9
  z9 := Tryz.sizeOf9
  v9 := Tryz.zeroValue9
  t21 := Tryz.underlying21
  a21 := Tryz.isAgg21
  z21 := Tryz.sizeOf21
  v21 := Tryz.zeroValue21
  t31 := Tryz.underlying91
  a31 := Tryz.isAgg91
  z31 := Tryz.sizeOf91
  v31 := Tryz.zeroValue91
  t46 := Tryz.underlying285
  a46 := Tryz.isAgg285
  z46 := Tryz.sizeOf285
  v46 := Tryz.zeroValue285
  t51 := Tryz.underlying300
  a51 := Tryz.isAgg300
  z51 := Tryz.sizeOf300
  v51 := Tryz.zeroValue300
  t105 := Tryz.underlying261
  a105 := Tryz.isAgg261
  z105 := Tryz.sizeOf261
  v105 := Tryz.zeroValue261
  t119 := Tryz.underlying304
  a119 := Tryz.isAgg304
  z119 := Tryz.sizeOf304
  t138 := Tryz.underlying306
  a138 := Tryz.isAgg306
  z138 := Tryz.sizeOf306
  v138 := Tryz.zeroValue306
  t139 := Tryz.underlying307
  a139 := Tryz.isAgg307
  z139 := Tryz.sizeOf307
  v139 := Tryz.zeroValue307
  t146 := Tryz.underlying308
  a146 := Tryz.isAgg308
  z146 := Tryz.sizeOf308
  v146 := Tryz.zeroValue308
  g1 := by kernel_rfl
  g3 := by kernel_rfl
  g4 := by kernel_rfl }
open Go.RowKit Go.Lib in
theorem Sh.strings_Split (s sep : ByteArray) (m : Int) (w : World) (hs : s.size < 4294967281) (hm : w.cell? ⟨0, 0, none⟩ = some (.int .i64 m)) (h1 : 1 ≤ sep.size) :
    Calls Tryz.prog 109 #[.string s, .string sep] w fun e w' =>
      e = .returned (.slice (some ⟨w.heap.size, 0, none⟩) (Lib.countB s sep + 1) (Lib.countB s sep + 1)) ∧ w' = w.alloc (.cells ((Lib.splitB sep 0 (Lib.countB s sep) s).map Value.string).toArray 9) := Any.strings_Split Sh.lays146 (by kernel_rfl) s sep m w hs hm h1
def Sh.lays157_ren : Go.Shelf.Ren := ⟨fun | 157 => 234 | 229 => 252 | 199 => 253 | 261 => 259 | 311 => 262 | 312 => 263 | n => n, fun | 9 => 9 | 31 => 91 | 3 => 3 | 5 => 5 | 4 => 4 | 119 => 304 | 0 => 0 | 40 => 315 | 152 => 318 | 21 => 21 | 154 => 320 | 51 => 300 | 141 => 322 | 196 => 329 | 193 => 326 | 198 => 332 | 49 => 330 | 194 => 327 | 201 => 335 | 226 => 345 | 46 => 285 | 227 => 346 | n => n, fun | 0 => 6 | 6 => 7 | n => n⟩
theorem Sh.lays157 : Go.Proofs.Lays.n157 Tryz.prog Sh.lays157_ren := {
  mixed := by kernel_rfl
  f157 := Tryz.func234.trans (congrArg some (by kernel_rfl))
  f199 := Tryz.func253.trans (congrArg some (by kernel_rfl))
  f229 := Tryz.func252.trans (congrArg some (by kernel_rfl))
  f261 := Tryz.func259.trans (congrArg some (by kernel_rfl))
  f311 := Tryz.func262.trans (congrArg some (by kernel_rfl))
  f312 := Tryz.func263.trans (congrArg some (by kernel_rfl))
  t0 := Tryz.underlying0
  a0 := Tryz.isAgg0
  z0 := Tryz.sizeOf0
  v0 := Tryz.zeroValue0
  t3 := Tryz.underlying3
  a3 := Tryz.isAgg3
  z3 := Tryz.sizeOf3
  v3 := Tryz.zeroValue3
  t4 := Tryz.underlying4
  a4 := Tryz.isAgg4
  z4 := Tryz.sizeOf4
  v4 := Tryz.zeroValue4
  t5 := Tryz.underlying5
  a5 := Tryz.isAgg5
  z5 := Tryz.sizeOf5
  v5 := Tryz.zeroValue5
  t9 := Tryz.underlying9
  a9 := Tryz.isAgg9
  z9 := Tryz.sizeOf9
  v9 := Tryz.zeroValue9
  t21 := Tryz.underlying21
  a21 := Tryz.isAgg21
  z21 := Tryz.sizeOf21
  v21 := Tryz.zeroValue21
  t31 := Tryz.underlying91
  a31 := Tryz.isAgg91
  z31 := Tryz.sizeOf91
  v31 := Tryz.zeroValue91
  t40 := Tryz.underlying315
  a40 := Tryz.isAgg315
  z40 := Tryz.sizeOf315
  v40 := Tryz.zeroValue315
  t46 := Tryz.underlying285
  a46 := Tryz.isAgg285
  z46 := Tryz.sizeOf285
  v46 := Tryz.zeroValue285
  t49 := Tryz.underlying330
  a49 := Tryz.isAgg330
  z49 := Tryz.sizeOf330
  v49 := Tryz.zeroValue330
  t51 := Tryz.underlying300
  a51 := Tryz.isAgg300
  z51 := Tryz.sizeOf300
  v51 := Tryz.zeroValue300
  t119 := Tryz.underlying304
  a119 := Tryz.isAgg304
  z119 := Tryz.sizeOf304
  t141 := Tryz.underlying322
  a141 := Tryz.isAgg322
  z141 := Tryz.sizeOf322
  v141 := Tryz.zeroValue322
  t152 := Tryz.underlying318
  a152 := Tryz.isAgg318
  z152 := Tryz.sizeOf318
  v152 := Tryz.zeroValue318
  t154 := Tryz.underlying320
  a154 := Tryz.isAgg320
  z154 := Tryz.sizeOf320
  v154 := Tryz.zeroValue320
  t193 := Tryz.underlying326
  a193 := Tryz.isAgg326
  z193 := Tryz.sizeOf326
  v193 := Tryz.zeroValue326
  t194 := Tryz.underlying327
  a194 := Tryz.isAgg327
  z194 := Tryz.sizeOf327
  v194 := Tryz.zeroValue327
  t196 := Tryz.underlying329
  a196 := Tryz.isAgg329
  z196 := Tryz.sizeOf329
  v196 := Tryz.zeroValue329
  t198 := Tryz.underlying332
  a198 := Tryz.isAgg332
  z198 := Tryz.sizeOf332
  v198 := Tryz.zeroValue332
  t201 := Tryz.underlying335
  a201 := Tryz.isAgg335
  z201 := Tryz.sizeOf335
  v201 := Tryz.zeroValue335
  t226 := Tryz.underlying345
  a226 := Tryz.isAgg345
  z226 := Tryz.sizeOf345
  v226 := Tryz.zeroValue345
  t227 := Tryz.underlying346
  a227 := Tryz.isAgg346
  z227 := Tryz.sizeOf346
  v227 := Tryz.zeroValue346
  g0 := by kernel_rfl
  g6 := by kernel_rfl }
open Go.RowKit Go.Lib in
theorem Sh.strings_Fields (s : ByteArray) (w : World) (hs : s.size < 4294967281) (hascii : ∀ (j : Nat) b, s.data.toList[j]? = some b → b.toNat < 128) (htab : Lib.TabIs Tryz.prog w "strings.asciiSpace" .u8 Lib.asciiSpaceTab) :
    Calls Tryz.prog 234 #[.string s] w fun e w' =>
      e = .returned (.slice (some ⟨w.heap.size, 0, none⟩) (Lib.fields s.data.toList).length (Lib.fields s.data.toList).length) ∧ w' = w.alloc (.cells ((Lib.fields s.data.toList).map fun l => Value.string ⟨l.toArray⟩).toArray 9) := Any.strings_Fields Sh.lays157 (by kernel_rfl) (by kernel_rfl) s w hs hascii htab
def Sh.lays194_ren : Go.Shelf.Ren := ⟨fun | 194 => 256 | n => n, fun | 31 => 91 | 9 => 9 | 3 => 3 | 4 => 4 | 0 => 0 | n => n, fun | n => n⟩
theorem Sh.lays194 : Go.Proofs.Lays.n194 Tryz.prog Sh.lays194_ren := {
  mixed := by kernel_rfl
  f194 := Tryz.func256.trans (congrArg some (by kernel_rfl))
  t0 := Tryz.underlying0
  a0 := Tryz.isAgg0
  z0 := Tryz.sizeOf0
  v0 := Tryz.zeroValue0
  t3 := Tryz.underlying3
  a3 := Tryz.isAgg3
  z3 := Tryz.sizeOf3
  v3 := Tryz.zeroValue3
  t4 := Tryz.underlying4
  a4 := Tryz.isAgg4
  z4 := Tryz.sizeOf4
  v4 := Tryz.zeroValue4
  t9 := Tryz.underlying9
  a9 := Tryz.isAgg9
  z9 := Tryz.sizeOf9
  v9 := Tryz.zeroValue9
  t31 := Tryz.underlying91
  a31 := Tryz.isAgg91
  z31 := Tryz.sizeOf91
  v31 := Tryz.zeroValue91 }
open Go.RowKit Go.Lib Go.Sort in
theorem Sh.slices_Compact_string (blk off cap : Nat) (zs : List (List UInt8)) (w : World) (hH : Holds encStr w blk off zs.toArray) (hsz : zs.length ≤ 9223372036854775807) (hcap : zs.length ≤ cap) :
    Calls Tryz.prog 256 #[.slice (some ⟨blk, off, none⟩) zs.length cap] w fun e w' => e = .returned (.slice (some ⟨blk, off, none⟩) (Lib.compact zs).length cap) ∧ ∃ q, w' = putRow encStr (Sort.ahead w q) blk off (Lib.compact zs ++ List.replicate (zs.length - (Lib.compact zs).length) []).toArray := Any.slices_Compact_string Sh.lays194 blk off cap zs w hH hsz hcap
open Go.RowKit Go.Lib Go.Sort in
theorem Sh.slices_Compact_string_empty (a : Option Addr) (cap : Nat) (w : World) :
    Calls Tryz.prog 256 #[.slice a 0 cap] w fun e w' => e = .returned (.slice a 0 cap) ∧ w' = w := Any.slices_Compact_string_empty Sh.lays194 a cap w
open Go.RowKit Go.Sort in
theorem Sh.slices_Sort_string_none (p : Option Addr) (cap : Nat) (w : World) :
    Calls Tryz.prog 255 #[.slice p 0 cap] w fun e w' => e = .returned (.tuple #[]) ∧ w' = w := Any.slices_Sort_string_none Sh.lays190 p cap w
end
section
open Go.RowKit
theorem Qbd (l : List ByteArray) : ATake Tryz.prog 255 1 (eL l) [] false true (eL (Fe l)) := by
  have h := DH oneS (P := Tryz.prog) (f := 255) (by unfold Bu; kernel_rfl) (fun l => l.mergeSort fun x y => decide (x ≤ y)) (fun l => List.length_mergeSort _) (fun l x h => (List.mergeSort_perm l _).mem_iff.1 h) (fun oa cap w => Sh.slices_Sort_string_none oa cap w) (fun g cap l w h h2 h3 => Sh.slices_Sort_string g 0 cap l w h h2 h3) l
  exact h
theorem Qbe (l : List ByteArray) : ATake Tryz.prog 256 1 (eL l) [] false false (eL (Rn l)) := by
  have h := DI oneS (P := Tryz.prog) (f := 256) (by unfold Bu; kernel_rfl) Lib.compact XT PJ (fun oa cap w => Sh.slices_Compact_string_empty oa cap w) (fun g cap l w h h2 h3 => (Sh.slices_Compact_string g 0 cap l w h h2 h3).mono (by rintro e w' ⟨h4, q, h5⟩; exact ⟨h4, q, _, by have := XT l; simp; omega, h5⟩)) l
  exact h
open GoE (enc wide)
def Bm (s_ : ByteArray) (k0 : Nat) (a0 : ByteArray) (_ : Unit) : Rd ((List ByteArray)) (Unit) (Int) := (bif (Op.bytesLess a0.toList s_.toList) then (.next ()) else (.brk ((k0 : Nat) : Int)))
def Bn (k0 : Nat) (_ : Unit) : Int := ((k0 : Nat) : Int)
def Bv (list : (List ByteArray)) (s_ : ByteArray) : (List ByteArray) := (Out.on (Yt (Bm s_) Bn list 0 ()) (fun y0 => (bif (decide (y0 < (list.length : Int)) && ((nth list (Int.toNat y0)).toList == s_.toList)) then list else List.take (Int.toNat y0) list ++ [s_] ++ (List.drop (Int.toNat y0) list))))
theorem JW (list : (List ByteArray)) (s_ : ByteArray) (hp : list.length < 1073741824) : ACalls Tryz.prog 247 [.h list, .s s_] (.h (Bv list s_)) := by
 refine en Qa Tryz.func247 fun w0 F0 hG => ?_
 refine sn Qa [0, 1, 4] [] (p0) ?_
 refine tn Qa [0, 1, 4, 5] [] (p0) ?_
 refine Qc ?_
 refine mz [(4, .e 0), (5, .i 0)] [] [] [] ?_
 refine wT 0 0 .sh list (fun hw1 hl2 => ?_)
 refine Qfc (Bm s_) Bn list () (fun k0 _ => [(5, .i ((k0 : Nat) : Int))]) [5] (fun y0 => [(5, .i y0)]) [5] (fun y0 => 0 ≤ y0 ∧ y0 ≤ (list.length : Int)) wf0 (fun k0 s0 hk0 hI0 => ?_) (fun k0 s0 hk0 hI0 => ?_) (fun y0 hD0 => ?_)
 ·
  obtain ⟨a0, hx0⟩ := Yi (l := list) (i := k0) hk0
  refine Qc ?_
  refine sn Qa [0, 1, 4, 5, 18] [] (pl 2 list (pe 3 (Qz (decide_eq_true (p := ((k0 : Nat) : Int) < (list.length : Int)) (by omega))) (pn 7 hx0 p0))) ?_
  refine ck (Op.bytesLess a0.toList s_.toList) (fun h3 => ?_) (fun h3 => ?_)
  ·
   refine Qf ?_
   refine Qy ?_
   refine qn Qa [0, 1, 4, 5] [] (pe 1 (Jr (Q1 k0 (by omega))) p0) ?_
   exact xw _ (Xl hx0 (Xi h3 (rfl)) hI0)
  refine Xs ?_
  exact xw ((k0 : Nat) : Int) ⟨PD hx0 (Qk h3 (rfl)) hI0, by first | omega | (simp only [List.length_set]; omega)⟩
 ·
  refine Qc ?_
  refine sn Qa [0, 1, 4, 5, 18] [] (pl 2 list (pe 3 (Qz (decide_eq_false (p := ((k0 : Nat) : Int) < (list.length : Int)) (by omega))) p0)) ?_
  refine ckF ?_
  refine Xs ?_
  exact xw ((k0 : Nat) : Int) ⟨Yn hk0 (rfl) hI0, by first | omega | (simp only [List.length_set]; omega)⟩
 have hD0_0 := hD0.2
 refine Qc ?_
 refine Qc ?_
 refine jn [(32, .b (decide (y0 < (list.length : Int)) && ((nth list (Int.toNat y0)).toList == s_.toList)))] [] [] [] (decide (y0 < (list.length : Int))) (fun h4 => ?_) (fun h4 => ?_) ?_
 ·
  have h4d := of_decide_eq_true h4
  have hx5 := ng list (Int.toNat y0)
  refine rn Qa [0, 1, 4, 5, 32] [] (pl 2 list (pt 3 h4 (pg 7 y0 hx5 p0))) ?_
  exact ⟨rfl, Qd (by rw [h4] <;> kernel_rfl)⟩
 ·
  refine rn Qa [0, 1, 4, 5, 32] [] (pl 2 list (pf 3 h4 p0)) ?_
  exact ⟨rfl, Qd (by rw [h4] <;> kernel_rfl)⟩
 refine ck (decide (y0 < (list.length : Int)) && ((nth list (Int.toNat y0)).toList == s_.toList)) (fun h6 => ?_) (fun h6 => ?_)
 ·
  refine sn Qa [0, 1, 4, 5] [] (p0) ?_
  refine Qe ?_
  exact ph0 [] (V4 hD0.1 (Xi h6 (rfl)))
 refine Qf ?_
 have hl7 : List.length (List.take (Int.toNat y0) list) ≤ 1073741824 := I9 (GQ (Int.toNat y0) (hw1))
 refine su Qa [(6, .one (.slc (.own true 2624) 1 (([] ++ (eL (List.take (Int.toNat y0) list))) ++ [[.s s_]])))] [1, 32] [] [] (pe 3 (Qay .sh 1 (Int.toNat y0) y0 list rfl) (px (Co (lo := 0) (hi := y0) (n := (List.length (eL list))) (SS (by omega) (by omega) (by omega))) (po 4 (.flat) (px (I4 (n := (([] : List (List PV)).length + ((eL (List.take (Int.toNat y0) list)) : List (List PV)).length)) (Nw (rfl) (Yv (List.take (Int.toNat y0) list)) (by first | omega | (simp only [List.length_cons, List.length_nil]; omega) | (simp; omega) | simp))) (px (G5 (E3 (List.take (Int.toNat y0) list))) (px (I4 (n := ((([] ++ (eL (List.take (Int.toNat y0) list))) : List (List PV)).length + ([[.s s_]] : List (List PV)).length)) (by simp [Yv]; omega)) p0)))))) ?_
 refine eqn [(6, .o 2624 (List.take (Int.toNat y0) list ++ [s_]))] [6] [] [] (by rw [show (([] ++ (eL (List.take (Int.toNat y0) list))) ++ [[.s s_]]) = (eL (List.take (Int.toNat y0) list ++ [s_])) from Je (rfl) (rfl)]; first | done | kernel_rfl) ?_
 refine wT 6 0 (.own true 2624) (List.take (Int.toNat y0) list ++ [s_]) (fun hw8 hl9 => ?_)
 have hl10 : List.length (List.drop (Int.toNat y0) list) ≤ 1073741824 := I9 (GR (Int.toNat y0) (hw1))
 refine su Qa [(4, .one (.slc (.own true 2944) 1 ((eL (List.take (Int.toNat y0) list ++ [s_])) ++ (eL (List.drop (Int.toNat y0) list)))))] [0, 4, 5, 6] [] [] (pe 3 (My .sh 1 (Int.toNat y0) y0 list rfl) (px (Co (lo := y0) (hi := (((eL list) : List (List PV)).length : Int)) (n := (List.length (eL list))) (Mz (by omega) (by omega))) (po 4 (.flat) (pa (List.take (Int.toNat y0) list ++ [s_]) (List.drop (Int.toNat y0) list) (px (G5 (E3 (List.drop (Int.toNat y0) list))) p0))))) ?_
 refine eqn [(4, .o 2944 (List.take (Int.toNat y0) list ++ [s_] ++ (List.drop (Int.toNat y0) list)))] [4] [] [] (by rw [show ((eL (List.take (Int.toNat y0) list ++ [s_])) ++ (eL (List.drop (Int.toNat y0) list))) = (eL (List.take (Int.toNat y0) list ++ [s_] ++ (List.drop (Int.toNat y0) list))) from Je (rfl) (rfl)]; first | done | kernel_rfl) ?_
 refine Qe ?_
 exact ph0 [2944] (V4 hD0.1 (Qk h6 (rfl)))
theorem toList_inj {a b : ByteArray} : (a.toList == b.toList) = decide (a = b) := by
  rw [ByteArray.toList_eq, ByteArray.toList_eq, Bool.eq_iff_iff]
  simp only [beq_iff_eq, decide_eq_true_eq]
  exact ⟨fun h => ByteArray.ext (Array.ext' h), fun h => h ▸ rfl⟩
def Aa (l : List ByteArray) (s : ByteArray) : Nat := (l.takeWhile fun x => bl x s).length
theorem Rs (a : ByteArray) (l : List ByteArray) (s : ByteArray) : Aa (a :: l) s = if bl a s = true then Aa l s + 1 else 0 := by
  unfold Aa
  rw [List.takeWhile_cons]
  cases bl a s <;> simp
theorem QB (s : ByteArray) : ∀ (l : List ByteArray) (k : Nat), Yt (Bm s) Bn l k () = .brk (((k + Aa l s : Nat)) : Int)
  | [], k => by simp [Yt, Bn, Aa]
  | a :: l, k => by
    rw [Rs]
    simp only [Yt, Bm]
    cases h : Op.bytesLess a.toList s.toList with
    | true =>
      have h' : bl a s = true := h
      simp only [cond_true, h', if_true]
      rw [QB s l (k + 1), show k + 1 + Aa l s = k + (Aa l s + 1) by omega]
    | false =>
      have h' : bl a s = false := h
      simp [h']
theorem IT (s : ByteArray) : ∀ l : List ByteArray, JQ l s = bif (decide (((Aa l s : Nat) : Int) < (l.length : Int)) && ((nth l (Aa l s)).toList == s.toList)) then l else List.take (Aa l s) l ++ [s] ++ List.drop (Aa l s) l
  | [] => by simp [JQ, Aa]
  | a :: l => by
    rw [Rs, JQ]
    cases h : bl a s with
    | true =>
      simp only [if_true]
      rw [IT s l]
      have e : nth (a :: l) (Aa l s + 1) = nth l (Aa l s) := rfl
      rw [e, show decide ((((Aa l s + 1 : Nat)) : Int) < ((a :: l).length : Int)) = decide (((Aa l s : Nat) : Int) < (l.length : Int)) by
        rw [Bool.eq_iff_iff]; simp only [decide_eq_true_eq, List.length_cons]; omega]
      generalize (decide (((Aa l s : Nat) : Int) < (l.length : Int)) && ((nth l (Aa l s)).toList == s.toList)) = c
      cases c <;> simp
    | false =>
      have e : nth (a :: l) 0 = a := rfl
      simp only [Bool.false_eq_true, if_false]
      rw [e, toList_inj]
      by_cases hs : a = s
      · simp [hs]
      simp [hs]
theorem JX (l : List ByteArray) (s : ByteArray) : Bv l s = JQ l s := by
  unfold Bv
  rw [QB, IT]
  simp only [Out.on, Nat.zero_add, Int.toNat_natCast]
theorem IU (l : List ByteArray) (s : ByteArray) : List.length (Bv l s) ≤ List.length l + 1 := by rw [JX]; exact BG s l
open GoE (enc wide)
def Kk (n : Qw) : Bool := ((n.1 == (8 : Int)) || (n.1 == (9 : Int)))
theorem Gj (n : Qw) : ACalls Tryz.prog 239 [.a [.i n.1, .i n.2.1, .i n.2.2.1, .s n.2.2.2.1, .i n.2.2.2.2.1, .i n.2.2.2.2.2.1, .s n.2.2.2.2.2.2]] (.b (Kk n)) := by
 refine en Qa Tryz.func239 fun w0 F0 hG => ?_
 refine sn Qa [1, 2] [1] (p0) ?_
 refine Qc ?_
 refine mz [(1, .p 1 0), (2, .b false)] [0] [(1, [.i n.1, .i n.2.1, .i n.2.2.1, .s n.2.2.2.1, .i n.2.2.2.2.1, .i n.2.2.2.2.2.1, .s n.2.2.2.2.2.2])] [] ?_
 refine jn [(2, .b ((n.1 == (8 : Int)) || (n.1 == (9 : Int))))] [1, 2] [] [1] (n.1 == (8 : Int)) (fun h1 => ?_) (fun h1 => ?_) ?_
 ·
  refine rn Qa [2] [] (pt 2 h1 p0) ?_
  exact ⟨rfl, Qd (by rw [h1] <;> kernel_rfl)⟩
 ·
  refine rn Qa [2] [] (pf 2 h1 p0) ?_
  exact ⟨rfl, Qd (by rw [h1] <;> kernel_rfl)⟩
 refine Qe ?_
 exact pb [] (show Kk n = ((n.1 == (8 : Int)) || (n.1 == (9 : Int))) from rfl)
def C2 (l : (List ByteArray)) : (List ByteArray) := Rn (Fe l)
theorem N9 (l : (List ByteArray)) : ACalls Tryz.prog 240 [.h l] (.h (C2 l)) := by
 refine en Qa Tryz.func240 fun w0 F0 hG => ?_
 refine sn Qa [0, 2] [] (p0) ?_
 refine tn Qa [2, 3] [] (pc 1 (XR l) p0) ?_
 refine mz [(2, .e 0), (3, .o 320 l)] [0] [] [] ?_
 refine UA [320] rfl ?_
 refine su Qa [(3, .one (.slc (.own false 320) 1 (NF (eL l) 0 4294967296 (List.flatten (eL (Fe l))))))] [3] [] [] (po 1 (.take false true (eL (Fe l))) (px (GD (Qbd l)) p0)) ?_
 refine eqn [(3, .q 320 (Fe l))] [3] [] [] (by rw [PK (fun _ => rfl) (JO _)] <;> kernel_rfl) ?_
 refine sn Qa [2] [] (po 1 (.take false false (eL (Rn (Fe l)))) (px (GD (Qbe (Fe l))) p0)) ?_
 refine Qe ?_
 exact ph0 [576] (show C2 l = Rn (Fe l) from rfl)
def K1 (q : (List Qw)) (negated : Bool) (k0 : Nat) (a0 : Bool) (s0 : (List ByteArray)) : Rd ((List ByteArray)) ((List ByteArray)) ((List ByteArray)) := (bif ((Kk (nth q k0)) && (a0 == negated)) then (.next (s0 ++ [(nth q k0).2.2.2.1])) else (.next s0))
def Wf (_ : Nat) (s0 : (List ByteArray)) : (List ByteArray) := s0
def Ki (q : (List Qw)) (negated : Bool) : (List ByteArray) := (Out.on (Yt (K1 q negated) Wf (Ye q) 0 []) (fun y0 => (C2 y0)))
theorem Fg (q : (List Qw)) (negated : Bool) : ACalls Tryz.prog 216 [.h q, .b negated] (.h (Ki q negated)) := by
 refine en Qa Tryz.func216 fun w0 F0 hG => ?_
 have hnl := Ib q
 refine sn Qa [0, 1, 4] [] (p0) ?_
 refine tn Qa [0, 1, 4, 5] [] (p0) ?_
 refine Qc ?_
 refine tu Qa [(4, .e 0), (5, .one (.slc (.own true 512) 1 [])), (10, .o 640 (Ye q)), (11, .i ((Ye q).length : Int)), (12, .i 0)] [] [] [] (pc 1 (Le q) (pl 2 (Ye q) p0)) ?_
 refine wT 10 0 (.own true 640) (Ye q) (fun hw1 hl2 => ?_)
 refine Qa3 (K1 q negated) Wf (Ye q) [] (fun k0 s0 => [(5, .o 147203 s0), (12, .i ((k0 : Nat) : Int))]) [5, 12] (fun y0 => [(5, .o 147353 y0)]) [0, 1, 5, 10, 11, 12] (fun k0 s0 => List.length s0 ≤ k0) (Ys [(512, 147203)] (by kernel_rfl)) (by simp) (fun k0 s0 hk0 hI0 => ?_) (fun k0 s0 hk0 hI0 => ?_) (fun y0 hD0 => ?_)
 ·
  have hA0_0 := hI0.2
  obtain ⟨a0, hx0⟩ := Yi (l := Ye q) (i := k0) hk0
  refine su Qa [(13, .b true)] [] [] [] (pe 0 (Qz (decide_eq_true (p := ((k0 : Nat) : Int) < ((Ye q).length : Int)) (by omega))) p0) ?_
  refine Qc ?_
  refine ckT ?_
  refine Qf ?_
  refine Qc ?_
  refine Qy ?_
  refine sn Qa [0, 1, 4, 5, 6, 7, 10, 11, 12] [] (pN 1 hx0 p0) ?_
  refine Qc ?_
  refine mz [(6, .i ((k0 : Nat) : Int)), (7, .b a0)] [13] [] [] ?_
  refine jn [(26, .b ((Kk (nth q k0)) && (a0 == negated)))] [7] [] [] (Kk (nth q k0)) (fun h3 => ?_) (fun h3 => ?_) ?_
  ·
   refine wT 0 0 .sh q (fun hw5 hl6 => ?_)
   have hx4 := ng q k0
   refine rn Qa [0, 1, 4, 5, 6, 10, 11, 12, 26] [] (pn 2 hx4 (pc 4 (cb h3 (Gj (nth q k0))) p0)) ?_
   exact ⟨rfl, Qd (by rw [h3] <;> kernel_rfl)⟩
  ·
   refine wT 0 0 .sh q (fun hw8 hl9 => ?_)
   have hx7 := ng q k0
   refine ru Qa [(26, .b false)] [7] [] [] (pn 2 hx7 (pc 4 (cb h3 (Gj (nth q k0))) p0)) ?_
   exact ⟨rfl, Qd (by rw [h3] <;> kernel_rfl)⟩
  refine ck ((Kk (nth q k0)) && (a0 == negated)) (fun h10 => ?_) (fun h10 => ?_)
  ·
   have h10r : ((a0 == negated)) = true := N8 h10
   have h10rd := eq_of_beq h10r
   refine wT 0 0 .sh q (fun hw12 hl13 => ?_)
   have hx11 := ng q k0
   refine wT 5 0 (.own true 147203) s0 (fun hw14 hl15 => ?_)
   refine ru Qa [(5, .one (.slc (.own true 2176) 1 ((eL s0) ++ [[.s ((nth q k0).2.2.2.1)]])))] [5, 6, 26] [] [] (pn 3 hx11 (pa s0 [(nth q k0).2.2.2.1] p0)) ?_
   refine eqn [(5, .o 2176 (s0 ++ [(nth q k0).2.2.2.1]))] [5] [] [] (by rw [show ((eL s0) ++ [[.s ((nth q k0).2.2.2.1)]]) = (eL (s0 ++ [(nth q k0).2.2.2.1])) from Je (rfl) (rfl)]; first | done | kernel_rfl) ?_
   refine rn Qa [0, 1, 4, 5, 10, 11, 12] [] (pe 0 (Jr (Q1 k0 (by omega))) p0) ?_
   exact Exists.intro (s0 ++ [(nth q k0).2.2.2.1]) (And.intro (Ys [(2176, 147203)] (by kernel_rfl)) ⟨Xl hx0 (Xi h10 (rfl)) hI0.1, by first | omega | (simp; omega) | simp⟩)
  refine Qf ?_
  refine rn Qa [0, 1, 4, 5, 10, 11, 12] [] (pe 0 (Jr (Q1 k0 (by omega))) p0) ?_
  exact xw s0 ⟨Xl hx0 (Qk h10 (rfl)) hI0.1, by first | omega | (simp; omega) | simp⟩
 ·
  have hA0_0 := hI0.2
  refine su Qa [(13, .b false)] [] [] [] (pe 0 (Qz (decide_eq_false (p := ((k0 : Nat) : Int) < ((Ye q).length : Int)) (by omega))) p0) ?_
  refine Qc ?_
  refine ckF ?_
  refine Xs ?_
  exact Exists.intro _ (And.intro (Ys [(147203, 147353)] (by kernel_rfl)) (Yn hk0 (rfl) hI0.1))
 refine sn Qa [4] [] (pc 1 (N9 y0) p0) ?_
 refine Qe ?_
 exact ph0 [] (V4 hD0 (rfl))
def Xx (q : (List Qw)) : (List ByteArray) := (Ki q false)
theorem Lh (q : (List Qw)) : ACalls Tryz.prog 187 [.h q] (.h (Xx q)) := by
 refine en Qa Tryz.func187 fun w0 F0 hG => ?_
 refine sn Qa [0, 2] [] (p0) ?_
 refine tn Qa [2] [] (pc 1 (Fg q false) p0) ?_
 refine Qe ?_
 exact ph0 [] (show Xx q = (Ki q false) from rfl)
def Xy (q : (List Qw)) : (List ByteArray) := (Ki q true)
theorem Lk (q : (List Qw)) : ACalls Tryz.prog 188 [.h q] (.h (Xy q)) := by
 refine en Qa Tryz.func188 fun w0 F0 hG => ?_
 refine sn Qa [0, 2] [] (p0) ?_
 refine tn Qa [2] [] (pc 1 (Fg q true) p0) ?_
 refine Qe ?_
 exact ph0 [] (show Xy q = (Ki q true) from rfl)
def Hv (q : (List Qw)) (under : Bool) (k0 : Nat) (a0 : Bool) (s0 : (List ByteArray)) : Rd ((List ByteArray)) ((List ByteArray)) ((List ByteArray)) := (bif ((Xf ((nth q k0).1) 8 9) && (a0 == under)) then (.next (Bv s0 ((nth q k0).2.2.2.1))) else (.next s0))
def Hw (_ : Nat) (s0 : (List ByteArray)) : (List ByteArray) := s0
def Wy (q : (List Qw)) (under : Bool) : (List ByteArray) := (Out.on (Yt (Hv q under) Hw (Y7 q) 0 []) (fun y0 => y0))
theorem Gk (q : (List Qw)) (under : Bool) : ACalls Tryz.prog 223 [.h q, .b under] (.o 0 (Wy q under)) := by
 refine en Qa Tryz.func223 fun w0 F0 hG => ?_
 have hnl := JN q
 refine sn Qa [0, 1, 4] [] (p0) ?_
 refine tn Qa [0, 1, 4, 5] [] (p0) ?_
 refine tu Qa [(4, .e 0), (5, .one (.slc (.own true 512) 1 [])), (6, .o 640 (Y7 q))] [] [] [] (pc 1 (Lf q) p0) ?_
 refine Qc ?_
 refine su Qa [(7, .i 0)] [] [] [] (p0) ?_
 refine wT 6 0 (.own true 640) (Y7 q) (fun hw1 hl2 => ?_)
 refine Qa3 (Hv q under) Hw (Y7 q) [] (fun k0 s0 => [(5, .h s0), (7, .i ((k0 : Nat) : Int))]) [5, 7] (fun y0 => [(5, .h y0)]) [0, 1, 5, 6, 7] (fun k0 s0 => List.length s0 ≤ k0) (M3 [] [512] [] [] (by kernel_rfl)) (by simp) (fun k0 s0 hk0 hI0 => ?_) (fun k0 s0 hk0 hI0 => ?_) (fun y0 hD0 => ?_)
 ·
  have hA0_0 := hI0.2
  obtain ⟨a0, hx0⟩ := Yi (l := Y7 q) (i := k0) hk0
  refine Qc ?_
  refine su Qa [(14, .b true)] [] [] [] (pl 2 (Y7 q) (pe 3 (Qz (decide_eq_true (p := ((k0 : Nat) : Int) < ((Y7 q).length : Int)) (by omega))) p0)) ?_
  refine ckT ?_
  refine Qf ?_
  refine Qc ?_
  refine Qy ?_
  refine Qc ?_
  refine jn [(30, .b ((Xf ((nth q k0).1) 8 9) && (a0 == under)))] [14] [] [] (Xf ((nth q k0).1) 8 9) (fun h3 => ?_) (fun h3 => ?_) ?_
  ·
   refine wT 0 0 .sh q (fun hw5 hl6 => ?_)
   have hx4 := ng q k0
   refine rn Qa [0, 1, 4, 5, 6, 7, 30] [] (pn 2 hx4 (pc 5 (cb h3 (Y5 ((nth q k0).1) 8 9)) (pN 9 hx0 p0))) ?_
   exact ⟨rfl, Qd (by rw [h3] <;> kernel_rfl)⟩
  ·
   refine wT 0 0 .sh q (fun hw8 hl9 => ?_)
   have hx7 := ng q k0
   refine rn Qa [0, 1, 4, 5, 6, 7, 30] [] (pn 2 hx7 (pc 5 (cb h3 (Y5 ((nth q k0).1) 8 9)) p0)) ?_
   exact ⟨rfl, Qd (by rw [h3] <;> kernel_rfl)⟩
  refine ck ((Xf ((nth q k0).1) 8 9) && (a0 == under)) (fun h10 => ?_) (fun h10 => ?_)
  ·
   have h10r : ((a0 == under)) = true := N8 h10
   have h10rd := eq_of_beq h10r
   refine wT 0 0 .sh q (fun hw12 hl13 => ?_)
   have hx11 := ng q k0
   refine rn Qa [0, 1, 4, 5, 6, 7] [] (pn 3 hx11 (pc 6 (JW s0 ((nth q k0).2.2.2.1) (by omega)) p0)) ?_
   refine qn Qa [0, 1, 4, 5, 6, 7] [] (pe 1 (Jr (Q1 k0 (by omega))) p0) ?_
   exact xw (Bv s0 ((nth q k0).2.2.2.1)) ⟨Xl hx0 (Xi h10 (rfl)) hI0.1, (by first | omega | (have hz := IU s0 (nth q k0).2.2.2.1; omega))⟩
  refine Qf ?_
  refine rn Qa [0, 1, 4, 5, 6, 7] [] (pe 1 (Jr (Q1 k0 (by omega))) p0) ?_
  exact xw s0 ⟨Xl hx0 (Qk h10 (rfl)) hI0.1, (by first | omega | (have hz := IU s0 (nth q k0).2.2.2.1; omega))⟩
 ·
  have hA0_0 := hI0.2
  refine Qc ?_
  refine su Qa [(14, .b false)] [] [] [] (pl 2 (Y7 q) (pe 3 (Qz (decide_eq_false (p := ((k0 : Nat) : Int) < ((Y7 q).length : Int)) (by omega))) p0)) ?_
  refine ckF ?_
  refine Xs ?_
  exact xw _ (Yn hk0 (rfl) hI0.1)
 refine wT 5 0 .sh y0 (fun hw14 hl15 => ?_)
 refine sn Qa [4] [] (po 2 (.flat) (px (I4 (n := (([] : List (List PV)).length + ((eL y0) : List (List PV)).length)) (Nw (rfl) (Yv y0) (by first | omega | (simp only [List.length_cons, List.length_nil]; omega) | (simp; omega) | simp))) (px (G5 (E3 y0)) p0))) ?_
 refine Qe ?_
 exact po0 [] (V4 hD0 (rfl))
def Y8 (q : (List Qw)) : (List ByteArray) := (Wy q false)
theorem Ll (q : (List Qw)) : ACalls Tryz.prog 199 [.h q] (.o 0 (Y8 q)) := by
 refine en Qa Tryz.func199 fun w0 F0 hG => ?_
 refine sn Qa [0, 2] [] (p0) ?_
 refine tn Qa [2] [] (pc 1 (Gk q false) p0) ?_
 refine Qe ?_
 exact po0 [] (show Y8 q = (Wy q false) from rfl)
def Y9 (q : (List Qw)) : (List ByteArray) := (Wy q true)
theorem Lm (q : (List Qw)) : ACalls Tryz.prog 201 [.h q] (.o 0 (Y9 q)) := by
 refine en Qa Tryz.func201 fun w0 F0 hG => ?_
 refine sn Qa [0, 2] [] (p0) ?_
 refine tn Qa [2] [] (pc 1 (Gk q true) p0) ?_
 refine Qe ?_
 exact po0 [] (show Y9 q = (Wy q true) from rfl)
theorem UP (n : Qw) : Xf n.1 8 9 = Kk n := by
  unfold Xf Kk
  rw [Bool.eq_iff_iff]
  simp
  omega
theorem Rt (q : List Qw) (b : Bool) : ∀ (l : List Bool) (k : Nat) (s : List ByteArray), ∃ m, Yt (K1 q b) Wf l k s = .brk (s ++ m) ∧ ∀ t, Yt (Hv q b) Hw l k t = .brk (Ie t m)
  | [], k, s => ⟨[], by simp [Yt, Wf], fun t => by simp [Yt, Hw, Ie]⟩
  | a :: l, k, s => by
    simp only [Yt, K1, Hv, UP]
    cases h : (Kk (nth q k) && (a == b)) with
    | true =>
      obtain ⟨m, h1, h2⟩ := Rt q b l (k + 1) (s ++ [(nth q k).2.2.2.1])
      refine ⟨(nth q k).2.2.2.1 :: m, ?_, fun t => ?_⟩
      · simp only [cond_true]; rw [h1, List.append_assoc]; rfl
      simp only [cond_true]; rw [h2, JX]; rfl
    | false =>
      obtain ⟨m, h1, h2⟩ := Rt q b l (k + 1) s
      exact ⟨m, by simp only [cond_false]; exact h1, fun t => by simp only [cond_false]; exact h2 t⟩
theorem IV (q : List Qw) (b : Bool) : Wy q b = Ki q b := by
  unfold Wy Ki
  obtain ⟨m, h1, h2⟩ := Rt q b (Ye q) 0 []
  rw [T5, h1, h2]
  simp only [Out.on, List.nil_append]
  exact (PN m).symm
theorem DK (q : List Qw) : Y8 q = Xx q := IV q false
theorem DL (q : List Qw) : Y9 q = Xy q := IV q true
open GoE (enc wide)
def Z4 (d : (List Zw)) (k0 : Nat) (a0 : Zw) (_ : Unit) : Rd (Bool) (Unit) (Unit) := (bif ((!(Q0 a0.1)) || (bif decide (((k0 : Nat) : Int) > (0 : Int)) then ((!(Op.bytesLess ((nth d (Int.toNat (((k0 : Nat) : Int) - 1))).1).toList a0.1.toList)) || (!(Qj a0.2))) else (!(Qj a0.2)))) then (.ret false) else (.next ()))
def J7 (_ : Nat) (_ : Unit) : Unit := ()
def Zm (d : (List Zw)) : Bool := (Out.on (Yt (Z4 d) J7 d 0 ()) (fun _ => decide ((d.length : Int) ≤ (5 : Int))))
theorem M5 (d : (List Zw)) : ACalls Tryz.prog 185 [.h d] (.b (Zm d)) := by
 refine en Qa Tryz.func185 fun w0 F0 hG => ?_
 refine sn Qa [0, 2] [] (p0) ?_
 refine Qc ?_
 refine tn Qa [0, 2, 5, 6, 7] [] (pl 1 d p0) ?_
 refine mz [(2, .b false), (5, .h d), (6, .i (d.length : Int)), (7, .i 0)] [] [] [] ?_
 refine wT 0 0 .sh d (fun hw1 hl2 => ?_)
 refine Su (Z4 d) J7 d () (fun k0 _ => [(7, .i ((k0 : Nat) : Int))]) [7] (fun _ => []) [5, 6, 7] wf0 (fun k0 s0 hk0 hI0 => ?_) (fun k0 s0 hk0 hI0 => ?_) (fun y0 hD0 => ?_)
 ·
  obtain ⟨a0, hx0⟩ := Yi (l := d) (i := k0) hk0
  refine sn Qa [0, 2, 5, 6, 7, 8] [] (pe 0 (Qz (decide_eq_true (p := ((k0 : Nat) : Int) < (d.length : Int)) (by omega))) p0) ?_
  refine Qc ?_
  refine ckT ?_
  refine Qf ?_
  refine Qc ?_
  refine Qy ?_
  refine tn Qa [0, 2, 3, 4, 5, 6, 7] [4] (pn 1 hx0 p0) ?_
  refine Qc ?_
  refine mz [(3, .i ((k0 : Nat) : Int)), (4, .p 4 0)] [] [(4, [.s a0.1, .h a0.2])] [] ?_
  refine jn [(36, .b ((!(Q0 a0.1)) || (bif decide (((k0 : Nat) : Int) > (0 : Int)) then ((!(Op.bytesLess ((nth d (Int.toNat (((k0 : Nat) : Int) - 1))).1).toList a0.1.toList)) || (!(Qj a0.2))) else (!(Qj a0.2)))))] [3, 4] [] [4] (!(Q0 a0.1)) (fun h3 => ?_) (fun h3 => ?_) ?_
  ·
   have h3n : (Q0 a0.1) = false := Vz h3
   refine rN Qa Yp [0, 2, 5, 6, 7, 36] [] (pc 2 (cb h3n (Zy a0.1)) (pe 3 (show .b (!false) = .b true from rfl) p0)) ?_
   exact ⟨rfl, Qd (by rw [h3] <;> kernel_rfl)⟩
  ·
   have h3n : (Q0 a0.1) = true := Jb h3
   refine Xr (decide (((k0 : Nat) : Int) > (0 : Int))) (fun h4 => ?_) (fun h4 => ?_)
   ·
    have h4d := of_decide_eq_true h4
    refine Xr (!(Op.bytesLess ((nth d (Int.toNat (((k0 : Nat) : Int) - 1))).1).toList a0.1.toList)) (fun h5 => ?_) (fun h5 => ?_)
    ·
     have hx6 := ng d (Int.toNat (((k0 : Nat) : Int) - 1))
     refine rN Qa Yp [0, 2, 5, 6, 7, 36] [] (pc 2 (cb h3n (Zy a0.1)) (pe 3 (show .b (!true) = .b false from rfl) (pt 6 h4 (pe 10 (Jr (IntWalk.i64_in (((k0 : Nat) : Int) - 1) (by omega))) (pg 11 (((k0 : Nat) : Int) - 1) hx6 (pt 16 h5 p0)))))) ?_
     exact ⟨rfl, Qd (by rw [h3, h4, h5] <;> kernel_rfl)⟩
    have hx7 := ng d (Int.toNat (((k0 : Nat) : Int) - 1))
    refine rN Qa Yp [0, 2, 5, 6, 7, 36] [] (pc 2 (cb h3n (Zy a0.1)) (pe 3 (show .b (!true) = .b false from rfl) (pt 6 h4 (pe 10 (Jr (IntWalk.i64_in (((k0 : Nat) : Int) - 1) (by omega))) (pg 11 (((k0 : Nat) : Int) - 1) hx7 (pf 16 h5 (pc 22 (K7 a0.2) p0))))))) ?_
    exact ⟨rfl, Qd (by rw [h3, h4, h5] <;> kernel_rfl)⟩
   refine rN Qa Yp [0, 2, 5, 6, 7, 36] [] (pc 2 (cb h3n (Zy a0.1)) (pe 3 (show .b (!true) = .b false from rfl) (pf 6 h4 (pc 22 (K7 a0.2) p0)))) ?_
   exact ⟨rfl, Qd (by rw [h3, h4] <;> kernel_rfl)⟩
  refine ck ((!(Q0 a0.1)) || (bif decide (((k0 : Nat) : Int) > (0 : Int)) then ((!(Op.bytesLess ((nth d (Int.toNat (((k0 : Nat) : Int) - 1))).1).toList a0.1.toList)) || (!(Qj a0.2))) else (!(Qj a0.2)))) (fun h8 => ?_) (fun h8 => ?_)
  ·
   refine su Qa [] [36] [] [] (p0) ?_
   refine Qe ?_
   have hr9 : (Yt (Z4 d) J7 d 0 ()) = .ret false := Kh hx0 (Xi h8 (rfl)) hI0
   exact pb [] (N7 hr9)
  refine Qf ?_
  refine rn Qa [0, 2, 5, 6, 7] [] (pe 0 (Jr (Q1 k0 (by omega))) p0) ?_
  exact xw _ (Xl hx0 (Qk h8 (rfl)) hI0)
 ·
  refine sn Qa [0, 2, 5, 6, 7, 8] [] (pe 0 (Qz (decide_eq_false (p := ((k0 : Nat) : Int) < (d.length : Int)) (by omega))) p0) ?_
  refine Qc ?_
  refine ckF ?_
  refine Xs ?_
  exact xw _ (Yn hk0 (rfl) hI0)
 refine sn Qa [2] [] (pl 1 d p0) ?_
 refine Qe ?_
 exact pb [] (V4 hD0 (rfl))
def Va (d : (List Zw)) (k0 : Nat) (a0 : Zw) (_ : Unit) : Rd (Bool) (Unit) (Unit) := (bif ((!(Xz a0.1)) || ((!(Yj a0.2)) || (decide (((k0 : Nat) : Int) > (0 : Int)) && (!(Op.bytesLess ((nth d (Int.toNat (((k0 : Nat) : Int) - 1))).1).toList a0.1.toList))))) then (.ret false) else (.next ()))
def Wo (_ : Nat) (_ : Unit) : Unit := ()
def Kr (d : (List Zw)) : Bool := (Out.on (Yt (Va d) Wo d 0 ()) (fun _ => decide ((d.length : Int) ≤ (5 : Int))))
theorem M6 (d : (List Zw)) : ACalls Tryz.prog 170 [.h d] (.b (Kr d)) := by
 refine en Qa Tryz.func170 fun w0 F0 hG => ?_
 refine sn Qa [0, 2] [] (p0) ?_
 refine Qc ?_
 refine tn Qa [0, 2, 3] [] (p0) ?_
 refine mz [(2, .b false), (3, .i 0)] [] [] [] ?_
 refine wT 0 0 .sh d (fun hw1 hl2 => ?_)
 refine Su (Va d) Wo d () (fun k0 _ => [(3, .i ((k0 : Nat) : Int))]) [3] (fun _ => []) [3] wf0 (fun k0 s0 hk0 hI0 => ?_) (fun k0 s0 hk0 hI0 => ?_) (fun y0 hD0 => ?_)
 ·
  obtain ⟨a0, hx0⟩ := Yi (l := d) (i := k0) hk0
  refine Qc ?_
  refine sn Qa [0, 2, 3, 7] [] (pl 2 d (pe 3 (Qz (decide_eq_true (p := ((k0 : Nat) : Int) < (d.length : Int)) (by omega))) p0)) ?_
  refine ckT ?_
  refine Qf ?_
  refine Qc ?_
  refine Qy ?_
  refine Qc ?_
  refine mz [(7, .b true)] [] [] [] ?_
  refine jn [(43, .b ((!(Xz a0.1)) || ((!(Yj a0.2)) || (decide (((k0 : Nat) : Int) > (0 : Int)) && (!(Op.bytesLess ((nth d (Int.toNat (((k0 : Nat) : Int) - 1))).1).toList a0.1.toList))))))] [7] [] [] (!(Xz a0.1)) (fun h3 => ?_) (fun h3 => ?_) ?_
  ·
   have h3n : (Xz a0.1) = false := Vz h3
   refine rN Qa Yp [0, 2, 3, 43] [] (pn 2 hx0 (pc 5 (cb h3n (Zg a0.1)) (pe 6 (show .b (!false) = .b true from rfl) p0))) ?_
   exact ⟨rfl, Qd (by rw [h3] <;> kernel_rfl)⟩
  ·
   have h3n : (Xz a0.1) = true := Jb h3
   refine Xr (!(Yj a0.2)) (fun h4 => ?_) (fun h4 => ?_)
   ·
    have h4n : (Yj a0.2) = false := Vz h4
    refine rN Qa Yp [0, 2, 3, 43] [] (pn 2 hx0 (pc 5 (cb h3n (Zg a0.1)) (pe 6 (show .b (!true) = .b false from rfl) (pn 10 hx0 (pc 13 (cb h4n (K8 a0.2)) (pe 14 (show .b (!false) = .b true from rfl) p0)))))) ?_
    exact ⟨rfl, Qd (by rw [h3, h4] <;> kernel_rfl)⟩
   have h4n : (Yj a0.2) = true := Jb h4
   refine Xr (decide (((k0 : Nat) : Int) > (0 : Int))) (fun h5 => ?_) (fun h5 => ?_)
   ·
    have h5d := of_decide_eq_true h5
    have hx6 := ng d (Int.toNat (((k0 : Nat) : Int) - 1))
    refine rN Qa Yp [0, 2, 3, 43] [] (pn 2 hx0 (pc 5 (cb h3n (Zg a0.1)) (pe 6 (show .b (!true) = .b false from rfl) (pn 10 hx0 (pc 13 (cb h4n (K8 a0.2)) (pe 14 (show .b (!true) = .b false from rfl) (pt 18 h5 (pe 22 (Jr (IntWalk.i64_in (((k0 : Nat) : Int) - 1) (by omega))) (pg 23 (((k0 : Nat) : Int) - 1) hx6 (pn 28 hx0 p0)))))))))) ?_
    exact ⟨rfl, Qd (by rw [h3, h4, h5] <;> kernel_rfl)⟩
   refine rN Qa Yp [0, 2, 3, 43] [] (pn 2 hx0 (pc 5 (cb h3n (Zg a0.1)) (pe 6 (show .b (!true) = .b false from rfl) (pn 10 hx0 (pc 13 (cb h4n (K8 a0.2)) (pe 14 (show .b (!true) = .b false from rfl) (pf 18 h5 p0))))))) ?_
   exact ⟨rfl, Qd (by rw [h3, h4, h5] <;> kernel_rfl)⟩
  refine ck ((!(Xz a0.1)) || ((!(Yj a0.2)) || (decide (((k0 : Nat) : Int) > (0 : Int)) && (!(Op.bytesLess ((nth d (Int.toNat (((k0 : Nat) : Int) - 1))).1).toList a0.1.toList))))) (fun h7 => ?_) (fun h7 => ?_)
  ·
   refine sn Qa [0, 2, 3] [] (p0) ?_
   refine Qe ?_
   have hr8 : (Yt (Va d) Wo d 0 ()) = .ret false := Kh hx0 (Xi h7 (rfl)) hI0
   exact pb [] (N7 hr8)
  refine Qf ?_
  refine rn Qa [0, 2, 3] [] (pe 1 (Jr (Q1 k0 (by omega))) p0) ?_
  exact xw _ (Xl hx0 (Qk h7 (rfl)) hI0)
 ·
  refine Qc ?_
  refine sn Qa [0, 2, 3, 7] [] (pl 2 d (pe 3 (Qz (decide_eq_false (p := ((k0 : Nat) : Int) < (d.length : Int)) (by omega))) p0)) ?_
  refine ckF ?_
  refine Xs ?_
  exact xw _ (Yn hk0 (rfl) hI0)
 refine sn Qa [2] [] (pl 1 d p0) ?_
 refine Qe ?_
 exact pb [] (V4 hD0 (rfl))
def Ai (x : Zw) (q0 : ByteArray) : Bool := (x.1.toList == q0.toList)
theorem XX (x : Zw) (q0 : ByteArray) : ACalls Tryz.prog 237 [.a [.s x.1, .h x.2], .one (.rptr .sh [.s q0])] (.b (Ai x q0)) := by
 refine en Qa Tryz.func237 fun w0 F0 hG => ?_
 refine sn Qa [1, 2, 3] [2] (p0) ?_
 refine tn Qa [3] [] (p0) ?_
 refine Qe ?_
 exact pb [] (show Ai x q0 = (x.1.toList == q0.toList) from rfl)
def Yq (c0 : ByteArray) (k0 : Nat) (a0 : Zw) (_ : Unit) : Rd (Int) (Unit) (Unit) := (bif (Ai a0 c0) then (.ret ((k0 : Nat) : Int)) else (.next ()))
def Y3 (_ : Nat) (_ : Unit) : Unit := ()
def Z1 (s_ : (List Zw)) (c0 : ByteArray) : Int := (Out.on (Yt (Yq c0) Y3 s_ 0 ()) (fun _ => -1))
theorem Hx (s_ : (List Zw)) (c0 : ByteArray) : ACalls Tryz.prog 236 [.h s_, .one (.fnr 237 [[.s c0]])] (.i (Z1 s_ c0)) := by
 refine en Qa Tryz.func236 fun w0 F0 hG => ?_
 refine sn Qa [0, 1, 4] [] (p0) ?_
 refine Qc ?_
 refine tn Qa [0, 1, 4, 7, 8] [] (pl 1 s_ p0) ?_
 refine mz [(4, .i 0), (7, .i (s_.length : Int)), (8, .i 0)] [] [] [] ?_
 refine wT 0 0 .sh s_ (fun hw1 hl2 => ?_)
 refine Su (Yq c0) Y3 s_ () (fun k0 _ => [(8, .i ((k0 : Nat) : Int))]) [8] (fun _ => []) [0, 1, 7, 8] wf0 (fun k0 s0 hk0 hI0 => ?_) (fun k0 s0 hk0 hI0 => ?_) (fun y0 hD0 => ?_)
 ·
  obtain ⟨a0, hx0⟩ := Yi (l := s_) (i := k0) hk0
  refine sn Qa [0, 1, 4, 7, 8, 9] [] (pe 0 (Qz (decide_eq_true (p := ((k0 : Nat) : Int) < (s_.length : Int)) (by omega))) p0) ?_
  refine Qc ?_
  refine ckT ?_
  refine Qf ?_
  refine Qc ?_
  refine Qy ?_
  refine tn Qa [0, 1, 4, 5, 7, 8] [] (p0) ?_
  refine tu Qa [(5, .i ((k0 : Nat) : Int)), (16, .b (Ai a0 c0))] [] [] [] (pn 3 hx0 (pc 5 (XX a0 c0) p0)) ?_
  refine ck (Ai a0 c0) (fun h3 => ?_) (fun h3 => ?_)
  ·
   refine sn Qa [0, 1, 4, 7, 8] [] (p0) ?_
   refine Qe ?_
   have hr4 : (Yt (Yq c0) Y3 s_ 0 ()) = .ret ((k0 : Nat) : Int) := Kh hx0 (Xi h3 (rfl)) hI0
   exact pi [] (N7 hr4)
  refine Qf ?_
  refine rn Qa [0, 1, 4, 7, 8] [] (pe 0 (Jr (Q1 k0 (by omega))) p0) ?_
  exact xw _ (Xl hx0 (Qk h3 (rfl)) hI0)
 ·
  refine sn Qa [0, 1, 4, 7, 8, 9] [] (pe 0 (Qz (decide_eq_false (p := ((k0 : Nat) : Int) < (s_.length : Int)) (by omega))) p0) ?_
  refine Qc ?_
  refine ckF ?_
  refine Xs ?_
  exact xw _ (Yn hk0 (rfl) hI0)
 refine sn Qa [4] [] (p0) ?_
 refine Qe ?_
 exact pi [] (V4 hD0 (rfl))
def X3 (d : (List Zw)) (name : ByteArray) : Int := (Z1 d name)
theorem UQ (d : (List Zw)) (name : ByteArray) : ACalls Tryz.prog 215 [.h d, .s name] (.i (X3 d name)) := by
 refine en Qa Tryz.func215 fun w0 F0 hG => ?_
 refine sn Qa [0, 3, 4] [3] (p0) ?_
 refine tn Qa [4] [] (pc 2 (Hx d name) p0) ?_
 refine Qe ?_
 exact pi [] (show X3 d name = (Z1 d name) from rfl)
def B6 (name : ByteArray) (k0 : Nat) (a0 : Zw) (_ : Unit) : Rd (Int) (Unit) (Unit) := (bif (a0.1.toList == name.toList) then (.ret ((k0 : Nat) : Int)) else (.next ()))
def B7 (_ : Nat) (_ : Unit) : Unit := ()
def Q7 (d : (List Zw)) (name : ByteArray) : Int := (Out.on (Yt (B6 name) B7 d 0 ()) (fun _ => -1))
theorem Gl (d : (List Zw)) (name : ByteArray) : ACalls Tryz.prog 200 [.h d, .s name] (.i (Q7 d name)) := by
 refine en Qa Tryz.func200 fun w0 F0 hG => ?_
 refine sn Qa [0, 1, 4] [] (p0) ?_
 refine Qc ?_
 refine tn Qa [0, 1, 4, 5] [] (p0) ?_
 refine mz [(4, .i 0), (5, .i 0)] [] [] [] ?_
 refine wT 0 0 .sh d (fun hw1 hl2 => ?_)
 refine Su (B6 name) B7 d () (fun k0 _ => [(5, .i ((k0 : Nat) : Int))]) [5] (fun _ => []) [0, 1, 5] wf0 (fun k0 s0 hk0 hI0 => ?_) (fun k0 s0 hk0 hI0 => ?_) (fun y0 hD0 => ?_)
 ·
  obtain ⟨a0, hx0⟩ := Yi (l := d) (i := k0) hk0
  refine Qc ?_
  refine sn Qa [0, 1, 4, 5, 9] [] (pl 2 d (pe 3 (Qz (decide_eq_true (p := ((k0 : Nat) : Int) < (d.length : Int)) (by omega))) p0)) ?_
  refine ckT ?_
  refine Qf ?_
  refine Qc ?_
  refine Qy ?_
  refine tn Qa [0, 1, 4, 5, 18] [] (pn 2 hx0 p0) ?_
  refine ck (a0.1.toList == name.toList) (fun h3 => ?_) (fun h3 => ?_)
  ·
   refine tu Qa [(4, .i ((k0 : Nat) : Int))] [4] [] [] (p0) ?_
   refine Qe ?_
   have hr4 : (Yt (B6 name) B7 d 0 ()) = .ret ((k0 : Nat) : Int) := Kh hx0 (Xi h3 (rfl)) hI0
   exact pi [] (N7 hr4)
  refine Qf ?_
  refine qu Qa [(5, .i ((k0 + 1 : Nat) : Int))] [5] [] [] (pe 1 (Jr (Q1 k0 (by omega))) p0) ?_
  exact xw _ (Xl hx0 (Qk h3 (rfl)) hI0)
 ·
  refine Qc ?_
  refine sn Qa [0, 1, 4, 5, 9] [] (pl 2 d (pe 3 (Qz (decide_eq_false (p := ((k0 : Nat) : Int) < (d.length : Int)) (by omega))) p0)) ?_
  refine ckF ?_
  refine Xs ?_
  exact xw _ (Yn hk0 (rfl) hI0)
 refine sn Qa [4] [] (p0) ?_
 refine Qe ?_
 exact pi [] (V4 hD0 (rfl))
theorem XY (d : List Zw) : Zm d = Kr d := by
  unfold Zm Kr
  rw [Fx (f := Z4 d) (g := Va d) (e := J7) (e' := Wo) (fun k a s => by
    unfold Z4 Va
    rw [PI, IB]
    cases Xz a.1 <;> cases Yj a.2 <;> cases decide (((k : Nat) : Int) > (0 : Int)) <;> simp) (fun _ _ => rfl)]
theorem BJ (s : ByteArray) : ∀ (l : List Zw) (k : Nat), Yt (Yq s) Y3 l k () = .brk () ∨ ∃ i : Nat, i < l.length ∧ Yt (Yq s) Y3 l k () = .ret (((k + i : Nat)) : Int)
  | [], _ => .inl rfl
  | a :: l, k => by
    simp only [Yt, Yq]
    unfold Ai
    cases (a.1.toList == s.toList) with
    | true => exact .inr ⟨0, by simp, rfl⟩
    | false =>
      simp only [cond_false]
      rcases BJ s l (k + 1) with h | ⟨i, hi, h⟩
      · exact .inl h
      exact .inr ⟨i + 1, by simpa using hi, by rw [h, show k + 1 + i = k + (i + 1) by omega]⟩
theorem XZ (d : List Zw) (s : ByteArray) : -1 ≤ X3 d s ∧ X3 d s < (List.length d : Int) := by
  unfold X3 Z1
  rcases BJ s d 0 with h | ⟨i, hi, h⟩
  · rw [h]; simp only [Out.on]; omega
  rw [h]; simp only [Out.on]; omega
theorem Ln (d : List Zw) (s : ByteArray) : -1 ≤ Q7 d s ∧ Q7 d s < (List.length d : Int) := XZ d s
open GoE (enc wide)
def Wp (d : (List Zw)) (strata : (List Int)) (more : Int) (_ : Nat) (a0 : ByteArray) (s0 : Int) : Rd (Int) (Int) (Int) := (bif decide ((X3 d a0) ≥ (0 : Int)) then (.next (max s0 (IntKind.i64.wrap ((nth strata (Int.toNat (X3 d a0))) + more)))) else (.next s0))
def Hy (_ : Nat) (s0 : Int) : Int := s0
def Xj (d : (List Zw)) (strata : (List Int)) (names : (List ByteArray)) (more : Int) : Int := (Out.on (Yt (Wp d strata more) Hy names 0 0) (fun y0 => y0))
theorem Di (d : (List Zw)) (strata : (List Int)) (names : (List ByteArray)) (more : Int) (hp : List.length d ≤ List.length strata) : ACalls Tryz.prog 186 [.h d, .h strata, .h names, .i more] (.i (Xj d strata names more)) := by
 refine en Qa Tryz.func186 fun w0 F0 hG => ?_
 refine sn Qa [0, 1, 2, 3, 8] [] (p0) ?_
 refine tn Qa [0, 1, 2, 3, 8, 9] [] (p0) ?_
 refine Qc ?_
 refine tu Qa [(8, .i 0), (9, .i 0), (13, .h names), (14, .i (names.length : Int)), (15, .i 0)] [2] [] [] (pl 1 names p0) ?_
 refine wT 13 0 .sh names (fun hw1 hl2 => ?_)
 refine Su (Wp d strata more) Hy names 0 (fun k0 s0 => [(9, .i s0), (15, .i ((k0 : Nat) : Int))]) [9, 15] (fun y0 => [(9, .i y0)]) [0, 1, 3, 9, 13, 14, 15] wf0 (fun k0 s0 hk0 hI0 => ?_) (fun k0 s0 hk0 hI0 => ?_) (fun y0 hD0 => ?_)
 ·
  obtain ⟨a0, hx0⟩ := Yi (l := names) (i := k0) hk0
  refine su Qa [(16, .b true)] [] [] [] (pe 0 (Qz (decide_eq_true (p := ((k0 : Nat) : Int) < (names.length : Int)) (by omega))) p0) ?_
  refine Qc ?_
  refine ckT ?_
  refine Qf ?_
  refine Qc ?_
  refine Qy ?_
  refine su Qa [(11, .s a0)] [16] [] [] (pn 0 hx0 p0) ?_
  refine sn Qa [0, 1, 3, 8, 9, 12, 13, 14, 15] [] (pc 2 (UQ d a0) p0) ?_
  refine tn Qa [0, 1, 3, 8, 9, 12, 13, 14, 15, 23] [] (p0) ?_
  refine ck (decide ((X3 d a0) ≥ (0 : Int))) (fun h3 => ?_) (fun h3 => ?_)
  ·
   have h3p := XZ d a0
   have h3d := of_decide_eq_true h3
   refine wT 1 0 .sh strata (fun hw5 hl6 => ?_)
   have hx4 := ng strata (Int.toNat (X3 d a0))
   refine qu Qa [(9, .i (max s0 (IntKind.i64.wrap ((nth strata (Int.toNat (X3 d a0))) + more))))] [9, 11] [] [] (pg 3 (X3 d a0) hx4 p0) ?_
   refine rn Qa [0, 1, 3, 8, 9, 13, 14, 15] [] (pe 0 (Jr (Q1 k0 (by omega))) p0) ?_
   exact xw _ (Xl hx0 (Xi h3 (rfl)) hI0)
  have h3d := of_decide_eq_false h3
  refine Qf ?_
  refine qu Qa [(15, .i ((k0 + 1 : Nat) : Int))] [11, 15] [] [] (pe 0 (Jr (Q1 k0 (by omega))) p0) ?_
  exact xw _ (Xl hx0 (Qk h3 (rfl)) hI0)
 ·
  refine su Qa [(16, .b false)] [] [] [] (pe 0 (Qz (decide_eq_false (p := ((k0 : Nat) : Int) < (names.length : Int)) (by omega))) p0) ?_
  refine Qc ?_
  refine ckF ?_
  refine Xs ?_
  exact xw _ (Yn hk0 (rfl) hI0)
 refine sn Qa [8] [] (p0) ?_
 refine Qe ?_
 exact pi [] (V4 hD0 (rfl))
def Vt (d : (List Zw)) (k0 : Nat) (_ : Nat) (a1 : ByteArray) (s1 : (List Int)) : Rd (Rd ((List Int)) ((List Int)) ((List Int))) ((List Int)) ((List Int)) := (bif (decide ((Q7 d a1) ≥ (0 : Int)) && decide ((nth s1 (Int.toNat (Q7 d a1))) > (nth s1 k0))) then (.next (List.set s1 k0 (nth s1 (Int.toNat (Q7 d a1))))) else (.next s1))
def Wz (_ : Nat) (s1 : (List Int)) : (List Int) := s1
def Vu (d : (List Zw)) (k0 : Nat) (_ : Nat) (a2 : ByteArray) (s2 : (List Int)) : Rd (Rd ((List Int)) ((List Int)) ((List Int))) ((List Int)) ((List Int)) := (bif (decide ((Q7 d a2) ≥ (0 : Int)) && decide (IntKind.i64.wrap ((nth s2 (Int.toNat (Q7 d a2))) + 1) > (nth s2 k0))) then (.next (List.set s2 k0 (IntKind.i64.wrap ((nth s2 (Int.toNat (Q7 d a2))) + 1)))) else (.next s2))
def Hz (_ : Nat) (s2 : (List Int)) : (List Int) := s2
def Ks (d : (List Zw)) (k0 : Nat) (a0 : Zw) (s0 : (List Int)) : Rd ((List Int)) ((List Int)) ((List Int)) := (Out.on (Yt (Vt d k0) Wz (Y8 a0.2) 0 s0) (fun y1 => (Out.on (Yt (Vu d k0) Hz (Y9 a0.2) 0 y1) (fun y2 => (.next y2)))))
def H0 (_ : Nat) (s0 : (List Int)) : (List Int) := s0
def Jz (d : (List Zw)) (lev : (List Int)) : (List Int) := (Out.on (Yt (Ks d) H0 d 0 lev) (fun y0 => y0))
theorem Gm (d : (List Zw)) (lev : (List Int)) (hp : List.length d ≤ List.length lev) : ACalls Tryz.prog 171 [.h d, .h lev] (.o 0 (Jz d lev)) := by
 refine en Qa Tryz.func171 fun w0 F0 hG => ?_
 refine sn Qa [0, 1, 4] [] (p0) ?_
 refine wT 1 0 .sh lev (fun hw1 hl2 => ?_)
 refine tn Qa [0, 4, 5] [] (po 2 (.flat) (px (I4 (n := (([] : List (List PV)).length + ((eL lev) : List (List PV)).length)) (Nw (rfl) (Yv lev) (by first | omega | (simp only [List.length_cons, List.length_nil]; omega) | (simp; omega) | simp))) (px (G5 (E3 lev)) p0))) ?_
 refine Qc ?_
 refine tu Qa [(4, .e 0), (5, .o 960 lev), (6, .i 0)] [1] [] [] (p0) ?_
 refine wT 0 0 .sh d (fun hw3 hl4 => ?_)
 refine GV (Ks d) H0 d lev (fun k0 s0 => [(5, .o 960 s0), (6, .i ((k0 : Nat) : Int))]) [5, 6] (fun y0 => [(5, .o 960 y0)]) [0, 5, 6] (fun _ s0 => List.length s0 = List.length lev) (fun y0 => List.length y0 = List.length lev) wf0 (by simp) (fun k0 s0 hk0 hI0 => ?_) (fun k0 s0 hk0 hI0 => ?_) (fun y0 hD0 => ?_)
 ·
  have hA0_0 := hI0.2
  obtain ⟨a0, hx0⟩ := Yi (l := d) (i := k0) hk0
  refine Qc ?_
  refine sn Qa [0, 4, 5, 6, 19] [] (pl 2 d (pe 3 (Qz (decide_eq_true (p := ((k0 : Nat) : Int) < (d.length : Int)) (by omega))) p0)) ?_
  refine ckT ?_
  refine Qf ?_
  refine Qc ?_
  refine Qy ?_
  refine tn Qa [0, 4, 5, 6, 7] [] (pn 2 hx0 (pc 5 (Ll a0.2) p0)) ?_
  refine Qc ?_
  refine tu Qa [(7, .o 1728 (Y8 a0.2)), (8, .i 0)] [] [] [] (p0) ?_
  refine wT 7 0 (.own true 1728) (Y8 a0.2) (fun hw5 hl6 => ?_)
  refine GV (Vt d k0) Wz (Y8 a0.2) s0 (fun k1 s1 => [(5, .o 960 s1), (8, .i ((k1 : Nat) : Int))]) [5, 8] (fun y1 => [(5, .o 960 y1)]) [5, 7, 8] (fun _ s1 => List.length s1 = List.length s0) (fun y1 => List.length y1 = List.length s0) wf0 (by simp) (fun k1 s1 hk1 hI1 => ?_) (fun k1 s1 hk1 hI1 => ?_) (fun y1 hD1 => ?_)
  ·
   have hA1_0 := hI1.2
   obtain ⟨a1, hx1⟩ := Yi (l := Y8 a0.2) (i := k1) hk1
   refine Qc ?_
   refine su Qa [(31, .b true)] [] [] [] (pl 2 (Y8 a0.2) (pe 3 (Qz (decide_eq_true (p := ((k1 : Nat) : Int) < ((Y8 a0.2).length : Int)) (by omega))) p0)) ?_
   refine ckT ?_
   refine Qf ?_
   refine Qc ?_
   refine Qy ?_
   refine sn Qa [0, 4, 5, 6, 7, 8, 9] [] (pN 3 hx1 (pc 5 (Gl d a1) p0)) ?_
   refine Qc ?_
   refine mz [(9, .i (Q7 d a1))] [31] [] [] ?_
   refine jn [(52, .b (decide ((Q7 d a1) ≥ (0 : Int)) && decide ((nth s1 (Int.toNat (Q7 d a1))) > (nth s1 k0))))] [] [] [] (decide ((Q7 d a1) ≥ (0 : Int))) (fun h7 => ?_) (fun h7 => ?_) ?_
   ·
    have h7p := Ln d a1
    have h7d := of_decide_eq_true h7
    refine wT 5 0 (.own true 960) s1 (fun hw9 hl10 => ?_)
    have hx8 := ng s1 (Int.toNat (Q7 d a1))
    have hx11 := ng s1 k0
    refine rN Qa Yp [0, 4, 5, 6, 7, 8, 9, 52] [] (pt 1 h7 (pG 5 (Q7 d a1) hx8 (pN 9 hx11 p0))) ?_
    exact ⟨rfl, Qd (by rw [h7] <;> kernel_rfl)⟩
   ·
    refine rU Qa Yp [(52, .b false)] [] [] [] (pf 1 h7 p0) ?_
    exact ⟨rfl, Qd (by rw [h7] <;> kernel_rfl)⟩
   refine ck (decide ((Q7 d a1) ≥ (0 : Int)) && decide ((nth s1 (Int.toNat (Q7 d a1))) > (nth s1 k0))) (fun h12 => ?_) (fun h12 => ?_)
   ·
    have h12l : (decide ((Q7 d a1) ≥ (0 : Int))) = true := Rk h12
    have h12lp := Ln d a1
    have h12ld := of_decide_eq_true h12l
    have h12r : (decide ((nth s1 (Int.toNat (Q7 d a1))) > (nth s1 k0))) = true := N8 h12
    have h12rd := of_decide_eq_true h12r
    refine wT 5 0 (.own true 960) s1 (fun hw14 hl15 => ?_)
    have hx13 := ng s1 (Int.toNat (Q7 d a1))
    have hx16 := ng s1 k0
    refine ru Qa [(5, .one (.slc (.own true 960) 1 (setRow (eL s1) k0 0 [.i (nth s1 (Int.toNat (Q7 d a1)))])))] [5, 9, 52] [] [] (pG 4 (Q7 d a1) hx13 (pN 6 hx16 p0)) ?_
    refine eqn [(5, .o 960 (List.set s1 k0 (nth s1 (Int.toNat (Q7 d a1)))))] [5] [] [] (by rw [Jx (y := (nth s1 (Int.toNat (Q7 d a1)))) hx16 rfl] <;> kernel_rfl) ?_
    refine rn Qa [0, 4, 5, 6, 7, 8] [] (pe 1 (Jr (Q1 k1 (by omega))) p0) ?_
    exact xw (List.set s1 k0 (nth s1 (Int.toNat (Q7 d a1)))) ⟨Xl hx1 (Xi h12 (rfl)) hI1.1, (by first | omega | (simp only [List.length_set]; omega))⟩
   refine Qf ?_
   refine rn Qa [0, 4, 5, 6, 7, 8] [] (pe 1 (Jr (Q1 k1 (by omega))) p0) ?_
   exact xw s1 ⟨Xl hx1 (Qk h12 (rfl)) hI1.1, (by first | omega | (simp only [List.length_set]; omega))⟩
  ·
   have hA1_0 := hI1.2
   refine Qc ?_
   refine su Qa [(31, .b false)] [] [] [] (pl 2 (Y8 a0.2) (pe 3 (Qz (decide_eq_false (p := ((k1 : Nat) : Int) < ((Y8 a0.2).length : Int)) (by omega))) p0)) ?_
   refine ckF ?_
   refine Xs ?_
   exact xw s1 ⟨Yn hk1 (rfl) hI1.1, by first | omega | (simp only [List.length_set]; omega)⟩
  have hD1_0 := hD1.2
  refine sn Qa [0, 4, 5, 6, 10] [] (pn 2 hx0 (pc 5 (Lm a0.2) p0)) ?_
  refine tn Qa [0, 4, 5, 6, 10, 11] [] (p0) ?_
  refine mz [(10, .o 4160 (Y9 a0.2)), (11, .i 0)] [] [] [] ?_
  refine wT 10 0 (.own true 4160) (Y9 a0.2) (fun hw17 hl18 => ?_)
  refine GV (Vu d k0) Hz (Y9 a0.2) y1 (fun k2 s2 => [(5, .o 960 s2), (11, .i ((k2 : Nat) : Int))]) [5, 11] (fun y2 => [(5, .o 960 y2)]) [5, 10, 11] (fun _ s2 => List.length s2 = List.length y1) (fun y2 => List.length y2 = List.length y1) wf0 (by simp) (fun k2 s2 hk2 hI2 => ?_) (fun k2 s2 hk2 hI2 => ?_) (fun y2 hD2 => ?_)
  ·
   have hA2_0 := hI2.2
   obtain ⟨a2, hx2⟩ := Yi (l := Y9 a0.2) (i := k2) hk2
   refine Qc ?_
   refine su Qa [(69, .b true)] [] [] [] (pl 2 (Y9 a0.2) (pe 3 (Qz (decide_eq_true (p := ((k2 : Nat) : Int) < ((Y9 a0.2).length : Int)) (by omega))) p0)) ?_
   refine ckT ?_
   refine Qf ?_
   refine Qc ?_
   refine Qy ?_
   refine sn Qa [0, 4, 5, 6, 10, 11, 12] [] (pN 3 hx2 (pc 5 (Gl d a2) p0)) ?_
   refine Qc ?_
   refine mz [(12, .i (Q7 d a2))] [69] [] [] ?_
   refine jn [(91, .b (decide ((Q7 d a2) ≥ (0 : Int)) && decide (IntKind.i64.wrap ((nth s2 (Int.toNat (Q7 d a2))) + 1) > (nth s2 k0))))] [] [] [] (decide ((Q7 d a2) ≥ (0 : Int))) (fun h19 => ?_) (fun h19 => ?_) ?_
   ·
    have h19p := Ln d a2
    have h19d := of_decide_eq_true h19
    refine wT 5 0 (.own true 960) s2 (fun hw21 hl22 => ?_)
    have hx20 := ng s2 (Int.toNat (Q7 d a2))
    have hx23 := ng s2 k0
    refine rN Qa Yp [0, 4, 5, 6, 10, 11, 12, 91] [] (pt 1 h19 (pG 5 (Q7 d a2) hx20 (pN 10 hx23 p0))) ?_
    exact ⟨rfl, Qd (by rw [h19] <;> kernel_rfl)⟩
   ·
    refine rU Qa Yp [(91, .b false)] [] [] [] (pf 1 h19 p0) ?_
    exact ⟨rfl, Qd (by rw [h19] <;> kernel_rfl)⟩
   refine ck (decide ((Q7 d a2) ≥ (0 : Int)) && decide (IntKind.i64.wrap ((nth s2 (Int.toNat (Q7 d a2))) + 1) > (nth s2 k0))) (fun h24 => ?_) (fun h24 => ?_)
   ·
    have h24l : (decide ((Q7 d a2) ≥ (0 : Int))) = true := Rk h24
    have h24lp := Ln d a2
    have h24ld := of_decide_eq_true h24l
    have h24r : (decide (IntKind.i64.wrap ((nth s2 (Int.toNat (Q7 d a2))) + 1) > (nth s2 k0))) = true := N8 h24
    have h24rd := of_decide_eq_true h24r
    refine wT 5 0 (.own true 960) s2 (fun hw26 hl27 => ?_)
    have hx25 := ng s2 (Int.toNat (Q7 d a2))
    have hx28 := ng s2 k0
    refine ru Qa [(5, .one (.slc (.own true 960) 1 (setRow (eL s2) k0 0 [.i (IntKind.i64.wrap ((nth s2 (Int.toNat (Q7 d a2))) + 1))])))] [5, 12, 91] [] [] (pG 4 (Q7 d a2) hx25 (pN 7 hx28 p0)) ?_
    refine eqn [(5, .o 960 (List.set s2 k0 (IntKind.i64.wrap ((nth s2 (Int.toNat (Q7 d a2))) + 1))))] [5] [] [] (by rw [Jx (y := IntKind.i64.wrap ((nth s2 (Int.toNat (Q7 d a2))) + 1)) hx28 rfl] <;> kernel_rfl) ?_
    refine rn Qa [0, 4, 5, 6, 10, 11] [] (pe 1 (Jr (Q1 k2 (by omega))) p0) ?_
    exact xw (List.set s2 k0 (IntKind.i64.wrap ((nth s2 (Int.toNat (Q7 d a2))) + 1))) ⟨Xl hx2 (Xi h24 (rfl)) hI2.1, (by first | omega | (simp only [List.length_set]; omega))⟩
   refine Qf ?_
   refine rn Qa [0, 4, 5, 6, 10, 11] [] (pe 1 (Jr (Q1 k2 (by omega))) p0) ?_
   exact xw s2 ⟨Xl hx2 (Qk h24 (rfl)) hI2.1, (by first | omega | (simp only [List.length_set]; omega))⟩
  ·
   have hA2_0 := hI2.2
   refine Qc ?_
   refine su Qa [(69, .b false)] [] [] [] (pl 2 (Y9 a0.2) (pe 3 (Qz (decide_eq_false (p := ((k2 : Nat) : Int) < ((Y9 a0.2).length : Int)) (by omega))) p0)) ?_
   refine ckF ?_
   refine Xs ?_
   exact xw s2 ⟨Yn hk2 (rfl) hI2.1, by first | omega | (simp only [List.length_set]; omega)⟩
  have hD2_0 := hD2.2
  refine rn Qa [0, 4, 5, 6] [] (pe 1 (Jr (Q1 k0 (by omega))) p0) ?_
  exact xw y2 ⟨Xl hx0 (V4 hD1.1 (V4 hD2.1 (rfl))) hI0.1, (by first | omega | (simp only [List.length_set]; omega))⟩
 ·
  have hA0_0 := hI0.2
  refine Qc ?_
  refine sn Qa [0, 4, 5, 6, 19] [] (pl 2 d (pe 3 (Qz (decide_eq_false (p := ((k0 : Nat) : Int) < (d.length : Int)) (by omega))) p0)) ?_
  refine ckF ?_
  refine Xs ?_
  exact xw s0 ⟨Yn hk0 (rfl) hI0.1, by first | omega | (simp only [List.length_set]; omega)⟩
 have hD0_0 := hD0.2
 refine sn Qa [4] [] (p0) ?_
 refine Qe ?_
 exact po0 [] (V4 hD0.1 (rfl))
theorem O9 {α R S T : Type} {f : Nat → α → S → Rd R S T} {e : Nat → S → T} (I : S → Prop) (h : ∀ k a s, I s → ∃ s', f k a s = .next s' ∧ I s') : ∀ (l : List α) (k : Nat) (s : S), I s → ∃ s', Yt f e l k s = .brk (e (k + l.length) s') ∧ I s'
  | [], k, s, hs => ⟨s, by simp [Yt], hs⟩
  | a :: l, k, s, hs => by
    obtain ⟨s1, h1, h2⟩ := h k a s hs
    obtain ⟨s2, h3, h4⟩ := O9 I h l (k + 1) s1 h2
    refine ⟨s2, ?_, h4⟩
    simp only [Yt, h1]
    rw [h3, List.length_cons, show k + 1 + l.length = k + (l.length + 1) by omega]
theorem Qc8 (d : List Zw) (k0 n : Nat) (k : Nat) (a : ByteArray) (s : List Int) (hs : s.length = n) : ∃ s', Vt d k0 k a s = .next s' ∧ s'.length = n := by
  unfold Vt
  generalize (decide ((Q7 d a) ≥ (0 : Int)) && decide ((nth s (Int.toNat (Q7 d a))) > (nth s k0))) = c
  cases c <;> exact ⟨_, rfl, by simpa using hs⟩
theorem Qc9 (d : List Zw) (k0 n : Nat) (k : Nat) (a : ByteArray) (s : List Int) (hs : s.length = n) : ∃ s', Vu d k0 k a s = .next s' ∧ s'.length = n := by
  unfold Vu
  generalize (decide ((Q7 d a) ≥ (0 : Int)) && decide (IntKind.i64.wrap ((nth s (Int.toNat (Q7 d a))) + 1) > (nth s k0))) = c
  cases c <;> exact ⟨_, rfl, by simpa using hs⟩
theorem Qda (d : List Zw) (n : Nat) (k : Nat) (a : Zw) (s : List Int) (hs : s.length = n) : ∃ s', Ks d k a s = .next s' ∧ s'.length = n := by
  unfold Ks
  obtain ⟨s1, h1, h2⟩ := O9 (e := Wz) (fun s : List Int => s.length = n) (Qc8 d k n) (Y8 a.2) 0 s hs
  obtain ⟨s2, h3, h4⟩ := O9 (e := Hz) (fun s : List Int => s.length = n) (Qc9 d k n) (Y9 a.2) 0 s1 h2
  refine ⟨s2, ?_, h4⟩
  rw [h1]
  simp only [Out.on, Wz]
  rw [h3]
  rfl
theorem JY (d : List Zw) (lev : List Int) : List.length (Jz d lev) = List.length lev := by
  unfold Jz
  obtain ⟨s1, h1, h2⟩ := O9 (e := H0) (fun s : List Int => s.length = lev.length) (Qda d lev.length) d 0 lev rfl
  rw [h1]
  exact h2
theorem Lo {d : List Zw} (h : Zm d = true) : List.length d ≤ 5 := by
  unfold Zm at h
  cases hf : Yt (Z4 d) J7 d 0 () with
  | brk t => rw [hf] at h; simp only [Out.on, decide_eq_true_eq] at h; omega
  | ret r =>
    rw [hf] at h
    obtain rfl : r = true := h
    exfalso
    have key : ∀ (l : List Zw) k, Yt (Z4 d) J7 l k () ≠ .ret true := by
      intro l
      induction l with
      | nil => intro k h; simp [Yt] at h
      | cons a l ih =>
        intro k h
        simp only [Yt] at h
        unfold Z4 at h
        split at h
        · rename_i hf; exact ih _ h
        · cases h
        rename_i r hf; cases h; revert hf; generalize (_ || _ : Bool) = c; cases c <;> simp
    exact key _ _ hf
theorem Qdb {d : List Zw} (h : Kr d = true) : IntKind.i64.wrap (IntKind.i64.wrap ((d.length : Int) * (d.length : Int)) + 1) = ((List.length d * List.length d + 1 : Nat) : Int) ∧ ((List.length d * List.length d + 1 : Nat) : Int) ≤ 26 := by
  have h5 := Lo ((XY d).trans h)
  generalize List.length d = n at h5 ⊢
  have : n = 0 ∨ n = 1 ∨ n = 2 ∨ n = 3 ∨ n = 4 ∨ n = 5 := by omega
  rcases this with rfl | rfl | rfl | rfl | rfl | rfl <;> decide
def Ji (d : List Zw) (w : Int) : List ByteArray → Jw
  | [] => []
  | s :: r => if 0 ≤ X3 d s then (Int.toNat (X3 d s), w) :: Ji d w r else Ji d w r
theorem Ij (d : List Zw) (w : Int) : ∀ (l : List ByteArray) (e : Nat × Int), e ∈ Ji d w l → e.2 = w ∧ e.1 < d.length
  | [], e, h => by simp [Ji] at h
  | s :: r, e, h => by
    simp only [Ji] at h
    split at h
    · rename_i h0
      rcases List.mem_cons.1 h with rfl | h
      · have := (XZ d s).2
        exact ⟨rfl, by show Int.toNat _ < _; omega⟩
      exact Ij d w r e h
    exact Ij d w r e h
def Jg (d : List Zw) (i : Nat) : Jw := if i < d.length then Ji d 0 (Xx (nth d i).2) ++ Ji d 1 (Xy (nth d i).2) else []
theorem IW (d : List Zw) (i : Nat) (e : Nat × Int) (h : e ∈ Jg d i) : e.2 ≤ 1 ∧ e.1 < d.length ∧ i < d.length := by
  unfold Jg at h
  split at h
  · rename_i hi
    rcases List.mem_append.1 h with h | h <;> (have := Ij d _ _ e h; omega)
  simp at h
theorem PQ (E1 E2 : Jw) (L : List Int) : Cs (E1 ++ E2) L = max (Cs E1 L) (Cs E2 L) := by
  have h1 : Cs (E1 ++ E2) L ≤ max (Cs E1 L) (Cs E2 L) := Hu.2 ⟨by have := Ig E1 L; omega, fun e he => by
    rcases List.mem_append.1 he with he | he
    · have := (Hu.1 (Int.le_refl (Cs E1 L))).2 e he; omega
    have := (Hu.1 (Int.le_refl (Cs E2 L))).2 e he; omega⟩
  have h2 := Hu.1 (Int.le_refl (Cs (E1 ++ E2) L))
  have h3 : Cs E1 L ≤ Cs (E1 ++ E2) L := Hu.2 ⟨h2.1, fun e he => h2.2 e (List.mem_append_left _ he)⟩
  have h4 : Cs E2 L ≤ Cs (E1 ++ E2) L := Hu.2 ⟨h2.1, fun e he => h2.2 e (List.mem_append_right _ he)⟩
  omega
theorem M7 (d : List Zw) (L : List Int) (w : Int) (hw : 0 ≤ w ∧ w ≤ 1) (hL : ∀ j, 0 ≤ nth L j ∧ nth L j ≤ 1000000) : ∀ (l : List ByteArray) (k : Nat) (m : Int), Yt (Wp d L w) Hy l k m = .brk ((Ji d w l).foldl (fun m e => max m (nth L e.1 + e.2)) m)
  | [], k, m => rfl
  | s :: r, k, m => by
    simp only [Yt, Wp, Ji]
    have hwr : ∀ j, IntKind.i64.wrap (nth L j + w) = nth L j + w := fun j => IntWalk.i64_in _ (by have := hL j; omega)
    by_cases h : 0 ≤ X3 d s
    · have h' : decide (X3 d s ≥ (0 : Int)) = true := decide_eq_true h
      rw [h', cond_true, if_pos h, hwr]
      exact M7 d L w hw hL r (k + 1) _
    have h' : decide (X3 d s ≥ (0 : Int)) = false := decide_eq_false h
    rw [h', cond_false, if_neg h]
    exact M7 d L w hw hL r (k + 1) _
theorem BK {d : List Zw} {L : List Int} {w : Int} (hw : 0 ≤ w ∧ w ≤ 1) (hL : ∀ j, 0 ≤ nth L j ∧ nth L j ≤ 1000000) (l : List ByteArray) : Xj d L l w = Cs (Ji d w l) L := by
  unfold Xj
  rw [M7 d L w hw hL]
  rfl
theorem PR {d : List Zw} {L : List Int} (hL : ∀ j, 0 ≤ nth L j ∧ nth L j ≤ 1000000) {i : Nat} (hi : i < d.length) : max (Xj d L (Xx (nth d i).2) 0) (Xj d L (Xy (nth d i).2) 1) = Cs (Jg d i) L := by
  rw [BK (by omega) hL, BK (by omega) hL]
  unfold Jg
  rw [if_pos hi, PQ]
abbrev BL (d : List Zw) (a : Zw) (L : List Int) : Int := max (Xj d L (Xx a.2) 0) (Xj d L (Xy a.2) 1)
abbrev IX := Nat → Zw → List Int × Bool → Rd (Rd (List Int × Bool) (List Int × Bool) (List Int)) (List Int × Bool) (List Int × Bool)
def IY (d : List Zw) (f : IX) : Prop := ∀ k a s, f k a s = bif decide (BL d a s.1 > (d.length : Int)) then .ret (.ret ([], false)) else (bif decide (BL d a s.1 > nth s.1 k) then .next (List.set s.1 k (BL d a s.1), true) else .next (s.1, s.2))
theorem Ik {d : List Zw} {f : IX} {e : Nat → List Int × Bool → List Int × Bool} (hf : IY d f) (he : ∀ k s, e k s = s) (hd : d.length ≤ 1000000) :
    ∀ (l : List Zw) (k : Nat) (L : List Int) (c : Bool), d.drop k = l → L.length = d.length → (∀ j, 0 ≤ nth L j ∧ nth L j ≤ (d.length : Int)) →
      Yt f e l k (L, c) = (match Ah (Jg d) d.length (List.range' k l.length) (c, L) with
        | none => .ret (.ret ([], false))
        | some s => .brk (s.2, s.1))
  | [], k, L, c, _, _, _ => by simp [Yt, Ah, he]
  | a :: l, k, L, c, hl, hlen, hL => by
    have hk : d[k]? = some a := by
      have := congrArg (·[0]?) hl
      simpa using this
    have hkl : k < d.length := (List.getElem?_eq_some_iff.1 hk).1
    have ha : nth d k = a := SR hk
    have hrest : d.drop (k + 1) = l := by rw [← List.drop_drop, hl]; rfl
    have hb : ∀ j, 0 ≤ nth L j ∧ nth L j ≤ 1000000 := fun j => by have := hL j; omega
    have hM : BL d a L = Cs (Jg d k) L := by rw [← ha]; exact PR hb hkl
    simp only [Yt, hf k a (L, c), List.length_cons, List.range'_succ, Ah, hM]
    by_cases h1 : (d.length : Int) < Cs (Jg d k) L
    · rw [decide_eq_true (show Cs (Jg d k) L > (d.length : Int) from h1), cond_true, if_pos h1]
    rw [decide_eq_false (show ¬ Cs (Jg d k) L > (d.length : Int) from h1), cond_false, if_neg h1]
    by_cases h2 : nth L k < Cs (Jg d k) L
    · rw [decide_eq_true (show Cs (Jg d k) L > nth L k from h2), cond_true, if_pos h2]
      refine Ik hf he hd l (k + 1) _ true hrest (by rw [List.length_set]; exact hlen) fun j => ?_
      have h0 := Ig (Jg d k) L
      rw [Ih _ _ (by omega)]
      split
      · omega
      exact hL j
    rw [decide_eq_false (show ¬ Cs (Jg d k) L > nth L k from h2), cond_false, if_neg h2]
    exact Ik hf he hd l (k + 1) L c hrest hlen hL
def Qff : Option (List Int) → Out (List Int × Bool) (List Int)
  | none => .ret ([], false)
  | some L => .brk L
def SY (d : List Zw) (f : IX) (e : Nat → List Int × Bool → List Int × Bool) (F : List Int × Bool → Rd (List Int × Bool) (List Int × Bool) (List Int)) : Prop := ∀ s, F s = bif s.2 then (Out.on (Yt f e d 0 (s.1, false)) fun y1 => .next (y1.1, y1.2)) else .brk s.1
theorem Ru {d : List Zw} {f : IX} {e : Nat → List Int × Bool → List Int × Bool} {F : List Int × Bool → Rd (List Int × Bool) (List Int × Bool) (List Int)} (hf : IY d f) (he : ∀ k s, e k s = s) (hF : SY d f e F) (hd : d.length ≤ 1000000) :
    ∀ (n : Nat) (L : List Int) (c : Bool), L.length = d.length → (∀ j, 0 ≤ nth L j ∧ nth L j ≤ (d.length : Int)) → whl F n (L, c) = (Sv (Jg d) d.length d.length n (c, L)).map Qff
  | 0, L, c, _, _ => rfl
  | n + 1, L, false, _, _ => by
    simp only [whl, hF (L, false), cond_false, Sv]
    rfl
  | n + 1, L, true, hlen, hL => by
    have hr := Ik hf he hd d 0 L false rfl hlen hL
    have e1 : List.range' 0 d.length = List.range d.length := (List.range_eq_range' ..).symm
    rw [e1] at hr
    simp only [whl, hF (L, true), cond_true, hr, Sv]
    cases hc : Ah (Jg d) d.length (List.range d.length) (false, L) with
    | none => rfl
    | some s =>
      obtain ⟨h1, _, _, h4⟩ := A4 (List.range d.length) false L s (fun i hi => by rw [hlen]; exact U8 hi) hc
      have := Ru hf he hF hd n s.2 s.1 (by rw [h1, Fy, hlen]) fun j => ⟨by rw [h1]; exact Int.le_trans (hL j).1 (Lg (Jg d) j _ L), h4 (fun j => (hL j).2) j⟩
      exact this
theorem F3 (n : Nat) : (List.replicate n (0 : Int)).length = n ∧ ∀ j, 0 ≤ nth (List.replicate n (0 : Int)) j ∧ nth (List.replicate n (0 : Int)) j ≤ (n : Int) :=
  ⟨by simp, fun j => by rw [Ow]; omega⟩
theorem UR {d : List Zw} {f : IX} {e : Nat → List Int × Bool → List Int × Bool} {F : List Int × Bool → Rd (List Int × Bool) (List Int × Bool) (List Int)} (hf : IY d f) (he : ∀ k s, e k s = s) (hF : SY d f e F) (hd : d.length ≤ 1000000) :
    (whl F (List.length d * List.length d + 3) (List.replicate (Int.toNat (d.length : Int)) (0 : Int), true)).isSome = true := by
  rw [Int.toNat_natCast, Ru hf he hF hd _ _ _ (F3 _).1 (F3 _).2, Option.isSome_map]
  refine T8 _ _ _ (F3 _).1 (fun j => ((F3 _).2 j).2) ?_
  have : ((List.length d * List.length d + 3 : Nat) : Int) = (d.length : Int) * (d.length : Int) + 3 := by rw [Int.natCast_add, Int.natCast_mul]; rfl
  have h0 : (List.replicate d.length (0 : Int)).sum = 0 := by simp
  rw [this, h0]
  omega
open GoE (enc wide)
def U2 (b : (List Int)) (k0 : Nat) (a0 : Int) (_ : Unit) : Rd (Bool) (Unit) (Unit) := (bif (a0 != (nth b k0)) then (.ret false) else (.next ()))
def Aw (_ : Nat) (_ : Unit) : Unit := ()
def B8 (a_ : (List Int)) (b : (List Int)) : Bool := (bif ((a_.length : Int) != (b.length : Int)) then false else (Out.on (Yt (U2 b) Aw a_ 0 ()) (fun _ => true)))
theorem YA (a_ : (List Int)) (b : (List Int)) : ACalls Tryz.prog 172 [.h a_, .h b] (.b (B8 a_ b)) := by
 refine en Qa Tryz.func172 fun w0 F0 hG => ?_
 refine sn Qa [0, 1, 4] [] (p0) ?_
 refine Qc ?_
 refine tn Qa [0, 1, 4, 10] [] (pl 1 a_ (pl 3 b p0)) ?_
 refine ck ((a_.length : Int) != (b.length : Int)) (fun h1 => ?_) (fun h1 => ?_)
 ·
  refine tu Qa [(4, .b false)] [] [] [] (p0) ?_
  refine Qe ?_
  exact pb [] (Xi h1 (rfl))
 have h1d := Hs h1
 refine Qf ?_
 refine Qc ?_
 refine tu Qa [(4, .b false), (5, .i 0)] [] [] [] (p0) ?_
 refine wT 0 0 .sh a_ (fun hw2 hl3 => ?_)
 refine Su (U2 b) Aw a_ () (fun k0 _ => [(5, .i ((k0 : Nat) : Int))]) [5] (fun _ => []) [0, 1, 5] wf0 (fun k0 s0 hk0 hI0 => ?_) (fun k0 s0 hk0 hI0 => ?_) (fun y0 hD0 => ?_)
 ·
  obtain ⟨a0, hx0⟩ := Yi (l := a_) (i := k0) hk0
  refine Qc ?_
  refine sn Qa [0, 1, 4, 5, 14] [] (pl 2 a_ (pe 3 (Qz (decide_eq_true (p := ((k0 : Nat) : Int) < (a_.length : Int)) (by omega))) p0)) ?_
  refine ckT ?_
  refine Qf ?_
  refine Qc ?_
  refine Qy ?_
  refine wT 1 0 .sh b (fun hw5 hl6 => ?_)
  have hx4 := ng b k0
  refine tN Qa Yp [0, 1, 4, 5, 25] [] (pn 2 hx0 (pn 6 hx4 p0)) ?_
  refine ck (a0 != (nth b k0)) (fun h7 => ?_) (fun h7 => ?_)
  ·
   refine tu Qa [] [] [] [] (p0) ?_
   refine Qe ?_
   have hr8 : (Yt (U2 b) Aw a_ 0 ()) = .ret false := Kh hx0 (Xi h7 (rfl)) hI0
   exact pb [] (Qk h1 (N7 hr8))
  have h7d := Hs h7
  refine Qf ?_
  refine qu Qa [(5, .i ((k0 + 1 : Nat) : Int))] [5] [] [] (pe 1 (Jr (Q1 k0 (by omega))) p0) ?_
  exact xw _ (Xl hx0 (Qk h7 (rfl)) hI0)
 ·
  refine Qc ?_
  refine sn Qa [0, 1, 4, 5, 14] [] (pl 2 a_ (pe 3 (Qz (decide_eq_false (p := ((k0 : Nat) : Int) < (a_.length : Int)) (by omega))) p0)) ?_
  refine ckF ?_
  refine Xs ?_
  exact xw _ (Yn hk0 (rfl) hI0)
 refine sn Qa [4] [] (p0) ?_
 refine Qe ?_
 exact pb [] (Qk h1 (V4 hD0 (rfl)))
def Bo (d : (List Zw)) (_ : Nat) (s0 : (List Int)) : Rd ((List Int) × Bool) ((List Int)) ((List Int)) := (.next (Jz d s0))
def D6 (_ : Nat) (s0 : (List Int)) : (List Int) := s0
def Wj (d : (List Zw)) : (List Int) × Bool := (bif (!(Kr d)) then ([], false) else (Out.on (Jn (Bo d) D6 (Int.toNat (IntKind.i64.wrap (IntKind.i64.wrap ((d.length : Int) * (d.length : Int)) + 1) + 1)) 0 (List.replicate (Int.toNat (d.length : Int)) (0 : Int))) (fun y0 => (bif (!(B8 (Jz d y0) y0)) then ([], false) else (y0, true)))))
theorem JZ (d : (List Zw)) : ACalls Tryz.prog 134 [.h d] (.tup [(false, [.o 0 (((Wj d)).1)]), (false, [.b (((Wj d)).2)])]) := by
 refine en Qa Tryz.func134 fun w0 F0 hG => ?_
 refine sn Qa [0, 2, 3] [] (p0) ?_
 refine Qc ?_
 refine tn Qa [0, 2, 3, 8] [] (pc 1 (M6 d) p0) ?_
 refine ck (!(Kr d)) (fun h1 => ?_) (fun h1 => ?_)
 ·
  refine tu Qa [(2, .one (.slc (.own true 576) 1 [])), (3, .b false)] [] [] [] (p0) ?_
  refine Qe ?_
  exact pz [] (show Wj d = _ from Xi h1 (rfl)) (fun z => .tup [(false, [.o 0 z.1]), (false, [.b z.2])])
 have h1n : (Kr d) = true := Jb h1
 have h1nv := Qdb h1n
 refine Qf ?_
 refine wT 0 0 .sh d (fun hw2 hl3 => ?_)
 refine tu Qa [(2, .e 0), (3, .b false), (4, .one (.slc (.own true 768) 1 (List.replicate (Int.toNat (d.length : Int)) [.i 0])))] [] [] [] (pl 1 d (px (Co (lo := 0) (hi := (d.length : Int)) (n := 1073741824) (⟨by omega, by omega, by omega⟩)) p0)) ?_
 refine eqn [(4, .o 768 (List.replicate (Int.toNat (d.length : Int)) (0 : Int)))] [4] [] [] (by rw [show (List.replicate (Int.toNat (d.length : Int)) [.i 0]) = (eL (List.replicate (Int.toNat (d.length : Int)) (0 : Int))) from PC _ (0 : Int)]; first | done | kernel_rfl) ?_
 refine Qc ?_
 refine sn Qa [0, 2, 3, 4, 5] [] (p0) ?_
 refine mz [(5, .i 0)] [] [] [] ?_
 refine Qa4 (Bo d) D6 (Int.toNat (IntKind.i64.wrap (IntKind.i64.wrap ((d.length : Int) * (d.length : Int)) + 1) + 1)) (List.replicate (Int.toNat (d.length : Int)) (0 : Int)) (fun k0 s0 => [(4, .o 147203 s0), (5, .i ((k0 : Nat) : Int))]) [4, 5] (fun y0 => [(4, .o 147353 y0)]) [4, 5] (fun _ s0 => List.length s0 = List.length d) (fun y0 => List.length y0 = List.length d) (Ys [(768, 147203)] (by kernel_rfl)) (by simp) (fun k0 s0 hk0 hI0 => ?_) (fun k0 s0 hk0 hI0 => ?_) (fun y0 hD0 => ?_)
 ·
  have hA0_0 := hI0.2
  refine Qc ?_
  refine sn Qa [0, 2, 3, 4, 5, 20] [] (pl 2 d (pl 4 d (pe 7 (Qz (decide_eq_true (p := ((k0 : Nat) : Int) ≤ IntKind.i64.wrap (IntKind.i64.wrap ((d.length : Int) * (d.length : Int)) + 1)) (by omega))) p0))) ?_
  refine ckT ?_
  refine Qf ?_
  refine Qc ?_
  refine Qy ?_
  refine qn Qa [0, 2, 3, 4, 5] [] (pc 2 (Gm d s0 (by omega)) p0) ?_
  refine qu Qa [(4, .o 1600 (Jz d s0)), (5, .i ((k0 + 1 : Nat) : Int))] [4, 5] [] [] (pe 1 (Jr (Q1 k0 (by omega))) p0) ?_
  exact Exists.intro (Jz d s0) (And.intro (Ys [(1600, 147203)] (by kernel_rfl)) ⟨Zu hk0 (rfl) hI0.1, (by have hz := JY d s0; omega)⟩)
 ·
  have hA0_0 := hI0.2
  refine Qc ?_
  refine sn Qa [0, 2, 3, 4, 5, 20] [] (pl 2 d (pl 4 d (pe 7 (Qz (decide_eq_false (p := ((k0 : Nat) : Int) ≤ IntKind.i64.wrap (IntKind.i64.wrap ((d.length : Int) * (d.length : Int)) + 1)) (by omega))) p0))) ?_
  refine ckF ?_
  refine Xs ?_
  exact Exists.intro s0 (And.intro (Ys [(147203, 147353)] (by kernel_rfl)) ⟨Up hk0 (rfl) hI0.1, by first | omega | (simp only [List.length_set]; omega)⟩)
 have hD0_0 := hD0.2
 refine Qc ?_
 refine sn Qa [2, 3, 4, 31] [] (pc 2 (Gm d y0 (by omega)) (pc 4 (YA (Jz d y0) y0) p0)) ?_
 refine ck (!(B8 (Jz d y0) y0)) (fun h4 => ?_) (fun h4 => ?_)
 ·
  refine tn Qa [2, 3, 4] [] (p0) ?_
  refine Qe ?_
  exact pz [] (show Wj d = _ from Qk h1 (V4 hD0.1 (Xi h4 (rfl)))) (fun z => .tup [(false, [.o 0 z.1]), (false, [.b z.2])])
 refine Qf ?_
 refine tn Qa [2, 3] [] (p0) ?_
 refine Qe ?_
 exact pz [] (show Wj d = _ from Qk h1 (V4 hD0.1 (Qk h4 (rfl)))) (fun z => .tup [(false, [.o 0 z.1]), (false, [.b z.2])])
def H1 (d : (List Zw)) (k1 : Nat) (a1 : Zw) (s1 : (List Int) × Bool) : Rd (Rd ((List Int) × Bool) ((List Int) × Bool) ((List Int))) ((List Int) × Bool) ((List Int) × Bool) := (bif decide ((max (Xj d s1.1 (Xx a1.2) 0) (Xj d s1.1 (Xy a1.2) 1)) > (d.length : Int)) then (.ret (.ret ([], false))) else (bif decide ((max (Xj d s1.1 (Xx a1.2) 0) (Xj d s1.1 (Xy a1.2) 1)) > (nth s1.1 k1)) then (.next (List.set s1.1 k1 (max (Xj d s1.1 (Xx a1.2) 0) (Xj d s1.1 (Xy a1.2) 1)), true)) else (.next (s1.1, s1.2))))
def H2 (_ : Nat) (s1 : (List Int) × Bool) : (List Int) × Bool := (s1.1, s1.2)
def V7 (d : (List Zw)) (s0 : (List Int) × Bool) : Rd ((List Int) × Bool) ((List Int) × Bool) ((List Int)) := (bif s0.2 then (Out.on (Yt (H1 d) H2 d 0 (s0.1, false)) (fun y1 => (.next (y1.1, y1.2)))) else (.brk s0.1))
def Vv (d : (List Zw)) : (List Int) × Bool := (bif (!(Zm d)) then ([], false) else (Out.on (JH (V7 d) (List.length d * List.length d + 3) ((List.replicate (Int.toNat (d.length : Int)) (0 : Int)), true)) (fun y0 => (y0, true))))
theorem N2 (d : List Zw) (hd : d.length ≤ 5) : (whl (V7 d) (List.length d * List.length d + 3) (List.replicate (Int.toNat (d.length : Int)) (0 : Int), true)).isSome = true := UR (f := H1 d) (e := H2) (fun _ _ _ => rfl) (fun _ _ => rfl) (fun _ => rfl) (by omega)
theorem KA (d : (List Zw)) : ACalls Tryz.prog 149 [.h d] (.tup [(false, [.o 0 (((Vv d)).1)]), (false, [.b (((Vv d)).2)])]) := by
 refine en Qa Tryz.func149 fun w0 F0 hG => ?_
 refine sn Qa [0, 2, 3] [] (p0) ?_
 refine Qc ?_
 refine tn Qa [0, 2, 3, 11] [] (pc 1 (M5 d) p0) ?_
 refine ck (!(Zm d)) (fun h1 => ?_) (fun h1 => ?_)
 ·
  refine tu Qa [(2, .e 0), (3, .b false)] [] [] [] (p0) ?_
  refine opn [(false, 2, 0, true, 384000, 1)] ?_
  refine Qe ?_
  exact pz [] (show Vv d = _ from Xi h1 (rfl)) (fun z => .tup [(false, [.o 0 z.1]), (false, [.b z.2])])
 have h1n : (Zm d) = true := Jb h1
 refine Qf ?_
 refine wT 0 0 .sh d (fun hw2 hl3 => ?_)
 refine tu Qa [(2, .e 0), (3, .b false), (4, .one (.slc (.own true 896) 1 (List.replicate (Int.toNat (d.length : Int)) [.i 0])))] [] [] [] (pl 1 d (px (Co (lo := 0) (hi := (d.length : Int)) (n := 1073741824) (⟨by omega, by omega, by omega⟩)) p0)) ?_
 refine eqn [(4, .o 896 (List.replicate (Int.toNat (d.length : Int)) (0 : Int)))] [4] [] [] (by rw [show (List.replicate (Int.toNat (d.length : Int)) [.i 0]) = (eL (List.replicate (Int.toNat (d.length : Int)) (0 : Int))) from PC _ (0 : Int)]; first | done | kernel_rfl) ?_
 refine Qc ?_
 refine sn Qa [0, 2, 3, 4, 5] [] (p0) ?_
 refine mz [(5, .b true)] [] [] [] ?_
 refine blw (fun (s0 : (List Int) × Bool) => [(4, .o 896 s0.1), (5, .b s0.2)]) [4, 5] (fun s0 => []) [] (fun (y0 : (List Int)) => [(4, .o 896 y0)]) [0, 4, 5] (fun y0 => []) [] (fun (k0 : Nat) (s0 : (List Int) × Bool) => whl (V7 d) k0 s0 = some (JH (V7 d) (List.length d * List.length d + 3) ((List.replicate (Int.toNat (d.length : Int)) (0 : Int)), true)) ∧ List.length s0.1 = List.length d) (fun (y0 : (List Int)) => (JH (V7 d) (List.length d * List.length d + 3) ((List.replicate (Int.toNat (d.length : Int)) (0 : Int)), true)) = .brk y0) (List.length d * List.length d + 3) ((List.replicate (Int.toNat (d.length : Int)) (0 : Int)), true) wf0 ⟨Ou (N2 d (Lo (h1n))), (by simp)⟩ (fun _ h => XN h.1) (fun k0 s0 hI0 => ?_) (fun y0 hD0 => ?_)
 ·
  have hA0_0 := hI0.2
  refine Qc ?_
  refine sn Qa [0, 2, 3, 4, 5, 15] [] (p0) ?_
  refine ck s0.2 (fun h4 => ?_) (fun h4 => ?_)
  ·
   refine Qf ?_
   refine Qy ?_
   refine tn Qa [0, 2, 3, 4, 5] [] (p0) ?_
   refine tu Qa [(5, .b false), (16, .h d), (17, .i (d.length : Int)), (18, .i 0)] [5] [] [] (pl 1 d p0) ?_
   refine GV (H1 d) H2 d (s0.1, false) (fun k1 s1 => [(4, .o 896 s1.1), (5, .b s1.2), (18, .i ((k1 : Nat) : Int))]) [4, 5, 18] (fun y1 => [(4, .o 896 y1.1), (5, .b y1.2)]) [4, 5, 16, 17, 18] (fun _ s1 => List.length s1.1 = List.length s0.1) (fun y1 => List.length y1.1 = List.length s0.1) wf0 (by simp) (fun k1 s1 hk1 hI1 => ?_) (fun k1 s1 hk1 hI1 => ?_) (fun y1 hD1 => ?_)
   ·
    have hA1_0 := hI1.2
    obtain ⟨a1, hx1⟩ := Yi (l := d) (i := k1) hk1
    refine su Qa [(19, .b true)] [] [] [] (pe 0 (Qz (decide_eq_true (p := ((k1 : Nat) : Int) < (d.length : Int)) (by omega))) p0) ?_
    refine Qc ?_
    refine ckT ?_
    refine Qf ?_
    refine Qc ?_
    refine Qy ?_
    refine sn Qa [0, 2, 3, 4, 5, 6, 7, 16, 17, 18] [7] (pn 1 hx1 p0) ?_
    refine tN Qa Yp [0, 2, 3, 4, 5, 6, 8, 16, 17, 18] [] (pc 4 (Lh a1.2) (pc 5 (Di d s1.1 (Xx a1.2) 0 (by omega)) (pc 10 (Lk a1.2) (pc 11 (Di d s1.1 (Xy a1.2) 1 (by omega)) p0)))) ?_
    refine Qc ?_
    refine tu Qa [(6, .i ((k1 : Nat) : Int)), (8, .i (max (Xj d s1.1 (Xx a1.2) 0) (Xj d s1.1 (Xy a1.2) 1))), (39, .b (decide ((max (Xj d s1.1 (Xx a1.2) 0) (Xj d s1.1 (Xy a1.2) 1)) > (d.length : Int))))] [19] [] [] (pl 2 d p0) ?_
    refine ck (decide ((max (Xj d s1.1 (Xx a1.2) 0) (Xj d s1.1 (Xy a1.2) 1)) > (d.length : Int))) (fun h5 => ?_) (fun h5 => ?_)
    ·
     refine su Qa [] [39] [] [] (p0) ?_
     refine opn [(false, 2, 0, true, 384000, 1)] ?_
     refine Qe ?_
     have hr6 : (Yt (H1 d) H2 d 0 (s0.1, false)) = .ret (.ret ([], false)) := Kh hx1 (Xi h5 (rfl)) hI1.1
     have hr7 : (JH (V7 d) (List.length d * List.length d + 3) ((List.replicate (Int.toNat (d.length : Int)) (0 : Int)), true)) = .ret ([], false) := Qa0 (Xi h4 (N7 hr6)) hI0.1
     exact pz [] (show Vv d = _ from Qk h1 (N7 hr7)) (fun z => .tup [(false, [.o 0 z.1]), (false, [.b z.2])])
    have h5d := of_decide_eq_false h5
    refine Qf ?_
    refine wT 4 0 (.own true 896) s1.1 (fun hw9 hl10 => ?_)
    have hx8 := ng s1.1 k1
    refine sn Qa [0, 2, 3, 4, 5, 6, 8, 16, 17, 18, 45] [] (pN 3 hx8 p0) ?_
    refine ck (decide ((max (Xj d s1.1 (Xx a1.2) 0) (Xj d s1.1 (Xy a1.2) 1)) > (nth s1.1 k1))) (fun h11 => ?_) (fun h11 => ?_)
    ·
     have h11d := of_decide_eq_true h11
     refine tu Qa [(4, .one (.slc (.own true 896) 1 (setRow (eL s1.1) k1 0 [.i (max (Xj d s1.1 (Xx a1.2) 0) (Xj d s1.1 (Xy a1.2) 1))])))] [4, 6, 8, 39] [] [] (pN 3 hx8 p0) ?_
     refine eqn [(4, .o 896 (List.set s1.1 k1 (max (Xj d s1.1 (Xx a1.2) 0) (Xj d s1.1 (Xy a1.2) 1))))] [4] [] [] (by rw [Jx (y := (max (Xj d s1.1 (Xx a1.2) 0) (Xj d s1.1 (Xy a1.2) 1))) hx8 rfl] <;> kernel_rfl) ?_
     refine ru Qa [(5, .b true)] [5] [] [] (p0) ?_
     refine rn Qa [0, 2, 3, 4, 5, 16, 17, 18] [] (pe 0 (Jr (Q1 k1 (by omega))) p0) ?_
     exact xw (List.set s1.1 k1 (max (Xj d s1.1 (Xx a1.2) 0) (Xj d s1.1 (Xy a1.2) 1)), true) ⟨Xl hx1 (Qk h5 (Xi h11 (rfl))) hI1.1, (by first | omega | (simp only [List.length_set]; omega))⟩
    have h11d := of_decide_eq_false h11
    refine Qf ?_
    refine qn Qa [0, 2, 3, 4, 5, 16, 17, 18] [] (pe 0 (Jr (Q1 k1 (by omega))) p0) ?_
    exact xw (s1.1, s1.2) ⟨Xl hx1 (Qk h5 (Qk h11 (rfl))) hI1.1, (by first | omega | (simp only [List.length_set]; omega))⟩
   ·
    have hA1_0 := hI1.2
    refine su Qa [(19, .b false)] [] [] [] (pe 0 (Qz (decide_eq_false (p := ((k1 : Nat) : Int) < (d.length : Int)) (by omega))) p0) ?_
    refine Qc ?_
    refine ckF ?_
    refine Xs ?_
    exact xw (s1.1, s1.2) ⟨Yn hk1 (rfl) hI1.1, by first | omega | (simp only [List.length_set]; omega)⟩
   have hD1_0 := hD1.2
   exact xw (y1.1, y1.2) ⟨wn hI0.1 (Xi h4 (V4 hD1.1 (rfl))), (by first | omega | (simp only [List.length_set]; omega))⟩
  refine Xs ?_
  exact xw _ (wb hI0.1 (Qk h4 (rfl)))
 refine sn Qa [2, 3] [] (p0) ?_
 refine Qe ?_
 exact pz [] (show Vv d = _ from Qk h1 (V4 hD0 (rfl))) (fun z => .tup [(false, [.o 0 z.1]), (false, [.b z.2])])
end
end Go.Proofs.YtkbmchfkaibelaaGreatDoor
