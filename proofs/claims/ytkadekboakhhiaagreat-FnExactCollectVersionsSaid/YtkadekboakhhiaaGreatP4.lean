/- Texts of this proof, put together by a program: Cka, Ckb, Nga, Ngb, Zd, Sh, Ts, Dpa, Dpb, Dpc, Dpd, Sta, Stb, Stc, Stg, Sth, Std, Ste. -/
import Derived.Test.YtkadekboakhhiaaGreatP3
import Derived.Test.YtkadekboakhhiaaGreatProg
import Derived.KernelRfl
import Derived.Sort.EncStr
import Derived.Sort.Grow
import Derived.Lib.SlicesCompact
import Derived.Sort.Walk0
import Derived.Shelf.Small.Bits
import Derived.Shelf.Strconv.Itoa0
import Derived.Shelf.Sort.Plain
import Derived.Shelf.Slices.CompactS
import Derived.Shelf.Slices.In.SortNone
import Derived.Ground.SlgnProg
import Derived.Shelf.SlicesE.Compact
set_option linter.unusedVariables false
set_option linter.unusedSimpArgs false
namespace Go.Proofs.YtkadekboakhhiaaGreat
section
open Go.RowKit
open GoE (enc wide)
def tt : List (Nat × TI) := [(3, ⟨.int .i64, 1, [.i 0], []⟩),
 (4, ⟨.bool, 1, [.b false], []⟩),
 (5, ⟨.int .u8, 1, [.int .u8 0], []⟩),
 (9, ⟨.str, 1, [.s ⟨#[]⟩], []⟩),
 (24, ⟨.sli 49, 1, [.e 6], []⟩),
 (41, ⟨.sli 66, 1, [.e 2], []⟩),
 (42, ⟨.sli 69, 1, [.e 5], []⟩),
 (44, ⟨.struct [(0, 1, false), (1, 1, false), (2, 1, false)], 3, [.e 2, .e 5, .i 0], []⟩),
 (45, ⟨.sli 73, 1, [.e 2], []⟩),
 (47, ⟨.struct [(0, 3, true), (3, 1, false)], 4, [.e 2, .e 5, .i 0, .e 2], []⟩),
 (49, ⟨.struct [(0, 1, false), (1, 4, true), (5, 1, false)], 6, [.i 0, .e 2, .e 5, .i 0, .e 2, .i 0], []⟩),
 (66, ⟨.struct [(0, 1, false), (1, 1, false)], 2, [.s ⟨#[]⟩, .i 0], []⟩),
 (67, ⟨.sli 89, 1, [.e 4], []⟩),
 (69, ⟨.struct [(0, 1, false), (1, 1, false), (2, 1, false), (3, 1, false), (4, 1, false)], 5, [.i 0, .i 0, .b false, .i 0, .e 4], []⟩),
 (71, ⟨.sli 91, 1, [.e 7], []⟩),
 (73, ⟨.struct [(0, 1, false), (1, 1, false)], 2, [.s ⟨#[]⟩, .e 7], []⟩),
 (87, ⟨.struct [(0, 1, false), (1, 1, false), (2, 1, false)], 3, [.i 0, .i 0, .s ⟨#[]⟩], [.int, .int, .str]⟩),
 (89, ⟨.struct [(0, 1, false), (1, 3, true)], 4, [.s ⟨#[]⟩, .i 0, .i 0, .s ⟨#[]⟩], []⟩),
 (91, ⟨.struct [(0, 1, false), (1, 1, false), (2, 1, false), (3, 1, false), (4, 3, true)], 7, [.i 0, .i 0, .i 0, .s ⟨#[]⟩, .i 0, .i 0, .s ⟨#[]⟩], [.int, .int, .int, .str, .int, .int, .str]⟩),
 (100, ⟨.sli 3, 1, [.e 1], []⟩),
 (130, ⟨.sli 9, 1, [.e 1], []⟩),
 (160, ⟨.sli 4, 1, [.e 1], []⟩)]
theorem tt_ok : ttOk Tryz.prog tt = true := by kernel_rfl
theorem tt_mx : Tryz.prog.follows .mixedOrders = true := by kernel_rfl
def implIsValidAttrName (s_ : ByteArray) : Bool := (((ByteArray.size s_ : Int) == (1 : Int)) && (decide (strAt s_ 0 ≥ (97 : Int)) && decide (strAt s_ 0 ≤ (122 : Int))))
theorem implIsValidAttrName_a (s_ : ByteArray) : ACalls Tryz.prog 89 [.s s_] (.b (implIsValidAttrName s_)) := by
 refine en tt_ok Tryz.func89 fun w0 F0 hG => ?_
 refine sn tt_ok [0, 2] [] (p0) ?_
 refine awp_seq ?_
 refine mz [(2, .b false)] [] [] [] ?_
 refine jn [(2, .b (((ByteArray.size s_ : Int) == (1 : Int)) && (decide (strAt s_ 0 ≥ (97 : Int)) && decide (strAt s_ 0 ≤ (122 : Int)))))] [0, 2] [] [] ((ByteArray.size s_ : Int) == (1 : Int)) (fun h1 => ?_) (fun h1 => ?_) ?_
 ·
  have h1d := eq_of_beq h1
  refine awp_split (decide (strAt s_ 0 ≥ (97 : Int))) (fun h2 => ?_) (fun h2 => ?_)
  ·
   have h2d := of_decide_eq_true h2
   refine rn tt_ok [2] [] (pt 2 h1 (px (ob_idx (i := 0) (n := (ByteArray.size s_)) (by omega)) (pt 6 h2 (px (ob_idx (i := 0) (n := (ByteArray.size s_)) (by omega)) p0)))) ?_
   exact ⟨rfl, weak_fit (by rw [h1, h2] <;> kernel_rfl)⟩
  have h2d := of_decide_eq_false h2
  refine rn tt_ok [2] [] (pt 2 h1 (px (ob_idx (i := 0) (n := (ByteArray.size s_)) (by omega)) (pf 6 h2 p0))) ?_
  exact ⟨rfl, weak_fit (by rw [h1, h2] <;> kernel_rfl)⟩
 ·
  refine rn tt_ok [2] [] (pf 2 h1 p0) ?_
  exact ⟨rfl, weak_fit (by rw [h1] <;> kernel_rfl)⟩
 refine awp_ret ?_
 exact pb [] (show implIsValidAttrName s_ = (((ByteArray.size s_ : Int) == (1 : Int)) && (decide (strAt s_ 0 ≥ (97 : Int)) && decide (strAt s_ 0 ≤ (122 : Int)))) from rfl)
def implwithin (n : Int) (low : Int) (high_ : Int) : Bool := (decide (low ≤ n) && decide (n ≤ high_))
theorem implwithin_a (n : Int) (low : Int) (high_ : Int) : ACalls Tryz.prog 32 [.i n, .i low, .i high_] (.b (implwithin n low high_)) := by
 refine en tt_ok Tryz.func32 fun w0 F0 hG => ?_
 refine sn tt_ok [0, 1, 2, 6] [] (p0) ?_
 refine awp_seq ?_
 refine mz [(6, .b false)] [] [] [] ?_
 refine jn [(6, .b (decide (low ≤ n) && decide (n ≤ high_)))] [0, 1, 2, 6] [] [] (decide (low ≤ n)) (fun h1 => ?_) (fun h1 => ?_) ?_
 ·
  refine rn tt_ok [6] [] (pt 2 h1 p0) ?_
  exact ⟨rfl, weak_fit (by rw [h1] <;> kernel_rfl)⟩
 ·
  refine rn tt_ok [6] [] (pf 2 h1 p0) ?_
  exact ⟨rfl, weak_fit (by rw [h1] <;> kernel_rfl)⟩
 refine awp_ret ?_
 exact pb [] (show implwithin n low high_ = (decide (low ≤ n) && decide (n ≤ high_)) from rfl)
def implIsValidString_f0 (s_ : ByteArray) (k0 : Nat) (_ : Unit) : Rd (Bool) (Unit) (Unit) := (bif (decide (strAt s_ ((k0 : Nat) : Int) < (97 : Int)) || decide (strAt s_ ((k0 : Nat) : Int) > (122 : Int))) then (.ret false) else (.next ()))
def implIsValidString_e0 (_ : Nat) (_ : Unit) : Unit := ()
def implIsValidString (s_ : ByteArray) : Bool := (Out.on (forN (implIsValidString_f0 s_) implIsValidString_e0 (Int.toNat (ByteArray.size s_ : Int)) 0 ()) (fun _ => (implwithin (ByteArray.size s_ : Int) 1 6)))
theorem implIsValidString_a (s_ : ByteArray) : ACalls Tryz.prog 112 [.s s_] (.b (implIsValidString s_)) := by
 refine en tt_ok Tryz.func112 fun w0 F0 hG => ?_
 refine sn tt_ok [0, 2] [] (p0) ?_
 refine awp_seq ?_
 refine tn tt_ok [0, 2, 5, 6] [] (p0) ?_
 refine mz [(2, .b false), (5, .i (ByteArray.size s_ : Int)), (6, .i 0)] [] [] [] ?_
 refine stT 0 0 s_ (fun hs1 => ?_)
 refine blN0 (implIsValidString_f0 s_) implIsValidString_e0 (Int.toNat (ByteArray.size s_ : Int)) () (fun k0 _ => [(6, .i ((k0 : Nat) : Int))]) [6] (fun _ => []) [5, 6] wf0 (fun k0 s0 hk0 hI0 => ?_) (fun k0 s0 hk0 hI0 => ?_) (fun y0 hD0 => ?_)
 ·
  refine sn tt_ok [0, 2, 5, 6, 7] [] (pe 0 (av_bool (decide_eq_true (p := ((k0 : Nat) : Int) < (ByteArray.size s_ : Int)) (by omega))) p0) ?_
  refine awp_seq ?_
  refine ckT ?_
  refine awp_skip ?_
  refine awp_seq ?_
  refine awp_block ?_
  refine tn tt_ok [0, 2, 3, 5, 6] [] (p0) ?_
  refine awp_seq ?_
  refine mz [(3, .i ((k0 : Nat) : Int))] [] [] [] ?_
  refine jn [(18, .b (decide (strAt s_ ((k0 : Nat) : Int) < (97 : Int)) || decide (strAt s_ ((k0 : Nat) : Int) > (122 : Int))))] [3] [] [] (decide (strAt s_ ((k0 : Nat) : Int) < (97 : Int))) (fun h2 => ?_) (fun h2 => ?_) ?_
  ·
   have h2d := of_decide_eq_true h2
   refine rn tt_ok [0, 2, 5, 6, 18] [] (px (ob_idx (i := ((k0 : Nat) : Int)) (n := (ByteArray.size s_)) (by omega)) (pt 3 h2 p0)) ?_
   exact ⟨rfl, weak_fit (by rw [h2] <;> kernel_rfl)⟩
  ·
   have h2d := of_decide_eq_false h2
   refine rn tt_ok [0, 2, 5, 6, 18] [] (px (ob_idx (i := ((k0 : Nat) : Int)) (n := (ByteArray.size s_)) (by omega)) (pf 3 h2 (px (ob_idx (i := ((k0 : Nat) : Int)) (n := (ByteArray.size s_)) (by omega)) p0))) ?_
   exact ⟨rfl, weak_fit (by rw [h2] <;> kernel_rfl)⟩
  refine ck (decide (strAt s_ ((k0 : Nat) : Int) < (97 : Int)) || decide (strAt s_ ((k0 : Nat) : Int) > (122 : Int))) (fun h3 => ?_) (fun h3 => ?_)
  ·
   refine su tt_ok [] [18] [] [] (p0) ?_
   refine awp_ret ?_
   have hr4 : (forN (implIsValidString_f0 s_) implIsValidString_e0 (Int.toNat (ByteArray.size s_ : Int)) 0 ()) = .ret false := forN_ret hk0 (bif_t h3 (rfl)) hI0
   exact pb [] (on_r hr4)
  have h3l : (decide (strAt s_ ((k0 : Nat) : Int) < (97 : Int))) = false := or_l h3
  have h3ld := of_decide_eq_false h3l
  have h3r : (decide (strAt s_ ((k0 : Nat) : Int) > (122 : Int))) = false := or_r h3
  have h3rd := of_decide_eq_false h3r
  refine awp_skip ?_
  refine rn tt_ok [0, 2, 5, 6] [] (pe 0 (av_i (wrap_succ k0 (by omega))) p0) ?_
  exact xw _ (forN_next hk0 (bif_f h3 (rfl)) hI0)
 ·
  refine sn tt_ok [0, 2, 5, 6, 7] [] (pe 0 (av_bool (decide_eq_false (p := ((k0 : Nat) : Int) < (ByteArray.size s_ : Int)) (by omega))) p0) ?_
  refine awp_seq ?_
  refine ckF ?_
  refine awp_exit ?_
  exact xw _ (forN_end hk0 (rfl) hI0)
 refine sn tt_ok [2] [] (pc 2 (implwithin_a (ByteArray.size s_ : Int) 1 6) p0) ?_
 refine awp_ret ?_
 exact pb [] (on_b hD0 (rfl))
def implIsValidValue (v : ValueD) : Bool := (bif (v.1 == (0 : Int)) then ((v.1 == 0) && ((v.2.1 == 0) && ((v.2.2.toList == (⟨#[]⟩ : ByteArray).toList) && true))) else (bif (v.1 == (1 : Int)) then ((implwithin v.2.1 0 999) && (v.2.2.toList == (⟨#[]⟩ : ByteArray).toList)) else (bif (v.1 == (2 : Int)) then ((implIsValidString v.2.2) && (v.2.1 == (0 : Int))) else false)))
theorem implIsValidValue_a (v : ValueD) : ACalls Tryz.prog 110 [.a [.i v.1, .i v.2.1, .s v.2.2]] (.b (implIsValidValue v)) := by
 refine en tt_ok Tryz.func110 fun w0 F0 hG => ?_
 refine sn tt_ok [1, 2] [1] (p0) ?_
 refine awp_seq ?_
 refine tn tt_ok [1, 2, 4] [1] (p0) ?_
 refine awp_block ?_
 refine tu tt_ok [(1, .p 1 0), (2, .b false), (4, .i v.1), (5, .b (v.1 == (0 : Int)))] [0] [(1, [.i v.1, .i v.2.1, .s v.2.2])] [] (p0) ?_
 refine ck (v.1 == (0 : Int)) (fun h1 => ?_) (fun h1 => ?_)
 ·
  refine sn tt_ok [2] [] (p0) ?_
  refine awp_ret ?_
  exact pb [] (bif_t h1 (rfl))
 refine sn tt_ok [1, 2, 4, 10] [1] (p0) ?_
 refine ck (v.1 == (1 : Int)) (fun h2 => ?_) (fun h2 => ?_)
 ·
  refine awp_seq ?_
  refine mz [(10, .b (v.1 == (1 : Int)))] [5] [] [] ?_
  refine jn [(2, .b ((implwithin v.2.1 0 999) && (v.2.2.toList == (⟨#[]⟩ : ByteArray).toList)))] [1, 2, 4, 10] [] [1] (implwithin v.2.1 0 999) (fun h3 => ?_) (fun h3 => ?_) ?_
  ·
   refine rn tt_ok [2] [] (pc 2 (cb h3 (implwithin_a v.2.1 0 999)) p0) ?_
   exact ⟨rfl, weak_fit (by rw [h3] <;> kernel_rfl)⟩
  ·
   refine rn tt_ok [2] [] (pc 2 (cb h3 (implwithin_a v.2.1 0 999)) p0) ?_
   exact ⟨rfl, weak_fit (by rw [h3] <;> kernel_rfl)⟩
  refine awp_ret ?_
  exact pb [] (bif_f h1 (bif_t h2 (rfl)))
 refine tn tt_ok [1, 2, 20] [1] (p0) ?_
 refine ck (v.1 == (2 : Int)) (fun h4 => ?_) (fun h4 => ?_)
 ·
  refine awp_seq ?_
  refine mz [(20, .b (v.1 == (2 : Int)))] [4, 5] [] [] ?_
  refine jn [(2, .b ((implIsValidString v.2.2) && (v.2.1 == (0 : Int))))] [1, 2, 20] [] [1] (implIsValidString v.2.2) (fun h5 => ?_) (fun h5 => ?_) ?_
  ·
   refine rn tt_ok [2] [] (pc 2 (cb h5 (implIsValidString_a v.2.2)) p0) ?_
   exact ⟨rfl, weak_fit (by rw [h5] <;> kernel_rfl)⟩
  ·
   refine rn tt_ok [2] [] (pc 2 (cb h5 (implIsValidString_a v.2.2)) p0) ?_
   exact ⟨rfl, weak_fit (by rw [h5] <;> kernel_rfl)⟩
  refine awp_ret ?_
  exact pb [] (bif_f h1 (bif_f h2 (bif_t h4 (rfl))))
 refine awp_skip ?_
 refine tu tt_ok [] [1, 4, 5] [] [1] (p0) ?_
 refine awp_ret ?_
 exact pb [] (bif_f h1 (bif_f h2 (bif_f h4 (rfl))))
def implIsValidNode (n : NodeD) (at_ : Int) : Bool := (bif (n.1 == (1 : Int)) then ((n.1 == n.1) && ((n.2.1 == 0) && ((n.2.2.1 == 0) && ((n.2.2.2.1.toList == (⟨#[]⟩ : ByteArray).toList) && ((n.2.2.2.2.1 == 0) && ((n.2.2.2.2.2.1 == 0) && ((n.2.2.2.2.2.2.toList == (⟨#[]⟩ : ByteArray).toList) && true))))))) else (bif (n.1 == (2 : Int)) then (((n.1 == n.1) && ((n.2.1 == 0) && ((n.2.2.1 == 0) && ((n.2.2.2.1.toList == n.2.2.2.1.toList) && ((n.2.2.2.2.1 == 0) && ((n.2.2.2.2.2.1 == 0) && ((n.2.2.2.2.2.2.toList == (⟨#[]⟩ : ByteArray).toList) && true))))))) && (implIsValidAttrName n.2.2.2.1)) else (bif (bif (n.1 == (3 : Int)) then (n.1 == (3 : Int)) else (n.1 == (4 : Int))) then (((n.1 == n.1) && ((n.2.1 == 0) && ((n.2.2.1 == 0) && ((n.2.2.2.1.toList == n.2.2.2.1.toList) && ((n.2.2.2.2.1 == n.2.2.2.2.1) && ((n.2.2.2.2.2.1 == n.2.2.2.2.2.1) && ((n.2.2.2.2.2.2.toList == n.2.2.2.2.2.2.toList) && true))))))) && ((implIsValidAttrName n.2.2.2.1) && ((implIsValidValue n.2.2.2.2) && ((n.2.2.2.2.1 != (0 : Int)) && ((n.1 == (3 : Int)) || (n.2.2.2.2.1 == (1 : Int))))))) else (bif (n.1 == (5 : Int)) then (((n.1 == n.1) && ((n.2.1 == n.2.1) && ((n.2.2.1 == 0) && ((n.2.2.2.1.toList == (⟨#[]⟩ : ByteArray).toList) && ((n.2.2.2.2.1 == 0) && ((n.2.2.2.2.2.1 == 0) && ((n.2.2.2.2.2.2.toList == (⟨#[]⟩ : ByteArray).toList) && true))))))) && (decide (at_ > (0 : Int)) && (implwithin n.2.1 0 (IntKind.i64.wrap (at_ - 1))))) else (bif (bif (n.1 == (6 : Int)) then (n.1 == (6 : Int)) else (n.1 == (7 : Int))) then (((n.1 == n.1) && ((n.2.1 == n.2.1) && ((n.2.2.1 == n.2.2.1) && ((n.2.2.2.1.toList == (⟨#[]⟩ : ByteArray).toList) && ((n.2.2.2.2.1 == 0) && ((n.2.2.2.2.2.1 == 0) && ((n.2.2.2.2.2.2.toList == (⟨#[]⟩ : ByteArray).toList) && true))))))) && (decide (at_ > (0 : Int)) && ((implwithin n.2.1 0 (IntKind.i64.wrap (at_ - 1))) && (implwithin n.2.2.1 0 (IntKind.i64.wrap (at_ - 1)))))) else (bif (n.1 == (8 : Int)) then (((n.1 == n.1) && ((n.2.1 == 0) && ((n.2.2.1 == 0) && ((n.2.2.2.1.toList == n.2.2.2.1.toList) && ((n.2.2.2.2.1 == 0) && ((n.2.2.2.2.2.1 == 0) && ((n.2.2.2.2.2.2.toList == (⟨#[]⟩ : ByteArray).toList) && true))))))) && (implIsValidString n.2.2.2.1)) else (bif (n.1 == (9 : Int)) then (((n.1 == n.1) && ((n.2.1 == 0) && ((n.2.2.1 == 0) && ((n.2.2.2.1.toList == n.2.2.2.1.toList) && ((n.2.2.2.2.1 == 0) && ((n.2.2.2.2.2.1 == 0) && ((n.2.2.2.2.2.2.toList == (⟨#[]⟩ : ByteArray).toList) && true))))))) && (implIsValidString n.2.2.2.1)) else false)))))))
theorem implIsValidNode_a (n : NodeD) (at_ : Int) : ACalls Tryz.prog 125 [.a [.i n.1, .i n.2.1, .i n.2.2.1, .s n.2.2.2.1, .i n.2.2.2.2.1, .i n.2.2.2.2.2.1, .s n.2.2.2.2.2.2], .i at_] (.b (implIsValidNode n at_)) := by
 refine en tt_ok Tryz.func125 fun w0 F0 hG => ?_
 refine sn tt_ok [1, 2, 4] [2] (p0) ?_
 refine tn tt_ok [1, 2, 4, 5] [2, 5] (p0) ?_
 refine awp_seq ?_
 refine tu tt_ok [(2, .p 2 0), (4, .b false), (5, .p 5 0), (10, .i n.1)] [0] [(2, [.i n.1, .i n.2.1, .i n.2.2.1, .s n.2.2.2.1, .i n.2.2.2.2.1, .i n.2.2.2.2.2.1, .s n.2.2.2.2.2.2]), (5, [.i n.1, .i 0, .i 0, .s ⟨#[]⟩, .i 0, .i 0, .s ⟨#[]⟩])] [] (p0) ?_
 refine awp_block ?_
 refine sn tt_ok [1, 2, 4, 5, 10, 11] [2, 5] (p0) ?_
 refine ck (n.1 == (1 : Int)) (fun h1 => ?_) (fun h1 => ?_)
 ·
  refine awp_skip ?_
  refine tn tt_ok [4] [] (p0) ?_
  refine awp_ret ?_
  exact pb [] (bif_t h1 (rfl))
 refine tn tt_ok [1, 2, 4, 5, 10, 13] [2, 5] (p0) ?_
 refine ck (n.1 == (2 : Int)) (fun h2 => ?_) (fun h2 => ?_)
 ·
  refine tu tt_ok [] [1, 10] [(5, [.i n.1, .i 0, .i 0, .s n.2.2.2.1, .i 0, .i 0, .s ⟨#[]⟩])] [5] (p0) ?_
  refine awp_seq ?_
  refine jn [(4, .b (((n.1 == n.1) && ((n.2.1 == 0) && ((n.2.2.1 == 0) && ((n.2.2.2.1.toList == n.2.2.2.1.toList) && ((n.2.2.2.2.1 == 0) && ((n.2.2.2.2.2.1 == 0) && ((n.2.2.2.2.2.2.toList == (⟨#[]⟩ : ByteArray).toList) && true))))))) && (implIsValidAttrName n.2.2.2.1)))] [4] [] [] ((n.1 == n.1) && ((n.2.1 == 0) && ((n.2.2.1 == 0) && ((n.2.2.2.1.toList == n.2.2.2.1.toList) && ((n.2.2.2.2.1 == 0) && ((n.2.2.2.2.2.1 == 0) && ((n.2.2.2.2.2.2.toList == (⟨#[]⟩ : ByteArray).toList) && true))))))) (fun h3 => ?_) (fun h3 => ?_) ?_
  ·
   refine rn tt_ok [2, 4, 5] [2, 5] (pt 2 h3 (pc 6 (implIsValidAttrName_a n.2.2.2.1) p0)) ?_
   exact ⟨rfl, weak_fit (by rw [h3] <;> kernel_rfl)⟩
  ·
   refine ru tt_ok [] [] [] [] (pf 2 h3 p0) ?_
   exact ⟨rfl, weak_fit (by rw [h3] <;> kernel_rfl)⟩
  refine awp_ret ?_
  exact pb [] (bif_f h1 (bif_t h2 (rfl)))
 refine awp_seq ?_
 refine tu tt_ok [(26, .b (n.1 == (3 : Int)))] [] [] [] (p0) ?_
 refine jn [(26, .b (bif (n.1 == (3 : Int)) then (n.1 == (3 : Int)) else (n.1 == (4 : Int))))] [26] [] [] (n.1 == (3 : Int)) (fun h4 => ?_) (fun h4 => ?_) ?_
 ·
  refine ckt h4 ?_
  refine awp_skip ?_
  exact ⟨rfl, weak_fit (by rw [h4] <;> kernel_rfl)⟩
 ·
  refine ckf h4 ?_
  refine rn tt_ok [1, 2, 4, 5, 10, 26] [2, 5] (p0) ?_
  exact ⟨rfl, weak_fit (by rw [h4] <;> kernel_rfl)⟩
 refine ck (bif (n.1 == (3 : Int)) then (n.1 == (3 : Int)) else (n.1 == (4 : Int))) (fun h5 => ?_) (fun h5 => ?_)
 ·
  refine sN tt_ok tt_mx [2, 4, 5] [2, 5] (p0) ?_
  refine awp_seq ?_
  refine mz [] [1, 10, 26] [(5, [.i n.1, .i 0, .i 0, .s n.2.2.2.1, .i n.2.2.2.2.1, .i n.2.2.2.2.2.1, .s n.2.2.2.2.2.2])] [5] ?_
  refine jn [(4, .b (((n.1 == n.1) && ((n.2.1 == 0) && ((n.2.2.1 == 0) && ((n.2.2.2.1.toList == n.2.2.2.1.toList) && ((n.2.2.2.2.1 == n.2.2.2.2.1) && ((n.2.2.2.2.2.1 == n.2.2.2.2.2.1) && ((n.2.2.2.2.2.2.toList == n.2.2.2.2.2.2.toList) && true))))))) && ((implIsValidAttrName n.2.2.2.1) && ((implIsValidValue n.2.2.2.2) && ((n.2.2.2.2.1 != (0 : Int)) && ((n.1 == (3 : Int)) || (n.2.2.2.2.1 == (1 : Int))))))))] [4] [] [] ((n.1 == n.1) && ((n.2.1 == 0) && ((n.2.2.1 == 0) && ((n.2.2.2.1.toList == n.2.2.2.1.toList) && ((n.2.2.2.2.1 == n.2.2.2.2.1) && ((n.2.2.2.2.2.1 == n.2.2.2.2.2.1) && ((n.2.2.2.2.2.2.toList == n.2.2.2.2.2.2.toList) && true))))))) (fun h6 => ?_) (fun h6 => ?_) ?_
  ·
   refine awp_split (implIsValidAttrName n.2.2.2.1) (fun h7 => ?_) (fun h7 => ?_)
   ·
    refine awp_split (implIsValidValue n.2.2.2.2) (fun h8 => ?_) (fun h8 => ?_)
    ·
     refine awp_split (n.2.2.2.2.1 != (0 : Int)) (fun h9 => ?_) (fun h9 => ?_)
     ·
      refine awp_split (n.1 == (3 : Int)) (fun h10 => ?_) (fun h10 => ?_)
      ·
       refine rn tt_ok [2, 4, 5] [2, 5] (pt 2 h6 (pc 6 (cb h7 (implIsValidAttrName_a n.2.2.2.1)) (pc 11 (cb h8 (implIsValidValue_a n.2.2.2.2)) (pt 17 h9 (pt 22 h10 p0))))) ?_
       exact ⟨rfl, weak_fit (by rw [h6, h7, h8, h9, h10] <;> kernel_rfl)⟩
      refine rn tt_ok [2, 4, 5] [2, 5] (pt 2 h6 (pc 6 (cb h7 (implIsValidAttrName_a n.2.2.2.1)) (pc 11 (cb h8 (implIsValidValue_a n.2.2.2.2)) (pt 17 h9 (pf 22 h10 p0))))) ?_
      exact ⟨rfl, weak_fit (by rw [h6, h7, h8, h9, h10] <;> kernel_rfl)⟩
     refine ru tt_ok [] [] [] [] (pt 2 h6 (pc 6 (cb h7 (implIsValidAttrName_a n.2.2.2.1)) (pc 11 (cb h8 (implIsValidValue_a n.2.2.2.2)) (pf 17 h9 p0)))) ?_
     exact ⟨rfl, weak_fit (by rw [h6, h7, h8, h9] <;> kernel_rfl)⟩
    refine ru tt_ok [] [] [] [] (pt 2 h6 (pc 6 (cb h7 (implIsValidAttrName_a n.2.2.2.1)) (pc 11 (cb h8 (implIsValidValue_a n.2.2.2.2)) p0))) ?_
    exact ⟨rfl, weak_fit (by rw [h6, h7, h8] <;> kernel_rfl)⟩
   refine ru tt_ok [] [] [] [] (pt 2 h6 (pc 6 (cb h7 (implIsValidAttrName_a n.2.2.2.1)) p0)) ?_
   exact ⟨rfl, weak_fit (by rw [h6, h7] <;> kernel_rfl)⟩
  ·
   refine ru tt_ok [] [] [] [] (pf 2 h6 p0) ?_
   exact ⟨rfl, weak_fit (by rw [h6] <;> kernel_rfl)⟩
  refine awp_ret ?_
  exact pb [] (bif_f h1 (bif_f h2 (bif_t h5 (rfl))))
 refine sn tt_ok [1, 2, 4, 5, 10, 65] [2, 5] (p0) ?_
 refine ck (n.1 == (5 : Int)) (fun h11 => ?_) (fun h11 => ?_)
 ·
  refine tn tt_ok [1, 2, 4, 5] [2, 5] (p0) ?_
  refine awp_seq ?_
  refine mz [] [10, 26] [(5, [.i n.1, .i n.2.1, .i 0, .s ⟨#[]⟩, .i 0, .i 0, .s ⟨#[]⟩])] [5] ?_
  refine jn [(4, .b (((n.1 == n.1) && ((n.2.1 == n.2.1) && ((n.2.2.1 == 0) && ((n.2.2.2.1.toList == (⟨#[]⟩ : ByteArray).toList) && ((n.2.2.2.2.1 == 0) && ((n.2.2.2.2.2.1 == 0) && ((n.2.2.2.2.2.2.toList == (⟨#[]⟩ : ByteArray).toList) && true))))))) && (decide (at_ > (0 : Int)) && (implwithin n.2.1 0 (IntKind.i64.wrap (at_ - 1))))))] [1, 4] [] [] ((n.1 == n.1) && ((n.2.1 == n.2.1) && ((n.2.2.1 == 0) && ((n.2.2.2.1.toList == (⟨#[]⟩ : ByteArray).toList) && ((n.2.2.2.2.1 == 0) && ((n.2.2.2.2.2.1 == 0) && ((n.2.2.2.2.2.2.toList == (⟨#[]⟩ : ByteArray).toList) && true))))))) (fun h12 => ?_) (fun h12 => ?_) ?_
  ·
   refine awp_split (decide (at_ > (0 : Int))) (fun h13 => ?_) (fun h13 => ?_)
   ·
    refine rn tt_ok [2, 4, 5] [2, 5] (pt 2 h12 (pt 5 h13 (pc 12 (implwithin_a n.2.1 0 (IntKind.i64.wrap (at_ - 1))) p0))) ?_
    exact ⟨rfl, weak_fit (by rw [h12, h13] <;> kernel_rfl)⟩
   refine ru tt_ok [] [1] [] [] (pt 2 h12 (pf 5 h13 p0)) ?_
   exact ⟨rfl, weak_fit (by rw [h12, h13] <;> kernel_rfl)⟩
  ·
   refine ru tt_ok [] [1] [] [] (pf 2 h12 p0) ?_
   exact ⟨rfl, weak_fit (by rw [h12] <;> kernel_rfl)⟩
  refine awp_ret ?_
  exact pb [] (bif_f h1 (bif_f h2 (bif_f h5 (bif_t h11 (rfl)))))
 refine awp_seq ?_
 refine tn tt_ok [1, 2, 4, 5, 10, 84] [2, 5] (p0) ?_
 refine mz [(84, .b (n.1 == (6 : Int)))] [26] [] [] ?_
 refine jn [(84, .b (bif (n.1 == (6 : Int)) then (n.1 == (6 : Int)) else (n.1 == (7 : Int))))] [84] [] [] (n.1 == (6 : Int)) (fun h14 => ?_) (fun h14 => ?_) ?_
 ·
  refine ckt h14 ?_
  refine awp_skip ?_
  exact ⟨rfl, weak_fit (by rw [h14] <;> kernel_rfl)⟩
 ·
  refine ckf h14 ?_
  refine rn tt_ok [1, 2, 4, 5, 10, 84] [2, 5] (p0) ?_
  exact ⟨rfl, weak_fit (by rw [h14] <;> kernel_rfl)⟩
 refine ck (bif (n.1 == (6 : Int)) then (n.1 == (6 : Int)) else (n.1 == (7 : Int))) (fun h15 => ?_) (fun h15 => ?_)
 ·
  refine sN tt_ok tt_mx [1, 2, 4, 5] [2, 5] (p0) ?_
  refine awp_seq ?_
  refine mz [] [10, 84] [(5, [.i n.1, .i n.2.1, .i n.2.2.1, .s ⟨#[]⟩, .i 0, .i 0, .s ⟨#[]⟩])] [5] ?_
  refine jn [(4, .b (((n.1 == n.1) && ((n.2.1 == n.2.1) && ((n.2.2.1 == n.2.2.1) && ((n.2.2.2.1.toList == (⟨#[]⟩ : ByteArray).toList) && ((n.2.2.2.2.1 == 0) && ((n.2.2.2.2.2.1 == 0) && ((n.2.2.2.2.2.2.toList == (⟨#[]⟩ : ByteArray).toList) && true))))))) && (decide (at_ > (0 : Int)) && ((implwithin n.2.1 0 (IntKind.i64.wrap (at_ - 1))) && (implwithin n.2.2.1 0 (IntKind.i64.wrap (at_ - 1)))))))] [1, 4] [] [] ((n.1 == n.1) && ((n.2.1 == n.2.1) && ((n.2.2.1 == n.2.2.1) && ((n.2.2.2.1.toList == (⟨#[]⟩ : ByteArray).toList) && ((n.2.2.2.2.1 == 0) && ((n.2.2.2.2.2.1 == 0) && ((n.2.2.2.2.2.2.toList == (⟨#[]⟩ : ByteArray).toList) && true))))))) (fun h16 => ?_) (fun h16 => ?_) ?_
  ·
   refine awp_split (decide (at_ > (0 : Int))) (fun h17 => ?_) (fun h17 => ?_)
   ·
    refine awp_split (implwithin n.2.1 0 (IntKind.i64.wrap (at_ - 1))) (fun h18 => ?_) (fun h18 => ?_)
    ·
     refine rn tt_ok [2, 4, 5] [2, 5] (pt 2 h16 (pt 5 h17 (pc 12 (cb h18 (implwithin_a n.2.1 0 (IntKind.i64.wrap (at_ - 1)))) (pc 19 (implwithin_a n.2.2.1 0 (IntKind.i64.wrap (at_ - 1))) p0)))) ?_
     exact ⟨rfl, weak_fit (by rw [h16, h17, h18] <;> kernel_rfl)⟩
    refine ru tt_ok [] [1] [] [] (pt 2 h16 (pt 5 h17 (pc 12 (cb h18 (implwithin_a n.2.1 0 (IntKind.i64.wrap (at_ - 1)))) p0))) ?_
    exact ⟨rfl, weak_fit (by rw [h16, h17, h18] <;> kernel_rfl)⟩
   refine ru tt_ok [] [1] [] [] (pt 2 h16 (pf 5 h17 p0)) ?_
   exact ⟨rfl, weak_fit (by rw [h16, h17] <;> kernel_rfl)⟩
  ·
   refine ru tt_ok [] [1] [] [] (pf 2 h16 p0) ?_
   exact ⟨rfl, weak_fit (by rw [h16] <;> kernel_rfl)⟩
  refine awp_ret ?_
  exact pb [] (bif_f h1 (bif_f h2 (bif_f h5 (bif_f h11 (bif_t h15 (rfl))))))
 refine awp_seq ?_
 refine sn tt_ok [2, 4, 5, 10, 114] [2, 5] (p0) ?_
 refine ck (n.1 == (8 : Int)) (fun h19 => ?_) (fun h19 => ?_)
 ·
  refine awp_skip ?_
  refine ckt h19 ?_
  refine tn tt_ok [2, 4, 5] [2, 5] (p0) ?_
  refine awp_seq ?_
  refine mz [] [1, 10, 84] [(5, [.i n.1, .i 0, .i 0, .s n.2.2.2.1, .i 0, .i 0, .s ⟨#[]⟩])] [5] ?_
  refine jn [(4, .b (((n.1 == n.1) && ((n.2.1 == 0) && ((n.2.2.1 == 0) && ((n.2.2.2.1.toList == n.2.2.2.1.toList) && ((n.2.2.2.2.1 == 0) && ((n.2.2.2.2.2.1 == 0) && ((n.2.2.2.2.2.2.toList == (⟨#[]⟩ : ByteArray).toList) && true))))))) && (implIsValidString n.2.2.2.1)))] [4] [] [] ((n.1 == n.1) && ((n.2.1 == 0) && ((n.2.2.1 == 0) && ((n.2.2.2.1.toList == n.2.2.2.1.toList) && ((n.2.2.2.2.1 == 0) && ((n.2.2.2.2.2.1 == 0) && ((n.2.2.2.2.2.2.toList == (⟨#[]⟩ : ByteArray).toList) && true))))))) (fun h20 => ?_) (fun h20 => ?_) ?_
  ·
   refine rn tt_ok [2, 4, 5] [2, 5] (pt 2 h20 (pc 6 (implIsValidString_a n.2.2.2.1) p0)) ?_
   exact ⟨rfl, weak_fit (by rw [h20] <;> kernel_rfl)⟩
  ·
   refine ru tt_ok [] [] [] [] (pf 2 h20 p0) ?_
   exact ⟨rfl, weak_fit (by rw [h20] <;> kernel_rfl)⟩
  refine awp_ret ?_
  exact pb [] (bif_f h1 (bif_f h2 (bif_f h5 (bif_f h11 (bif_f h15 (bif_t h19 (rfl)))))))
 refine qn tt_ok [2, 4, 5, 114] [2, 5] (p0) ?_
 refine ck (n.1 == (9 : Int)) (fun h21 => ?_) (fun h21 => ?_)
 ·
  refine tu tt_ok [] [1, 10, 84] [(5, [.i n.1, .i 0, .i 0, .s n.2.2.2.1, .i 0, .i 0, .s ⟨#[]⟩])] [5] (p0) ?_
  refine awp_seq ?_
  refine jn [(4, .b (((n.1 == n.1) && ((n.2.1 == 0) && ((n.2.2.1 == 0) && ((n.2.2.2.1.toList == n.2.2.2.1.toList) && ((n.2.2.2.2.1 == 0) && ((n.2.2.2.2.2.1 == 0) && ((n.2.2.2.2.2.2.toList == (⟨#[]⟩ : ByteArray).toList) && true))))))) && (implIsValidString n.2.2.2.1)))] [4] [] [] ((n.1 == n.1) && ((n.2.1 == 0) && ((n.2.2.1 == 0) && ((n.2.2.2.1.toList == n.2.2.2.1.toList) && ((n.2.2.2.2.1 == 0) && ((n.2.2.2.2.2.1 == 0) && ((n.2.2.2.2.2.2.toList == (⟨#[]⟩ : ByteArray).toList) && true))))))) (fun h22 => ?_) (fun h22 => ?_) ?_
  ·
   refine rn tt_ok [2, 4, 5] [2, 5] (pt 2 h22 (pc 6 (implIsValidString_a n.2.2.2.1) p0)) ?_
   exact ⟨rfl, weak_fit (by rw [h22] <;> kernel_rfl)⟩
  ·
   refine ru tt_ok [] [] [] [] (pf 2 h22 p0) ?_
   exact ⟨rfl, weak_fit (by rw [h22] <;> kernel_rfl)⟩
  refine awp_ret ?_
  exact pb [] (bif_f h1 (bif_f h2 (bif_f h5 (bif_f h11 (bif_f h15 (bif_f h19 (bif_t h21 (rfl))))))))
 refine tu tt_ok [] [1, 10, 84] [] [] (p0) ?_
 refine awp_ret ?_
 exact pb [] (bif_f h1 (bif_f h2 (bif_f h5 (bif_f h11 (bif_f h15 (bif_f h19 (bif_f h21 (rfl))))))))
def implCountReferences_f0 (at_ : Int) (_ : Nat) (a0 : NodeD) (s0 : Int) : Rd (Int) (Int) (Int) := (bif ((a0.2.1 == at_) && (((a0.1 == (6 : Int)) || (a0.1 == (7 : Int))) || (a0.1 == (5 : Int)))) then (bif ((a0.2.2.1 == at_) && ((a0.1 == (6 : Int)) || (a0.1 == (7 : Int)))) then (.next (IntKind.i64.wrap (IntKind.i64.wrap (s0 + 1) + 1))) else (.next (IntKind.i64.wrap (s0 + 1)))) else (bif ((a0.2.2.1 == at_) && ((a0.1 == (6 : Int)) || (a0.1 == (7 : Int)))) then (.next (IntKind.i64.wrap (s0 + 1))) else (.next s0)))
def implCountReferences_e0 (_ : Nat) (s0 : Int) : Int := s0
def implCountReferences (q : (List NodeD)) (at_ : Int) : Int := (Out.on (forL (implCountReferences_f0 at_) implCountReferences_e0 q 0 0) (fun y0 => y0))
theorem implCountReferences_a (q : (List NodeD)) (at_ : Int) : ACalls Tryz.prog 126 [.h q, .i at_] (.i (implCountReferences q at_)) := by
 refine en tt_ok Tryz.func126 fun w0 F0 hG => ?_
 refine sn tt_ok [0, 1, 4] [] (p0) ?_
 refine tn tt_ok [0, 1, 4, 5] [] (p0) ?_
 refine awp_seq ?_
 refine tu tt_ok [(4, .i 0), (5, .i 0), (9, .h q), (10, .i (q.length : Int)), (11, .i 0)] [0] [] [] (pl 1 q p0) ?_
 refine wT 9 0 .sh q (fun hw1 hl2 => ?_)
 refine blL0 (implCountReferences_f0 at_) implCountReferences_e0 q 0 (fun k0 s0 => [(5, .i s0), (11, .i ((k0 : Nat) : Int))]) [5, 11] (fun y0 => [(5, .i y0)]) [1, 5, 9, 10, 11] wf0 (fun k0 s0 hk0 hI0 => ?_) (fun k0 s0 hk0 hI0 => ?_) (fun y0 hD0 => ?_)
 ·
  obtain ⟨a0, hx0⟩ := get_some (l := q) (i := k0) hk0
  refine su tt_ok [(12, .b true)] [] [] [] (pe 0 (av_bool (decide_eq_true (p := ((k0 : Nat) : Int) < (q.length : Int)) (by omega))) p0) ?_
  refine awp_seq ?_
  refine ckT ?_
  refine awp_skip ?_
  refine awp_seq ?_
  refine awp_block ?_
  refine sn tt_ok [1, 4, 5, 7, 9, 10, 11] [7] (pn 0 hx0 p0) ?_
  refine awp_seq ?_
  refine mz [(7, .p 7 0)] [12] [(7, [.i a0.1, .i a0.2.1, .i a0.2.2.1, .s a0.2.2.2.1, .i a0.2.2.2.2.1, .i a0.2.2.2.2.2.1, .s a0.2.2.2.2.2.2])] [] ?_
  refine jn [(8, .b ((a0.1 == (6 : Int)) || (a0.1 == (7 : Int))))] [] [] [] (a0.1 == (6 : Int)) (fun h3 => ?_) (fun h3 => ?_) ?_
  ·
   refine ru tt_ok [(8, .b true)] [] [] [] (pt 2 h3 p0) ?_
   exact ⟨rfl, weak_fit (by rw [h3] <;> kernel_rfl)⟩
  ·
   refine rn tt_ok [1, 4, 5, 7, 8, 9, 10, 11] [7] (pf 2 h3 p0) ?_
   exact ⟨rfl, weak_fit (by rw [h3] <;> kernel_rfl)⟩
  refine awp_seq ?_
  refine awp_seq ?_
  refine jn [(34, .b ((a0.2.1 == at_) && (((a0.1 == (6 : Int)) || (a0.1 == (7 : Int))) || (a0.1 == (5 : Int)))))] [] [] [] (a0.2.1 == at_) (fun h4 => ?_) (fun h4 => ?_) ?_
  ·
   refine awp_split ((a0.1 == (6 : Int)) || (a0.1 == (7 : Int))) (fun h5 => ?_) (fun h5 => ?_)
   ·
    refine ru tt_ok [(34, .b true)] [] [] [] (pt 3 h4 (pt 5 h5 p0)) ?_
    exact ⟨rfl, weak_fit (by rw [h4, h5] <;> kernel_rfl)⟩
   refine rn tt_ok [1, 4, 5, 7, 8, 9, 10, 11, 34] [7] (pt 3 h4 (pf 5 h5 p0)) ?_
   exact ⟨rfl, weak_fit (by rw [h4, h5] <;> kernel_rfl)⟩
  ·
   refine ru tt_ok [(34, .b false)] [] [] [] (pf 3 h4 p0) ?_
   exact ⟨rfl, weak_fit (by rw [h4] <;> kernel_rfl)⟩
  refine ck ((a0.2.1 == at_) && (((a0.1 == (6 : Int)) || (a0.1 == (7 : Int))) || (a0.1 == (5 : Int)))) (fun h6 => ?_) (fun h6 => ?_)
  ·
   have h6l : ((a0.2.1 == at_)) = true := and_l h6
   have h6ld := eq_of_beq h6l
   refine rn tt_ok [1, 4, 5, 7, 8, 9, 10, 11] [7] (p0) ?_
   refine awp_seq ?_
   refine mz [(5, .i (IntKind.i64.wrap (s0 + 1)))] [5, 34] [] [] ?_
   refine jn [(43, .b ((a0.2.2.1 == at_) && ((a0.1 == (6 : Int)) || (a0.1 == (7 : Int)))))] [7, 8] [] [7] (a0.2.2.1 == at_) (fun h7 => ?_) (fun h7 => ?_) ?_
   ·
    refine rn tt_ok [1, 4, 5, 9, 10, 11, 43] [] (pt 3 h7 p0) ?_
    exact ⟨rfl, weak_fit (by rw [h7] <;> kernel_rfl)⟩
   ·
    refine rn tt_ok [1, 4, 5, 9, 10, 11, 43] [] (pf 3 h7 p0) ?_
    exact ⟨rfl, weak_fit (by rw [h7] <;> kernel_rfl)⟩
   refine ck ((a0.2.2.1 == at_) && ((a0.1 == (6 : Int)) || (a0.1 == (7 : Int)))) (fun h8 => ?_) (fun h8 => ?_)
   ·
    have h8l : ((a0.2.2.1 == at_)) = true := and_l h8
    have h8ld := eq_of_beq h8l
    refine rn tt_ok [1, 4, 5, 9, 10, 11] [] (p0) ?_
    refine qn tt_ok [1, 4, 5, 9, 10, 11] [] (pe 0 (av_i (wrap_succ k0 (by omega))) p0) ?_
    exact xw _ (forL_next hx0 (bif_t h6 (bif_t h8 (rfl))) hI0)
   refine awp_skip ?_
   refine rn tt_ok [1, 4, 5, 9, 10, 11] [] (pe 0 (av_i (wrap_succ k0 (by omega))) p0) ?_
   exact xw _ (forL_next hx0 (bif_t h6 (bif_f h8 (rfl))) hI0)
  refine awp_skip ?_
  refine awp_seq ?_
  refine jn [(43, .b ((a0.2.2.1 == at_) && ((a0.1 == (6 : Int)) || (a0.1 == (7 : Int)))))] [7, 8, 34] [] [7] (a0.2.2.1 == at_) (fun h9 => ?_) (fun h9 => ?_) ?_
  ·
   refine rn tt_ok [1, 4, 5, 9, 10, 11, 43] [] (pt 3 h9 p0) ?_
   exact ⟨rfl, weak_fit (by rw [h9] <;> kernel_rfl)⟩
  ·
   refine rn tt_ok [1, 4, 5, 9, 10, 11, 43] [] (pf 3 h9 p0) ?_
   exact ⟨rfl, weak_fit (by rw [h9] <;> kernel_rfl)⟩
  refine ck ((a0.2.2.1 == at_) && ((a0.1 == (6 : Int)) || (a0.1 == (7 : Int)))) (fun h10 => ?_) (fun h10 => ?_)
  ·
   have h10l : ((a0.2.2.1 == at_)) = true := and_l h10
   have h10ld := eq_of_beq h10l
   refine rn tt_ok [1, 4, 5, 9, 10, 11] [] (p0) ?_
   refine qn tt_ok [1, 4, 5, 9, 10, 11] [] (pe 0 (av_i (wrap_succ k0 (by omega))) p0) ?_
   exact xw _ (forL_next hx0 (bif_f h6 (bif_t h10 (rfl))) hI0)
  refine awp_skip ?_
  refine rn tt_ok [1, 4, 5, 9, 10, 11] [] (pe 0 (av_i (wrap_succ k0 (by omega))) p0) ?_
  exact xw _ (forL_next hx0 (bif_f h6 (bif_f h10 (rfl))) hI0)
 ·
  refine su tt_ok [(12, .b false)] [] [] [] (pe 0 (av_bool (decide_eq_false (p := ((k0 : Nat) : Int) < (q.length : Int)) (by omega))) p0) ?_
  refine awp_seq ?_
  refine ckF ?_
  refine awp_exit ?_
  exact xw _ (forL_end hk0 (rfl) hI0)
 refine sn tt_ok [4] [] (p0) ?_
 refine awp_ret ?_
 exact pi [] (on_b hD0 (rfl))
def implIsValidQuery_f0 (q : (List NodeD)) (k0 : Nat) (a0 : NodeD) (_ : Unit) : Rd (Bool) (Unit) (Unit) := (bif ((!(implIsValidNode a0 ((k0 : Nat) : Int))) || (decide (((k0 : Nat) : Int) < ((q.length : Int) - 1)) && ((implCountReferences q ((k0 : Nat) : Int)) != (1 : Int)))) then (.ret false) else (.next ()))
def implIsValidQuery_e0 (_ : Nat) (_ : Unit) : Unit := ()
def implIsValidQuery (q : (List NodeD)) : Bool := (Out.on (forL (implIsValidQuery_f0 q) implIsValidQuery_e0 q 0 ()) (fun _ => (implwithin (q.length : Int) 1 9)))
theorem implIsValidQuery_a (q : (List NodeD)) : ACalls Tryz.prog 113 [.h q] (.b (implIsValidQuery q)) := by
 refine en tt_ok Tryz.func113 fun w0 F0 hG => ?_
 refine sn tt_ok [0, 2] [] (p0) ?_
 refine awp_seq ?_
 refine tn tt_ok [0, 2, 5, 6, 7] [] (pl 1 q p0) ?_
 refine mz [(2, .b false), (5, .h q), (6, .i (q.length : Int)), (7, .i 0)] [] [] [] ?_
 refine wT 0 0 .sh q (fun hw1 hl2 => ?_)
 refine blL0 (implIsValidQuery_f0 q) implIsValidQuery_e0 q () (fun k0 _ => [(7, .i ((k0 : Nat) : Int))]) [7] (fun _ => []) [5, 6, 7] wf0 (fun k0 s0 hk0 hI0 => ?_) (fun k0 s0 hk0 hI0 => ?_) (fun y0 hD0 => ?_)
 ·
  obtain ⟨a0, hx0⟩ := get_some (l := q) (i := k0) hk0
  refine sn tt_ok [0, 2, 5, 6, 7, 8] [] (pe 0 (av_bool (decide_eq_true (p := ((k0 : Nat) : Int) < (q.length : Int)) (by omega))) p0) ?_
  refine awp_seq ?_
  refine ckT ?_
  refine awp_skip ?_
  refine awp_seq ?_
  refine awp_block ?_
  refine tn tt_ok [0, 2, 3, 4, 5, 6, 7] [4] (pn 1 hx0 p0) ?_
  refine awp_seq ?_
  refine mz [(3, .i ((k0 : Nat) : Int)), (4, .p 4 0)] [] [(4, [.i a0.1, .i a0.2.1, .i a0.2.2.1, .s a0.2.2.2.1, .i a0.2.2.2.2.1, .i a0.2.2.2.2.2.1, .s a0.2.2.2.2.2.2])] [] ?_
  refine jn [(28, .b ((!(implIsValidNode a0 ((k0 : Nat) : Int))) || (decide (((k0 : Nat) : Int) < ((q.length : Int) - 1)) && ((implCountReferences q ((k0 : Nat) : Int)) != (1 : Int)))))] [3, 4] [] [4] (!(implIsValidNode a0 ((k0 : Nat) : Int))) (fun h3 => ?_) (fun h3 => ?_) ?_
  ·
   have h3n : (implIsValidNode a0 ((k0 : Nat) : Int)) = false := bnot_t h3
   refine rn tt_ok [0, 2, 5, 6, 7, 28] [] (pc 2 (cb h3n (implIsValidNode_a a0 ((k0 : Nat) : Int))) (pe 3 (show .b (!false) = .b true from rfl) p0)) ?_
   exact ⟨rfl, weak_fit (by rw [h3] <;> kernel_rfl)⟩
  ·
   have h3n : (implIsValidNode a0 ((k0 : Nat) : Int)) = true := bnot_f h3
   refine awp_split (decide (((k0 : Nat) : Int) < ((q.length : Int) - 1))) (fun h4 => ?_) (fun h4 => ?_)
   ·
    have h4d := of_decide_eq_true h4
    refine rn tt_ok [0, 2, 5, 6, 7, 28] [] (pc 2 (cb h3n (implIsValidNode_a a0 ((k0 : Nat) : Int))) (pe 3 (show .b (!true) = .b false from rfl) (pl 7 q (pe 8 (av_i (IntWalk.i64_in ((q.length : Int) - 1) (by omega))) (pt 9 h4 (pc 13 (implCountReferences_a q ((k0 : Nat) : Int)) p0)))))) ?_
    exact ⟨rfl, weak_fit (by rw [h3, h4] <;> kernel_rfl)⟩
   have h4d := of_decide_eq_false h4
   refine rn tt_ok [0, 2, 5, 6, 7, 28] [] (pc 2 (cb h3n (implIsValidNode_a a0 ((k0 : Nat) : Int))) (pe 3 (show .b (!true) = .b false from rfl) (pl 7 q (pe 8 (av_i (IntWalk.i64_in ((q.length : Int) - 1) (by omega))) (pf 9 h4 p0))))) ?_
   exact ⟨rfl, weak_fit (by rw [h3, h4] <;> kernel_rfl)⟩
  refine ck ((!(implIsValidNode a0 ((k0 : Nat) : Int))) || (decide (((k0 : Nat) : Int) < ((q.length : Int) - 1)) && ((implCountReferences q ((k0 : Nat) : Int)) != (1 : Int)))) (fun h5 => ?_) (fun h5 => ?_)
  ·
   refine su tt_ok [] [28] [] [] (p0) ?_
   refine awp_ret ?_
   have hr6 : (forL (implIsValidQuery_f0 q) implIsValidQuery_e0 q 0 ()) = .ret false := forL_ret hx0 (bif_t h5 (rfl)) hI0
   exact pb [] (on_r hr6)
  refine awp_skip ?_
  refine rn tt_ok [0, 2, 5, 6, 7] [] (pe 0 (av_i (wrap_succ k0 (by omega))) p0) ?_
  exact xw _ (forL_next hx0 (bif_f h5 (rfl)) hI0)
 ·
  refine sn tt_ok [0, 2, 5, 6, 7, 8] [] (pe 0 (av_bool (decide_eq_false (p := ((k0 : Nat) : Int) < (q.length : Int)) (by omega))) p0) ?_
  refine awp_seq ?_
  refine ckF ?_
  refine awp_exit ?_
  exact xw _ (forL_end hk0 (rfl) hI0)
 refine sn tt_ok [2] [] (pl 1 q (pc 2 (implwithin_a (q.length : Int) 1 9) p0)) ?_
 refine awp_ret ?_
 exact pb [] (on_b hD0 (rfl))
def specl01In (x : Int) (least : Int) (most : Int) : Bool := (decide (x ≥ least) && decide (x ≤ most))
theorem specl01In_a (x : Int) (least : Int) (most : Int) : ACalls Tryz.prog 27 [.i x, .i least, .i most] (.b (specl01In x least most)) := by
 refine en tt_ok Tryz.func27 fun w0 F0 hG => ?_
 refine sn tt_ok [0, 1, 2, 6] [] (p0) ?_
 refine awp_seq ?_
 refine mz [(6, .b false)] [] [] [] ?_
 refine jn [(6, .b (decide (x ≥ least) && decide (x ≤ most)))] [0, 1, 2, 6] [] [] (decide (x ≥ least)) (fun h1 => ?_) (fun h1 => ?_) ?_
 ·
  refine rn tt_ok [6] [] (pt 2 h1 p0) ?_
  exact ⟨rfl, weak_fit (by rw [h1] <;> kernel_rfl)⟩
 ·
  refine rn tt_ok [6] [] (pf 2 h1 p0) ?_
  exact ⟨rfl, weak_fit (by rw [h1] <;> kernel_rfl)⟩
 refine awp_ret ?_
 exact pb [] (show specl01In x least most = (decide (x ≥ least) && decide (x ≤ most)) from rfl)
def specl02Text_f0 (s_ : ByteArray) (k0 : Nat) (_ : Unit) : Rd (Bool) (Unit) (Unit) := (bif (decide (strAt s_ ((k0 : Nat) : Int) < (97 : Int)) || decide (strAt s_ ((k0 : Nat) : Int) > (122 : Int))) then (.ret false) else (.next ()))
def specl02Text_e0 (_ : Nat) (_ : Unit) : Unit := ()
def specl02Text (s_ : ByteArray) (most : Int) : Bool := (Out.on (forN (specl02Text_f0 s_) specl02Text_e0 (Int.toNat (ByteArray.size s_ : Int)) 0 ()) (fun _ => (specl01In (ByteArray.size s_ : Int) 1 most)))
theorem specl02Text_a (s_ : ByteArray) (most : Int) : ACalls Tryz.prog 101 [.s s_, .i most] (.b (specl02Text s_ most)) := by
 refine en tt_ok Tryz.func101 fun w0 F0 hG => ?_
 refine sn tt_ok [0, 1, 4] [] (p0) ?_
 refine awp_seq ?_
 refine tn tt_ok [0, 1, 4, 5] [] (p0) ?_
 refine mz [(4, .b false), (5, .i 0)] [] [] [] ?_
 refine stT 0 0 s_ (fun hs1 => ?_)
 refine blN0 (specl02Text_f0 s_) specl02Text_e0 (Int.toNat (ByteArray.size s_ : Int)) () (fun k0 _ => [(5, .i ((k0 : Nat) : Int))]) [5] (fun _ => []) [5] wf0 (fun k0 s0 hk0 hI0 => ?_) (fun k0 s0 hk0 hI0 => ?_) (fun y0 hD0 => ?_)
 ·
  refine awp_seq ?_
  refine sn tt_ok [0, 1, 4, 5, 9] [] (pe 3 (av_bool (decide_eq_true (p := ((k0 : Nat) : Int) < (ByteArray.size s_ : Int)) (by omega))) p0) ?_
  refine ckT ?_
  refine awp_skip ?_
  refine awp_seq ?_
  refine awp_block ?_
  refine awp_seq ?_
  refine mz [(9, .b true)] [] [] [] ?_
  refine jn [(21, .b (decide (strAt s_ ((k0 : Nat) : Int) < (97 : Int)) || decide (strAt s_ ((k0 : Nat) : Int) > (122 : Int))))] [9] [] [] (decide (strAt s_ ((k0 : Nat) : Int) < (97 : Int))) (fun h2 => ?_) (fun h2 => ?_) ?_
  ·
   have h2d := of_decide_eq_true h2
   refine rn tt_ok [0, 1, 4, 5, 21] [] (px (ob_idx (i := ((k0 : Nat) : Int)) (n := (ByteArray.size s_)) (by omega)) (pt 3 h2 p0)) ?_
   exact ⟨rfl, weak_fit (by rw [h2] <;> kernel_rfl)⟩
  ·
   have h2d := of_decide_eq_false h2
   refine rn tt_ok [0, 1, 4, 5, 21] [] (px (ob_idx (i := ((k0 : Nat) : Int)) (n := (ByteArray.size s_)) (by omega)) (pf 3 h2 (px (ob_idx (i := ((k0 : Nat) : Int)) (n := (ByteArray.size s_)) (by omega)) p0))) ?_
   exact ⟨rfl, weak_fit (by rw [h2] <;> kernel_rfl)⟩
  refine ck (decide (strAt s_ ((k0 : Nat) : Int) < (97 : Int)) || decide (strAt s_ ((k0 : Nat) : Int) > (122 : Int))) (fun h3 => ?_) (fun h3 => ?_)
  ·
   refine su tt_ok [] [21] [] [] (p0) ?_
   refine awp_ret ?_
   have hr4 : (forN (specl02Text_f0 s_) specl02Text_e0 (Int.toNat (ByteArray.size s_ : Int)) 0 ()) = .ret false := forN_ret hk0 (bif_t h3 (rfl)) hI0
   exact pb [] (on_r hr4)
  have h3l : (decide (strAt s_ ((k0 : Nat) : Int) < (97 : Int))) = false := or_l h3
  have h3ld := of_decide_eq_false h3l
  have h3r : (decide (strAt s_ ((k0 : Nat) : Int) > (122 : Int))) = false := or_r h3
  have h3rd := of_decide_eq_false h3r
  refine awp_skip ?_
  refine rn tt_ok [0, 1, 4, 5] [] (pe 1 (av_i (wrap_succ k0 (by omega))) p0) ?_
  exact xw _ (forN_next hk0 (bif_f h3 (rfl)) hI0)
 ·
  refine awp_seq ?_
  refine sn tt_ok [0, 1, 4, 5, 9] [] (pe 3 (av_bool (decide_eq_false (p := ((k0 : Nat) : Int) < (ByteArray.size s_ : Int)) (by omega))) p0) ?_
  refine ckF ?_
  refine awp_exit ?_
  exact xw _ (forN_end hk0 (rfl) hI0)
 refine sn tt_ok [4] [] (pc 3 (specl01In_a (ByteArray.size s_ : Int) 1 most) p0) ?_
 refine awp_ret ?_
 exact pb [] (on_b hD0 (rfl))
def specIsValidAttrName (s_ : ByteArray) : Bool := (specl02Text s_ 1)
theorem specIsValidAttrName_a (s_ : ByteArray) : ACalls Tryz.prog 78 [.s s_] (.b (specIsValidAttrName s_)) := by
 refine en tt_ok Tryz.func78 fun w0 F0 hG => ?_
 refine sn tt_ok [0, 2] [] (p0) ?_
 refine tn tt_ok [2] [] (pc 1 (specl02Text_a s_ 1) p0) ?_
 refine awp_ret ?_
 exact pb [] (show specIsValidAttrName s_ = (specl02Text s_ 1) from rfl)
def specIsValidString (s_ : ByteArray) : Bool := (specl02Text s_ 6)
theorem specIsValidString_a (s_ : ByteArray) : ACalls Tryz.prog 102 [.s s_] (.b (specIsValidString s_)) := by
 refine en tt_ok Tryz.func102 fun w0 F0 hG => ?_
 refine sn tt_ok [0, 2] [] (p0) ?_
 refine tn tt_ok [2] [] (pc 1 (specl02Text_a s_ 6) p0) ?_
 refine awp_ret ?_
 exact pb [] (show specIsValidString s_ = (specl02Text s_ 6) from rfl)
def specIsValidValue (v : ValueD) : Bool := (bif (v.1 == (0 : Int)) then ((v.1 == 0) && ((v.2.1 == 0) && ((v.2.2.toList == (⟨#[]⟩ : ByteArray).toList) && true))) else (bif (v.1 == (1 : Int)) then ((specl01In v.2.1 0 999) && (v.2.2.toList == (⟨#[]⟩ : ByteArray).toList)) else (bif (v.1 == (2 : Int)) then ((specIsValidString v.2.2) && (v.2.1 == (0 : Int))) else false)))
theorem specIsValidValue_a (v : ValueD) : ACalls Tryz.prog 99 [.a [.i v.1, .i v.2.1, .s v.2.2]] (.b (specIsValidValue v)) := by
 refine en tt_ok Tryz.func99 fun w0 F0 hG => ?_
 refine sn tt_ok [1, 2] [1] (p0) ?_
 refine awp_seq ?_
 refine tn tt_ok [1, 2, 4] [1] (p0) ?_
 refine awp_block ?_
 refine tu tt_ok [(1, .p 1 0), (2, .b false), (4, .i v.1), (5, .b (v.1 == (0 : Int)))] [0] [(1, [.i v.1, .i v.2.1, .s v.2.2])] [] (p0) ?_
 refine ck (v.1 == (0 : Int)) (fun h1 => ?_) (fun h1 => ?_)
 ·
  refine sn tt_ok [2] [] (p0) ?_
  refine awp_ret ?_
  exact pb [] (bif_t h1 (rfl))
 refine sn tt_ok [1, 2, 4, 10] [1] (p0) ?_
 refine ck (v.1 == (1 : Int)) (fun h2 => ?_) (fun h2 => ?_)
 ·
  refine awp_seq ?_
  refine mz [(10, .b (v.1 == (1 : Int)))] [5] [] [] ?_
  refine jn [(2, .b ((specl01In v.2.1 0 999) && (v.2.2.toList == (⟨#[]⟩ : ByteArray).toList)))] [1, 2, 4, 10] [] [1] (specl01In v.2.1 0 999) (fun h3 => ?_) (fun h3 => ?_) ?_
  ·
   refine rn tt_ok [2] [] (pc 2 (cb h3 (specl01In_a v.2.1 0 999)) p0) ?_
   exact ⟨rfl, weak_fit (by rw [h3] <;> kernel_rfl)⟩
  ·
   refine rn tt_ok [2] [] (pc 2 (cb h3 (specl01In_a v.2.1 0 999)) p0) ?_
   exact ⟨rfl, weak_fit (by rw [h3] <;> kernel_rfl)⟩
  refine awp_ret ?_
  exact pb [] (bif_f h1 (bif_t h2 (rfl)))
 refine tn tt_ok [1, 2, 20] [1] (p0) ?_
 refine ck (v.1 == (2 : Int)) (fun h4 => ?_) (fun h4 => ?_)
 ·
  refine awp_seq ?_
  refine mz [(20, .b (v.1 == (2 : Int)))] [4, 5] [] [] ?_
  refine jn [(2, .b ((specIsValidString v.2.2) && (v.2.1 == (0 : Int))))] [1, 2, 20] [] [1] (specIsValidString v.2.2) (fun h5 => ?_) (fun h5 => ?_) ?_
  ·
   refine rn tt_ok [2] [] (pc 2 (cb h5 (specIsValidString_a v.2.2)) p0) ?_
   exact ⟨rfl, weak_fit (by rw [h5] <;> kernel_rfl)⟩
  ·
   refine rn tt_ok [2] [] (pc 2 (cb h5 (specIsValidString_a v.2.2)) p0) ?_
   exact ⟨rfl, weak_fit (by rw [h5] <;> kernel_rfl)⟩
  refine awp_ret ?_
  exact pb [] (bif_f h1 (bif_f h2 (bif_t h4 (rfl))))
 refine awp_skip ?_
 refine tu tt_ok [] [1, 4, 5] [] [1] (p0) ?_
 refine awp_ret ?_
 exact pb [] (bif_f h1 (bif_f h2 (bif_f h4 (rfl))))
def specIsValidNode (n : NodeD) (at_ : Int) : Bool := (bif (n.1 == (1 : Int)) then ((n.1 == 1) && ((n.2.1 == 0) && ((n.2.2.1 == 0) && ((n.2.2.2.1.toList == (⟨#[]⟩ : ByteArray).toList) && ((n.2.2.2.2.1 == 0) && ((n.2.2.2.2.2.1 == 0) && ((n.2.2.2.2.2.2.toList == (⟨#[]⟩ : ByteArray).toList) && true))))))) else (bif (n.1 == (2 : Int)) then ((specIsValidAttrName n.2.2.2.1) && ((n.1 == n.1) && ((n.2.1 == 0) && ((n.2.2.1 == 0) && ((n.2.2.2.1.toList == n.2.2.2.1.toList) && ((n.2.2.2.2.1 == 0) && ((n.2.2.2.2.2.1 == 0) && ((n.2.2.2.2.2.2.toList == (⟨#[]⟩ : ByteArray).toList) && true)))))))) else (bif (n.1 == (3 : Int)) then ((specIsValidAttrName n.2.2.2.1) && ((specIsValidValue n.2.2.2.2) && ((n.2.2.2.2.1 != (0 : Int)) && ((n.2.1 == (0 : Int)) && (n.2.2.1 == (0 : Int)))))) else (bif (n.1 == (4 : Int)) then ((specIsValidAttrName n.2.2.2.1) && ((specIsValidValue n.2.2.2.2) && ((n.2.2.2.2.1 == (1 : Int)) && ((n.2.1 == (0 : Int)) && (n.2.2.1 == (0 : Int)))))) else (bif (n.1 == (5 : Int)) then (((specl01In n.2.1 0 (IntKind.i64.wrap (at_ - 1))) && decide (at_ > (0 : Int))) && ((n.2.2.1 == (0 : Int)) && ((n.2.2.2.1.toList == (⟨#[]⟩ : ByteArray).toList) && ((n.2.2.2.2.1 == 0) && ((n.2.2.2.2.2.1 == 0) && ((n.2.2.2.2.2.2.toList == (⟨#[]⟩ : ByteArray).toList) && true)))))) else (bif (bif (n.1 == (6 : Int)) then (n.1 == (6 : Int)) else (n.1 == (7 : Int))) then ((((specl01In n.2.1 0 (IntKind.i64.wrap (at_ - 1))) && decide (at_ > (0 : Int))) && (specl01In n.2.2.1 0 (IntKind.i64.wrap (at_ - 1)))) && ((n.2.2.2.1.toList == (⟨#[]⟩ : ByteArray).toList) && ((n.2.2.2.2.1 == 0) && ((n.2.2.2.2.2.1 == 0) && ((n.2.2.2.2.2.2.toList == (⟨#[]⟩ : ByteArray).toList) && true))))) else (bif (n.1 == (8 : Int)) then ((specIsValidString n.2.2.2.1) && ((n.1 == n.1) && ((n.2.1 == 0) && ((n.2.2.1 == 0) && ((n.2.2.2.1.toList == n.2.2.2.1.toList) && ((n.2.2.2.2.1 == 0) && ((n.2.2.2.2.2.1 == 0) && ((n.2.2.2.2.2.2.toList == (⟨#[]⟩ : ByteArray).toList) && true)))))))) else (bif (n.1 == (9 : Int)) then ((specIsValidString n.2.2.2.1) && ((n.1 == n.1) && ((n.2.1 == 0) && ((n.2.2.1 == 0) && ((n.2.2.2.1.toList == n.2.2.2.1.toList) && ((n.2.2.2.2.1 == 0) && ((n.2.2.2.2.2.1 == 0) && ((n.2.2.2.2.2.2.toList == (⟨#[]⟩ : ByteArray).toList) && true)))))))) else false))))))))
theorem specIsValidNode_a (n : NodeD) (at_ : Int) : ACalls Tryz.prog 120 [.a [.i n.1, .i n.2.1, .i n.2.2.1, .s n.2.2.2.1, .i n.2.2.2.2.1, .i n.2.2.2.2.2.1, .s n.2.2.2.2.2.2], .i at_] (.b (specIsValidNode n at_)) := by
 refine en tt_ok Tryz.func120 fun w0 F0 hG => ?_
 refine sn tt_ok [1, 2, 4] [2] (p0) ?_
 refine awp_seq ?_
 refine mz [(2, .p 2 0), (4, .b false)] [0] [(2, [.i n.1, .i n.2.1, .i n.2.2.1, .s n.2.2.2.1, .i n.2.2.2.2.1, .i n.2.2.2.2.2.1, .s n.2.2.2.2.2.2])] [] ?_
 refine jn [(5, .b ((specl01In n.2.1 0 (IntKind.i64.wrap (at_ - 1))) && decide (at_ > (0 : Int))))] [] [] [] (specl01In n.2.1 0 (IntKind.i64.wrap (at_ - 1))) (fun h1 => ?_) (fun h1 => ?_) ?_
 ·
  refine rn tt_ok [1, 2, 4, 5] [2] (pc 4 (cb h1 (specl01In_a n.2.1 0 (IntKind.i64.wrap (at_ - 1)))) p0) ?_
  exact ⟨rfl, weak_fit (by rw [h1] <;> kernel_rfl)⟩
 ·
  refine rn tt_ok [1, 2, 4, 5] [2] (pc 4 (cb h1 (specl01In_a n.2.1 0 (IntKind.i64.wrap (at_ - 1)))) p0) ?_
  exact ⟨rfl, weak_fit (by rw [h1] <;> kernel_rfl)⟩
 refine awp_seq ?_
 refine jn [(6, .b (((specl01In n.2.1 0 (IntKind.i64.wrap (at_ - 1))) && decide (at_ > (0 : Int))) && (specl01In n.2.2.1 0 (IntKind.i64.wrap (at_ - 1)))))] [1] [] [] ((specl01In n.2.1 0 (IntKind.i64.wrap (at_ - 1))) && decide (at_ > (0 : Int))) (fun h2 => ?_) (fun h2 => ?_) ?_
 ·
  refine rn tt_ok [2, 4, 5, 6] [2] (pt 0 h2 (pc 6 (specl01In_a n.2.2.1 0 (IntKind.i64.wrap (at_ - 1))) p0)) ?_
  exact ⟨rfl, weak_fit (by rw [h2] <;> kernel_rfl)⟩
 ·
  refine rn tt_ok [2, 4, 5, 6] [2] (pf 0 h2 p0) ?_
  exact ⟨rfl, weak_fit (by rw [h2] <;> kernel_rfl)⟩
 refine awp_seq ?_
 refine sn tt_ok [2, 4, 5, 6, 25] [2] (p0) ?_
 refine awp_block ?_
 refine tn tt_ok [2, 4, 5, 6, 25, 26] [2] (p0) ?_
 refine ck (n.1 == (1 : Int)) (fun h3 => ?_) (fun h3 => ?_)
 ·
  refine tu tt_ok [(4, .b ((n.1 == 1) && ((n.2.1 == 0) && ((n.2.2.1 == 0) && ((n.2.2.2.1.toList == (⟨#[]⟩ : ByteArray).toList) && ((n.2.2.2.2.1 == 0) && ((n.2.2.2.2.2.1 == 0) && ((n.2.2.2.2.2.2.toList == (⟨#[]⟩ : ByteArray).toList) && true))))))))] [2, 4, 5, 6] [] [2] (p0) ?_
  refine awp_ret ?_
  exact pb [] (bif_t h3 (rfl))
 refine tu tt_ok [(25, .i n.1), (31, .b (n.1 == (2 : Int)))] [] [] [] (p0) ?_
 refine ck (n.1 == (2 : Int)) (fun h4 => ?_) (fun h4 => ?_)
 ·
  refine awp_seq ?_
  refine jn [(4, .b ((specIsValidAttrName n.2.2.2.1) && ((n.1 == n.1) && ((n.2.1 == 0) && ((n.2.2.1 == 0) && ((n.2.2.2.1.toList == n.2.2.2.1.toList) && ((n.2.2.2.2.1 == 0) && ((n.2.2.2.2.2.1 == 0) && ((n.2.2.2.2.2.2.toList == (⟨#[]⟩ : ByteArray).toList) && true)))))))))] [2, 4, 5, 6, 25, 31] [] [2] (specIsValidAttrName n.2.2.2.1) (fun h5 => ?_) (fun h5 => ?_) ?_
  ·
   refine rn tt_ok [4] [] (pc 2 (cb h5 (specIsValidAttrName_a n.2.2.2.1)) p0) ?_
   exact ⟨rfl, weak_fit (by rw [h5] <;> kernel_rfl)⟩
  ·
   refine rn tt_ok [4] [] (pc 2 (cb h5 (specIsValidAttrName_a n.2.2.2.1)) p0) ?_
   exact ⟨rfl, weak_fit (by rw [h5] <;> kernel_rfl)⟩
  refine awp_ret ?_
  exact pb [] (bif_f h3 (bif_t h4 (rfl)))
 refine sn tt_ok [2, 4, 5, 6, 25, 45] [2] (p0) ?_
 refine ck (n.1 == (3 : Int)) (fun h6 => ?_) (fun h6 => ?_)
 ·
  refine awp_seq ?_
  refine mz [(45, .b (n.1 == (3 : Int)))] [31] [] [] ?_
  refine jn [(4, .b ((specIsValidAttrName n.2.2.2.1) && ((specIsValidValue n.2.2.2.2) && ((n.2.2.2.2.1 != (0 : Int)) && ((n.2.1 == (0 : Int)) && (n.2.2.1 == (0 : Int)))))))] [2, 4, 5, 6, 25, 45] [] [2] (specIsValidAttrName n.2.2.2.1) (fun h7 => ?_) (fun h7 => ?_) ?_
  ·
   refine awp_split (specIsValidValue n.2.2.2.2) (fun h8 => ?_) (fun h8 => ?_)
   ·
    refine awp_split (n.2.2.2.2.1 != (0 : Int)) (fun h9 => ?_) (fun h9 => ?_)
    ·
     refine awp_split (n.2.1 == (0 : Int)) (fun h10 => ?_) (fun h10 => ?_)
     ·
      refine rn tt_ok [4] [] (pc 2 (cb h7 (specIsValidAttrName_a n.2.2.2.1)) (pc 6 (cb h8 (specIsValidValue_a n.2.2.2.2)) (pt 12 h9 (pt 17 h10 p0)))) ?_
      exact ⟨rfl, weak_fit (by rw [h7, h8, h9, h10] <;> kernel_rfl)⟩
     refine rn tt_ok [4] [] (pc 2 (cb h7 (specIsValidAttrName_a n.2.2.2.1)) (pc 6 (cb h8 (specIsValidValue_a n.2.2.2.2)) (pt 12 h9 (pf 17 h10 p0)))) ?_
     exact ⟨rfl, weak_fit (by rw [h7, h8, h9, h10] <;> kernel_rfl)⟩
    refine rn tt_ok [4] [] (pc 2 (cb h7 (specIsValidAttrName_a n.2.2.2.1)) (pc 6 (cb h8 (specIsValidValue_a n.2.2.2.2)) (pf 12 h9 p0))) ?_
    exact ⟨rfl, weak_fit (by rw [h7, h8, h9] <;> kernel_rfl)⟩
   refine rn tt_ok [4] [] (pc 2 (cb h7 (specIsValidAttrName_a n.2.2.2.1)) (pc 6 (cb h8 (specIsValidValue_a n.2.2.2.2)) p0)) ?_
   exact ⟨rfl, weak_fit (by rw [h7, h8] <;> kernel_rfl)⟩
  ·
   refine rn tt_ok [4] [] (pc 2 (cb h7 (specIsValidAttrName_a n.2.2.2.1)) p0) ?_
   exact ⟨rfl, weak_fit (by rw [h7] <;> kernel_rfl)⟩
  refine awp_ret ?_
  exact pb [] (bif_f h3 (bif_f h4 (bif_t h6 (rfl))))
 refine tn tt_ok [2, 4, 5, 6, 25, 71] [2] (p0) ?_
 refine ck (n.1 == (4 : Int)) (fun h11 => ?_) (fun h11 => ?_)
 ·
  refine awp_seq ?_
  refine mz [(71, .b (n.1 == (4 : Int)))] [31] [] [] ?_
  refine jn [(4, .b ((specIsValidAttrName n.2.2.2.1) && ((specIsValidValue n.2.2.2.2) && ((n.2.2.2.2.1 == (1 : Int)) && ((n.2.1 == (0 : Int)) && (n.2.2.1 == (0 : Int)))))))] [2, 4, 5, 6, 25, 71] [] [2] (specIsValidAttrName n.2.2.2.1) (fun h12 => ?_) (fun h12 => ?_) ?_
  ·
   refine awp_split (specIsValidValue n.2.2.2.2) (fun h13 => ?_) (fun h13 => ?_)
   ·
    refine awp_split (n.2.2.2.2.1 == (1 : Int)) (fun h14 => ?_) (fun h14 => ?_)
    ·
     refine awp_split (n.2.1 == (0 : Int)) (fun h15 => ?_) (fun h15 => ?_)
     ·
      refine rn tt_ok [4] [] (pc 2 (cb h12 (specIsValidAttrName_a n.2.2.2.1)) (pc 6 (cb h13 (specIsValidValue_a n.2.2.2.2)) (pt 12 h14 (pt 17 h15 p0)))) ?_
      exact ⟨rfl, weak_fit (by rw [h12, h13, h14, h15] <;> kernel_rfl)⟩
     refine rn tt_ok [4] [] (pc 2 (cb h12 (specIsValidAttrName_a n.2.2.2.1)) (pc 6 (cb h13 (specIsValidValue_a n.2.2.2.2)) (pt 12 h14 (pf 17 h15 p0)))) ?_
     exact ⟨rfl, weak_fit (by rw [h12, h13, h14, h15] <;> kernel_rfl)⟩
    refine rn tt_ok [4] [] (pc 2 (cb h12 (specIsValidAttrName_a n.2.2.2.1)) (pc 6 (cb h13 (specIsValidValue_a n.2.2.2.2)) (pf 12 h14 p0))) ?_
    exact ⟨rfl, weak_fit (by rw [h12, h13, h14] <;> kernel_rfl)⟩
   refine rn tt_ok [4] [] (pc 2 (cb h12 (specIsValidAttrName_a n.2.2.2.1)) (pc 6 (cb h13 (specIsValidValue_a n.2.2.2.2)) p0)) ?_
   exact ⟨rfl, weak_fit (by rw [h12, h13] <;> kernel_rfl)⟩
  ·
   refine rn tt_ok [4] [] (pc 2 (cb h12 (specIsValidAttrName_a n.2.2.2.1)) p0) ?_
   exact ⟨rfl, weak_fit (by rw [h12] <;> kernel_rfl)⟩
  refine awp_ret ?_
  exact pb [] (bif_f h3 (bif_f h4 (bif_f h6 (bif_t h11 (rfl)))))
 refine tu tt_ok [(97, .b (n.1 == (5 : Int)))] [31] [] [] (p0) ?_
 refine ck (n.1 == (5 : Int)) (fun h16 => ?_) (fun h16 => ?_)
 ·
  refine awp_seq ?_
  refine jn [(4, .b (((specl01In n.2.1 0 (IntKind.i64.wrap (at_ - 1))) && decide (at_ > (0 : Int))) && ((n.2.2.1 == (0 : Int)) && ((n.2.2.2.1.toList == (⟨#[]⟩ : ByteArray).toList) && ((n.2.2.2.2.1 == 0) && ((n.2.2.2.2.2.1 == 0) && ((n.2.2.2.2.2.2.toList == (⟨#[]⟩ : ByteArray).toList) && true)))))))] [2, 4, 5, 6, 25, 97] [] [2] ((specl01In n.2.1 0 (IntKind.i64.wrap (at_ - 1))) && decide (at_ > (0 : Int))) (fun h17 => ?_) (fun h17 => ?_) ?_
  ·
   refine awp_split (n.2.2.1 == (0 : Int)) (fun h18 => ?_) (fun h18 => ?_)
   ·
    refine awp_split (n.2.2.2.1.toList == (⟨#[]⟩ : ByteArray).toList) (fun h19 => ?_) (fun h19 => ?_)
    ·
     refine rn tt_ok [4] [] (pt 0 h17 (pt 4 h18 (pt 9 h19 p0))) ?_
     exact ⟨rfl, weak_fit (by rw [h17, h18, h19] <;> kernel_rfl)⟩
    refine rn tt_ok [4] [] (pt 0 h17 (pt 4 h18 (pf 9 h19 p0))) ?_
    exact ⟨rfl, weak_fit (by rw [h17, h18, h19] <;> kernel_rfl)⟩
   refine rn tt_ok [4] [] (pt 0 h17 (pf 4 h18 p0)) ?_
   exact ⟨rfl, weak_fit (by rw [h17, h18] <;> kernel_rfl)⟩
  ·
   refine rn tt_ok [4] [] (pf 0 h17 p0) ?_
   exact ⟨rfl, weak_fit (by rw [h17] <;> kernel_rfl)⟩
  refine awp_ret ?_
  exact pb [] (bif_f h3 (bif_f h4 (bif_f h6 (bif_f h11 (bif_t h16 (rfl))))))
 refine awp_seq ?_
 refine sn tt_ok [2, 4, 6, 25, 116] [2] (p0) ?_
 refine mz [(116, .b (n.1 == (6 : Int)))] [5, 97] [] [] ?_
 refine jn [(116, .b (bif (n.1 == (6 : Int)) then (n.1 == (6 : Int)) else (n.1 == (7 : Int))))] [116] [] [] (n.1 == (6 : Int)) (fun h20 => ?_) (fun h20 => ?_) ?_
 ·
  refine ckt h20 ?_
  refine awp_skip ?_
  exact ⟨rfl, weak_fit (by rw [h20] <;> kernel_rfl)⟩
 ·
  refine ckf h20 ?_
  refine rn tt_ok [2, 4, 6, 25, 116] [2] (p0) ?_
  exact ⟨rfl, weak_fit (by rw [h20] <;> kernel_rfl)⟩
 refine ck (bif (n.1 == (6 : Int)) then (n.1 == (6 : Int)) else (n.1 == (7 : Int))) (fun h21 => ?_) (fun h21 => ?_)
 ·
  refine awp_seq ?_
  refine jn [(4, .b ((((specl01In n.2.1 0 (IntKind.i64.wrap (at_ - 1))) && decide (at_ > (0 : Int))) && (specl01In n.2.2.1 0 (IntKind.i64.wrap (at_ - 1)))) && ((n.2.2.2.1.toList == (⟨#[]⟩ : ByteArray).toList) && ((n.2.2.2.2.1 == 0) && ((n.2.2.2.2.2.1 == 0) && ((n.2.2.2.2.2.2.toList == (⟨#[]⟩ : ByteArray).toList) && true))))))] [2, 4, 6, 25, 116] [] [2] (((specl01In n.2.1 0 (IntKind.i64.wrap (at_ - 1))) && decide (at_ > (0 : Int))) && (specl01In n.2.2.1 0 (IntKind.i64.wrap (at_ - 1)))) (fun h22 => ?_) (fun h22 => ?_) ?_
  ·
   refine awp_split (n.2.2.2.1.toList == (⟨#[]⟩ : ByteArray).toList) (fun h23 => ?_) (fun h23 => ?_)
   ·
    refine rn tt_ok [4] [] (pt 0 h22 (pt 4 h23 p0)) ?_
    exact ⟨rfl, weak_fit (by rw [h22, h23] <;> kernel_rfl)⟩
   refine rn tt_ok [4] [] (pt 0 h22 (pf 4 h23 p0)) ?_
   exact ⟨rfl, weak_fit (by rw [h22, h23] <;> kernel_rfl)⟩
  ·
   refine rn tt_ok [4] [] (pf 0 h22 p0) ?_
   exact ⟨rfl, weak_fit (by rw [h22] <;> kernel_rfl)⟩
  refine awp_ret ?_
  exact pb [] (bif_f h3 (bif_f h4 (bif_f h6 (bif_f h11 (bif_f h16 (bif_t h21 (rfl)))))))
 refine awp_seq ?_
 refine sn tt_ok [2, 4, 25, 131] [2] (p0) ?_
 refine ck (n.1 == (8 : Int)) (fun h24 => ?_) (fun h24 => ?_)
 ·
  refine awp_skip ?_
  refine ckt h24 ?_
  refine awp_seq ?_
  refine mz [(131, .b (n.1 == (8 : Int)))] [6, 116] [] [] ?_
  refine jn [(4, .b ((specIsValidString n.2.2.2.1) && ((n.1 == n.1) && ((n.2.1 == 0) && ((n.2.2.1 == 0) && ((n.2.2.2.1.toList == n.2.2.2.1.toList) && ((n.2.2.2.2.1 == 0) && ((n.2.2.2.2.2.1 == 0) && ((n.2.2.2.2.2.2.toList == (⟨#[]⟩ : ByteArray).toList) && true)))))))))] [2, 4, 25, 131] [] [2] (specIsValidString n.2.2.2.1) (fun h25 => ?_) (fun h25 => ?_) ?_
  ·
   refine rn tt_ok [4] [] (pc 2 (cb h25 (specIsValidString_a n.2.2.2.1)) p0) ?_
   exact ⟨rfl, weak_fit (by rw [h25] <;> kernel_rfl)⟩
  ·
   refine rn tt_ok [4] [] (pc 2 (cb h25 (specIsValidString_a n.2.2.2.1)) p0) ?_
   exact ⟨rfl, weak_fit (by rw [h25] <;> kernel_rfl)⟩
  refine awp_ret ?_
  exact pb [] (bif_f h3 (bif_f h4 (bif_f h6 (bif_f h11 (bif_f h16 (bif_f h21 (bif_t h24 (rfl))))))))
 refine qn tt_ok [2, 4, 131] [2] (p0) ?_
 refine ck (n.1 == (9 : Int)) (fun h26 => ?_) (fun h26 => ?_)
 ·
  refine awp_seq ?_
  refine mz [(131, .b (n.1 == (9 : Int)))] [6, 25, 116] [] [] ?_
  refine jn [(4, .b ((specIsValidString n.2.2.2.1) && ((n.1 == n.1) && ((n.2.1 == 0) && ((n.2.2.1 == 0) && ((n.2.2.2.1.toList == n.2.2.2.1.toList) && ((n.2.2.2.2.1 == 0) && ((n.2.2.2.2.2.1 == 0) && ((n.2.2.2.2.2.2.toList == (⟨#[]⟩ : ByteArray).toList) && true)))))))))] [2, 4, 131] [] [2] (specIsValidString n.2.2.2.1) (fun h27 => ?_) (fun h27 => ?_) ?_
  ·
   refine rn tt_ok [4] [] (pc 2 (cb h27 (specIsValidString_a n.2.2.2.1)) p0) ?_
   exact ⟨rfl, weak_fit (by rw [h27] <;> kernel_rfl)⟩
  ·
   refine rn tt_ok [4] [] (pc 2 (cb h27 (specIsValidString_a n.2.2.2.1)) p0) ?_
   exact ⟨rfl, weak_fit (by rw [h27] <;> kernel_rfl)⟩
  refine awp_ret ?_
  exact pb [] (bif_f h3 (bif_f h4 (bif_f h6 (bif_f h11 (bif_f h16 (bif_f h21 (bif_f h24 (bif_t h26 (rfl)))))))))
 refine awp_skip ?_
 refine tu tt_ok [] [2, 6, 25, 116] [] [2] (p0) ?_
 refine awp_ret ?_
 exact pb [] (bif_f h3 (bif_f h4 (bif_f h6 (bif_f h11 (bif_f h16 (bif_f h21 (bif_f h24 (bif_f h26 (rfl)))))))))
def specCountReferences_f0 (at_ : Int) (_ : Nat) (a0 : NodeD) (s0 : Int) : Rd (Int) (Int) (Int) := (bif (bif ((a0.1 == (6 : Int)) || (a0.1 == (7 : Int))) then (a0.2.1 == at_) else ((a0.1 == (5 : Int)) && (a0.2.1 == at_))) then (bif (((a0.1 == (6 : Int)) || (a0.1 == (7 : Int))) && (a0.2.2.1 == at_)) then (.next (IntKind.i64.wrap (IntKind.i64.wrap (s0 + 1) + 1))) else (.next (IntKind.i64.wrap (s0 + 1)))) else (bif (((a0.1 == (6 : Int)) || (a0.1 == (7 : Int))) && (a0.2.2.1 == at_)) then (.next (IntKind.i64.wrap (s0 + 1))) else (.next s0)))
def specCountReferences_e0 (_ : Nat) (s0 : Int) : Int := s0
def specCountReferences (q : (List NodeD)) (at_ : Int) : Int := (Out.on (forL (specCountReferences_f0 at_) specCountReferences_e0 q 0 0) (fun y0 => y0))
theorem specCountReferences_a (q : (List NodeD)) (at_ : Int) : ACalls Tryz.prog 121 [.h q, .i at_] (.i (specCountReferences q at_)) := by
 refine en tt_ok Tryz.func121 fun w0 F0 hG => ?_
 refine sn tt_ok [0, 1, 4] [] (p0) ?_
 refine tn tt_ok [0, 1, 4, 5] [] (p0) ?_
 refine awp_seq ?_
 refine tu tt_ok [(4, .i 0), (5, .i 0), (6, .i 0)] [] [] [] (p0) ?_
 refine wT 0 0 .sh q (fun hw1 hl2 => ?_)
 refine blL0 (specCountReferences_f0 at_) specCountReferences_e0 q 0 (fun k0 s0 => [(5, .i s0), (6, .i ((k0 : Nat) : Int))]) [5, 6] (fun y0 => [(5, .i y0)]) [0, 1, 5, 6] wf0 (fun k0 s0 hk0 hI0 => ?_) (fun k0 s0 hk0 hI0 => ?_) (fun y0 hD0 => ?_)
 ·
  obtain ⟨a0, hx0⟩ := get_some (l := q) (i := k0) hk0
  refine awp_seq ?_
  refine sn tt_ok [0, 1, 4, 5, 6, 11] [] (pl 2 q (pe 3 (av_bool (decide_eq_true (p := ((k0 : Nat) : Int) < (q.length : Int)) (by omega))) p0)) ?_
  refine ckT ?_
  refine awp_skip ?_
  refine awp_seq ?_
  refine awp_block ?_
  refine awp_seq ?_
  refine mz [(11, .b true)] [] [] [] ?_
  refine jn [(7, .b ((a0.1 == (6 : Int)) || (a0.1 == (7 : Int))))] [11] [] [] (a0.1 == (6 : Int)) (fun h3 => ?_) (fun h3 => ?_) ?_
  ·
   refine rn tt_ok [0, 1, 4, 5, 6, 7] [] (pn 2 hx0 (pt 5 h3 p0)) ?_
   exact ⟨rfl, weak_fit (by rw [h3] <;> kernel_rfl)⟩
  ·
   refine rn tt_ok [0, 1, 4, 5, 6, 7] [] (pn 2 hx0 (pf 5 h3 (pn 9 hx0 p0))) ?_
   exact ⟨rfl, weak_fit (by rw [h3] <;> kernel_rfl)⟩
  refine awp_seq ?_
  refine awp_seq ?_
  refine jn [(45, .b (bif ((a0.1 == (6 : Int)) || (a0.1 == (7 : Int))) then (a0.2.1 == at_) else ((a0.1 == (5 : Int)) && (a0.2.1 == at_))))] [] [] [] ((a0.1 == (6 : Int)) || (a0.1 == (7 : Int))) (fun h4 => ?_) (fun h4 => ?_) ?_
  ·
   refine rn tt_ok [0, 1, 4, 5, 6, 7, 45] [] (pt 0 h4 (pn 12 hx0 p0)) ?_
   exact ⟨rfl, weak_fit (by rw [h4] <;> kernel_rfl)⟩
  ·
   refine awp_split (a0.1 == (5 : Int)) (fun h5 => ?_) (fun h5 => ?_)
   ·
    refine rn tt_ok [0, 1, 4, 5, 6, 7, 45] [] (pf 0 h4 (pn 4 hx0 (pt 7 h5 (pn 12 hx0 p0)))) ?_
    exact ⟨rfl, weak_fit (by rw [h4, h5] <;> kernel_rfl)⟩
   refine ru tt_ok [(45, .b false)] [] [] [] (pf 0 h4 (pn 4 hx0 (pf 7 h5 p0))) ?_
   exact ⟨rfl, weak_fit (by rw [h4, h5] <;> kernel_rfl)⟩
  refine ck (bif ((a0.1 == (6 : Int)) || (a0.1 == (7 : Int))) then (a0.2.1 == at_) else ((a0.1 == (5 : Int)) && (a0.2.1 == at_))) (fun h6 => ?_) (fun h6 => ?_)
  ·
   refine rn tt_ok [0, 1, 4, 5, 6, 7] [] (p0) ?_
   refine awp_seq ?_
   refine mz [(5, .i (IntKind.i64.wrap (s0 + 1)))] [5, 45] [] [] ?_
   refine jn [(57, .b (((a0.1 == (6 : Int)) || (a0.1 == (7 : Int))) && (a0.2.2.1 == at_)))] [7] [] [] ((a0.1 == (6 : Int)) || (a0.1 == (7 : Int))) (fun h7 => ?_) (fun h7 => ?_) ?_
   ·
    refine rn tt_ok [0, 1, 4, 5, 6, 57] [] (pt 0 h7 (pn 4 hx0 p0)) ?_
    exact ⟨rfl, weak_fit (by rw [h7] <;> kernel_rfl)⟩
   ·
    refine rn tt_ok [0, 1, 4, 5, 6, 57] [] (pf 0 h7 p0) ?_
    exact ⟨rfl, weak_fit (by rw [h7] <;> kernel_rfl)⟩
   refine ck (((a0.1 == (6 : Int)) || (a0.1 == (7 : Int))) && (a0.2.2.1 == at_)) (fun h8 => ?_) (fun h8 => ?_)
   ·
    have h8r : ((a0.2.2.1 == at_)) = true := and_r h8
    have h8rd := eq_of_beq h8r
    refine rn tt_ok [0, 1, 4, 5, 6] [] (p0) ?_
    refine qn tt_ok [0, 1, 4, 5, 6] [] (pe 1 (av_i (wrap_succ k0 (by omega))) p0) ?_
    exact xw _ (forL_next hx0 (bif_t h6 (bif_t h8 (rfl))) hI0)
   refine awp_skip ?_
   refine rn tt_ok [0, 1, 4, 5, 6] [] (pe 1 (av_i (wrap_succ k0 (by omega))) p0) ?_
   exact xw _ (forL_next hx0 (bif_t h6 (bif_f h8 (rfl))) hI0)
  refine awp_skip ?_
  refine awp_seq ?_
  refine jn [(57, .b (((a0.1 == (6 : Int)) || (a0.1 == (7 : Int))) && (a0.2.2.1 == at_)))] [7, 45] [] [] ((a0.1 == (6 : Int)) || (a0.1 == (7 : Int))) (fun h9 => ?_) (fun h9 => ?_) ?_
  ·
   refine rn tt_ok [0, 1, 4, 5, 6, 57] [] (pt 0 h9 (pn 4 hx0 p0)) ?_
   exact ⟨rfl, weak_fit (by rw [h9] <;> kernel_rfl)⟩
  ·
   refine rn tt_ok [0, 1, 4, 5, 6, 57] [] (pf 0 h9 p0) ?_
   exact ⟨rfl, weak_fit (by rw [h9] <;> kernel_rfl)⟩
  refine ck (((a0.1 == (6 : Int)) || (a0.1 == (7 : Int))) && (a0.2.2.1 == at_)) (fun h10 => ?_) (fun h10 => ?_)
  ·
   have h10r : ((a0.2.2.1 == at_)) = true := and_r h10
   have h10rd := eq_of_beq h10r
   refine rn tt_ok [0, 1, 4, 5, 6] [] (p0) ?_
   refine qn tt_ok [0, 1, 4, 5, 6] [] (pe 1 (av_i (wrap_succ k0 (by omega))) p0) ?_
   exact xw _ (forL_next hx0 (bif_f h6 (bif_t h10 (rfl))) hI0)
  refine awp_skip ?_
  refine rn tt_ok [0, 1, 4, 5, 6] [] (pe 1 (av_i (wrap_succ k0 (by omega))) p0) ?_
  exact xw _ (forL_next hx0 (bif_f h6 (bif_f h10 (rfl))) hI0)
 ·
  refine awp_seq ?_
  refine sn tt_ok [0, 1, 4, 5, 6, 11] [] (pl 2 q (pe 3 (av_bool (decide_eq_false (p := ((k0 : Nat) : Int) < (q.length : Int)) (by omega))) p0)) ?_
  refine ckF ?_
  refine awp_exit ?_
  exact xw _ (forL_end hk0 (rfl) hI0)
 refine sn tt_ok [4] [] (p0) ?_
 refine awp_ret ?_
 exact pi [] (on_b hD0 (rfl))
def specIsValidQuery_f0 (q : (List NodeD)) (k0 : Nat) (a0 : NodeD) (_ : Unit) : Rd (Bool) (Unit) (Unit) := (bif ((!(specIsValidNode a0 ((k0 : Nat) : Int))) || (decide (((k0 : Nat) : Int) < ((q.length : Int) - 1)) && ((specCountReferences q ((k0 : Nat) : Int)) != (1 : Int)))) then (.ret false) else (.next ()))
def specIsValidQuery_e0 (_ : Nat) (_ : Unit) : Unit := ()
def specIsValidQuery (q : (List NodeD)) : Bool := (Out.on (forL (specIsValidQuery_f0 q) specIsValidQuery_e0 q 0 ()) (fun _ => (specl01In (q.length : Int) 1 9)))
theorem specIsValidQuery_a (q : (List NodeD)) : ACalls Tryz.prog 103 [.h q] (.b (specIsValidQuery q)) := by
 refine en tt_ok Tryz.func103 fun w0 F0 hG => ?_
 refine sn tt_ok [0, 2] [] (p0) ?_
 refine awp_seq ?_
 refine tn tt_ok [0, 2, 3] [] (p0) ?_
 refine mz [(2, .b false), (3, .i 0)] [] [] [] ?_
 refine wT 0 0 .sh q (fun hw1 hl2 => ?_)
 refine blL0 (specIsValidQuery_f0 q) specIsValidQuery_e0 q () (fun k0 _ => [(3, .i ((k0 : Nat) : Int))]) [3] (fun _ => []) [3] wf0 (fun k0 s0 hk0 hI0 => ?_) (fun k0 s0 hk0 hI0 => ?_) (fun y0 hD0 => ?_)
 ·
  obtain ⟨a0, hx0⟩ := get_some (l := q) (i := k0) hk0
  refine awp_seq ?_
  refine sn tt_ok [0, 2, 3, 7] [] (pl 2 q (pe 3 (av_bool (decide_eq_true (p := ((k0 : Nat) : Int) < (q.length : Int)) (by omega))) p0)) ?_
  refine ckT ?_
  refine awp_skip ?_
  refine awp_seq ?_
  refine awp_block ?_
  refine awp_seq ?_
  refine mz [(7, .b true)] [] [] [] ?_
  refine jn [(29, .b ((!(specIsValidNode a0 ((k0 : Nat) : Int))) || (decide (((k0 : Nat) : Int) < ((q.length : Int) - 1)) && ((specCountReferences q ((k0 : Nat) : Int)) != (1 : Int)))))] [7] [] [] (!(specIsValidNode a0 ((k0 : Nat) : Int))) (fun h3 => ?_) (fun h3 => ?_) ?_
  ·
   have h3n : (specIsValidNode a0 ((k0 : Nat) : Int)) = false := bnot_t h3
   refine rn tt_ok [0, 2, 3, 29] [] (pn 2 hx0 (pc 5 (cb h3n (specIsValidNode_a a0 ((k0 : Nat) : Int))) (pe 6 (show .b (!false) = .b true from rfl) p0))) ?_
   exact ⟨rfl, weak_fit (by rw [h3] <;> kernel_rfl)⟩
  ·
   have h3n : (specIsValidNode a0 ((k0 : Nat) : Int)) = true := bnot_f h3
   refine awp_split (decide (((k0 : Nat) : Int) < ((q.length : Int) - 1))) (fun h4 => ?_) (fun h4 => ?_)
   ·
    have h4d := of_decide_eq_true h4
    refine rn tt_ok [0, 2, 3, 29] [] (pn 2 hx0 (pc 5 (cb h3n (specIsValidNode_a a0 ((k0 : Nat) : Int))) (pe 6 (show .b (!true) = .b false from rfl) (pl 10 q (pe 11 (av_i (IntWalk.i64_in ((q.length : Int) - 1) (by omega))) (pt 12 h4 (pc 16 (specCountReferences_a q ((k0 : Nat) : Int)) p0))))))) ?_
    exact ⟨rfl, weak_fit (by rw [h3, h4] <;> kernel_rfl)⟩
   have h4d := of_decide_eq_false h4
   refine rn tt_ok [0, 2, 3, 29] [] (pn 2 hx0 (pc 5 (cb h3n (specIsValidNode_a a0 ((k0 : Nat) : Int))) (pe 6 (show .b (!true) = .b false from rfl) (pl 10 q (pe 11 (av_i (IntWalk.i64_in ((q.length : Int) - 1) (by omega))) (pf 12 h4 p0)))))) ?_
   exact ⟨rfl, weak_fit (by rw [h3, h4] <;> kernel_rfl)⟩
  refine ck ((!(specIsValidNode a0 ((k0 : Nat) : Int))) || (decide (((k0 : Nat) : Int) < ((q.length : Int) - 1)) && ((specCountReferences q ((k0 : Nat) : Int)) != (1 : Int)))) (fun h5 => ?_) (fun h5 => ?_)
  ·
   refine sn tt_ok [0, 2, 3] [] (p0) ?_
   refine awp_ret ?_
   have hr6 : (forL (specIsValidQuery_f0 q) specIsValidQuery_e0 q 0 ()) = .ret false := forL_ret hx0 (bif_t h5 (rfl)) hI0
   exact pb [] (on_r hr6)
  refine awp_skip ?_
  refine rn tt_ok [0, 2, 3] [] (pe 1 (av_i (wrap_succ k0 (by omega))) p0) ?_
  exact xw _ (forL_next hx0 (bif_f h5 (rfl)) hI0)
 ·
  refine awp_seq ?_
  refine sn tt_ok [0, 2, 3, 7] [] (pl 2 q (pe 3 (av_bool (decide_eq_false (p := ((k0 : Nat) : Int) < (q.length : Int)) (by omega))) p0)) ?_
  refine ckF ?_
  refine awp_exit ?_
  exact xw _ (forL_end hk0 (rfl) hI0)
 refine sn tt_ok [2] [] (pl 1 q (pc 2 (specl01In_a (q.length : Int) 1 9) p0)) ?_
 refine awp_ret ?_
 exact pb [] (on_b hD0 (rfl))
theorem within_in (a b c : Int) : implwithin a b c = specl01In a b c := rfl
theorem within_iff {a b c : Int} : implwithin a b c = true ↔ b ≤ a ∧ a ≤ c := by simp [implwithin]
theorem vstr_eq (s : ByteArray) : implIsValidString s = specIsValidString s := rfl
theorem vname_eq (s : ByteArray) : implIsValidAttrName s = specIsValidAttrName s := by
  unfold implIsValidAttrName specIsValidAttrName specl02Text
  by_cases h : s.size = 1
  · simp only [h, Int.toNat_natCast, forN, specl02Text_f0]
    by_cases h1 : strAt s 0 < 97 <;> by_cases h2 : strAt s 0 > 122 <;> simp [h1, h2, Out.on, specl01In, specl02Text_e0] <;> omega
  have h1 : ((s.size : Int) == 1) = false := by simpa using fun e : (s.size : Int) = 1 => h (by omega)
  have h2 : specl01In (s.size : Int) 1 1 = false := by simp [specl01In]; omega
  rw [h1, h2, Bool.false_and]
  cases hf : forN (specl02Text_f0 s) specl02Text_e0 (Int.toNat (s.size : Int)) 0 () with
  | brk t => rfl
  | ret r =>
    have key : ∀ n k, ∀ r, forN (specl02Text_f0 s) specl02Text_e0 n k () = .ret r → r = false := by
      intro n
      induction n with
      | zero => intro k r h; simp [forN] at h
      | succ n ih =>
        intro k r h
        simp only [forN, specl02Text_f0] at h
        cases hc : (decide (strAt s ((k : Nat) : Int) < (97 : Int)) || decide (strAt s ((k : Nat) : Int) > (122 : Int))) with
        | true => rw [hc] at h; simp only [cond_true] at h; cases h; rfl
        | false => rw [hc] at h; exact ih _ _ h
    exact (key _ _ _ hf).symm
theorem vval_eq (v : ValueD) : implIsValidValue v = specIsValidValue v := rfl
theorem vnode_eq (n : NodeD) (k : Int) : implIsValidNode n k = specIsValidNode n k := by
  unfold implIsValidNode specIsValidNode
  rw [vname_eq, vval_eq, vstr_eq]
  simp only [within_in]
  by_cases h1 : n.1 = 1
  · simp [h1]
  by_cases h2 : n.1 = 2
  · simp [h1, h2, Bool.and_comm]
  by_cases h3 : n.1 = 3
  · simp [h1, h2, h3]; ac_rfl
  by_cases h4 : n.1 = 4
  · simp [h1, h2, h3, h4]; cases h : (n.2.2.2.2.1 == 1) <;> simp_all <;> ac_rfl
  by_cases h5 : n.1 = 5
  · simp [h1, h2, h3, h4, h5]; ac_rfl
  by_cases h6 : n.1 = 6
  · simp [h1, h2, h3, h4, h5, h6]; ac_rfl
  by_cases h7 : n.1 = 7
  · simp [h1, h2, h3, h4, h5, h6, h7]; ac_rfl
  by_cases h8 : n.1 = 8
  · simp [h1, h2, h3, h4, h5, h6, h7, h8, Bool.and_comm]
  by_cases h9 : n.1 = 9
  · simp [h1, h2, h3, h4, h5, h6, h7, h8, h9, Bool.and_comm]
  simp only [beq_eq_false_iff_ne.2 h1, beq_eq_false_iff_ne.2 h2, beq_eq_false_iff_ne.2 h3, beq_eq_false_iff_ne.2 h4, beq_eq_false_iff_ne.2 h5, beq_eq_false_iff_ne.2 h6, beq_eq_false_iff_ne.2 h7, beq_eq_false_iff_ne.2 h8, beq_eq_false_iff_ne.2 h9, cond_false]
theorem refs_eq (q : List NodeD) (k : Int) : implCountReferences q k = specCountReferences q k := by
  unfold implCountReferences specCountReferences
  rw [forL_ext (f := implCountReferences_f0 k) (g := specCountReferences_f0 k) (e := implCountReferences_e0) (e' := specCountReferences_e0) (fun i a s => by
    unfold implCountReferences_f0 specCountReferences_f0
    cases (a.2.1 == k) <;> cases (a.2.2.1 == k) <;> cases (a.1 == 6) <;> cases (a.1 == 7) <;> cases (a.1 == 5) <;> rfl) (fun _ _ => rfl)]
theorem vq_eq (q : List NodeD) : implIsValidQuery q = specIsValidQuery q := by
  unfold implIsValidQuery specIsValidQuery
  rw [forL_ext (f := implIsValidQuery_f0 q) (g := specIsValidQuery_f0 q) (e := implIsValidQuery_e0) (e' := specIsValidQuery_e0) (fun i a s => by
    unfold implIsValidQuery_f0 specIsValidQuery_f0
    rw [vnode_eq, refs_eq]) (fun _ _ => rfl)]
  rfl
theorem vq_spec {q : List NodeD} (h : specIsValidQuery q = true) : implIsValidQuery q = true := (vq_eq q).trans h
theorem vq_run {q : List NodeD} (h : implIsValidQuery q = true) : (∃ t, forL (implIsValidQuery_f0 q) implIsValidQuery_e0 q 0 () = .brk t) ∧ implwithin (q.length : Int) 1 9 = true := by
  unfold implIsValidQuery at h
  cases hf : forL (implIsValidQuery_f0 q) implIsValidQuery_e0 q 0 () with
  | brk t => rw [hf] at h; exact ⟨⟨t, rfl⟩, h⟩
  | ret r =>
    rw [hf] at h
    obtain rfl : r = true := h
    exfalso
    have key : ∀ (l : List NodeD) k, forL (implIsValidQuery_f0 q) implIsValidQuery_e0 l k () ≠ .ret true := by
      intro l
      induction l with
      | nil => intro k h; simp [forL] at h
      | cons a l ih =>
        intro k h
        simp only [forL] at h
        unfold implIsValidQuery_f0 at h
        split at h
        · rename_i hf; exact ih _ h
        · cases h
        rename_i r hf; cases h; revert hf; generalize (_ || _ : Bool) = c; cases c <;> simp
    exact key _ _ hf
theorem vq_len {q : List NodeD} (h : implIsValidQuery q = true) : 1 ≤ q.length ∧ q.length ≤ 9 := by
  have := within_iff.1 (vq_run h).2
  omega
theorem vq_node {q : List NodeD} (h : implIsValidQuery q = true) {i : Nat} {n : NodeD} (hi : q[i]? = some n) : implIsValidNode n (i : Int) = true := by
  obtain ⟨⟨t, ht⟩, _⟩ := vq_run h
  have := forL_all (fun k a t => by unfold implIsValidQuery_f0; generalize (_ || _ : Bool) = c; cases c <;> simp) ht i n hi
  unfold implIsValidQuery_f0 at this
  rw [Nat.zero_add] at this
  cases hn : implIsValidNode n (i : Int) with
  | true => rfl
  | false => rw [hn] at this; simp at this
theorem vn_kids {n : NodeD} {k : Int} (h : implIsValidNode n k = true) (hk : 0 ≤ k ∧ k < 4611686018427387904) : (n.1 = 5 ∨ n.1 = 6 ∨ n.1 = 7 → 0 ≤ n.2.1 ∧ n.2.1 < k) ∧ (n.1 = 6 ∨ n.1 = 7 → 0 ≤ n.2.2.1 ∧ n.2.2.1 < k) := by
  have hw : IntKind.i64.wrap (k - 1) = k - 1 := IntWalk.i64_in _ (by omega)
  unfold implIsValidNode at h
  rw [hw] at h
  refine ⟨fun h5 => ?_, fun h5 => ?_⟩
  · rcases h5 with h5 | h5 | h5 <;> (simp [h5, implwithin] at h; omega)
  rcases h5 with h5 | h5 <;> (simp [h5, implwithin] at h; omega)
theorem vq_kids {q : List NodeD} (h : implIsValidQuery q = true) {k : Int} (ha : 0 ≤ k) (hb : k < (q.length : Int)) :
    ((nth q (Int.toNat k)).1 = 5 ∨ (nth q (Int.toNat k)).1 = 6 ∨ (nth q (Int.toNat k)).1 = 7 → 0 ≤ (nth q (Int.toNat k)).2.1 ∧ (nth q (Int.toNat k)).2.1 < k) ∧ ((nth q (Int.toNat k)).1 = 6 ∨ (nth q (Int.toNat k)).1 = 7 → 0 ≤ (nth q (Int.toNat k)).2.2.1 ∧ (nth q (Int.toNat k)).2.2.1 < k) := by
  have hi : q[Int.toNat k]? = some (nth q (Int.toNat k)) := nth_get (by omega)
  have := vq_node h hi
  rw [Int.toNat_of_nonneg ha] at this
  exact vn_kids this ⟨ha, by have := (vq_len h).2; omega⟩
section
variable {q : List NodeD} {k : Int} (h : implIsValidQuery q = true) (ha : 0 ≤ k) (hb : k < (q.length : Int))
include h ha hb
theorem ql_a (h5 : ((nth q (Int.toNat k)).1 == (5 : Int)) = true) : 0 ≤ (nth q (Int.toNat k)).2.1 ∧ (nth q (Int.toNat k)).2.1 < k := (vq_kids h ha hb).1 (.inl (eq_of_beq h5))
theorem ql_b (h5 : ((nth q (Int.toNat k)).1 == (6 : Int)) = true) : 0 ≤ (nth q (Int.toNat k)).2.1 ∧ (nth q (Int.toNat k)).2.1 < k := (vq_kids h ha hb).1 (.inr (.inl (eq_of_beq h5)))
theorem ql_c (h5 : ((nth q (Int.toNat k)).1 == (7 : Int)) = true) : 0 ≤ (nth q (Int.toNat k)).2.1 ∧ (nth q (Int.toNat k)).2.1 < k := (vq_kids h ha hb).1 (.inr (.inr (eq_of_beq h5)))
theorem qr_b (h5 : ((nth q (Int.toNat k)).1 == (6 : Int)) = true) : 0 ≤ (nth q (Int.toNat k)).2.2.1 ∧ (nth q (Int.toNat k)).2.2.1 < k := (vq_kids h ha hb).2 (.inl (eq_of_beq h5))
theorem qr_c (h5 : ((nth q (Int.toNat k)).1 == (7 : Int)) = true) : 0 ≤ (nth q (Int.toNat k)).2.2.1 ∧ (nth q (Int.toNat k)).2.2.1 < k := (vq_kids h ha hb).2 (.inr (eq_of_beq h5))
theorem qlr_bc (h5 : (((nth q (Int.toNat k)).1 == (6 : Int)) || ((nth q (Int.toNat k)).1 == (7 : Int))) = true) : (0 ≤ (nth q (Int.toNat k)).2.1 ∧ (nth q (Int.toNat k)).2.1 < k) ∧ (0 ≤ (nth q (Int.toNat k)).2.2.1 ∧ (nth q (Int.toNat k)).2.2.1 < k) := by
  have h6 : (nth q (Int.toNat k)).1 = 6 ∨ (nth q (Int.toNat k)).1 = 7 := by simpa using h5
  exact ⟨(vq_kids h ha hb).1 (.inr h6), (vq_kids h ha hb).2 h6⟩
end
open GoE (enc wide)
def implNegatedNodes_f0 (q : (List NodeD)) (k0 : Nat) (s0 : (List Bool)) : Rd ((List Bool)) ((List Bool)) ((List Bool)) := (bif ((nth q (Int.toNat (dn ((q.length : Int) - 1) k0))).1 == (5 : Int)) then (.next (List.set s0 (Int.toNat ((nth q (Int.toNat (dn ((q.length : Int) - 1) k0))).2.1)) ((nth s0 (Int.toNat (dn ((q.length : Int) - 1) k0))) || ((nth q (Int.toNat (dn ((q.length : Int) - 1) k0))).1 == (5 : Int))))) else (bif ((nth q (Int.toNat (dn ((q.length : Int) - 1) k0))).1 == (6 : Int)) then (.next (List.set (List.set s0 (Int.toNat ((nth q (Int.toNat (dn ((q.length : Int) - 1) k0))).2.1)) ((nth s0 (Int.toNat (dn ((q.length : Int) - 1) k0))) || ((nth q (Int.toNat (dn ((q.length : Int) - 1) k0))).1 == (5 : Int)))) (Int.toNat ((nth q (Int.toNat (dn ((q.length : Int) - 1) k0))).2.2.1)) ((nth s0 (Int.toNat (dn ((q.length : Int) - 1) k0))) || ((nth q (Int.toNat (dn ((q.length : Int) - 1) k0))).1 == (5 : Int))))) else (bif ((nth q (Int.toNat (dn ((q.length : Int) - 1) k0))).1 == (7 : Int)) then (.next (List.set (List.set s0 (Int.toNat ((nth q (Int.toNat (dn ((q.length : Int) - 1) k0))).2.1)) ((nth s0 (Int.toNat (dn ((q.length : Int) - 1) k0))) || ((nth q (Int.toNat (dn ((q.length : Int) - 1) k0))).1 == (5 : Int)))) (Int.toNat ((nth q (Int.toNat (dn ((q.length : Int) - 1) k0))).2.2.1)) ((nth s0 (Int.toNat (dn ((q.length : Int) - 1) k0))) || ((nth q (Int.toNat (dn ((q.length : Int) - 1) k0))).1 == (5 : Int))))) else (.next s0))))
def implNegatedNodes_e0 (_ : Nat) (s0 : (List Bool)) : (List Bool) := s0
def implNegatedNodes (q : (List NodeD)) : (List Bool) := (bif (!(implIsValidQuery q)) then [] else (Out.on (forN (implNegatedNodes_f0 q) implNegatedNodes_e0 (List.length q) 0 (List.replicate (Int.toNat (q.length : Int)) false)) (fun y0 => y0)))
theorem implNegatedNodes_a (q : (List NodeD)) : ACalls Tryz.prog 129 [.h q] (.o 0 (implNegatedNodes q)) := by
 refine en tt_ok Tryz.func129 fun w0 F0 hG => ?_
 refine sn tt_ok [0, 2] [] (p0) ?_
 refine awp_seq ?_
 refine tn tt_ok [0, 2, 8] [] (pc 1 (implIsValidQuery_a q) p0) ?_
 refine ck (!(implIsValidQuery q)) (fun h1 => ?_) (fun h1 => ?_)
 ·
  refine tu tt_ok [(2, .e 0)] [] [] [] (p0) ?_
  refine opn [(false, 2, 0, true, 384000, 1)] ?_
  refine awp_ret ?_
  exact po0 [] (bif_t h1 (rfl))
 have h1n : (implIsValidQuery q) = true := bnot_f h1
 refine awp_skip ?_
 refine wT 0 0 .sh q (fun hw2 hl3 => ?_)
 refine tu tt_ok [(2, .e 0), (3, .one (.slc (.own true 704) 1 (List.replicate (Int.toNat (q.length : Int)) [.b false])))] [] [] [] (pl 1 q (px (ob_rng (lo := 0) (hi := (q.length : Int)) (n := 1073741824) (⟨by omega, by omega, by omega⟩)) p0)) ?_
 refine eqn [(3, .o 704 (List.replicate (Int.toNat (q.length : Int)) false))] [3] [] [] (by rw [show (List.replicate (Int.toNat (q.length : Int)) [.b false]) = (eL (List.replicate (Int.toNat (q.length : Int)) false)) from mk_eL _ false]; first | done | kernel_rfl) ?_
 refine awp_seq ?_
 refine sn tt_ok [0, 2, 3, 4] [] (pl 1 q (pe 2 (av_i (IntWalk.i64_in ((q.length : Int) - 1) (by omega))) p0)) ?_
 refine mz [(4, .i ((q.length : Int) - 1))] [] [] [] ?_
 refine blN3 (implNegatedNodes_f0 q) implNegatedNodes_e0 (List.length q) (List.replicate (Int.toNat (q.length : Int)) false) (fun k0 s0 => [(3, .o 704 s0), (4, .i (dn ((q.length : Int) - 1) k0))]) [3, 4] (fun y0 => [(3, .o 704 y0)]) [0, 3, 4] (fun _ s0 => List.length s0 = (Int.toNat (q.length : Int))) (fun y0 => List.length y0 = (Int.toNat (q.length : Int))) wf0 (by simp) (fun k0 s0 hk0 hI0 => ?_) (fun k0 s0 hk0 hI0 => ?_) (fun y0 hD0 => ?_)
 ·
  have hA0_0 := hI0.2
  have hdn0 := dn_eq ((q.length : Int) - 1) k0
  refine awp_seq ?_
  refine sn tt_ok [0, 2, 3, 4, 16] [] (pe 1 (av_bool (decide_eq_true (p := (dn ((q.length : Int) - 1) k0) ≥ (0 : Int)) (by omega))) p0) ?_
  refine ckT ?_
  refine awp_skip ?_
  refine awp_seq ?_
  refine awp_block ?_
  refine awp_seq ?_
  refine mz [(16, .b true)] [] [] [] ?_
  refine jn [(5, .b ((nth s0 (Int.toNat (dn ((q.length : Int) - 1) k0))) || ((nth q (Int.toNat (dn ((q.length : Int) - 1) k0))).1 == (5 : Int))))] [16] [] [] (nth s0 (Int.toNat (dn ((q.length : Int) - 1) k0))) (fun h4 => ?_) (fun h4 => ?_) ?_
  ·
   refine wT 3 0 (.own true 704) s0 (fun hw6 hl7 => ?_)
   have hx5 := ng s0 (Int.toNat (dn ((q.length : Int) - 1) k0))
   refine rn tt_ok [0, 2, 3, 4, 5] [] (pG 2 (dn ((q.length : Int) - 1) k0) hx5 (pt 3 h4 p0)) ?_
   exact ⟨rfl, weak_fit (by rw [h4] <;> kernel_rfl)⟩
  ·
   refine wT 3 0 (.own true 704) s0 (fun hw9 hl10 => ?_)
   have hx8 := ng s0 (Int.toNat (dn ((q.length : Int) - 1) k0))
   have hx11 := ng q (Int.toNat (dn ((q.length : Int) - 1) k0))
   refine rn tt_ok [0, 2, 3, 4, 5] [] (pG 2 (dn ((q.length : Int) - 1) k0) hx8 (pf 3 h4 (pg 7 (dn ((q.length : Int) - 1) k0) hx11 p0))) ?_
   exact ⟨rfl, weak_fit (by rw [h4] <;> kernel_rfl)⟩
  have hx12 := ng q (Int.toNat (dn ((q.length : Int) - 1) k0))
  refine sn tt_ok [0, 2, 3, 4, 5, 35] [] (pg 2 (dn ((q.length : Int) - 1) k0) hx12 p0) ?_
  refine awp_block ?_
  refine tn tt_ok [0, 2, 3, 4, 5, 35, 36] [] (p0) ?_
  refine ck ((nth q (Int.toNat (dn ((q.length : Int) - 1) k0))).1 == (5 : Int)) (fun h13 => ?_) (fun h13 => ?_)
  ·
   have h13k := ql_a h1n (by omega) (by omega) h13
   have h13d := eq_of_beq h13
   refine wT 3 0 (.own true 704) s0 (fun hw15 hl16 => ?_)
   have hx14 := ng s0 (Int.toNat ((nth q (Int.toNat (dn ((q.length : Int) - 1) k0))).2.1))
   refine qu tt_ok [(3, .one (.slc (.own true 704) 1 (setRow (eL s0) (Int.toNat ((nth q (Int.toNat (dn ((q.length : Int) - 1) k0))).2.1)) 0 [.b ((nth s0 (Int.toNat (dn ((q.length : Int) - 1) k0))) || ((nth q (Int.toNat (dn ((q.length : Int) - 1) k0))).1 == (5 : Int)))])))] [3, 5] [] [] (pg 3 (dn ((q.length : Int) - 1) k0) hx12 (pG 7 ((nth q (Int.toNat (dn ((q.length : Int) - 1) k0))).2.1) hx14 p0)) ?_
   refine eqn [(3, .o 704 (List.set s0 (Int.toNat ((nth q (Int.toNat (dn ((q.length : Int) - 1) k0))).2.1)) ((nth s0 (Int.toNat (dn ((q.length : Int) - 1) k0))) || ((nth q (Int.toNat (dn ((q.length : Int) - 1) k0))).1 == (5 : Int)))))] [3] [] [] (by rw [setRow_eL (y := ((nth s0 (Int.toNat (dn ((q.length : Int) - 1) k0))) || ((nth q (Int.toNat (dn ((q.length : Int) - 1) k0))).1 == (5 : Int)))) hx14 rfl] <;> kernel_rfl) ?_
   refine rn tt_ok [0, 2, 3, 4] [] (pe 1 (show .i (IntKind.i64.wrap ((dn ((q.length : Int) - 1) k0) - 1)) = .i (dn ((q.length : Int) - 1) (k0 + 1)) from av_i (show IntKind.i64.wrap ((dn ((q.length : Int) - 1) k0) - 1) = (dn ((q.length : Int) - 1) (k0 + 1)) from IntWalk.i64_in ((dn ((q.length : Int) - 1) k0) - 1) (by omega))) p0) ?_
   exact xw (List.set s0 (Int.toNat ((nth q (Int.toNat (dn ((q.length : Int) - 1) k0))).2.1)) ((nth s0 (Int.toNat (dn ((q.length : Int) - 1) k0))) || ((nth q (Int.toNat (dn ((q.length : Int) - 1) k0))).1 == (5 : Int)))) ⟨forN_next hk0 (bif_t h13 (rfl)) hI0.1, (by first | omega | (simp only [List.length_set]; omega))⟩
  have h13d := ne_of_beq h13
  refine awp_seq ?_
  refine tu tt_ok [(35, .i ((nth q (Int.toNat (dn ((q.length : Int) - 1) k0))).1)), (46, .b ((nth q (Int.toNat (dn ((q.length : Int) - 1) k0))).1 == (6 : Int)))] [] [] [] (p0) ?_
  refine ck ((nth q (Int.toNat (dn ((q.length : Int) - 1) k0))).1 == (6 : Int)) (fun h17 => ?_) (fun h17 => ?_)
  ·
   have h17k := ql_b h1n (by omega) (by omega) h17; have h17m := qr_b h1n (by omega) (by omega) h17
   have h17d := eq_of_beq h17
   refine awp_skip ?_
   refine ckt h17 ?_
   refine wT 3 0 (.own true 704) s0 (fun hw19 hl20 => ?_)
   have hx18 := ng s0 (Int.toNat ((nth q (Int.toNat (dn ((q.length : Int) - 1) k0))).2.1))
   have hx21 : (List.set s0 (Int.toNat ((nth q (Int.toNat (dn ((q.length : Int) - 1) k0))).2.1)) ((nth s0 (Int.toNat (dn ((q.length : Int) - 1) k0))) || ((nth q (Int.toNat (dn ((q.length : Int) - 1) k0))).1 == (5 : Int))))[(Int.toNat ((nth q (Int.toNat (dn ((q.length : Int) - 1) k0))).2.2.1))]? = some (nth (List.set s0 (Int.toNat ((nth q (Int.toNat (dn ((q.length : Int) - 1) k0))).2.1)) ((nth s0 (Int.toNat (dn ((q.length : Int) - 1) k0))) || ((nth q (Int.toNat (dn ((q.length : Int) - 1) k0))).1 == (5 : Int)))) (Int.toNat ((nth q (Int.toNat (dn ((q.length : Int) - 1) k0))).2.2.1))) := nth_get (by first | omega | (simp only [List.length_set]; omega))
   refine rU tt_ok tt_mx [(3, .one (.slc (.own true 704) 1 (setRow (setRow (eL s0) (Int.toNat ((nth q (Int.toNat (dn ((q.length : Int) - 1) k0))).2.1)) 0 [.b ((nth s0 (Int.toNat (dn ((q.length : Int) - 1) k0))) || ((nth q (Int.toNat (dn ((q.length : Int) - 1) k0))).1 == (5 : Int)))]) (Int.toNat ((nth q (Int.toNat (dn ((q.length : Int) - 1) k0))).2.2.1)) 0 [.b ((nth s0 (Int.toNat (dn ((q.length : Int) - 1) k0))) || ((nth q (Int.toNat (dn ((q.length : Int) - 1) k0))).1 == (5 : Int)))])))] [3, 5, 35, 46] [] [] (pg 3 (dn ((q.length : Int) - 1) k0) hx12 (pg 9 (dn ((q.length : Int) - 1) k0) hx12 (pG 14 ((nth q (Int.toNat (dn ((q.length : Int) - 1) k0))).2.1) hx18 (pR 16 (l := (setRow (eL s0) (Int.toNat ((nth q (Int.toNat (dn ((q.length : Int) - 1) k0))).2.1)) 0 [.b ((nth s0 (Int.toNat (dn ((q.length : Int) - 1) k0))) || ((nth q (Int.toNat (dn ((q.length : Int) - 1) k0))).1 == (5 : Int)))])) (j := ((nth q (Int.toNat (dn ((q.length : Int) - 1) k0))).2.2.1)) (r := [.b (nth (List.set s0 (Int.toNat ((nth q (Int.toNat (dn ((q.length : Int) - 1) k0))).2.1)) ((nth s0 (Int.toNat (dn ((q.length : Int) - 1) k0))) || ((nth q (Int.toNat (dn ((q.length : Int) - 1) k0))).1 == (5 : Int)))) (Int.toNat ((nth q (Int.toNat (dn ((q.length : Int) - 1) k0))).2.2.1)))]) (by rw [setRow_eL (y := ((nth s0 (Int.toNat (dn ((q.length : Int) - 1) k0))) || ((nth q (Int.toNat (dn ((q.length : Int) - 1) k0))).1 == (5 : Int)))) hx18 rfl]; exact el_of (by omega) rfl hx21) p0)))) ?_
   refine eqn [(3, .o 704 (List.set (List.set s0 (Int.toNat ((nth q (Int.toNat (dn ((q.length : Int) - 1) k0))).2.1)) ((nth s0 (Int.toNat (dn ((q.length : Int) - 1) k0))) || ((nth q (Int.toNat (dn ((q.length : Int) - 1) k0))).1 == (5 : Int)))) (Int.toNat ((nth q (Int.toNat (dn ((q.length : Int) - 1) k0))).2.2.1)) ((nth s0 (Int.toNat (dn ((q.length : Int) - 1) k0))) || ((nth q (Int.toNat (dn ((q.length : Int) - 1) k0))).1 == (5 : Int)))))] [3] [] [] (by rw [setRow_eL (y := ((nth s0 (Int.toNat (dn ((q.length : Int) - 1) k0))) || ((nth q (Int.toNat (dn ((q.length : Int) - 1) k0))).1 == (5 : Int)))) hx18 rfl, setRow_eL (y := ((nth s0 (Int.toNat (dn ((q.length : Int) - 1) k0))) || ((nth q (Int.toNat (dn ((q.length : Int) - 1) k0))).1 == (5 : Int)))) hx21 rfl] <;> kernel_rfl) ?_
   refine rn tt_ok [0, 2, 3, 4] [] (pe 1 (show .i (IntKind.i64.wrap ((dn ((q.length : Int) - 1) k0) - 1)) = .i (dn ((q.length : Int) - 1) (k0 + 1)) from av_i (show IntKind.i64.wrap ((dn ((q.length : Int) - 1) k0) - 1) = (dn ((q.length : Int) - 1) (k0 + 1)) from IntWalk.i64_in ((dn ((q.length : Int) - 1) k0) - 1) (by omega))) p0) ?_
   exact xw (List.set (List.set s0 (Int.toNat ((nth q (Int.toNat (dn ((q.length : Int) - 1) k0))).2.1)) ((nth s0 (Int.toNat (dn ((q.length : Int) - 1) k0))) || ((nth q (Int.toNat (dn ((q.length : Int) - 1) k0))).1 == (5 : Int)))) (Int.toNat ((nth q (Int.toNat (dn ((q.length : Int) - 1) k0))).2.2.1)) ((nth s0 (Int.toNat (dn ((q.length : Int) - 1) k0))) || ((nth q (Int.toNat (dn ((q.length : Int) - 1) k0))).1 == (5 : Int)))) ⟨forN_next hk0 (bif_f h13 (bif_t h17 (rfl))) hI0.1, (by first | omega | (simp only [List.length_set]; omega))⟩
  have h17d := ne_of_beq h17
  refine rn tt_ok [0, 2, 3, 4, 5, 46] [] (p0) ?_
  refine ck ((nth q (Int.toNat (dn ((q.length : Int) - 1) k0))).1 == (7 : Int)) (fun h22 => ?_) (fun h22 => ?_)
  ·
   have h22k := ql_c h1n (by omega) (by omega) h22; have h22m := qr_c h1n (by omega) (by omega) h22
   have h22d := eq_of_beq h22
   refine wT 3 0 (.own true 704) s0 (fun hw24 hl25 => ?_)
   have hx23 := ng s0 (Int.toNat ((nth q (Int.toNat (dn ((q.length : Int) - 1) k0))).2.1))
   have hx26 : (List.set s0 (Int.toNat ((nth q (Int.toNat (dn ((q.length : Int) - 1) k0))).2.1)) ((nth s0 (Int.toNat (dn ((q.length : Int) - 1) k0))) || ((nth q (Int.toNat (dn ((q.length : Int) - 1) k0))).1 == (5 : Int))))[(Int.toNat ((nth q (Int.toNat (dn ((q.length : Int) - 1) k0))).2.2.1))]? = some (nth (List.set s0 (Int.toNat ((nth q (Int.toNat (dn ((q.length : Int) - 1) k0))).2.1)) ((nth s0 (Int.toNat (dn ((q.length : Int) - 1) k0))) || ((nth q (Int.toNat (dn ((q.length : Int) - 1) k0))).1 == (5 : Int)))) (Int.toNat ((nth q (Int.toNat (dn ((q.length : Int) - 1) k0))).2.2.1))) := nth_get (by first | omega | (simp only [List.length_set]; omega))
   refine qU tt_ok tt_mx [(3, .one (.slc (.own true 704) 1 (setRow (setRow (eL s0) (Int.toNat ((nth q (Int.toNat (dn ((q.length : Int) - 1) k0))).2.1)) 0 [.b ((nth s0 (Int.toNat (dn ((q.length : Int) - 1) k0))) || ((nth q (Int.toNat (dn ((q.length : Int) - 1) k0))).1 == (5 : Int)))]) (Int.toNat ((nth q (Int.toNat (dn ((q.length : Int) - 1) k0))).2.2.1)) 0 [.b ((nth s0 (Int.toNat (dn ((q.length : Int) - 1) k0))) || ((nth q (Int.toNat (dn ((q.length : Int) - 1) k0))).1 == (5 : Int)))])))] [3, 5, 35, 46] [] [] (pg 3 (dn ((q.length : Int) - 1) k0) hx12 (pg 9 (dn ((q.length : Int) - 1) k0) hx12 (pG 14 ((nth q (Int.toNat (dn ((q.length : Int) - 1) k0))).2.1) hx23 (pR 16 (l := (setRow (eL s0) (Int.toNat ((nth q (Int.toNat (dn ((q.length : Int) - 1) k0))).2.1)) 0 [.b ((nth s0 (Int.toNat (dn ((q.length : Int) - 1) k0))) || ((nth q (Int.toNat (dn ((q.length : Int) - 1) k0))).1 == (5 : Int)))])) (j := ((nth q (Int.toNat (dn ((q.length : Int) - 1) k0))).2.2.1)) (r := [.b (nth (List.set s0 (Int.toNat ((nth q (Int.toNat (dn ((q.length : Int) - 1) k0))).2.1)) ((nth s0 (Int.toNat (dn ((q.length : Int) - 1) k0))) || ((nth q (Int.toNat (dn ((q.length : Int) - 1) k0))).1 == (5 : Int)))) (Int.toNat ((nth q (Int.toNat (dn ((q.length : Int) - 1) k0))).2.2.1)))]) (by rw [setRow_eL (y := ((nth s0 (Int.toNat (dn ((q.length : Int) - 1) k0))) || ((nth q (Int.toNat (dn ((q.length : Int) - 1) k0))).1 == (5 : Int)))) hx23 rfl]; exact el_of (by omega) rfl hx26) p0)))) ?_
   refine eqn [(3, .o 704 (List.set (List.set s0 (Int.toNat ((nth q (Int.toNat (dn ((q.length : Int) - 1) k0))).2.1)) ((nth s0 (Int.toNat (dn ((q.length : Int) - 1) k0))) || ((nth q (Int.toNat (dn ((q.length : Int) - 1) k0))).1 == (5 : Int)))) (Int.toNat ((nth q (Int.toNat (dn ((q.length : Int) - 1) k0))).2.2.1)) ((nth s0 (Int.toNat (dn ((q.length : Int) - 1) k0))) || ((nth q (Int.toNat (dn ((q.length : Int) - 1) k0))).1 == (5 : Int)))))] [3] [] [] (by rw [setRow_eL (y := ((nth s0 (Int.toNat (dn ((q.length : Int) - 1) k0))) || ((nth q (Int.toNat (dn ((q.length : Int) - 1) k0))).1 == (5 : Int)))) hx23 rfl, setRow_eL (y := ((nth s0 (Int.toNat (dn ((q.length : Int) - 1) k0))) || ((nth q (Int.toNat (dn ((q.length : Int) - 1) k0))).1 == (5 : Int)))) hx26 rfl] <;> kernel_rfl) ?_
   refine rn tt_ok [0, 2, 3, 4] [] (pe 1 (show .i (IntKind.i64.wrap ((dn ((q.length : Int) - 1) k0) - 1)) = .i (dn ((q.length : Int) - 1) (k0 + 1)) from av_i (show IntKind.i64.wrap ((dn ((q.length : Int) - 1) k0) - 1) = (dn ((q.length : Int) - 1) (k0 + 1)) from IntWalk.i64_in ((dn ((q.length : Int) - 1) k0) - 1) (by omega))) p0) ?_
   exact xw (List.set (List.set s0 (Int.toNat ((nth q (Int.toNat (dn ((q.length : Int) - 1) k0))).2.1)) ((nth s0 (Int.toNat (dn ((q.length : Int) - 1) k0))) || ((nth q (Int.toNat (dn ((q.length : Int) - 1) k0))).1 == (5 : Int)))) (Int.toNat ((nth q (Int.toNat (dn ((q.length : Int) - 1) k0))).2.2.1)) ((nth s0 (Int.toNat (dn ((q.length : Int) - 1) k0))) || ((nth q (Int.toNat (dn ((q.length : Int) - 1) k0))).1 == (5 : Int)))) ⟨forN_next hk0 (bif_f h13 (bif_f h17 (bif_t h22 (rfl)))) hI0.1, (by first | omega | (simp only [List.length_set]; omega))⟩
  have h22d := ne_of_beq h22
  refine awp_skip ?_
  refine qn tt_ok [0, 2, 3, 4] [] (pe 1 (show .i (IntKind.i64.wrap ((dn ((q.length : Int) - 1) k0) - 1)) = .i (dn ((q.length : Int) - 1) (k0 + 1)) from av_i (show IntKind.i64.wrap ((dn ((q.length : Int) - 1) k0) - 1) = (dn ((q.length : Int) - 1) (k0 + 1)) from IntWalk.i64_in ((dn ((q.length : Int) - 1) k0) - 1) (by omega))) p0) ?_
  exact xw s0 ⟨forN_next hk0 (bif_f h13 (bif_f h17 (bif_f h22 (rfl)))) hI0.1, (by first | omega | (simp only [List.length_set]; omega))⟩
 ·
  have hA0_0 := hI0.2
  have hdn0 := dn_eq ((q.length : Int) - 1) k0
  refine awp_seq ?_
  refine sn tt_ok [0, 2, 3, 4, 16] [] (pe 1 (av_bool (decide_eq_false (p := (dn ((q.length : Int) - 1) k0) ≥ (0 : Int)) (by omega))) p0) ?_
  refine ckF ?_
  refine awp_exit ?_
  exact xw s0 ⟨forN_end hk0 (rfl) hI0.1, by first | omega | (simp only [List.length_set]; omega)⟩
 have hD0_0 := hD0.2
 refine sn tt_ok [2] [] (p0) ?_
 refine awp_ret ?_
 exact po0 [] (bif_f h1 (on_b hD0.1 (rfl)))
def specNegatedNodes_f0 (q : (List NodeD)) (k0 : Nat) (s0 : (List Bool)) : Rd ((List Bool)) ((List Bool)) ((List Bool)) := (bif ((nth q (Int.toNat (dn ((q.length : Int) - 1) k0))).1 == (5 : Int)) then (bif (((nth q (Int.toNat (dn ((q.length : Int) - 1) k0))).1 == (6 : Int)) || ((nth q (Int.toNat (dn ((q.length : Int) - 1) k0))).1 == (7 : Int))) then (.next (List.set (List.set (List.set s0 (Int.toNat ((nth q (Int.toNat (dn ((q.length : Int) - 1) k0))).2.1)) true) (Int.toNat ((nth q (Int.toNat (dn ((q.length : Int) - 1) k0))).2.1)) (nth (List.set s0 (Int.toNat ((nth q (Int.toNat (dn ((q.length : Int) - 1) k0))).2.1)) true) (Int.toNat (dn ((q.length : Int) - 1) k0)))) (Int.toNat ((nth q (Int.toNat (dn ((q.length : Int) - 1) k0))).2.2.1)) (nth (List.set (List.set s0 (Int.toNat ((nth q (Int.toNat (dn ((q.length : Int) - 1) k0))).2.1)) true) (Int.toNat ((nth q (Int.toNat (dn ((q.length : Int) - 1) k0))).2.1)) (nth (List.set s0 (Int.toNat ((nth q (Int.toNat (dn ((q.length : Int) - 1) k0))).2.1)) true) (Int.toNat (dn ((q.length : Int) - 1) k0)))) (Int.toNat (dn ((q.length : Int) - 1) k0))))) else (.next (List.set s0 (Int.toNat ((nth q (Int.toNat (dn ((q.length : Int) - 1) k0))).2.1)) true))) else (bif (((nth q (Int.toNat (dn ((q.length : Int) - 1) k0))).1 == (6 : Int)) || ((nth q (Int.toNat (dn ((q.length : Int) - 1) k0))).1 == (7 : Int))) then (.next (List.set (List.set s0 (Int.toNat ((nth q (Int.toNat (dn ((q.length : Int) - 1) k0))).2.1)) (nth s0 (Int.toNat (dn ((q.length : Int) - 1) k0)))) (Int.toNat ((nth q (Int.toNat (dn ((q.length : Int) - 1) k0))).2.2.1)) (nth (List.set s0 (Int.toNat ((nth q (Int.toNat (dn ((q.length : Int) - 1) k0))).2.1)) (nth s0 (Int.toNat (dn ((q.length : Int) - 1) k0)))) (Int.toNat (dn ((q.length : Int) - 1) k0))))) else (.next s0)))
def specNegatedNodes_e0 (_ : Nat) (s0 : (List Bool)) : (List Bool) := s0
def specNegatedNodes (q : (List NodeD)) : (List Bool) := (bif (!(specIsValidQuery q)) then [] else (Out.on (forN (specNegatedNodes_f0 q) specNegatedNodes_e0 (List.length q) 0 (List.replicate (Int.toNat (q.length : Int)) false)) (fun y0 => y0)))
theorem specNegatedNodes_a (q : (List NodeD)) : ACalls Tryz.prog 134 [.h q] (.o 0 (specNegatedNodes q)) := by
 refine en tt_ok Tryz.func134 fun w0 F0 hG => ?_
 refine sn tt_ok [0, 2] [] (p0) ?_
 refine awp_seq ?_
 refine tn tt_ok [0, 2, 9] [] (pc 1 (specIsValidQuery_a q) p0) ?_
 refine ck (!(specIsValidQuery q)) (fun h1 => ?_) (fun h1 => ?_)
 ·
  refine tu tt_ok [(2, .one (.slc (.own true 640) 1 []))] [] [] [] (p0) ?_
  refine awp_ret ?_
  exact po0 [] (bif_t h1 (rfl))
 have h1n : (specIsValidQuery q) = true := bnot_f h1
 refine awp_skip ?_
 refine wT 0 0 .sh q (fun hw2 hl3 => ?_)
 refine tu tt_ok [(2, .e 0), (3, .one (.slc (.own true 832) 1 (List.replicate (Int.toNat (q.length : Int)) [.b false])))] [] [] [] (pl 1 q (px (ob_rng (lo := 0) (hi := (q.length : Int)) (n := 1073741824) (⟨by omega, by omega, by omega⟩)) p0)) ?_
 refine eqn [(3, .o 832 (List.replicate (Int.toNat (q.length : Int)) false))] [3] [] [] (by rw [show (List.replicate (Int.toNat (q.length : Int)) [.b false]) = (eL (List.replicate (Int.toNat (q.length : Int)) false)) from mk_eL _ false]; first | done | kernel_rfl) ?_
 refine awp_seq ?_
 refine sn tt_ok [0, 2, 3, 4] [] (pl 1 q (pe 2 (av_i (IntWalk.i64_in ((q.length : Int) - 1) (by omega))) p0)) ?_
 refine mz [(4, .i ((q.length : Int) - 1))] [] [] [] ?_
 refine blN3 (specNegatedNodes_f0 q) specNegatedNodes_e0 (List.length q) (List.replicate (Int.toNat (q.length : Int)) false) (fun k0 s0 => [(3, .o 832 s0), (4, .i (dn ((q.length : Int) - 1) k0))]) [3, 4] (fun y0 => [(3, .o 832 y0)]) [0, 3, 4] (fun _ s0 => List.length s0 = (Int.toNat (q.length : Int))) (fun y0 => List.length y0 = (Int.toNat (q.length : Int))) wf0 (by simp) (fun k0 s0 hk0 hI0 => ?_) (fun k0 s0 hk0 hI0 => ?_) (fun y0 hD0 => ?_)
 ·
  have hA0_0 := hI0.2
  have hdn0 := dn_eq ((q.length : Int) - 1) k0
  refine awp_seq ?_
  refine sn tt_ok [0, 2, 3, 4, 18] [] (pe 1 (av_bool (decide_eq_true (p := (dn ((q.length : Int) - 1) k0) ≥ (0 : Int)) (by omega))) p0) ?_
  refine ckT ?_
  refine awp_skip ?_
  refine awp_seq ?_
  refine awp_block ?_
  have hx4 := ng q (Int.toNat (dn ((q.length : Int) - 1) k0))
  refine tn tt_ok [0, 2, 3, 4, 5] [5] (pg 2 (dn ((q.length : Int) - 1) k0) hx4 p0) ?_
  refine awp_seq ?_
  refine mz [(5, .p 5 0)] [] [(5, [.i ((nth q (Int.toNat (dn ((q.length : Int) - 1) k0))).1), .i ((nth q (Int.toNat (dn ((q.length : Int) - 1) k0))).2.1), .i ((nth q (Int.toNat (dn ((q.length : Int) - 1) k0))).2.2.1), .s ((nth q (Int.toNat (dn ((q.length : Int) - 1) k0))).2.2.2.1), .i ((nth q (Int.toNat (dn ((q.length : Int) - 1) k0))).2.2.2.2.1), .i ((nth q (Int.toNat (dn ((q.length : Int) - 1) k0))).2.2.2.2.2.1), .s ((nth q (Int.toNat (dn ((q.length : Int) - 1) k0))).2.2.2.2.2.2)])] [] ?_
  refine jn [(6, .b (((nth q (Int.toNat (dn ((q.length : Int) - 1) k0))).1 == (6 : Int)) || ((nth q (Int.toNat (dn ((q.length : Int) - 1) k0))).1 == (7 : Int))))] [] [] [] ((nth q (Int.toNat (dn ((q.length : Int) - 1) k0))).1 == (6 : Int)) (fun h5 => ?_) (fun h5 => ?_) ?_
  ·
   have h5k := ql_b (vq_spec h1n) (by omega) (by omega) h5; have h5m := qr_b (vq_spec h1n) (by omega) (by omega) h5
   refine rn tt_ok [0, 2, 3, 4, 5, 6] [5] (pt 2 h5 p0) ?_
   exact ⟨rfl, weak_fit (by rw [h5] <;> kernel_rfl)⟩
  ·
   refine rn tt_ok [0, 2, 3, 4, 5, 6] [5] (pf 2 h5 p0) ?_
   exact ⟨rfl, weak_fit (by rw [h5] <;> kernel_rfl)⟩
  refine awp_seq ?_
  refine sn tt_ok [0, 2, 3, 4, 5, 6, 35] [5] (p0) ?_
  refine ck ((nth q (Int.toNat (dn ((q.length : Int) - 1) k0))).1 == (5 : Int)) (fun h6 => ?_) (fun h6 => ?_)
  ·
   have h6k := ql_a (vq_spec h1n) (by omega) (by omega) h6
   have h6d := eq_of_beq h6
   refine wT 3 0 (.own true 832) s0 (fun hw8 hl9 => ?_)
   have hx7 := ng s0 (Int.toNat ((nth q (Int.toNat (dn ((q.length : Int) - 1) k0))).2.1))
   refine qu tt_ok [(3, .one (.slc (.own true 832) 1 (setRow (eL s0) (Int.toNat ((nth q (Int.toNat (dn ((q.length : Int) - 1) k0))).2.1)) 0 [.b true])))] [3] [] [] (pG 3 ((nth q (Int.toNat (dn ((q.length : Int) - 1) k0))).2.1) hx7 p0) ?_
   refine eqn [(3, .o 832 (List.set s0 (Int.toNat ((nth q (Int.toNat (dn ((q.length : Int) - 1) k0))).2.1)) true))] [3] [] [] (by rw [setRow_eL (y := true) hx7 rfl] <;> kernel_rfl) ?_
   refine sn tt_ok [0, 2, 3, 4, 5, 40] [5] (p0) ?_
   refine ck (((nth q (Int.toNat (dn ((q.length : Int) - 1) k0))).1 == (6 : Int)) || ((nth q (Int.toNat (dn ((q.length : Int) - 1) k0))).1 == (7 : Int))) (fun h10 => ?_) (fun h10 => ?_)
   ·
    have h10k := qlr_bc (vq_spec h1n) (by omega) (by omega) h10
    refine wT 3 0 (.own true 832) (List.set s0 (Int.toNat ((nth q (Int.toNat (dn ((q.length : Int) - 1) k0))).2.1)) true) (fun hw12 hl13 => ?_)
    have hx11 := ng (List.set s0 (Int.toNat ((nth q (Int.toNat (dn ((q.length : Int) - 1) k0))).2.1)) true) (Int.toNat (dn ((q.length : Int) - 1) k0)) (by first | omega | (simp only [List.length_set]; omega))
    have hx14 := ng (List.set s0 (Int.toNat ((nth q (Int.toNat (dn ((q.length : Int) - 1) k0))).2.1)) true) (Int.toNat ((nth q (Int.toNat (dn ((q.length : Int) - 1) k0))).2.1)) (by first | omega | (simp only [List.length_set]; omega))
    refine tU tt_ok tt_mx [(3, .one (.slc (.own true 832) 1 (setRow (eL (List.set s0 (Int.toNat ((nth q (Int.toNat (dn ((q.length : Int) - 1) k0))).2.1)) true)) (Int.toNat ((nth q (Int.toNat (dn ((q.length : Int) - 1) k0))).2.1)) 0 [.b (nth (List.set s0 (Int.toNat ((nth q (Int.toNat (dn ((q.length : Int) - 1) k0))).2.1)) true) (Int.toNat (dn ((q.length : Int) - 1) k0)))])))] [3, 6] [] [] (pG 5 (dn ((q.length : Int) - 1) k0) hx11 (pG 7 ((nth q (Int.toNat (dn ((q.length : Int) - 1) k0))).2.1) hx14 p0)) ?_
    refine eqn [(3, .o 832 (List.set (List.set s0 (Int.toNat ((nth q (Int.toNat (dn ((q.length : Int) - 1) k0))).2.1)) true) (Int.toNat ((nth q (Int.toNat (dn ((q.length : Int) - 1) k0))).2.1)) (nth (List.set s0 (Int.toNat ((nth q (Int.toNat (dn ((q.length : Int) - 1) k0))).2.1)) true) (Int.toNat (dn ((q.length : Int) - 1) k0)))))] [3] [] [] (by rw [setRow_eL (y := (nth (List.set s0 (Int.toNat ((nth q (Int.toNat (dn ((q.length : Int) - 1) k0))).2.1)) true) (Int.toNat (dn ((q.length : Int) - 1) k0)))) hx14 rfl] <;> kernel_rfl) ?_
    refine wT 3 0 (.own true 832) (List.set (List.set s0 (Int.toNat ((nth q (Int.toNat (dn ((q.length : Int) - 1) k0))).2.1)) true) (Int.toNat ((nth q (Int.toNat (dn ((q.length : Int) - 1) k0))).2.1)) (nth (List.set s0 (Int.toNat ((nth q (Int.toNat (dn ((q.length : Int) - 1) k0))).2.1)) true) (Int.toNat (dn ((q.length : Int) - 1) k0)))) (fun hw16 hl17 => ?_)
    have hx15 := ng (List.set (List.set s0 (Int.toNat ((nth q (Int.toNat (dn ((q.length : Int) - 1) k0))).2.1)) true) (Int.toNat ((nth q (Int.toNat (dn ((q.length : Int) - 1) k0))).2.1)) (nth (List.set s0 (Int.toNat ((nth q (Int.toNat (dn ((q.length : Int) - 1) k0))).2.1)) true) (Int.toNat (dn ((q.length : Int) - 1) k0)))) (Int.toNat (dn ((q.length : Int) - 1) k0)) (by first | omega | (simp only [List.length_set]; omega))
    have hx18 := ng (List.set (List.set s0 (Int.toNat ((nth q (Int.toNat (dn ((q.length : Int) - 1) k0))).2.1)) true) (Int.toNat ((nth q (Int.toNat (dn ((q.length : Int) - 1) k0))).2.1)) (nth (List.set s0 (Int.toNat ((nth q (Int.toNat (dn ((q.length : Int) - 1) k0))).2.1)) true) (Int.toNat (dn ((q.length : Int) - 1) k0)))) (Int.toNat ((nth q (Int.toNat (dn ((q.length : Int) - 1) k0))).2.2.1)) (by first | omega | (simp only [List.length_set]; omega))
    refine rU tt_ok tt_mx [(3, .one (.slc (.own true 832) 1 (setRow (eL (List.set (List.set s0 (Int.toNat ((nth q (Int.toNat (dn ((q.length : Int) - 1) k0))).2.1)) true) (Int.toNat ((nth q (Int.toNat (dn ((q.length : Int) - 1) k0))).2.1)) (nth (List.set s0 (Int.toNat ((nth q (Int.toNat (dn ((q.length : Int) - 1) k0))).2.1)) true) (Int.toNat (dn ((q.length : Int) - 1) k0))))) (Int.toNat ((nth q (Int.toNat (dn ((q.length : Int) - 1) k0))).2.2.1)) 0 [.b (nth (List.set (List.set s0 (Int.toNat ((nth q (Int.toNat (dn ((q.length : Int) - 1) k0))).2.1)) true) (Int.toNat ((nth q (Int.toNat (dn ((q.length : Int) - 1) k0))).2.1)) (nth (List.set s0 (Int.toNat ((nth q (Int.toNat (dn ((q.length : Int) - 1) k0))).2.1)) true) (Int.toNat (dn ((q.length : Int) - 1) k0)))) (Int.toNat (dn ((q.length : Int) - 1) k0)))])))] [3, 5] [] [5] (pG 5 (dn ((q.length : Int) - 1) k0) hx15 (pG 7 ((nth q (Int.toNat (dn ((q.length : Int) - 1) k0))).2.2.1) hx18 p0)) ?_
    refine eqn [(3, .o 832 (List.set (List.set (List.set s0 (Int.toNat ((nth q (Int.toNat (dn ((q.length : Int) - 1) k0))).2.1)) true) (Int.toNat ((nth q (Int.toNat (dn ((q.length : Int) - 1) k0))).2.1)) (nth (List.set s0 (Int.toNat ((nth q (Int.toNat (dn ((q.length : Int) - 1) k0))).2.1)) true) (Int.toNat (dn ((q.length : Int) - 1) k0)))) (Int.toNat ((nth q (Int.toNat (dn ((q.length : Int) - 1) k0))).2.2.1)) (nth (List.set (List.set s0 (Int.toNat ((nth q (Int.toNat (dn ((q.length : Int) - 1) k0))).2.1)) true) (Int.toNat ((nth q (Int.toNat (dn ((q.length : Int) - 1) k0))).2.1)) (nth (List.set s0 (Int.toNat ((nth q (Int.toNat (dn ((q.length : Int) - 1) k0))).2.1)) true) (Int.toNat (dn ((q.length : Int) - 1) k0)))) (Int.toNat (dn ((q.length : Int) - 1) k0)))))] [3] [] [] (by rw [setRow_eL (y := (nth (List.set (List.set s0 (Int.toNat ((nth q (Int.toNat (dn ((q.length : Int) - 1) k0))).2.1)) true) (Int.toNat ((nth q (Int.toNat (dn ((q.length : Int) - 1) k0))).2.1)) (nth (List.set s0 (Int.toNat ((nth q (Int.toNat (dn ((q.length : Int) - 1) k0))).2.1)) true) (Int.toNat (dn ((q.length : Int) - 1) k0)))) (Int.toNat (dn ((q.length : Int) - 1) k0)))) hx18 rfl] <;> kernel_rfl) ?_
    refine rn tt_ok [0, 2, 3, 4] [] (pe 1 (show .i (IntKind.i64.wrap ((dn ((q.length : Int) - 1) k0) - 1)) = .i (dn ((q.length : Int) - 1) (k0 + 1)) from av_i (show IntKind.i64.wrap ((dn ((q.length : Int) - 1) k0) - 1) = (dn ((q.length : Int) - 1) (k0 + 1)) from IntWalk.i64_in ((dn ((q.length : Int) - 1) k0) - 1) (by omega))) p0) ?_
    exact xw (List.set (List.set (List.set s0 (Int.toNat ((nth q (Int.toNat (dn ((q.length : Int) - 1) k0))).2.1)) true) (Int.toNat ((nth q (Int.toNat (dn ((q.length : Int) - 1) k0))).2.1)) (nth (List.set s0 (Int.toNat ((nth q (Int.toNat (dn ((q.length : Int) - 1) k0))).2.1)) true) (Int.toNat (dn ((q.length : Int) - 1) k0)))) (Int.toNat ((nth q (Int.toNat (dn ((q.length : Int) - 1) k0))).2.2.1)) (nth (List.set (List.set s0 (Int.toNat ((nth q (Int.toNat (dn ((q.length : Int) - 1) k0))).2.1)) true) (Int.toNat ((nth q (Int.toNat (dn ((q.length : Int) - 1) k0))).2.1)) (nth (List.set s0 (Int.toNat ((nth q (Int.toNat (dn ((q.length : Int) - 1) k0))).2.1)) true) (Int.toNat (dn ((q.length : Int) - 1) k0)))) (Int.toNat (dn ((q.length : Int) - 1) k0)))) ⟨forN_next hk0 (bif_t h6 (bif_t h10 (rfl))) hI0.1, (by first | omega | (simp only [List.length_set]; omega))⟩
   have h10l : (((nth q (Int.toNat (dn ((q.length : Int) - 1) k0))).1 == (6 : Int))) = false := or_l h10
   have h10ld := ne_of_beq h10l
   have h10r : (((nth q (Int.toNat (dn ((q.length : Int) - 1) k0))).1 == (7 : Int))) = false := or_r h10
   have h10rd := ne_of_beq h10r
   refine awp_skip ?_
   refine qn tt_ok [0, 2, 3, 4] [] (pe 1 (show .i (IntKind.i64.wrap ((dn ((q.length : Int) - 1) k0) - 1)) = .i (dn ((q.length : Int) - 1) (k0 + 1)) from av_i (show IntKind.i64.wrap ((dn ((q.length : Int) - 1) k0) - 1) = (dn ((q.length : Int) - 1) (k0 + 1)) from IntWalk.i64_in ((dn ((q.length : Int) - 1) k0) - 1) (by omega))) p0) ?_
   exact xw (List.set s0 (Int.toNat ((nth q (Int.toNat (dn ((q.length : Int) - 1) k0))).2.1)) true) ⟨forN_next hk0 (bif_t h6 (bif_f h10 (rfl))) hI0.1, (by first | omega | (simp only [List.length_set]; omega))⟩
  have h6d := ne_of_beq h6
  refine awp_skip ?_
  refine tn tt_ok [0, 2, 3, 4, 5, 40] [5] (p0) ?_
  refine ck (((nth q (Int.toNat (dn ((q.length : Int) - 1) k0))).1 == (6 : Int)) || ((nth q (Int.toNat (dn ((q.length : Int) - 1) k0))).1 == (7 : Int))) (fun h19 => ?_) (fun h19 => ?_)
  ·
   have h19k := qlr_bc (vq_spec h1n) (by omega) (by omega) h19
   refine wT 3 0 (.own true 832) s0 (fun hw21 hl22 => ?_)
   have hx20 := ng s0 (Int.toNat (dn ((q.length : Int) - 1) k0))
   have hx23 := ng s0 (Int.toNat ((nth q (Int.toNat (dn ((q.length : Int) - 1) k0))).2.1))
   refine tU tt_ok tt_mx [(3, .one (.slc (.own true 832) 1 (setRow (eL s0) (Int.toNat ((nth q (Int.toNat (dn ((q.length : Int) - 1) k0))).2.1)) 0 [.b (nth s0 (Int.toNat (dn ((q.length : Int) - 1) k0)))])))] [3, 6] [] [] (pG 5 (dn ((q.length : Int) - 1) k0) hx20 (pG 7 ((nth q (Int.toNat (dn ((q.length : Int) - 1) k0))).2.1) hx23 p0)) ?_
   refine eqn [(3, .o 832 (List.set s0 (Int.toNat ((nth q (Int.toNat (dn ((q.length : Int) - 1) k0))).2.1)) (nth s0 (Int.toNat (dn ((q.length : Int) - 1) k0)))))] [3] [] [] (by rw [setRow_eL (y := (nth s0 (Int.toNat (dn ((q.length : Int) - 1) k0)))) hx23 rfl] <;> kernel_rfl) ?_
   refine wT 3 0 (.own true 832) (List.set s0 (Int.toNat ((nth q (Int.toNat (dn ((q.length : Int) - 1) k0))).2.1)) (nth s0 (Int.toNat (dn ((q.length : Int) - 1) k0)))) (fun hw25 hl26 => ?_)
   have hx24 := ng (List.set s0 (Int.toNat ((nth q (Int.toNat (dn ((q.length : Int) - 1) k0))).2.1)) (nth s0 (Int.toNat (dn ((q.length : Int) - 1) k0)))) (Int.toNat (dn ((q.length : Int) - 1) k0)) (by first | omega | (simp only [List.length_set]; omega))
   have hx27 := ng (List.set s0 (Int.toNat ((nth q (Int.toNat (dn ((q.length : Int) - 1) k0))).2.1)) (nth s0 (Int.toNat (dn ((q.length : Int) - 1) k0)))) (Int.toNat ((nth q (Int.toNat (dn ((q.length : Int) - 1) k0))).2.2.1)) (by first | omega | (simp only [List.length_set]; omega))
   refine rU tt_ok tt_mx [(3, .one (.slc (.own true 832) 1 (setRow (eL (List.set s0 (Int.toNat ((nth q (Int.toNat (dn ((q.length : Int) - 1) k0))).2.1)) (nth s0 (Int.toNat (dn ((q.length : Int) - 1) k0))))) (Int.toNat ((nth q (Int.toNat (dn ((q.length : Int) - 1) k0))).2.2.1)) 0 [.b (nth (List.set s0 (Int.toNat ((nth q (Int.toNat (dn ((q.length : Int) - 1) k0))).2.1)) (nth s0 (Int.toNat (dn ((q.length : Int) - 1) k0)))) (Int.toNat (dn ((q.length : Int) - 1) k0)))])))] [3, 5] [] [5] (pG 5 (dn ((q.length : Int) - 1) k0) hx24 (pG 7 ((nth q (Int.toNat (dn ((q.length : Int) - 1) k0))).2.2.1) hx27 p0)) ?_
   refine eqn [(3, .o 832 (List.set (List.set s0 (Int.toNat ((nth q (Int.toNat (dn ((q.length : Int) - 1) k0))).2.1)) (nth s0 (Int.toNat (dn ((q.length : Int) - 1) k0)))) (Int.toNat ((nth q (Int.toNat (dn ((q.length : Int) - 1) k0))).2.2.1)) (nth (List.set s0 (Int.toNat ((nth q (Int.toNat (dn ((q.length : Int) - 1) k0))).2.1)) (nth s0 (Int.toNat (dn ((q.length : Int) - 1) k0)))) (Int.toNat (dn ((q.length : Int) - 1) k0)))))] [3] [] [] (by rw [setRow_eL (y := (nth (List.set s0 (Int.toNat ((nth q (Int.toNat (dn ((q.length : Int) - 1) k0))).2.1)) (nth s0 (Int.toNat (dn ((q.length : Int) - 1) k0)))) (Int.toNat (dn ((q.length : Int) - 1) k0)))) hx27 rfl] <;> kernel_rfl) ?_
   refine rn tt_ok [0, 2, 3, 4] [] (pe 1 (show .i (IntKind.i64.wrap ((dn ((q.length : Int) - 1) k0) - 1)) = .i (dn ((q.length : Int) - 1) (k0 + 1)) from av_i (show IntKind.i64.wrap ((dn ((q.length : Int) - 1) k0) - 1) = (dn ((q.length : Int) - 1) (k0 + 1)) from IntWalk.i64_in ((dn ((q.length : Int) - 1) k0) - 1) (by omega))) p0) ?_
   exact xw (List.set (List.set s0 (Int.toNat ((nth q (Int.toNat (dn ((q.length : Int) - 1) k0))).2.1)) (nth s0 (Int.toNat (dn ((q.length : Int) - 1) k0)))) (Int.toNat ((nth q (Int.toNat (dn ((q.length : Int) - 1) k0))).2.2.1)) (nth (List.set s0 (Int.toNat ((nth q (Int.toNat (dn ((q.length : Int) - 1) k0))).2.1)) (nth s0 (Int.toNat (dn ((q.length : Int) - 1) k0)))) (Int.toNat (dn ((q.length : Int) - 1) k0)))) ⟨forN_next hk0 (bif_f h6 (bif_t h19 (rfl))) hI0.1, (by first | omega | (simp only [List.length_set]; omega))⟩
  have h19l : (((nth q (Int.toNat (dn ((q.length : Int) - 1) k0))).1 == (6 : Int))) = false := or_l h19
  have h19ld := ne_of_beq h19l
  have h19r : (((nth q (Int.toNat (dn ((q.length : Int) - 1) k0))).1 == (7 : Int))) = false := or_r h19
  have h19rd := ne_of_beq h19r
  refine awp_skip ?_
  refine qu tt_ok [(4, .i (dn ((q.length : Int) - 1) (k0 + 1)))] [4, 5, 6] [] [5] (pe 1 (show .i (IntKind.i64.wrap ((dn ((q.length : Int) - 1) k0) - 1)) = .i (dn ((q.length : Int) - 1) (k0 + 1)) from av_i (show IntKind.i64.wrap ((dn ((q.length : Int) - 1) k0) - 1) = (dn ((q.length : Int) - 1) (k0 + 1)) from IntWalk.i64_in ((dn ((q.length : Int) - 1) k0) - 1) (by omega))) p0) ?_
  exact xw s0 ⟨forN_next hk0 (bif_f h6 (bif_f h19 (rfl))) hI0.1, (by first | omega | (simp only [List.length_set]; omega))⟩
 ·
  have hA0_0 := hI0.2
  have hdn0 := dn_eq ((q.length : Int) - 1) k0
  refine awp_seq ?_
  refine sn tt_ok [0, 2, 3, 4, 18] [] (pe 1 (av_bool (decide_eq_false (p := (dn ((q.length : Int) - 1) k0) ≥ (0 : Int)) (by omega))) p0) ?_
  refine ckF ?_
  refine awp_exit ?_
  exact xw s0 ⟨forN_end hk0 (rfl) hI0.1, by first | omega | (simp only [List.length_set]; omega)⟩
 have hD0_0 := hD0.2
 refine sn tt_ok [2] [] (p0) ?_
 refine awp_ret ?_
 exact po0 [] (bif_f h1 (on_b hD0.1 (rfl)))
theorem nth_set_ne {α : Type} [Inhabited α] {l : List α} {i j : Nat} (x : α) (h : j ≠ i) : nth (l.set j x) i = nth l i := by
  simp [nth, List.getD, List.getElem?_set_ne h]
theorem negated_f {q : List NodeD} (hv : implIsValidQuery q = true) {k : Nat} (hk : k < q.length) (s : List Bool) : implNegatedNodes_f0 q k s = specNegatedNodes_f0 q k s := by
  have hdn := dn_eq ((q.length : Int) - 1) k
  obtain ⟨hl, hr⟩ := vq_kids hv (k := dn ((q.length : Int) - 1) k) (by omega) (by omega)
  unfold implNegatedNodes_f0 specNegatedNodes_f0
  generalize hi : dn ((q.length : Int) - 1) k = i at hl hr ⊢
  generalize nth q (Int.toNat i) = n at hl hr ⊢
  by_cases h5 : n.1 = 5
  · simp [h5]
  by_cases h6 : n.1 = 6
  · have := hl (.inr (.inl h6))
    simp [h6]
    rw [nth_set_ne _ (by omega)]
  by_cases h7 : n.1 = 7
  · have := hl (.inr (.inr h7))
    simp [h7]
    rw [nth_set_ne _ (by omega)]
  simp only [beq_eq_false_iff_ne.2 h5, beq_eq_false_iff_ne.2 h6, beq_eq_false_iff_ne.2 h7, Bool.or_false, cond_false]
theorem negated_eq (q : List NodeD) : specNegatedNodes q = implNegatedNodes q := by
  unfold specNegatedNodes implNegatedNodes
  rw [← vq_eq]
  cases hv : implIsValidQuery q with
  | false => rfl
  | true =>
    simp only [Bool.not_true, cond_false]
    rw [forN_congr (f := specNegatedNodes_f0 q) (g := implNegatedNodes_f0 q) (e := specNegatedNodes_e0) (e' := implNegatedNodes_e0) (fun _ _ => rfl) _ _ _ fun i s _ hi => (negated_f hv (by omega) s).symm]
theorem negated_next (q : List NodeD) (k : Nat) (s : List Bool) : ∃ s', implNegatedNodes_f0 q k s = .next s' ∧ s'.length = s.length := by
  unfold implNegatedNodes_f0
  generalize ((nth q (Int.toNat (dn ((q.length : Int) - 1) k))).1 == (5 : Int)) = a
  generalize ((nth q (Int.toNat (dn ((q.length : Int) - 1) k))).1 == (6 : Int)) = b
  generalize ((nth q (Int.toNat (dn ((q.length : Int) - 1) k))).1 == (7 : Int)) = c
  cases a <;> cases b <;> cases c <;> exact ⟨_, rfl, by simp⟩
theorem negated_loop (q : List NodeD) : ∀ (n k : Nat) (s : List Bool), ∃ s', forN (implNegatedNodes_f0 q) implNegatedNodes_e0 n k s = .brk s' ∧ s'.length = s.length
  | 0, k, s => ⟨s, rfl, rfl⟩
  | n + 1, k, s => by
    obtain ⟨s1, h1, h2⟩ := negated_next q k s
    obtain ⟨s2, h3, h4⟩ := negated_loop q n (k + 1) s1
    refine ⟨s2, ?_, h4.trans h2⟩
    simp only [forN, h1]
    exact h3
theorem negated_len (q : List NodeD) : List.length (implNegatedNodes q) ≤ List.length q := by
  unfold implNegatedNodes
  cases implIsValidQuery q with
  | false => exact Nat.zero_le _
  | true =>
    obtain ⟨s, h1, h2⟩ := negated_loop q (List.length q) 0 (List.replicate (Int.toNat (q.length : Int)) false)
    simp only [Bool.not_true, cond_false, h1, Out.on]
    rw [h2]
    simp
theorem negated_lenS (q : List NodeD) : List.length (specNegatedNodes q) ≤ List.length q := by rw [negated_eq]; exact negated_len q
end
section
open Go.RowKit Go.Sort
open GoE (enc)
structure OneC (α σ : Type) [GoE α] where
  tu : α → σ
  of : σ → α
  cell : σ → Value
  pv : α → PV
  ok : α → Prop
  of_tu : ∀ a, of (tu a) = a
  tu_of : ∀ s, tu (of s) = s
  enc_eq : ∀ a, enc a = [pv a]
  flat : ∀ a, (pv a).flat
  vv : ∀ (X : Nat → Prop) (w : World) v a, VV X w v (pv a) ↔ v = cell (tu a) ∧ ok a
def oneS : OneC ByteArray (List UInt8) where
  tu b := b.data.toList
  of s := ⟨s.toArray⟩
  cell := encStr
  pv := .str
  ok b := b.size ≤ maxLen
  of_tu b := by cases b; simp
  tu_of s := by simp
  enc_eq _ := rfl
  flat _ := trivial
  vv X w v a := by
    have e : encStr a.data.toList = .string a := by cases a; simp [encStr]
    rw [e]
    exact ⟨fun h => by cases h with | str h => exact ⟨rfl, h⟩, fun ⟨h1, h2⟩ => by subst h1; exact .str h2⟩
section
variable {α σ : Type} [GoE α] (C : OneC α σ)
theorem one_vr {X : Nat → Prop} {w : World} : ∀ {l : List α} {cs : List Value}, VR X w 1 cs (eL l) → cs = (l.map C.tu).map C.cell ∧ ∀ a, a ∈ l → C.ok a
  | [], cs, h => by
    generalize hr : eL ([] : List α) = r at h
    cases h with
    | nil => exact ⟨rfl, fun a ha => by simp at ha⟩
    | cons => cases hr
  | a :: l, cs, h => by
    generalize hr : eL (a :: l) = r at h
    cases h with
    | nil => cases hr
    | cons h1 h2 h3 =>
      rw [eL_cons, C.enc_eq] at hr
      obtain ⟨rfl, rfl⟩ : [C.pv a] = _ ∧ eL l = _ := by simpa using hr
      obtain ⟨e, hok⟩ := one_vr h3
      cases h1 with
      | cons h4 h5 =>
        cases h5
        obtain ⟨rfl, ha⟩ := (C.vv X w _ a).1 h4
        exact ⟨by rw [e]; rfl, fun b hb => (List.mem_cons.1 hb).elim (fun e => e ▸ ha) (hok b)⟩
theorem vr_one {X : Nat → Prop} {w : World} : ∀ {l : List α}, (∀ a, a ∈ l → C.ok a) → VR X w 1 ((l.map C.tu).map C.cell) (eL l)
  | [], _ => .nil 1
  | a :: l, h => by
    rw [eL_cons, C.enc_eq]
    exact VR.cons (ce := [C.cell (C.tu a)]) (.cons ((C.vv X w _ a).2 ⟨rfl, h a List.mem_cons_self⟩) .nil) rfl (vr_one fun b hb => h b (List.mem_cons_of_mem _ hb))
theorem eL_flat (l : List α) : (eL l).flatten = l.map C.pv := by
  induction l with
  | nil => rfl
  | cons a l ih => rw [eL_cons, C.enc_eq, List.flatten_cons, ih]; rfl
theorem eL_pv (l : List α) : eL l = (l.map C.pv).map fun c => [c] := by
  simp [eL, C.enc_eq, Function.comp_def]
theorem put_list (e : σ → Value) [Inhabited σ] (d : Array σ) (cur : Array Value) (h : d.size ≤ cur.size) : (Go.Sort.putCells e 0 d cur).toList = d.toList.map e ++ cur.toList.drop d.size := by
  apply List.ext_getElem?
  intro j
  unfold Go.Sort.putCells
  rw [Array.getElem?_toList, Array.getElem?_mapIdx]
  by_cases hj : j < d.size
  · rw [List.getElem?_append_left (by simpa using hj), Array.getElem?_eq_getElem (by omega : j < cur.size), List.getElem?_map, Array.getElem?_toList, Array.getElem?_eq_getElem hj]
    simp only [Option.map_some]
    rw [if_pos ⟨Nat.zero_le _, by omega⟩, Nat.sub_zero, getElem!_pos d j hj]
  rw [List.getElem?_append_right (by simpa using Nat.le_of_not_lt hj), List.getElem?_drop]
  have e1 : d.size + (j - (d.toList.map e).length) = j := by simp; omega
  rw [e1, Array.getElem?_toList]
  cases cur[j]? with
  | none => rfl
  | some x => simp; omega
theorem putRow_heap {e : σ → Value} [Inhabited σ] {w : World} {g : Nat} {cur : Array Value} {ty : TypeId} (hg : w.heap[g]? = some (.cells cur ty (0, 0))) (q : Nat) (d : Array σ) (os : Array Obj) :
    (grow (putRow e (Sort.ahead w q) g 0 d) os).heap[g]? = some (.cells (Go.Sort.putCells e 0 d cur) ty (0, 0)) := by
  have hlt : g < w.heap.size := block_lt_of_heap hg
  unfold grow putRow mapBlock Sort.ahead
  simp only [Array.getElem?_append, Array.size_modify]
  rw [if_pos hlt, Array.getElem?_modify, if_pos rfl, hg]
  rfl
theorem putRow_other {e : σ → Value} [Inhabited σ] (w : World) (g q : Nat) (d : Array σ) (os : Array Obj) : (∀ b, b < w.heap.size → b ≠ g → (grow (putRow e (Sort.ahead w q) g 0 d) os).heap[b]? = w.heap[b]?) ∧ ∀ m, m ≤ g → m ≤ w.heap.size → Below m w (grow (putRow e (Sort.ahead w q) g 0 d) os) := by
  have h : ∀ b, b < w.heap.size → b ≠ g → (grow (putRow e (Sort.ahead w q) g 0 d) os).heap[b]? = w.heap[b]? := fun b hb hn => by
    unfold grow putRow mapBlock Sort.ahead
    simp only [Array.getElem?_append, Array.size_modify]
    rw [if_pos hb, Array.getElem?_modify, if_neg (fun e => hn e.symm)]
  refine ⟨h, fun m hm hs => ⟨rfl, rfl, rfl, ?_, fun b hb => h b (by omega) (by omega)⟩⟩
  unfold grow putRow mapBlock Sort.ahead
  simp
theorem holds_of {e : σ → Value} [Inhabited σ] {g : Nat} {w : World} {cur : Array Value} {ty : TypeId} {l : List σ} (hg : w.heap[g]? = some (.cells cur ty (0, 0))) (ht : cur.toList.take l.length = l.map e) : Holds e w g 0 l.toArray := by
  intro j hj
  have hjl : j < l.length := by simpa using hj
  have hc : cur[j]? = some (e l[j]) := by
    have h5 : (cur.toList.take l.length)[j]? = (l.map e)[j]? := by rw [ht]
    rw [List.getElem?_take, if_pos hjl, List.getElem?_map, List.getElem?_eq_getElem hjl, Array.getElem?_toList] at h5
    exact h5
  refine ⟨?_, ?_⟩
  · rw [Nat.zero_add]
    simp [World.cell?, hg, hc, getElem!_pos, hjl]
  simp [World.frozen?, hg]
variable {P : Program} [Inhabited σ]
theorem tret_none (F : Nat → Prop) (L : List Nat) (w : World) (oa : Option Addr) : TRet F L w 1 true [] (.returned (.tuple #[])) w :=
  ⟨_, rfl, fun m _ _ => Below.refl _ _, fun _ _ _ => rfl, rfl, fun v2 l2 h => by simpa [setAll] using h⟩
theorem atake_turn {f : Nat} (hok : FnOk P f) (srt : List σ → List σ) (hlen : ∀ l, (srt l).length = l.length) (hmem : ∀ l x, x ∈ srt l → x ∈ l)
    (h0 : ∀ oa cap w, Calls P f #[.slice oa 0 cap] w fun e w' => e = .returned (.tuple #[]) ∧ w' = w)
    (h1 : ∀ g cap (l : List σ) w, Holds C.cell w g 0 l.toArray → g < w.heap.size → l.length < 4611686018427387904 → Calls P f #[.slice (some ⟨g, 0, none⟩) l.length cap] w fun e w' => e = .returned (.tuple #[]) ∧ ∃ n os, w' = grow (putRow C.cell (Sort.ahead w n) g 0 (srt l).toArray) os)
    (l : List α) : ATake P f 1 (eL l) [] false true (eL ((srt (l.map C.tu)).map C.of)) := by
  refine ⟨hok, fun w F G L v vals _ hFG _ hGs _ hLG hrow hargs => ?_⟩
  cases hargs
  rcases hrow with ⟨hl, oa, rfl⟩ | ⟨g, cap, cur, ty, rfl, rfl, hg, hs, hr, h5, h6⟩
  · obtain rfl : l = [] := by simpa [eL] using hl
    have hs0 : srt [] = [] := List.eq_nil_of_length_eq_zero (by rw [hlen]; rfl)
    refine (h0 oa 0 w).mono ?_
    rintro e w' ⟨rfl, rfl⟩
    rw [List.map_nil, hs0]
    exact tret_none F L w' oa
  have hll : (eL l).length = l.length := by simp [eL]
  rw [hll] at hr h5 h6 ⊢
  rw [Nat.mul_one] at hr hs
  obtain ⟨hcs, hok'⟩ := one_vr C hr
  have hH : Holds C.cell w g 0 (l.map C.tu).toArray := holds_of hg (by rw [List.length_map]; exact hcs)
  have hc := h1 g cap (l.map C.tu) w hH (block_lt_of_heap hg) (by rw [List.length_map]; have := h6.2; omega)
  rw [List.length_map] at hc
  refine hc.mono ?_
  rintro e w' ⟨rfl, n, os, rfl⟩
  have hother := putRow_other (e := C.cell) w g n (srt (l.map C.tu)).toArray os
  have hgl := block_lt_of_heap hg
  refine ⟨_, rfl, fun m hm hL => hother.2 m (hL g (by simp)) hm, fun b hb hn => hother.1 b hb (by simpa using hn), rfl, fun v2 l2 h2 => ?_⟩
  rcases h2 with ⟨rfl, oa, rfl⟩ | ⟨g2, cap2, cur2, ty2, hL2, rfl, hg2, hs2, hr2, h7, h8⟩
  · exact .inl ⟨by simp [setAll], oa, rfl⟩
  obtain rfl : g = g2 := by simpa using hL2
  rw [hg] at hg2
  cases hg2
  rw [eL_flat C, setAll]
  have hd : (srt (l.map C.tu)).toArray.size ≤ cur.size := by simp only [List.size_toArray, hlen, List.length_map]; omega
  have hlen2 : (List.map (fun c => [c]) (List.take l2.length (List.map C.pv (List.map C.of (srt (l.map C.tu))))) ++ List.drop (List.map C.pv (List.map C.of (srt (l.map C.tu)))).length l2).length = l2.length := by
    simp only [List.length_append, List.length_map, List.length_take, List.length_drop]
    omega
  refine .inr ⟨g, cap2, _, ty, rfl, by rw [hlen2], putRow_heap hg n _ os, ?_, ?_, by rw [hlen2]; exact h7, by rw [hlen2]; exact h8⟩
  · simp [Go.Sort.putCells, hs2]
  rw [hlen2, Nat.mul_one, put_list C.cell _ cur hd, List.take_append]
  rw [Nat.mul_one] at hr2
  refine VR.append ?_ ?_
  · have hk : VR F (grow (putRow C.cell (Sort.ahead w n) g 0 (srt (l.map C.tu)).toArray) os) 1 (cur.toList.take l2.length) l2 := by
      refine hr2.keep fun b hb => ⟨hb, hother.1 b (hGs b (hFG b hb)) fun e => (hLG g (by simp)).2 (hFG g (e ▸ hb))⟩
    have := VR.drop (srt (l.map C.tu)).length hk
    rw [Nat.mul_one, List.drop_take] at this
    simpa using this
  have hm : ∀ a, a ∈ (srt (l.map C.tu)).map C.of → C.ok a := fun a ha => by
    obtain ⟨x, hx, rfl⟩ := List.mem_map.1 ha
    obtain ⟨b, hb, rfl⟩ := List.mem_map.1 (hmem _ _ hx)
    rw [C.of_tu]; exact hok' b hb
  have := VR.take l2.length (vr_one C (X := F) (w := grow (putRow C.cell (Sort.ahead w n) g 0 (srt (l.map C.tu)).toArray) os) hm)
  rw [Nat.mul_one, eL_pv C] at this
  simpa [List.map_take, Function.comp_def, C.tu_of] using this
theorem atake_take {f : Nat} (hok : FnOk P f) (cmp : List σ → List σ) (hlen : ∀ l, (cmp l).length ≤ l.length) (hmem : ∀ l x, x ∈ cmp l → x ∈ l)
    (h0 : ∀ oa cap w, Calls P f #[.slice oa 0 cap] w fun e w' => e = .returned (.slice oa 0 cap) ∧ w' = w)
    (h1 : ∀ g cap (l : List σ) w, Holds C.cell w g 0 l.toArray → l.length ≤ 9223372036854775807 → l.length ≤ cap → Calls P f #[.slice (some ⟨g, 0, none⟩) l.length cap] w fun e w' => e = .returned (.slice (some ⟨g, 0, none⟩) (cmp l).length cap) ∧ ∃ q pad, (cmp l ++ pad).length = l.length ∧ w' = putRow C.cell (Sort.ahead w q) g 0 (cmp l ++ pad).toArray)
    (l : List α) : ATake P f 1 (eL l) [] false false (eL ((cmp (l.map C.tu)).map C.of)) := by
  refine ⟨hok, fun w F G L v vals _ hFG _ hGs _ hLG hrow hargs => ?_⟩
  cases hargs
  rcases hrow with ⟨hl, oa, rfl⟩ | ⟨g, cap, cur, ty, rfl, rfl, hg, hs, hr, h5, h6⟩
  · obtain rfl : l = [] := by simpa [eL] using hl
    have hs0 : cmp [] = [] := List.eq_nil_of_length_eq_zero (by have := hlen []; simpa using this)
    refine (h0 oa 0 w).mono ?_
    rintro e w' ⟨rfl, rfl⟩
    rw [List.map_nil, hs0]
    exact ⟨_, rfl, fun m _ _ => Below.refl _ _, fun _ _ _ => rfl, [], List.nodup_nil, fun b hb => (by simp at hb), .inl ⟨rfl, oa, rfl⟩⟩
  have hll : (eL l).length = l.length := by simp [eL]
  rw [hll] at hr h5 h6 ⊢
  rw [Nat.mul_one] at hr hs
  obtain ⟨hcs, hok'⟩ := one_vr C hr
  have hH : Holds C.cell w g 0 (l.map C.tu).toArray := holds_of hg (by rw [List.length_map]; exact hcs)
  have hc := h1 g cap (l.map C.tu) w hH (by rw [List.length_map]; have := h6.2; omega) (by rw [List.length_map]; exact h5)
  rw [List.length_map] at hc
  refine hc.mono ?_
  rintro e w' ⟨rfl, q, pad, hpad, rfl⟩
  have hw : putRow C.cell (Sort.ahead w q) g 0 (cmp (l.map C.tu) ++ pad).toArray = grow (putRow C.cell (Sort.ahead w q) g 0 (cmp (l.map C.tu) ++ pad).toArray) #[] := (grow_empty _).symm
  rw [hw]
  have hother := putRow_other (e := C.cell) w g q (cmp (l.map C.tu) ++ pad).toArray #[]
  have hgl := block_lt_of_heap hg
  have hd : (cmp (l.map C.tu) ++ pad).toArray.size ≤ cur.size := by rw [List.size_toArray, hpad]; omega
  have hle := hlen (l.map C.tu)
  rw [List.length_map] at hle
  have hel : (eL ((cmp (l.map C.tu)).map C.of)).length = (cmp (l.map C.tu)).length := by simp [eL]
  have hsz : g < (grow (putRow C.cell (Sort.ahead w q) g 0 (cmp (l.map C.tu) ++ pad).toArray) #[]).heap.size := block_lt_of_heap (putRow_heap hg q _ #[])
  refine ⟨_, rfl, fun m hm hL => hother.2 m (hL g (by simp)) hm, fun b hb hn => hother.1 b hb (by simpa using hn), [g], by simp, fun b hb => ?_, .inr ⟨g, cap, _, ty, rfl, by rw [hel], putRow_heap hg q _ #[], ?_, ?_, by rw [hel]; omega, h6.1, by rw [hel]; have := h6.2; omega⟩⟩
  · obtain rfl := List.mem_singleton.1 hb
    exact ⟨hsz, .inr (by simp)⟩
  · simp [Go.Sort.putCells, hs]
  rw [hel, Nat.mul_one, put_list C.cell _ cur hd]
  have hm : ∀ a, a ∈ (cmp (l.map C.tu)).map C.of → C.ok a := fun a ha => by
    obtain ⟨x, hx, rfl⟩ := List.mem_map.1 ha
    obtain ⟨b, hb, rfl⟩ := List.mem_map.1 (hmem _ _ hx)
    rw [C.of_tu]; exact hok' b hb
  have := vr_one C (X := F) (w := grow (putRow C.cell (Sort.ahead w q) g 0 (cmp (l.map C.tu) ++ pad).toArray) #[]) hm
  have e1 : ((cmp (l.map C.tu)).map C.of).map C.tu = cmp (l.map C.tu) := by simp [Function.comp_def, C.tu_of]
  rw [e1] at this
  rw [List.map_append, List.append_assoc, List.take_left' (by simp)]
  exact VR.keep (fun b hb => ⟨.inl hb, rfl⟩) this
end
/-! ### the rows that Sort and Compact give, typed -/
def sortS (l : List ByteArray) : List ByteArray := ((l.map oneS.tu).mergeSort fun x y => decide (x ≤ y)).map oneS.of
def compS (l : List ByteArray) : List ByteArray := (Lib.compact (l.map oneS.tu)).map oneS.of
theorem comp_mem {σ : Type} [Inhabited σ] [DecidableEq σ] (l : List σ) (x : σ) (h : x ∈ Lib.compact l) : x ∈ l := by
  unfold Lib.compact Lib.compactUpTo at h
  simp only [List.mem_map, List.mem_filter, List.mem_range] at h
  obtain ⟨j, ⟨hj, _⟩, e⟩ := h
  have e1 : l.toArray[j]! = l[j] := by rw [getElem!_pos l.toArray j (by simpa using hj)]; simp
  rw [e1] at e
  exact e ▸ List.getElem_mem hj
theorem comp_len {σ : Type} [Inhabited σ] [DecidableEq σ] (l : List σ) : (Lib.compact l).length ≤ l.length := by
  unfold Lib.compact Lib.compactUpTo
  rw [List.length_map]
  exact Nat.le_trans (List.length_filter_le _ _) (by rw [List.length_range]; exact Nat.le_refl _)
theorem sortS_len (l : List ByteArray) : (sortS l).length = l.length := by simp [sortS, List.length_mergeSort]
theorem compS_len (l : List ByteArray) : (compS l).length ≤ l.length := by
  have := comp_len (l.map oneS.tu)
  rw [List.length_map] at this
  simpa [compS] using this
theorem putR_all {α : Type} [GoE α] {l k : List α} (h1 : ∀ a : α, (enc a).length = 1) (h : k.length = l.length) : putR (eL l) 0 4294967296 (eL k).flatten = eL k := by
  have hk : ∀ k : List α, ((eL k).flatten.map fun c => [c]) = eL k := fun k => by
    induction k with
    | nil => rfl
    | cons a k ih =>
      rw [eL_cons, List.flatten_cons, List.map_append, ih]
      have := h1 a
      match enc a, this with
      | [p], _ => rfl
  have hf : (eL k).flatten.length = k.length := by
    have := congrArg List.length (hk k)
    rw [List.length_map] at this
    rw [this]
    simp [eL]
  show setAll (eL l) (eL k).flatten = eL k
  unfold setAll
  have e1 : (eL l).length = l.length := by simp [eL]
  rw [e1, List.take_of_length_le (by omega), hk, List.drop_of_length_le (by omega), List.append_nil]
end
section
open Go.RowKit
section
variable {σ : Type} (lt : σ → σ → Prop)
theorem ascs_ext (irr : ∀ a, ¬ lt a a) (tr : ∀ a b c, lt a b → lt b c → lt a c) : ∀ (a b : List σ), a.Pairwise lt → b.Pairwise lt → (∀ x, x ∈ a ↔ x ∈ b) → a = b
  | [], [], _, _, _ => rfl
  | [], y :: b, _, _, h => by have := (h y).2 (by simp); simp at this
  | x :: a, [], _, _, h => by have := (h x).1 (by simp); simp at this
  | x :: a, y :: b, ha, hb, h => by
    rw [List.pairwise_cons] at ha hb
    have h1 : x = y := by
      have hx := (h x).1 (by simp)
      have hy := (h y).2 (by simp)
      simp only [List.mem_cons] at hx hy
      rcases hx with e | hx
      · exact e
      rcases hy with e | hy
      · exact e.symm
      exact (irr x (tr _ _ _ (ha.1 y hy) (hb.1 x hx))).elim
    subst h1
    congr 1
    refine ascs_ext irr tr a b ha.2 hb.2 fun z => ?_
    have hz := h z
    simp only [List.mem_cons] at hz
    constructor
    · intro hm
      have hlt := ha.1 z hm
      rcases hz.1 (.inr hm) with e | e
      · subst e; exact (irr z hlt).elim
      exact e
    intro hm
    have hlt := hb.1 z hm
    rcases hz.2 (.inr hm) with e | e
    · subst e; exact (irr z hlt).elim
    exact e
theorem comp_asc [Inhabited σ] [DecidableEq σ] (d : Array σ) (tr : ∀ a b c, ¬ lt b a → lt b c → lt a c) (tri : ∀ a b, ¬ lt b a → a ≠ b → lt a b) (hs : ∀ i j, i ≤ j → j < d.size → ¬ lt d[j]! d[i]!) :
    ∀ m, m ≤ d.size → (Lib.compactUpTo d m).Pairwise lt ∧ ∀ x, x ∈ Lib.compactUpTo d m ↔ ∃ j, j < m ∧ d[j]! = x
  | 0, _ => by simp [Lib.compactUpTo]
  | m + 1, hm => by
    obtain ⟨h1, h2⟩ := comp_asc d tr tri hs m (by omega)
    rw [Lib.compactUpTo_succ]
    by_cases hk : Lib.keeps d m = true
    · rw [if_pos hk]
      refine ⟨?_, fun x => ?_⟩
      · rw [List.pairwise_append]
        refine ⟨h1, by simp, fun a ha b hb => ?_⟩
        obtain ⟨j, hj, rfl⟩ := (h2 a).1 ha
        obtain rfl : b = d[m]! := by simpa using hb
        have hle := hs j (m - 1) (by omega) (by omega)
        have hle2 := hs (m - 1) m (by omega) (by omega)
        have hne : d[m]! ≠ d[m - 1]! := by
          unfold Lib.keeps at hk
          simp only [Bool.or_eq_true, beq_iff_eq, bne_iff_ne, decide_eq_true_eq] at hk
          rcases hk with h | h
          · omega
          exact h
        exact tr _ _ _ hle (tri _ _ hle2 fun e => hne e.symm)
      rw [List.mem_append, h2 x]
      constructor
      · rintro (⟨j, hj, e⟩ | h)
        · exact ⟨j, by omega, e⟩
        exact ⟨m, by omega, by simpa using (by simpa using h : x = d[m]!).symm⟩
      rintro ⟨j, hj, e⟩
      by_cases hjm : j = m
      · subst hjm; exact .inr (by simp [e])
      exact .inl ⟨j, by omega, e⟩
    rw [if_neg hk, List.append_nil]
    refine ⟨h1, fun x => ?_⟩
    rw [h2 x]
    have hm0 : m ≠ 0 ∧ d[m]! = d[m - 1]! := by
      unfold Lib.keeps at hk
      simp only [Bool.or_eq_true, beq_iff_eq, bne_iff_ne, decide_eq_true_eq, not_or, Decidable.not_not] at hk
      exact hk
    constructor
    · rintro ⟨j, hj, e⟩; exact ⟨j, by omega, e⟩
    rintro ⟨j, hj, e⟩
    by_cases hjm : j = m
    · subst hjm; exact ⟨j - 1, by omega, hm0.2 ▸ e⟩
    exact ⟨j, by omega, e⟩
end
/-! ### texts -/
def bl (a b : ByteArray) : Bool := Op.bytesLess a.toList b.toList
theorem lt8_trans {a b c : List UInt8} (h : a < b) (h' : b < c) : a < c := List.lt_trans h h'
theorem lt8_irr (a : List UInt8) : ¬ a < a := List.lt_irrefl a
theorem lt8_tri {a b : List UInt8} (h : ¬ b < a) (hn : a ≠ b) : a < b := Classical.byContradiction fun h' => hn (List.le_antisymm h h')
theorem bl_iff (a b : ByteArray) : bl a b = true ↔ a.data.toList < b.data.toList := by
  unfold bl
  rw [bytesLess_eq, ByteArray.toList_eq, ByteArray.toList_eq, decide_eq_true_iff]
theorem bl_irr (a : ByteArray) : bl a a = false := by
  cases h : bl a a with
  | false => rfl
  | true => exact (lt8_irr _ ((bl_iff a a).1 h)).elim
theorem bl_trans {a b c : ByteArray} (h : bl a b = true) (h' : bl b c = true) : bl a c = true := (bl_iff _ _).2 (lt8_trans ((bl_iff _ _).1 h) ((bl_iff _ _).1 h'))
theorem bl_tri {a b : ByteArray} (h : bl b a = false) (hn : a ≠ b) : bl a b = true := (bl_iff _ _).2 (lt8_tri (fun hb => by rw [(bl_iff _ _).2 hb] at h; cases h) fun e => hn (by cases a; cases b; simp at e; rw [e]))
def putS : List ByteArray → ByteArray → List ByteArray
  | [], s => [s]
  | x :: l, s => if bl x s then x :: putS l s else if x = s then x :: l else s :: x :: l
def ascS (l : List ByteArray) : Prop := l.Pairwise fun a b => bl a b = true
theorem mem_putS (s x : ByteArray) : ∀ l, x ∈ putS l s ↔ x = s ∨ x ∈ l
  | [] => by simp [putS]
  | y :: l => by
    simp only [putS]
    split
    · rw [List.mem_cons, mem_putS s x l, List.mem_cons]
      constructor
      · rintro (h | h | h) <;> simp [h]
      rintro (h | h | h) <;> simp [h]
    split
    · rename_i e
      subst e
      simp
    simp
theorem asc_putS (s : ByteArray) : ∀ l, ascS l → ascS (putS l s)
  | [], _ => by simp [ascS, putS]
  | y :: l, h => by
    have h := List.pairwise_cons.1 h
    simp only [putS]
    split
    · rename_i hl
      refine List.pairwise_cons.2 ⟨fun z hz => ?_, asc_putS s l h.2⟩
      rcases (mem_putS s z l).1 hz with e | hz
      · exact e ▸ hl
      exact h.1 z hz
    split
    · exact List.pairwise_cons.2 h
    rename_i hl hn
    have hs : bl s y = true := bl_tri (by simpa using hl) fun e => hn e.symm
    refine List.pairwise_cons.2 ⟨fun z hz => ?_, List.pairwise_cons.2 h⟩
    rcases List.mem_cons.1 hz with rfl | hz
    · exact hs
    exact bl_trans hs (h.1 z hz)
theorem len_putS (s : ByteArray) : ∀ l, (putS l s).length ≤ l.length + 1
  | [] => by simp [putS]
  | y :: l => by
    have := len_putS s l
    simp only [putS]
    split
    · simp only [List.length_cons]; omega
    split <;> simp
def putAllS (l xs : List ByteArray) : List ByteArray := xs.foldl putS l
theorem mem_putAllS (x : ByteArray) : ∀ xs l, x ∈ putAllS l xs ↔ x ∈ xs ∨ x ∈ l
  | [], l => by simp [putAllS]
  | y :: xs, l => by
    show x ∈ putAllS (putS l y) xs ↔ _
    rw [mem_putAllS x xs, mem_putS, List.mem_cons]
    constructor
    · rintro (h | h | h) <;> simp [h]
    rintro ((h | h) | h) <;> simp [h]
theorem asc_putAllS : ∀ xs l, ascS l → ascS (putAllS l xs)
  | [], _, h => h
  | y :: xs, l, h => asc_putAllS xs (putS l y) (asc_putS y l h)
theorem ascS_ext (a b : List ByteArray) (ha : ascS a) (hb : ascS b) (h : ∀ x, x ∈ a ↔ x ∈ b) : a = b :=
  ascs_ext (fun a b => bl a b = true) (fun a h => by rw [bl_irr] at h; cases h) (fun _ _ _ => bl_trans) a b ha hb h
theorem once_spec (l : List ByteArray) : ascS (compS (sortS l)) ∧ ∀ x, x ∈ compS (sortS l) ↔ x ∈ l := by
  have hto : (sortS l).map oneS.tu = (l.map oneS.tu).mergeSort fun x y => decide (x ≤ y) := by simp [sortS, Function.comp_def, oneS.tu_of]
  unfold compS
  rw [hto]
  generalize hm : l.map oneS.tu = m
  have hp := List.mergeSort_perm m (fun x y => decide (x ≤ y))
  have hs := List.pairwise_mergeSort (le := fun (x y : List UInt8) => decide (x ≤ y)) (fun a b c h1 h2 => by
    simp only [decide_eq_true_eq] at h1 h2 ⊢; exact List.le_trans h1 h2) (fun a b => by
    have := List.le_total a b
    simpa using this) m
  generalize (m.mergeSort fun x y => decide (x ≤ y)) = s at hp hs
  have hget : ∀ j, j < s.length → s.toArray[j]! = s[j]! := fun j hj => by simp
  have hmono : ∀ i j, i ≤ j → j < s.toArray.size → ¬ s.toArray[j]! < s.toArray[i]! := fun i j hij hj => by
    have hj : j < s.length := by simpa using hj
    rw [hget i (by omega), hget j hj, getElem!_pos s i (by omega), getElem!_pos s j hj]
    by_cases e : i = j
    · subst e; exact lt8_irr _
    have := List.pairwise_iff_getElem.1 hs i j (by omega) hj (by omega)
    simpa using this
  obtain ⟨h1, h2⟩ := comp_asc (fun a b : List UInt8 => a < b) s.toArray (fun a b c hab hbc => by
    by_cases e : a = b
    · exact e ▸ hbc
    exact lt8_trans (lt8_tri hab e) hbc) (fun a b h hn => lt8_tri h hn) hmono s.length (by simp)
  refine ⟨?_, fun x => ?_⟩
  · refine List.pairwise_map.2 (h1.imp fun {a b} h => (bl_iff _ _).2 ?_)
    simpa [oneS] using h
  have hmem : x ∈ l ↔ oneS.tu x ∈ m := by
    rw [← hm, List.mem_map]
    refine ⟨fun h => ⟨x, h, rfl⟩, fun ⟨y, h, e⟩ => ?_⟩
    have := congrArg oneS.of e
    rw [oneS.of_tu, oneS.of_tu] at this
    exact this ▸ h
  rw [hmem, ← hp.mem_iff, List.mem_map]
  constructor
  · rintro ⟨y, hy, rfl⟩
    obtain ⟨j, hj, e⟩ := (h2 y).1 hy
    rw [hget j hj, getElem!_pos s j hj] at e
    rw [oneS.tu_of]
    exact e ▸ List.getElem_mem hj
  intro h
  obtain ⟨j, hj, e⟩ := List.getElem_of_mem h
  exact ⟨oneS.tu x, (h2 _).2 ⟨j, hj, by rw [hget j hj, getElem!_pos s j hj]; exact e⟩, oneS.of_tu x⟩
theorem once_put (l : List ByteArray) : compS (sortS l) = putAllS [] l :=
  ascS_ext _ _ (once_spec l).1 (asc_putAllS l [] List.Pairwise.nil) fun x => by rw [(once_spec l).2, mem_putAllS]; simp
end
section
abbrev Edges := List (Nat × Int)
def need (E : Edges) (L : List Int) : Int := E.foldl (fun m e => max m (nth L e.1 + e.2)) 0
theorem fold_max_le (L : List Int) (x : Int) : ∀ (E : Edges) (m : Int), E.foldl (fun m e => max m (nth L e.1 + e.2)) m ≤ x ↔ m ≤ x ∧ ∀ e, e ∈ E → nth L e.1 + e.2 ≤ x
  | [], m => by simp
  | e :: E, m => by
    rw [List.foldl_cons, fold_max_le L x E]
    constructor
    · rintro ⟨h1, h2⟩
      refine ⟨by omega, fun e' he => ?_⟩
      rcases List.mem_cons.1 he with rfl | he
      · omega
      exact h2 e' he
    rintro ⟨h1, h2⟩
    have := h2 e List.mem_cons_self
    exact ⟨by omega, fun e' he => h2 e' (List.mem_cons_of_mem _ he)⟩
theorem need_le {E : Edges} {L : List Int} {x : Int} : need E L ≤ x ↔ 0 ≤ x ∧ ∀ e, e ∈ E → nth L e.1 + e.2 ≤ x := fold_max_le L x E 0
theorem need_nonneg (E : Edges) (L : List Int) : 0 ≤ need E L := (need_le.1 (Int.le_refl _)).1
theorem need_mono {E : Edges} {L M : List Int} (h : ∀ j, nth L j ≤ nth M j) : need E L ≤ need E M :=
  need_le.2 ⟨need_nonneg E M, fun e he => by
    have := (need_le.1 (Int.le_refl (need E M))).2 e he
    have := h e.1
    omega⟩
theorem nth_set {L : List Int} {i : Nat} (x : Int) (j : Nat) (hi : i < L.length) : nth (L.set i x) j = if j = i then x else nth L j := by
  unfold nth
  by_cases h : j = i
  · subst h; simp [List.getD, hi]
  rw [if_neg h]; simp [List.getD, List.getElem?_set, Ne.symm h]
theorem nth_out {L : List Int} {i : Nat} (h : L.length ≤ i) : nth L i = 0 := by
  unfold nth
  simp [List.getD, List.getElem?_eq_none h]
def raise (E : Nat → Edges) (L : List Int) (i : Nat) : List Int := if nth L i < need (E i) L then L.set i (need (E i) L) else L
theorem raise_len (E : Nat → Edges) (L : List Int) (i : Nat) : (raise E L i).length = L.length := by unfold raise; split <;> simp
theorem raise_ge (E : Nat → Edges) (L : List Int) (i j : Nat) : nth L j ≤ nth (raise E L i) j := by
  unfold raise
  split
  · rename_i h
    by_cases hi : i < L.length
    · rw [nth_set _ _ hi]; split
      · rename_i e; subst e; omega
      omega
    rw [List.set_eq_of_length_le (by omega)]; omega
  omega
def rounds (E : Nat → Edges) (is : List Nat) (L : List Int) : List Int := is.foldl (raise E) L
theorem rounds_len (E : Nat → Edges) : ∀ (is : List Nat) (L : List Int), (rounds E is L).length = L.length
  | [], _ => rfl
  | i :: is, L => (rounds_len E is (raise E L i)).trans (raise_len E L i)
theorem rounds_ge (E : Nat → Edges) (j : Nat) : ∀ (is : List Nat) (L : List Int), nth L j ≤ nth (rounds E is L) j
  | [], _ => Int.le_refl _
  | i :: is, L => Int.le_trans (raise_ge E L i j) (rounds_ge E j is (raise E L i))
theorem ext_nth {L M : List Int} (hl : L.length = M.length) (h : ∀ j, nth L j = nth M j) : L = M := by
  apply List.ext_getElem hl
  intro i h1 h2
  have := h i
  simpa [nth, List.getD, h1, h2] using this
theorem rounds_fix (E : Nat → Edges) : ∀ (is : List Nat) (L : List Int), rounds E is L = L → ∀ i, i ∈ is → raise E L i = L
  | [], _, _, i, hi => by simp at hi
  | a :: is, L, h, i, hi => by
    have h1 : raise E L a = L := ext_nth (raise_len E L a) fun j => by
      have h2 := raise_ge E L a j
      have h3 := rounds_ge E j is (raise E L a)
      have h4 : nth (rounds E is (raise E L a)) j = nth L j := congrArg (nth · j) h
      omega
    rcases List.mem_cons.1 hi with rfl | hi
    · exact h1
    refine rounds_fix E is L ?_ i hi
    have : rounds E is (raise E L a) = L := h
    rwa [h1] at this
theorem raise_rest {E : Nat → Edges} {L : List Int} {i : Nat} (hi : i < L.length) : raise E L i = L ↔ need (E i) L ≤ nth L i := by
  unfold raise
  constructor
  · intro h
    split at h
    · rename_i hlt
      have h2 : nth (L.set i (need (E i) L)) i = nth L i := by rw [h]
      rw [nth_set _ _ hi, if_pos rfl] at h2
      omega
    omega
  intro h
  rw [if_neg (by omega)]
def Sat (E : Nat → Edges) (n : Nat) (g : List Int) : Prop := ∀ i, i < n → need (E i) g ≤ nth g i
theorem raise_below {E : Nat → Edges} {n : Nat} {L g : List Int} {i : Nat} (hi : i < n) (hn : L.length = n) (hs : Sat E n g) (h : ∀ j, nth L j ≤ nth g j) : ∀ j, nth (raise E L i) j ≤ nth g j := by
  intro j
  unfold raise
  split
  · rw [nth_set _ _ (by omega)]
    split
    · rename_i e; subst e
      exact Int.le_trans (need_mono h) (hs j hi)
    exact h j
  exact h j
theorem rounds_below {E : Nat → Edges} {n : Nat} {g : List Int} (hs : Sat E n g) : ∀ (is : List Nat) (L : List Int), (∀ i, i ∈ is → i < n) → L.length = n → (∀ j, nth L j ≤ nth g j) → ∀ j, nth (rounds E is L) j ≤ nth g j
  | [], _, _, _, h => h
  | i :: is, L, hi, hn, h => rounds_below hs is (raise E L i) (fun k hk => hi k (List.mem_cons_of_mem _ hk)) ((raise_len E L i).trans hn) (raise_below (hi i List.mem_cons_self) hn hs h)
theorem pigeon : ∀ (m : Nat) (l : List Int), (∀ v : Nat, v < m → ((v : Nat) : Int) ∈ l) → m ≤ l.length
  | 0, _, _ => Nat.zero_le _
  | m + 1, l, h => by
    have hm := h m (by omega)
    have := pigeon m (l.erase (m : Int)) fun v hv => (List.mem_erase_of_ne (by omega)).2 (h v (by omega))
    rw [List.length_erase_of_mem hm] at this
    have : 0 < l.length := List.length_pos_of_mem hm
    omega
theorem nth_mem {L : List Int} {i : Nat} (h : i < L.length) : nth L i ∈ L := by
  have : nth L i = L[i] := by simp [nth, List.getD, h]
  rw [this]; exact List.getElem_mem h
theorem mem_nth {L : List Int} {x : Int} (h : x ∈ L) : ∃ i, i < L.length ∧ nth L i = x := by
  obtain ⟨i, hi, e⟩ := List.getElem_of_mem h
  exact ⟨i, hi, by rw [← e]; simp [nth, List.getD, hi]⟩
theorem nth_map {L : List Int} {f : Int → Int} {i : Nat} (h : i < L.length) : nth (L.map f) i = f (nth L i) := by simp [nth, List.getD, h]
theorem rest_small {E : Nat → Edges} {n : Nat} {f : List Int} (hw : ∀ i e, e ∈ E i → e.2 ≤ 1 ∧ e.1 < n) (hlen : f.length = n) (hs : Sat E n f) (hleast : ∀ g : List Int, g.length = n → Sat E n g → (∀ j, 0 ≤ nth g j) → ∀ j, nth f j ≤ nth g j) (h0 : ∀ j, 0 ≤ nth f j) :
    ∀ i, i < n → nth f i < (n : Int) := by
  intro i hi
  have hall : ∀ v : Nat, (v : Int) ≤ nth f i → ((v : Nat) : Int) ∈ f := fun v hv => by
    refine Classical.byContradiction fun hno => ?_
    have hne : ∀ j, j < n → nth f j ≠ v := fun j hj e => hno (e ▸ nth_mem (by omega))
    have hvi : (v : Int) < nth f i := by have := hne i hi; omega
    let g := f.map fun x => if (v : Int) < x then x - 1 else x
    have hg : ∀ j, j < n → nth g j = if (v : Int) < nth f j then nth f j - 1 else nth f j := fun j hj => nth_map (by omega)
    have hg0 : ∀ j, ¬ j < n → nth g j = 0 := fun j hj => nth_out (by simp only [g, List.length_map]; omega)
    have hf0 : ∀ j, ¬ j < n → nth f j = 0 := fun j hj => nth_out (by omega)
    have hpos : ∀ j, 0 ≤ nth g j := fun j => by
      by_cases hj : j < n
      · rw [hg j hj]; have := h0 j; split <;> omega
      rw [hg0 j hj]; omega
    have := hleast g (by simp only [g, List.length_map]; exact hlen) (fun k hk => need_le.2 ⟨hpos k, fun e he => ?_⟩) hpos i
    · rw [hg i hi, if_pos hvi] at this; omega
    have h1 := (need_le.1 (hs k hk)).2 e he
    obtain ⟨h2, hj⟩ := hw k e he
    have h3 := hne k hk
    rw [hg k hk]
    have h4 := hne e.1 hj
    rw [hg e.1 hj]
    split <;> split <;> omega
  have hp := pigeon ((nth f i).toNat + 1) f fun v hv => hall v (by have := h0 i; omega)
  have := h0 i
  omega
/-! ### rounds until rest -/
theorem sum_set : ∀ (L : List Int) (i : Nat) (x : Int), i < L.length → (L.set i x).sum = L.sum + (x - nth L i)
  | [], i, x, h => by simp at h
  | a :: L, 0, x, _ => by simp [nth]; omega
  | a :: L, i + 1, x, h => by
    have := sum_set L i x (by simpa using h)
    have e : nth (a :: L) (i + 1) = nth L i := rfl
    rw [e, List.set_cons_succ, List.sum_cons, List.sum_cons, this]
    omega
theorem sum_le : ∀ (L : List Int) (N : Int), (∀ x, x ∈ L → x ≤ N) → L.sum ≤ (L.length : Int) * N
  | [], N, _ => by simp
  | a :: L, N, h => by
    have h1 := sum_le L N fun x hx => h x (List.mem_cons_of_mem _ hx)
    have h2 := h a List.mem_cons_self
    rw [List.sum_cons, List.length_cons, Int.natCast_add, Int.add_mul]
    omega
theorem raise_sum {E : Nat → Edges} {L : List Int} {i : Nat} (hi : i < L.length) : L.sum ≤ (raise E L i).sum ∧ (raise E L i ≠ L → L.sum + 1 ≤ (raise E L i).sum) := by
  unfold raise
  split
  · rename_i h
    have := sum_set L i (need (E i) L) hi
    omega
  exact ⟨Int.le_refl _, fun h => (h rfl).elim⟩
theorem rounds_sum {E : Nat → Edges} : ∀ (is : List Nat) (L : List Int), (∀ i, i ∈ is → i < L.length) → L.sum ≤ (rounds E is L).sum ∧ (rounds E is L ≠ L → L.sum + 1 ≤ (rounds E is L).sum)
  | [], L, _ => ⟨Int.le_refl _, fun h => (h rfl).elim⟩
  | i :: is, L, h => by
    obtain ⟨h1, h2⟩ := raise_sum (E := E) (h i List.mem_cons_self)
    obtain ⟨h3, h4⟩ := rounds_sum (E := E) is (raise E L i) fun k hk => by rw [raise_len]; exact h k (List.mem_cons_of_mem _ hk)
    show L.sum ≤ (rounds E is (raise E L i)).sum ∧ (rounds E is (raise E L i) ≠ L → L.sum + 1 ≤ (rounds E is (raise E L i)).sum)
    refine ⟨by omega, fun hn => ?_⟩
    by_cases e : raise E L i = L
    · have := h4 (by rw [e] at hn ⊢; exact hn)
      omega
    have := h2 e
    omega
def crounds (E : Nat → Edges) (N : Int) : List Nat → Bool × List Int → Option (Bool × List Int)
  | [], s => some s
  | i :: is, s => if N < need (E i) s.2 then none else crounds E N is (if nth s.2 i < need (E i) s.2 then (true, s.2.set i (need (E i) s.2)) else s)
theorem crounds_some {E : Nat → Edges} {N : Int} : ∀ (is : List Nat) (c : Bool) (L : List Int) (s : Bool × List Int), (∀ i, i ∈ is → i < L.length) → crounds E N is (c, L) = some s → s.2 = rounds E is L ∧ (s.1 = true → c = true ∨ rounds E is L ≠ L) ∧ (s.1 = false → c = false ∧ rounds E is L = L) ∧ ((∀ j, nth L j ≤ N) → ∀ j, nth s.2 j ≤ N)
  | [], c, L, s, _, h => by
    obtain rfl := Option.some.inj h
    exact ⟨rfl, fun h => .inl h, fun h => ⟨h, rfl⟩, fun h => h⟩
  | i :: is, c, L, s, hi, h => by
    have hil := hi i List.mem_cons_self
    have hlen : ∀ k, k ∈ is → k < (raise E L i).length := fun k hk => by rw [raise_len]; exact hi k (List.mem_cons_of_mem _ hk)
    simp only [crounds] at h
    split at h
    · cases h
    rename_i hN
    split at h
    · rename_i hlt
      have er : raise E L i = L.set i (need (E i) L) := by unfold raise; rw [if_pos hlt]
      rw [← er] at h
      obtain ⟨h1, h2, h3, h4⟩ := crounds_some is true (raise E L i) s hlen h
      have hne : rounds E (i :: is) L ≠ L := fun e => by
        have := (rounds_sum (E := E) is (raise E L i) hlen).1
        have h5 := (raise_sum (E := E) hil).2 fun e' => by
          have := (raise_rest hil).1 e'
          omega
        have h6 : (rounds E is (raise E L i)).sum = L.sum := congrArg List.sum e
        omega
      refine ⟨h1, fun _ => .inr hne, fun h => (by have := (h3 h).1; cases this), fun hb j => h4 (fun j => ?_) j⟩
      rw [er, nth_set _ _ hil]
      split
      · omega
      exact hb j
    rename_i hlt
    have er : raise E L i = L := by unfold raise; rw [if_neg hlt]
    have e2 : rounds E (i :: is) L = rounds E is L := by show rounds E is (raise E L i) = _; rw [er]
    rw [e2]
    exact crounds_some is c L s (fun k hk => hi k (List.mem_cons_of_mem _ hk)) h
theorem crounds_none {E : Nat → Edges} {N : Int} : ∀ (is : List Nat) (c : Bool) (L : List Int), crounds E N is (c, L) = none → ∃ pre i, (∀ k, k ∈ pre → k ∈ is) ∧ i ∈ is ∧ N < need (E i) (rounds E pre L)
  | [], c, L, h => by cases h
  | i :: is, c, L, h => by
    simp only [crounds] at h
    split at h
    · rename_i hN
      exact ⟨[], i, fun k hk => by simp at hk, List.mem_cons_self, hN⟩
    have key : ∀ c' L', L' = raise E L i → crounds E N is (c', L') = none → ∃ pre k, (∀ x, x ∈ pre → x ∈ i :: is) ∧ k ∈ i :: is ∧ N < need (E k) (rounds E pre L) := fun c' L' e h => by
      obtain ⟨pre, k, h1, h2, h3⟩ := crounds_none is c' L' h
      subst e
      refine ⟨i :: pre, k, fun x hx => ?_, List.mem_cons_of_mem _ h2, h3⟩
      rcases List.mem_cons.1 hx with rfl | hx
      · exact List.mem_cons_self
      exact List.mem_cons_of_mem _ (h1 x hx)
    split at h
    · rename_i hlt
      exact key true _ (by unfold raise; rw [if_pos hlt]) h
    rename_i hlt
    exact key c _ (by unfold raise; rw [if_neg hlt]) h
def climb (E : Nat → Edges) (N : Int) (n : Nat) : Nat → Bool × List Int → Option (Option (List Int))
  | 0, _ => none
  | k + 1, s => match s.1 with
    | true => (match crounds E N (List.range n) (false, s.2) with
      | none => some none
      | some s' => climb E N n k s')
    | false => some (some s.2)
theorem range_lt {n i : Nat} (h : i ∈ List.range n) : i < n := List.mem_range.1 h
theorem climb_some {E : Nat → Edges} {n : Nat} : ∀ (k : Nat) (c : Bool) (L : List Int), L.length = n → (∀ j, nth L j ≤ (n : Int)) → (n : Int) * (n : Int) - L.sum + 2 ≤ (k : Int) → (climb E n n k (c, L)).isSome = true
  | 0, c, L, hl, hb, hk => by
    have := sum_le L n fun x hx => by obtain ⟨i, _, e⟩ := mem_nth hx; exact e ▸ hb i
    rw [hl] at this
    omega
  | k + 1, false, L, hl, hb, hk => rfl
  | k + 1, true, L, hl, hb, hk => by
    simp only [climb]
    cases hc : crounds E n (List.range n) (false, L) with
    | none => rfl
    | some s =>
      obtain ⟨h1, h2, h3, h4⟩ := crounds_some (List.range n) false L s (fun i hi => by rw [hl]; exact range_lt hi) hc
      obtain ⟨c', L'⟩ := s
      simp only at h1 h2 h3 h4 ⊢
      have hl' : L'.length = n := by rw [h1, rounds_len, hl]
      have hs := rounds_sum (E := E) (List.range n) L fun i hi => by rw [hl]; exact range_lt hi
      rw [← h1] at hs
      cases c' with
      | false =>
        cases k with
        | zero =>
          have := sum_le L n fun x hx => by obtain ⟨i, _, e⟩ := mem_nth hx; exact e ▸ hb i
          rw [hl] at this
          omega
        | succ k => rfl
      | true =>
        have hne : L' ≠ L := by
          rcases h2 rfl with h | h
          · cases h
          rw [h1]; exact h
        have := hs.2 hne
        exact climb_some k true L' hl' (h4 hb) (by omega)
def after (E : Nat → Edges) (n : Nat) : Nat → List Int
  | 0 => List.replicate n 0
  | k + 1 => rounds E (List.range n) (after E n k)
theorem after_len (E : Nat → Edges) (n : Nat) : ∀ k, (after E n k).length = n
  | 0 => by simp [after]
  | k + 1 => by rw [after, rounds_len, after_len E n k]
def Rest (E : Nat → Edges) (n : Nat) (L : List Int) : Prop := rounds E (List.range n) L = L
theorem nth_zero (n j : Nat) : nth (List.replicate n (0 : Int)) j = 0 := by
  by_cases h : j < n
  · simp [nth, List.getD, h]
  exact nth_out (by simp; omega)
theorem after_nonneg (E : Nat → Edges) (n j : Nat) : ∀ k, 0 ≤ nth (after E n k) j
  | 0 => by rw [after, nth_zero]; omega
  | k + 1 => Int.le_trans (after_nonneg E n j k) (rounds_ge E j _ _)
theorem rest_sat {E : Nat → Edges} {n : Nat} {L : List Int} (hl : L.length = n) (h : Rest E n L) : Sat E n L := fun i hi => (raise_rest (by omega)).1 (rounds_fix E _ L h i (List.mem_range.2 hi))
theorem after_below {E : Nat → Edges} {n : Nat} {g : List Int} (hs : Sat E n g) (h0 : ∀ j, 0 ≤ nth g j) : ∀ k j, nth (after E n k) j ≤ nth g j
  | 0, j => by rw [after, nth_zero]; exact h0 j
  | k + 1, j => rounds_below hs _ _ (fun i hi => range_lt hi) (after_len E n k) (after_below hs h0 k) j
theorem rest_stays {E : Nat → Edges} {n k : Nat} (h : Rest E n (after E n k)) : ∀ d, after E n (k + d) = after E n k
  | 0 => rfl
  | d + 1 => by
    show rounds E (List.range n) (after E n (k + d)) = _
    rw [rest_stays h d]
    exact h
theorem rest_same {E : Nat → Edges} {n k m : Nat} (hk : Rest E n (after E n k)) (hm : Rest E n (after E n m)) : after E n k = after E n m := by
  rcases Nat.le_total k m with h | h
  · have := rest_stays hk (m - k)
    rw [show k + (m - k) = m by omega] at this
    exact this.symm
  have := rest_stays hm (k - m)
  rwa [show m + (k - m) = k by omega] at this
theorem no_rest_sum {E : Nat → Edges} {n : Nat} : ∀ k, (∀ j, j < k → ¬ Rest E n (after E n j)) → (k : Int) ≤ (after E n k).sum
  | 0, _ => by
    have : ∀ n : Nat, (List.replicate n (0 : Int)).sum = 0 := fun n => by simp
    rw [after, this]; omega
  | k + 1, h => by
    have h1 := no_rest_sum k fun j hj => h j (by omega)
    have h2 := (rounds_sum (E := E) (List.range n) (after E n k) fun i hi => by rw [after_len]; exact range_lt hi).2 (h k (by omega))
    show ((k + 1 : Nat) : Int) ≤ (rounds E (List.range n) (after E n k)).sum
    omega
variable {E : Nat → Edges} {n : Nat} (hw : ∀ i e, e ∈ E i → e.2 ≤ 1 ∧ e.1 < n)
include hw in
theorem rest_lt {k : Nat} (h : Rest E n (after E n k)) : ∀ i, i < n → nth (after E n k) i < (n : Int) :=
  rest_small hw (after_len E n k) (rest_sat (after_len E n k) h) (fun _ _ hs h0 => after_below hs h0 k) fun j => after_nonneg E n j k
include hw in
theorem rest_soon {k : Nat} (h : Rest E n (after E n k)) : Rest E n (after E n (n * n + 2)) := by
  have hex : ∃ j, j ≤ n * n + 1 ∧ Rest E n (after E n j) := Classical.byContradiction fun hno => by
    have h1 := no_rest_sum (E := E) (n := n) (n * n + 2) fun j hj hr => hno ⟨j, by omega, hr⟩
    have h2 := sum_le (after E n (n * n + 2)) n fun x hx => by
      obtain ⟨i, hi, e⟩ := mem_nth hx
      rw [after_len] at hi
      have h3 := after_below (rest_sat (after_len E n k) h) (fun j => after_nonneg E n j k) (n * n + 2) i
      have := rest_lt hw h i hi
      omega
    rw [after_len] at h2
    have h3 : ((n * n + 2 : Nat) : Int) = (n : Int) * (n : Int) + 2 := by rw [Int.natCast_add, Int.natCast_mul]; rfl
    omega
  obtain ⟨j, hj, hr⟩ := hex
  have := rest_stays hr (n * n + 2 - j)
  rw [show j + (n * n + 2 - j) = n * n + 2 by omega] at this
  rw [this]; exact hr
include hw in
theorem climb_eq : ∀ (k m : Nat) (c : Bool) (r : Option (List Int)), (c = false → Rest E n (after E n m)) → climb E n n k (c, after E n m) = some r →
    (∀ L, r = some L → Rest E n (after E n (n * n + 2)) ∧ L = after E n (n * n + 2)) ∧ (r = none → ¬ Rest E n (after E n (n * n + 2)))
  | 0, m, c, r, _, h => by cases h
  | k + 1, m, false, r, hc, h => by
    obtain rfl := Option.some.inj h
    have hr := hc rfl
    have hs := rest_soon hw hr
    refine ⟨fun L e => ⟨hs, ?_⟩, fun e => by cases e⟩
    obtain rfl := Option.some.inj e
    exact rest_same hr hs
  | k + 1, m, true, r, _, h => by
    simp only [climb] at h
    have hlt : ∀ i, i ∈ List.range n → i < (after E n m).length := fun i hi => by rw [after_len]; exact range_lt hi
    cases hcr : crounds E n (List.range n) (false, after E n m) with
    | none =>
      rw [hcr] at h
      obtain rfl := Option.some.inj h
      refine ⟨fun L e => (by cases e), fun _ hr => ?_⟩
      obtain ⟨pre, i, h1, h2, h3⟩ := crounds_none _ _ _ hcr
      have hsat := rest_sat (after_len E n _) hr
      have h4 := rounds_below hsat pre (after E n m) (fun i hi => range_lt (h1 i hi)) (after_len E n m) (after_below hsat (fun j => after_nonneg E n j _) m)
      have h5 := need_mono (E := E i) h4
      have h6 := hsat i (range_lt h2)
      have h7 := rest_lt hw hr i (range_lt h2)
      omega
    | some s =>
      rw [hcr] at h
      obtain ⟨h1, _, h3, _⟩ := crounds_some _ _ _ s hlt hcr
      obtain ⟨c', L'⟩ := s
      simp only at h1 h3 h
      have e : L' = after E n (m + 1) := h1
      subst e
      refine climb_eq k (m + 1) c' r (fun hc => ?_) h
      have h5 := (h3 hc).2
      show rounds E (List.range n) (after E n (m + 1)) = after E n (m + 1)
      have e2 : after E n (m + 1) = after E n m := h5
      rw [e2]; exact h5
omit hw
/-! ### the other way to raise: edge by edge -/
def bump (i : Nat) (L : List Int) (e : Nat × Int) : List Int := if nth L i < nth L e.1 + e.2 then L.set i (nth L e.1 + e.2) else L
def bumps (i : Nat) (E : Edges) (L : List Int) : List Int := E.foldl (bump i) L
theorem bump_len (i : Nat) (L : List Int) (e : Nat × Int) : (bump i L e).length = L.length := by unfold bump; split <;> simp
theorem bumps_len (i : Nat) : ∀ (E : Edges) (L : List Int), (bumps i E L).length = L.length
  | [], _ => rfl
  | e :: E, L => (bumps_len i E (bump i L e)).trans (bump_len i L e)
theorem bump_nth {i : Nat} {L : List Int} (e : Nat × Int) (hi : i < L.length) (j : Nat) : nth (bump i L e) j = if j = i then max (nth L i) (nth L e.1 + e.2) else nth L j := by
  unfold bump
  split
  · rw [nth_set _ _ hi]; split <;> omega
  split
  · rename_i h; subst h; omega
  rfl
theorem bumps_nth {i : Nat} : ∀ (E : Edges) {L M : List Int}, i < M.length → (∀ j, j ≠ i → nth M j = nth L j) → nth L i ≤ nth M i → (∀ e, e ∈ E → e.1 = i → e.2 ≤ 0) → ∀ j, nth (bumps i E M) j = if j = i then E.foldl (fun m e => max m (nth L e.1 + e.2)) (nth M i) else nth L j
  | [], L, M, hi, hj, h0, hs, j => by
    show nth M j = _
    split
    · rename_i e; subst e; rfl
    rename_i e; exact hj j e
  | e :: E, L, M, hi, hj, h0, hs, j => by
    show nth (bumps i E (bump i M e)) j = _
    have hb := bump_nth e hi
    have hmax : nth (bump i M e) i = max (nth M i) (nth L e.1 + e.2) := by
      rw [hb, if_pos rfl]
      by_cases he : e.1 = i
      · have := hs e List.mem_cons_self he
        rw [he]; omega
      rw [hj e.1 he]
    rw [bumps_nth E (L := L) (M := bump i M e) (by rw [bump_len]; exact hi) (fun k hk => by rw [hb, if_neg hk]; exact hj k hk) (by rw [hmax]; omega) (fun e' he' => hs e' (List.mem_cons_of_mem _ he')) j, hmax, List.foldl_cons]
theorem fold_max (L : List Int) : ∀ (E : Edges) (m : Int), 0 ≤ m → E.foldl (fun m e => max m (nth L e.1 + e.2)) m = max m (need E L) := fun E m hm => by
  have h1 := fold_max_le L (E.foldl (fun m e => max m (nth L e.1 + e.2)) m) E m
  have h2 := h1.1 (Int.le_refl _)
  have h3 : need E L ≤ E.foldl (fun m e => max m (nth L e.1 + e.2)) m := need_le.2 ⟨by omega, h2.2⟩
  have h4 := (fold_max_le L (max m (need E L)) E m).2 ⟨by omega, fun e he => by have := (need_le.1 (Int.le_refl (need E L))).2 e he; omega⟩
  omega
theorem bumps_eq {E : Nat → Edges} {L : List Int} {i : Nat} (hi : i < L.length) (h0 : 0 ≤ nth L i) (hs : ∀ e, e ∈ E i → e.1 = i → e.2 ≤ 0) : bumps i (E i) L = raise E L i :=
  ext_nth ((bumps_len i (E i) L).trans (raise_len E L i).symm) fun j => by
    rw [bumps_nth (E i) hi (fun _ _ => rfl) (Int.le_refl _) hs, fold_max _ _ _ h0]
    unfold raise
    by_cases hlt : nth L i < need (E i) L
    · rw [if_pos hlt, nth_set _ _ hi]; split <;> omega
    rw [if_neg hlt]; split
    · rename_i e; subst e; omega
    rfl
theorem bumps_ge {i : Nat} : ∀ (E : Edges) {L : List Int}, i < L.length → ∀ j, nth L j ≤ nth (bumps i E L) j
  | [], _, _, _ => Int.le_refl _
  | e :: E, L, hi, j => by
    have h1 := bumps_ge E (L := bump i L e) (by rw [bump_len]; exact hi) j
    have h2 := bump_nth e hi j
    show _ ≤ nth (bumps i E (bump i L e)) j
    split at h2
    · rename_i h; subst h; omega
    omega
theorem bumps_self {i : Nat} : ∀ (E : Edges) {L : List Int}, i < L.length → (∃ e, e ∈ E ∧ e.1 = i ∧ 1 ≤ e.2) → nth L i + 1 ≤ nth (bumps i E L) i
  | [], _, _, ⟨e, he, _⟩ => by simp at he
  | e :: E, L, hi, ⟨e', he, h1, h2⟩ => by
    have h3 := bump_nth e hi i
    rw [if_pos rfl] at h3
    have hb := bumps_ge E (L := bump i L e) (by rw [bump_len]; exact hi) i
    show _ ≤ nth (bumps i E (bump i L e)) i
    rcases List.mem_cons.1 he with rfl | he
    · rw [h1] at h3; omega
    have := bumps_self E (L := bump i L e) (by rw [bump_len]; exact hi) ⟨e', he, h1, h2⟩
    omega
def brounds (E : Nat → Edges) (is : List Nat) (L : List Int) : List Int := is.foldl (fun L i => bumps i (E i) L) L
theorem brounds_len (E : Nat → Edges) : ∀ (is : List Nat) (L : List Int), (brounds E is L).length = L.length
  | [], _ => rfl
  | i :: is, L => (brounds_len E is (bumps i (E i) L)).trans (bumps_len i _ L)
theorem brounds_eq {E : Nat → Edges} (hs : ∀ i e, e ∈ E i → e.1 = i → e.2 ≤ 0) : ∀ (is : List Nat) (L : List Int), (∀ i, i ∈ is → i < L.length) → (∀ j, 0 ≤ nth L j) → brounds E is L = rounds E is L
  | [], _, _, _ => rfl
  | i :: is, L, hi, h0 => by
    have hil := hi i List.mem_cons_self
    show brounds E is (bumps i (E i) L) = rounds E is (raise E L i)
    rw [bumps_eq hil (h0 i) (hs i)]
    exact brounds_eq hs is _ (fun k hk => by rw [raise_len]; exact hi k (List.mem_cons_of_mem _ hk)) fun j => Int.le_trans (h0 j) (raise_ge E L i j)
theorem brounds_ge {E : Nat → Edges} : ∀ (is : List Nat) (L : List Int), (∀ i, i ∈ is → i < L.length) → ∀ j, nth L j ≤ nth (brounds E is L) j
  | [], _, _, _ => Int.le_refl _
  | i :: is, L, hi, j => Int.le_trans (bumps_ge (E i) (hi i List.mem_cons_self) j) (brounds_ge is (bumps i (E i) L) (fun k hk => by rw [bumps_len]; exact hi k (List.mem_cons_of_mem _ hk)) j)
theorem brounds_self {E : Nat → Edges} {i : Nat} (he : ∃ e, e ∈ E i ∧ e.1 = i ∧ 1 ≤ e.2) : ∀ (is : List Nat) (L : List Int), (∀ i, i ∈ is → i < L.length) → i ∈ is → nth L i + 1 ≤ nth (brounds E is L) i
  | [], _, _, h => by simp at h
  | k :: is, L, hi, h => by
    have hk := hi k List.mem_cons_self
    have hl : ∀ x, x ∈ is → x < (bumps k (E k) L).length := fun x hx => by rw [bumps_len]; exact hi x (List.mem_cons_of_mem _ hx)
    show _ ≤ nth (brounds E is (bumps k (E k) L)) i
    have h1 := bumps_ge (E k) hk i
    have h2 := brounds_ge (E := E) is (bumps k (E k) L) hl i
    rcases List.mem_cons.1 h with rfl | h
    · have := bumps_self (E i) hk he
      omega
    have := brounds_self he is (bumps k (E k) L) hl h
    omega
def bafter (E : Nat → Edges) (n : Nat) : Nat → List Int
  | 0 => List.replicate n 0
  | k + 1 => brounds E (List.range n) (bafter E n k)
theorem bafter_len (E : Nat → Edges) (n : Nat) : ∀ k, (bafter E n k).length = n
  | 0 => by simp [bafter]
  | k + 1 => by rw [bafter, brounds_len, bafter_len E n k]
theorem bafter_eq {E : Nat → Edges} {n : Nat} (hs : ∀ i e, e ∈ E i → e.1 = i → e.2 ≤ 0) : ∀ k, bafter E n k = after E n k
  | 0 => rfl
  | k + 1 => by
    rw [bafter, after, bafter_eq hs k]
    exact brounds_eq hs _ _ (fun i hi => by rw [after_len]; exact range_lt hi) fun j => after_nonneg E n j k
theorem strata_eq {E : Nat → Edges} {n : Nat} (hw : ∀ i e, e ∈ E i → e.2 ≤ 1 ∧ e.1 < n ∧ i < n) {k : Nat} {r : Option (List Int)} (h : climb E n n k (true, List.replicate n 0) = some r) :
    (brounds E (List.range n) (bafter E n (n * n + 2)) = bafter E n (n * n + 2) → r = some (bafter E n (n * n + 2))) ∧ (brounds E (List.range n) (bafter E n (n * n + 2)) ≠ bafter E n (n * n + 2) → r = none) := by
  have hw' : ∀ i e, e ∈ E i → e.2 ≤ 1 ∧ e.1 < n := fun i e he => ⟨(hw i e he).1, (hw i e he).2.1⟩
  obtain ⟨h1, h2⟩ := climb_eq hw' k 0 true r (fun e => by cases e) h
  by_cases hself : ∃ i, ∃ e, e ∈ E i ∧ e.1 = i ∧ 1 ≤ e.2
  · obtain ⟨i, e, he, hei, h3⟩ := hself
    have hi : i < n := (hw i e he).2.2
    have hne : brounds E (List.range n) (bafter E n (n * n + 2)) ≠ bafter E n (n * n + 2) := fun heq => by
      have := brounds_self (E := E) ⟨e, he, hei, h3⟩ (List.range n) (bafter E n (n * n + 2)) (fun k hk => by rw [bafter_len]; exact range_lt hk) (List.mem_range.2 hi)
      rw [heq] at this; omega
    refine ⟨fun h => (hne h).elim, fun _ => ?_⟩
    cases r with
    | none => rfl
    | some L =>
      obtain ⟨hr, _⟩ := h1 L rfl
      have h4 := rest_sat (after_len E n _) hr i hi
      have h5 := (need_le.1 h4).2 e he
      rw [hei] at h5
      omega
  have hs : ∀ i e, e ∈ E i → e.1 = i → e.2 ≤ 0 := fun i e he hei => Classical.byContradiction fun hn => hself ⟨i, e, he, hei, by omega⟩
  rw [bafter_eq hs, brounds_eq hs _ _ (fun i hi => by rw [after_len]; exact range_lt hi) fun j => after_nonneg E n j _]
  refine ⟨fun hr => ?_, fun hr => ?_⟩
  · cases r with
    | none => exact (h2 rfl hr).elim
    | some L => rw [(h1 L rfl).2]
  cases r with
  | none => rfl
  | some L => exact (hr (h1 L rfl).1).elim
end
section
open Go.Shelf
def Sh.lays190_ren : Go.Shelf.Ren := ⟨fun | 190 => 137 | 125 => 140 | 258 => 139 | 128 => 150 | 129 => 151 | 302 => 141 | 303 => 142 | 304 => 143 | 305 => 144 | 306 => 145 | 307 => 146 | 308 => 147 | 309 => 148 | 310 => 149 | 333 => 152 | 329 => 153 | 330 => 154 | 334 => 155 | 335 => 156 | 336 => 157 | 344 => 158 | n => n, fun | 31 => 130 | 9 => 9 | 3 => 3 | 46 => 170 | 0 => 0 | 51 => 181 | 53 => 183 | 4 => 4 | 183 => 173 | 182 => 172 | 131 => 178 | 5 => 5 | 218 => 184 | 222 => 188 | 228 => 190 | 229 => 191 | n => n, fun | n => n⟩
theorem Sh.lays190 : Go.Proofs.Lays.n190 Tryz.prog Sh.lays190_ren := {
  mixed := by kernel_rfl
  f125 := Tryz.func140.trans (congrArg some (by kernel_rfl))
  f128 := Tryz.func150.trans (congrArg some (by kernel_rfl))
  f129 := Tryz.func151.trans (congrArg some (by kernel_rfl))
  f190 := Tryz.func137.trans (congrArg some (by kernel_rfl))
  f258 := Tryz.func139.trans (congrArg some (by kernel_rfl))
  f302 := Tryz.func141.trans (congrArg some (by kernel_rfl))
  f303 := Tryz.func142.trans (congrArg some (by kernel_rfl))
  f304 := Tryz.func143.trans (congrArg some (by kernel_rfl))
  f305 := Tryz.func144.trans (congrArg some (by kernel_rfl))
  f306 := Tryz.func145.trans (congrArg some (by kernel_rfl))
  f307 := Tryz.func146.trans (congrArg some (by kernel_rfl))
  f308 := Tryz.func147.trans (congrArg some (by kernel_rfl))
  f309 := Tryz.func148.trans (congrArg some (by kernel_rfl))
  f310 := Tryz.func149.trans (congrArg some (by kernel_rfl))
  f329 := Tryz.func153.trans (congrArg some (by kernel_rfl))
  f330 := Tryz.func154.trans (congrArg some (by kernel_rfl))
  f333 := Tryz.func152.trans (congrArg some (by kernel_rfl))
  f334 := Tryz.func155.trans (congrArg some (by kernel_rfl))
  f335 := Tryz.func156.trans (congrArg some (by kernel_rfl))
  f336 := Tryz.func157.trans (congrArg some (by kernel_rfl))
  f344 := Tryz.func158.trans (congrArg some (by kernel_rfl))
  t0 := Tryz.underlying0
  a0 := Tryz.isAgg0
  z0 := Tryz.sizeOf0
  v0 := Tryz.zeroValue0
  t3 := Tryz.underlying3
  a3 := Tryz.isAgg3
  z3 := Tryz.sizeOf3
  v3 := Tryz.zeroValue3
  t4 := Tryz.underlying4
  a4 := Tryz.isAgg4
  z4 := Tryz.sizeOf4
  v4 := Tryz.zeroValue4
  t5 := Tryz.underlying5
  a5 := Tryz.isAgg5
  z5 := Tryz.sizeOf5
  v5 := Tryz.zeroValue5
  t9 := Tryz.underlying9
  a9 := Tryz.isAgg9
  z9 := Tryz.sizeOf9
  v9 := Tryz.zeroValue9
  t31 := Tryz.underlying130
  a31 := Tryz.isAgg130
  z31 := Tryz.sizeOf130
  v31 := Tryz.zeroValue130
  t46 := Tryz.underlying170
  a46 := Tryz.isAgg170
  z46 := Tryz.sizeOf170
  v46 := Tryz.zeroValue170
  t51 := Tryz.underlying181
  a51 := Tryz.isAgg181
  z51 := Tryz.sizeOf181
  v51 := Tryz.zeroValue181
  t53 := Tryz.underlying183
  a53 := Tryz.isAgg183
  z53 := Tryz.sizeOf183
  v53 := Tryz.zeroValue183
  t131 := Tryz.underlying178
  a131 := Tryz.isAgg178
  z131 := Tryz.sizeOf178
  v131 := Tryz.zeroValue178
  t182 := Tryz.underlying172
  a182 := Tryz.isAgg172
  z182 := Tryz.sizeOf172
  v182 := Tryz.zeroValue172
  t183 := Tryz.underlying173
  a183 := Tryz.isAgg173
  z183 := Tryz.sizeOf173
  v183 := Tryz.zeroValue173
  t218 := Tryz.underlying184
  a218 := Tryz.isAgg184
  z218 := Tryz.sizeOf184
  v218 := Tryz.zeroValue184
  t222 := Tryz.underlying188
  a222 := Tryz.isAgg188
  z222 := Tryz.sizeOf188
  v222 := Tryz.zeroValue188
  t228 := Tryz.underlying190
  a228 := Tryz.isAgg190
  z228 := Tryz.sizeOf190
  v228 := Tryz.zeroValue190
  t229 := Tryz.underlying191
  a229 := Tryz.isAgg191
  z229 := Tryz.sizeOf191
  v229 := Tryz.zeroValue191 }
open Go.Sort Go.RowKit in
theorem Sh.slices_Sort_string (blk off cap : Nat) (ss : List (List UInt8)) (w : World) (hH : Holds encStr w blk off ss.toArray) (hblk : blk < w.heap.size) (hsz : ss.length < 4611686018427387904) :
    Calls Tryz.prog 137 #[.slice (some ⟨blk, off, none⟩) ss.length cap] w fun e w' =>
      e = .returned (.tuple #[]) ∧ ∃ n os, w' = grow (putRow encStr (Sort.ahead w n) blk off (ss.mergeSort fun x y => decide (x ≤ y)).toArray) os := Any.slices_Sort_string Sh.lays190 blk off cap ss w hH hblk hsz
def Sh.lays194_ren : Go.Shelf.Ren := ⟨fun | 194 => 138 | n => n, fun | 31 => 130 | 9 => 9 | 3 => 3 | 4 => 4 | 0 => 0 | n => n, fun | n => n⟩
theorem Sh.lays194 : Go.Proofs.Lays.n194 Tryz.prog Sh.lays194_ren := {
  mixed := by kernel_rfl
  f194 := Tryz.func138.trans (congrArg some (by kernel_rfl))
  t0 := Tryz.underlying0
  a0 := Tryz.isAgg0
  z0 := Tryz.sizeOf0
  v0 := Tryz.zeroValue0
  t3 := Tryz.underlying3
  a3 := Tryz.isAgg3
  z3 := Tryz.sizeOf3
  v3 := Tryz.zeroValue3
  t4 := Tryz.underlying4
  a4 := Tryz.isAgg4
  z4 := Tryz.sizeOf4
  v4 := Tryz.zeroValue4
  t9 := Tryz.underlying9
  a9 := Tryz.isAgg9
  z9 := Tryz.sizeOf9
  v9 := Tryz.zeroValue9
  t31 := Tryz.underlying130
  a31 := Tryz.isAgg130
  z31 := Tryz.sizeOf130
  v31 := Tryz.zeroValue130 }
open Go.RowKit Go.Lib Go.Sort in
theorem Sh.slices_Compact_string (blk off cap : Nat) (zs : List (List UInt8)) (w : World) (hH : Holds encStr w blk off zs.toArray) (hsz : zs.length ≤ 9223372036854775807) (hcap : zs.length ≤ cap) :
    Calls Tryz.prog 138 #[.slice (some ⟨blk, off, none⟩) zs.length cap] w fun e w' => e = .returned (.slice (some ⟨blk, off, none⟩) (Lib.compact zs).length cap) ∧ ∃ q, w' = putRow encStr (Sort.ahead w q) blk off (Lib.compact zs ++ List.replicate (zs.length - (Lib.compact zs).length) []).toArray := Any.slices_Compact_string Sh.lays194 blk off cap zs w hH hsz hcap
open Go.RowKit Go.Lib Go.Sort in
theorem Sh.slices_Compact_string_empty (a : Option Addr) (cap : Nat) (w : World) :
    Calls Tryz.prog 138 #[.slice a 0 cap] w fun e w' => e = .returned (.slice a 0 cap) ∧ w' = w := Any.slices_Compact_string_empty Sh.lays194 a cap w
open Go.RowKit Go.Sort in
theorem Sh.slices_Sort_string_none (p : Option Addr) (cap : Nat) (w : World) :
    Calls Tryz.prog 137 #[.slice p 0 cap] w fun e w' => e = .returned (.tuple #[]) ∧ w' = w := Any.slices_Sort_string_none Sh.lays190 p cap w
end
section
open Go.RowKit
theorem sortS_a (l : List ByteArray) : ATake Tryz.prog 137 1 (eL l) [] false true (eL (sortS l)) := by
  have h := atake_turn oneS (P := Tryz.prog) (f := 137) (by unfold FnOk; kernel_rfl) (fun l => l.mergeSort fun x y => decide (x ≤ y)) (fun l => List.length_mergeSort _) (fun l x h => (List.mergeSort_perm l _).mem_iff.1 h) (fun oa cap w => Sh.slices_Sort_string_none oa cap w) (fun g cap l w h h2 h3 => Sh.slices_Sort_string g 0 cap l w h h2 h3) l
  exact h
theorem compS_a (l : List ByteArray) : ATake Tryz.prog 138 1 (eL l) [] false false (eL (compS l)) := by
  have h := atake_take oneS (P := Tryz.prog) (f := 138) (by unfold FnOk; kernel_rfl) Lib.compact comp_len comp_mem (fun oa cap w => Sh.slices_Compact_string_empty oa cap w) (fun g cap l w h h2 h3 => (Sh.slices_Compact_string g 0 cap l w h h2 h3).mono (by rintro e w' ⟨h4, q, h5⟩; exact ⟨h4, q, _, by have := comp_len l; simp; omega, h5⟩)) l
  exact h
open GoE (enc wide)
def specl04Put_f0 (s_ : ByteArray) (k0 : Nat) (a0 : ByteArray) (_ : Unit) : Rd ((List ByteArray)) (Unit) (Int) := (bif (Op.bytesLess a0.toList s_.toList) then (.next ()) else (.brk ((k0 : Nat) : Int)))
def specl04Put_e0 (k0 : Nat) (_ : Unit) : Int := ((k0 : Nat) : Int)
def specl04Put (list : (List ByteArray)) (s_ : ByteArray) : (List ByteArray) := (Out.on (forL (specl04Put_f0 s_) specl04Put_e0 list 0 ()) (fun y0 => (bif (decide (y0 < (list.length : Int)) && ((nth list (Int.toNat y0)).toList == s_.toList)) then list else List.take (Int.toNat y0) list ++ [s_] ++ (List.drop (Int.toNat y0) list))))
theorem specl04Put_a (list : (List ByteArray)) (s_ : ByteArray) (hp : list.length < 1073741824) : ACalls Tryz.prog 135 [.h list, .s s_] (.h (specl04Put list s_)) := by
 refine en tt_ok Tryz.func135 fun w0 F0 hG => ?_
 refine sn tt_ok [0, 1, 4] [] (p0) ?_
 refine tn tt_ok [0, 1, 4, 5] [] (p0) ?_
 refine awp_seq ?_
 refine mz [(4, .e 0), (5, .i 0)] [] [] [] ?_
 refine wT 0 0 .sh list (fun hw1 hl2 => ?_)
 refine blL2 (specl04Put_f0 s_) specl04Put_e0 list () (fun k0 _ => [(5, .i ((k0 : Nat) : Int))]) [5] (fun y0 => [(5, .i y0)]) [5] (fun y0 => 0 ≤ y0 ∧ y0 ≤ (list.length : Int)) wf0 (fun k0 s0 hk0 hI0 => ?_) (fun k0 s0 hk0 hI0 => ?_) (fun y0 hD0 => ?_)
 ·
  obtain ⟨a0, hx0⟩ := get_some (l := list) (i := k0) hk0
  refine awp_seq ?_
  refine sn tt_ok [0, 1, 4, 5, 18] [] (pl 2 list (pe 3 (av_bool (decide_eq_true (p := ((k0 : Nat) : Int) < (list.length : Int)) (by omega))) (pn 7 hx0 p0))) ?_
  refine ck (Op.bytesLess a0.toList s_.toList) (fun h3 => ?_) (fun h3 => ?_)
  ·
   refine awp_skip ?_
   refine awp_block ?_
   refine qn tt_ok [0, 1, 4, 5] [] (pe 1 (av_i (wrap_succ k0 (by omega))) p0) ?_
   exact xw _ (forL_next hx0 (bif_t h3 (rfl)) hI0)
  refine awp_exit ?_
  exact xw ((k0 : Nat) : Int) ⟨forL_brk hx0 (bif_f h3 (rfl)) hI0, by first | omega | (simp only [List.length_set]; omega)⟩
 ·
  refine awp_seq ?_
  refine sn tt_ok [0, 1, 4, 5, 18] [] (pl 2 list (pe 3 (av_bool (decide_eq_false (p := ((k0 : Nat) : Int) < (list.length : Int)) (by omega))) p0)) ?_
  refine ckF ?_
  refine awp_exit ?_
  exact xw ((k0 : Nat) : Int) ⟨forL_end hk0 (rfl) hI0, by first | omega | (simp only [List.length_set]; omega)⟩
 have hD0_0 := hD0.2
 refine awp_seq ?_
 refine awp_seq ?_
 refine jn [(32, .b (decide (y0 < (list.length : Int)) && ((nth list (Int.toNat y0)).toList == s_.toList)))] [] [] [] (decide (y0 < (list.length : Int))) (fun h4 => ?_) (fun h4 => ?_) ?_
 ·
  have h4d := of_decide_eq_true h4
  have hx5 := ng list (Int.toNat y0)
  refine rn tt_ok [0, 1, 4, 5, 32] [] (pl 2 list (pt 3 h4 (pg 7 y0 hx5 p0))) ?_
  exact ⟨rfl, weak_fit (by rw [h4] <;> kernel_rfl)⟩
 ·
  refine rn tt_ok [0, 1, 4, 5, 32] [] (pl 2 list (pf 3 h4 p0)) ?_
  exact ⟨rfl, weak_fit (by rw [h4] <;> kernel_rfl)⟩
 refine ck (decide (y0 < (list.length : Int)) && ((nth list (Int.toNat y0)).toList == s_.toList)) (fun h6 => ?_) (fun h6 => ?_)
 ·
  refine sn tt_ok [0, 1, 4, 5] [] (p0) ?_
  refine awp_ret ?_
  exact ph0 [] (on_b hD0.1 (bif_t h6 (rfl)))
 refine awp_skip ?_
 have hl7 : List.length (List.take (Int.toNat y0) list) ≤ 1073741824 := wide_len (wide_take (Int.toNat y0) (hw1))
 refine su tt_ok [(6, .one (.slc (.own true 2624) 1 (([] ++ (eL (List.take (Int.toNat y0) list))) ++ [[.s s_]])))] [1, 32] [] [] (pe 3 (av_take .sh 1 (Int.toNat y0) y0 list rfl) (px (ob_rng (lo := 0) (hi := y0) (n := (List.length (eL list))) (rng_of (by omega) (by omega) (by omega))) (po 4 (.flat) (px (ob_len (n := (([] : List (List PV)).length + ((eL (List.take (Int.toNat y0) list)) : List (List PV)).length)) (len_of (rfl) (eL_length (List.take (Int.toNat y0) list)) (by first | omega | (simp only [List.length_cons, List.length_nil]; omega) | (simp; omega) | simp))) (px (ob_flat (flat_eL (List.take (Int.toNat y0) list))) (px (ob_len (n := ((([] ++ (eL (List.take (Int.toNat y0) list))) : List (List PV)).length + ([[.s s_]] : List (List PV)).length)) (by simp [eL_length]; omega)) p0)))))) ?_
 refine eqn [(6, .o 2624 (List.take (Int.toNat y0) list ++ [s_]))] [6] [] [] (by rw [show (([] ++ (eL (List.take (Int.toNat y0) list))) ++ [[.s s_]]) = (eL (List.take (Int.toNat y0) list ++ [s_])) from app_eL (rfl) (rfl)]; first | done | kernel_rfl) ?_
 refine wT 6 0 (.own true 2624) (List.take (Int.toNat y0) list ++ [s_]) (fun hw8 hl9 => ?_)
 have hl10 : List.length (List.drop (Int.toNat y0) list) ≤ 1073741824 := wide_len (wide_drop (Int.toNat y0) (hw1))
 refine su tt_ok [(4, .one (.slc (.own true 2944) 1 ((eL (List.take (Int.toNat y0) list ++ [s_])) ++ (eL (List.drop (Int.toNat y0) list)))))] [0, 4, 5, 6] [] [] (pe 3 (av_drop .sh 1 (Int.toNat y0) y0 list rfl) (px (ob_rng (lo := y0) (hi := (((eL list) : List (List PV)).length : Int)) (n := (List.length (eL list))) (rng_all (by omega) (by omega))) (po 4 (.flat) (pa (List.take (Int.toNat y0) list ++ [s_]) (List.drop (Int.toNat y0) list) (px (ob_flat (flat_eL (List.drop (Int.toNat y0) list))) p0))))) ?_
 refine eqn [(4, .o 2944 (List.take (Int.toNat y0) list ++ [s_] ++ (List.drop (Int.toNat y0) list)))] [4] [] [] (by rw [show ((eL (List.take (Int.toNat y0) list ++ [s_])) ++ (eL (List.drop (Int.toNat y0) list))) = (eL (List.take (Int.toNat y0) list ++ [s_] ++ (List.drop (Int.toNat y0) list))) from app_eL (rfl) (rfl)]; first | done | kernel_rfl) ?_
 refine awp_ret ?_
 exact ph0 [2944] (on_b hD0.1 (bif_f h6 (rfl)))
theorem toList_inj {a b : ByteArray} : (a.toList == b.toList) = decide (a = b) := by
  rw [ByteArray.toList_eq, ByteArray.toList_eq, Bool.eq_iff_iff]
  simp only [beq_iff_eq, decide_eq_true_eq]
  exact ⟨fun h => ByteArray.ext (Array.ext' h), fun h => h ▸ rfl⟩
def placeS (l : List ByteArray) (s : ByteArray) : Nat := (l.takeWhile fun x => bl x s).length
theorem placeS_cons (a : ByteArray) (l : List ByteArray) (s : ByteArray) : placeS (a :: l) s = if bl a s = true then placeS l s + 1 else 0 := by
  unfold placeS
  rw [List.takeWhile_cons]
  cases bl a s <;> simp
theorem place_loop (s : ByteArray) : ∀ (l : List ByteArray) (k : Nat), forL (specl04Put_f0 s) specl04Put_e0 l k () = .brk (((k + placeS l s : Nat)) : Int)
  | [], k => by simp [forL, specl04Put_e0, placeS]
  | a :: l, k => by
    rw [placeS_cons]
    simp only [forL, specl04Put_f0]
    cases h : Op.bytesLess a.toList s.toList with
    | true =>
      have h' : bl a s = true := h
      simp only [cond_true, h', if_true]
      rw [place_loop s l (k + 1), show k + 1 + placeS l s = k + (placeS l s + 1) by omega]
    | false =>
      have h' : bl a s = false := h
      simp [h']
theorem putS_eq (s : ByteArray) : ∀ l : List ByteArray, putS l s = bif (decide (((placeS l s : Nat) : Int) < (l.length : Int)) && ((nth l (placeS l s)).toList == s.toList)) then l else List.take (placeS l s) l ++ [s] ++ List.drop (placeS l s) l
  | [] => by simp [putS, placeS]
  | a :: l => by
    rw [placeS_cons, putS]
    cases h : bl a s with
    | true =>
      simp only [if_true]
      rw [putS_eq s l]
      have e : nth (a :: l) (placeS l s + 1) = nth l (placeS l s) := rfl
      rw [e, show decide ((((placeS l s + 1 : Nat)) : Int) < ((a :: l).length : Int)) = decide (((placeS l s : Nat) : Int) < (l.length : Int)) by
        rw [Bool.eq_iff_iff]; simp only [decide_eq_true_eq, List.length_cons]; omega]
      generalize (decide (((placeS l s : Nat) : Int) < (l.length : Int)) && ((nth l (placeS l s)).toList == s.toList)) = c
      cases c <;> simp
    | false =>
      have e : nth (a :: l) 0 = a := rfl
      simp only [Bool.false_eq_true, if_false]
      rw [e, toList_inj]
      by_cases hs : a = s
      · simp [hs]
      simp [hs]
theorem l04Put_eq (l : List ByteArray) (s : ByteArray) : specl04Put l s = putS l s := by
  unfold specl04Put
  rw [place_loop, putS_eq]
  simp only [Out.on, Nat.zero_add, Int.toNat_natCast]
theorem put_len (l : List ByteArray) (s : ByteArray) : List.length (specl04Put l s) ≤ List.length l + 1 := by rw [l04Put_eq]; exact len_putS s l
open GoE (enc wide)
def implnamesDir (n : NodeD) : Bool := ((n.1 == (8 : Int)) || (n.1 == (9 : Int)))
theorem implnamesDir_a (n : NodeD) : ACalls Tryz.prog 130 [.a [.i n.1, .i n.2.1, .i n.2.2.1, .s n.2.2.2.1, .i n.2.2.2.2.1, .i n.2.2.2.2.2.1, .s n.2.2.2.2.2.2]] (.b (implnamesDir n)) := by
 refine en tt_ok Tryz.func130 fun w0 F0 hG => ?_
 refine sn tt_ok [1, 2] [1] (p0) ?_
 refine awp_seq ?_
 refine mz [(1, .p 1 0), (2, .b false)] [0] [(1, [.i n.1, .i n.2.1, .i n.2.2.1, .s n.2.2.2.1, .i n.2.2.2.2.1, .i n.2.2.2.2.2.1, .s n.2.2.2.2.2.2])] [] ?_
 refine jn [(2, .b ((n.1 == (8 : Int)) || (n.1 == (9 : Int))))] [1, 2] [] [1] (n.1 == (8 : Int)) (fun h1 => ?_) (fun h1 => ?_) ?_
 ·
  refine rn tt_ok [2] [] (pt 2 h1 p0) ?_
  exact ⟨rfl, weak_fit (by rw [h1] <;> kernel_rfl)⟩
 ·
  refine rn tt_ok [2] [] (pf 2 h1 p0) ?_
  exact ⟨rfl, weak_fit (by rw [h1] <;> kernel_rfl)⟩
 refine awp_ret ?_
 exact pb [] (show implnamesDir n = ((n.1 == (8 : Int)) || (n.1 == (9 : Int))) from rfl)
def implsortedOnce (l : (List ByteArray)) : (List ByteArray) := compS (sortS l)
theorem implsortedOnce_a (l : (List ByteArray)) : ACalls Tryz.prog 131 [.h l] (.h (implsortedOnce l)) := by
 refine en tt_ok Tryz.func131 fun w0 F0 hG => ?_
 refine sn tt_ok [0, 2] [] (p0) ?_
 refine tn tt_ok [2, 3] [] (pc 1 (cloneString_a l) p0) ?_
 refine mz [(2, .e 0), (3, .o 320 l)] [0] [] [] ?_
 refine awp_demotes [320] rfl ?_
 refine su tt_ok [(3, .one (.slc (.own false 320) 1 (putR (eL l) 0 4294967296 (List.flatten (eL (sortS l))))))] [3] [] [] (po 1 (.take false true (eL (sortS l))) (px (ob_take (sortS_a l)) p0)) ?_
 refine eqn [(3, .q 320 (sortS l))] [3] [] [] (by rw [putR_all (fun _ => rfl) (sortS_len _)] <;> kernel_rfl) ?_
 refine sn tt_ok [2] [] (po 1 (.take false false (eL (compS (sortS l)))) (px (ob_take (compS_a (sortS l))) p0)) ?_
 refine awp_ret ?_
 exact ph0 [576] (show implsortedOnce l = compS (sortS l) from rfl)
def impldepsBelow_f0 (q : (List NodeD)) (negated : Bool) (k0 : Nat) (a0 : Bool) (s0 : (List ByteArray)) : Rd ((List ByteArray)) ((List ByteArray)) ((List ByteArray)) := (bif ((implnamesDir (nth q k0)) && (a0 == negated)) then (.next (s0 ++ [(nth q k0).2.2.2.1])) else (.next s0))
def impldepsBelow_e0 (_ : Nat) (s0 : (List ByteArray)) : (List ByteArray) := s0
def impldepsBelow (q : (List NodeD)) (negated : Bool) : (List ByteArray) := (Out.on (forL (impldepsBelow_f0 q negated) impldepsBelow_e0 (implNegatedNodes q) 0 []) (fun y0 => (implsortedOnce y0)))
theorem impldepsBelow_a (q : (List NodeD)) (negated : Bool) : ACalls Tryz.prog 115 [.h q, .b negated] (.h (impldepsBelow q negated)) := by
 refine en tt_ok Tryz.func115 fun w0 F0 hG => ?_
 have hnl := negated_len q
 refine sn tt_ok [0, 1, 4] [] (p0) ?_
 refine tn tt_ok [0, 1, 4, 5] [] (p0) ?_
 refine awp_seq ?_
 refine tu tt_ok [(4, .e 0), (5, .one (.slc (.own true 512) 1 [])), (10, .o 640 (implNegatedNodes q)), (11, .i ((implNegatedNodes q).length : Int)), (12, .i 0)] [] [] [] (pc 1 (implNegatedNodes_a q) (pl 2 (implNegatedNodes q) p0)) ?_
 refine wT 10 0 (.own true 640) (implNegatedNodes q) (fun hw1 hl2 => ?_)
 refine blL1 (impldepsBelow_f0 q negated) impldepsBelow_e0 (implNegatedNodes q) [] (fun k0 s0 => [(5, .o 147203 s0), (12, .i ((k0 : Nat) : Int))]) [5, 12] (fun y0 => [(5, .o 147353 y0)]) [0, 1, 5, 10, 11, 12] (fun k0 s0 => List.length s0 ≤ k0) (weak_sf [(512, 147203)] (by kernel_rfl)) (by simp) (fun k0 s0 hk0 hI0 => ?_) (fun k0 s0 hk0 hI0 => ?_) (fun y0 hD0 => ?_)
 ·
  have hA0_0 := hI0.2
  obtain ⟨a0, hx0⟩ := get_some (l := implNegatedNodes q) (i := k0) hk0
  refine su tt_ok [(13, .b true)] [] [] [] (pe 0 (av_bool (decide_eq_true (p := ((k0 : Nat) : Int) < ((implNegatedNodes q).length : Int)) (by omega))) p0) ?_
  refine awp_seq ?_
  refine ckT ?_
  refine awp_skip ?_
  refine awp_seq ?_
  refine awp_block ?_
  refine sn tt_ok [0, 1, 4, 5, 6, 7, 10, 11, 12] [] (pN 1 hx0 p0) ?_
  refine awp_seq ?_
  refine mz [(6, .i ((k0 : Nat) : Int)), (7, .b a0)] [13] [] [] ?_
  refine jn [(26, .b ((implnamesDir (nth q k0)) && (a0 == negated)))] [7] [] [] (implnamesDir (nth q k0)) (fun h3 => ?_) (fun h3 => ?_) ?_
  ·
   refine wT 0 0 .sh q (fun hw5 hl6 => ?_)
   have hx4 := ng q k0
   refine rn tt_ok [0, 1, 4, 5, 6, 10, 11, 12, 26] [] (pn 2 hx4 (pc 4 (cb h3 (implnamesDir_a (nth q k0))) p0)) ?_
   exact ⟨rfl, weak_fit (by rw [h3] <;> kernel_rfl)⟩
  ·
   refine wT 0 0 .sh q (fun hw8 hl9 => ?_)
   have hx7 := ng q k0
   refine ru tt_ok [(26, .b false)] [7] [] [] (pn 2 hx7 (pc 4 (cb h3 (implnamesDir_a (nth q k0))) p0)) ?_
   exact ⟨rfl, weak_fit (by rw [h3] <;> kernel_rfl)⟩
  refine ck ((implnamesDir (nth q k0)) && (a0 == negated)) (fun h10 => ?_) (fun h10 => ?_)
  ·
   have h10r : ((a0 == negated)) = true := and_r h10
   have h10rd := eq_of_beq h10r
   refine wT 0 0 .sh q (fun hw12 hl13 => ?_)
   have hx11 := ng q k0
   refine wT 5 0 (.own true 147203) s0 (fun hw14 hl15 => ?_)
   refine ru tt_ok [(5, .one (.slc (.own true 2176) 1 ((eL s0) ++ [[.s ((nth q k0).2.2.2.1)]])))] [5, 6, 26] [] [] (pn 3 hx11 (pa s0 [(nth q k0).2.2.2.1] p0)) ?_
   refine eqn [(5, .o 2176 (s0 ++ [(nth q k0).2.2.2.1]))] [5] [] [] (by rw [show ((eL s0) ++ [[.s ((nth q k0).2.2.2.1)]]) = (eL (s0 ++ [(nth q k0).2.2.2.1])) from app_eL (rfl) (rfl)]; first | done | kernel_rfl) ?_
   refine rn tt_ok [0, 1, 4, 5, 10, 11, 12] [] (pe 0 (av_i (wrap_succ k0 (by omega))) p0) ?_
   exact Exists.intro (s0 ++ [(nth q k0).2.2.2.1]) (And.intro (weak_sf [(2176, 147203)] (by kernel_rfl)) ⟨forL_next hx0 (bif_t h10 (rfl)) hI0.1, by first | omega | (simp; omega) | simp⟩)
  refine awp_skip ?_
  refine rn tt_ok [0, 1, 4, 5, 10, 11, 12] [] (pe 0 (av_i (wrap_succ k0 (by omega))) p0) ?_
  exact xw s0 ⟨forL_next hx0 (bif_f h10 (rfl)) hI0.1, by first | omega | (simp; omega) | simp⟩
 ·
  have hA0_0 := hI0.2
  refine su tt_ok [(13, .b false)] [] [] [] (pe 0 (av_bool (decide_eq_false (p := ((k0 : Nat) : Int) < ((implNegatedNodes q).length : Int)) (by omega))) p0) ?_
  refine awp_seq ?_
  refine ckF ?_
  refine awp_exit ?_
  exact Exists.intro _ (And.intro (weak_sf [(147203, 147353)] (by kernel_rfl)) (forL_end hk0 (rfl) hI0.1))
 refine sn tt_ok [4] [] (pc 1 (implsortedOnce_a y0) p0) ?_
 refine awp_ret ?_
 exact ph0 [] (on_b hD0 (rfl))
def implPositiveDeps (q : (List NodeD)) : (List ByteArray) := (impldepsBelow q false)
theorem implPositiveDeps_a (q : (List NodeD)) : ACalls Tryz.prog 92 [.h q] (.h (implPositiveDeps q)) := by
 refine en tt_ok Tryz.func92 fun w0 F0 hG => ?_
 refine sn tt_ok [0, 2] [] (p0) ?_
 refine tn tt_ok [2] [] (pc 1 (impldepsBelow_a q false) p0) ?_
 refine awp_ret ?_
 exact ph0 [] (show implPositiveDeps q = (impldepsBelow q false) from rfl)
def implNegativeDeps (q : (List NodeD)) : (List ByteArray) := (impldepsBelow q true)
theorem implNegativeDeps_a (q : (List NodeD)) : ACalls Tryz.prog 93 [.h q] (.h (implNegativeDeps q)) := by
 refine en tt_ok Tryz.func93 fun w0 F0 hG => ?_
 refine sn tt_ok [0, 2] [] (p0) ?_
 refine tn tt_ok [2] [] (pc 1 (impldepsBelow_a q true) p0) ?_
 refine awp_ret ?_
 exact ph0 [] (show implNegativeDeps q = (impldepsBelow q true) from rfl)
def specl12Names_f0 (q : (List NodeD)) (under : Bool) (k0 : Nat) (a0 : Bool) (s0 : (List ByteArray)) : Rd ((List ByteArray)) ((List ByteArray)) ((List ByteArray)) := (bif ((specl01In ((nth q k0).1) 8 9) && (a0 == under)) then (.next (specl04Put s0 ((nth q k0).2.2.2.1))) else (.next s0))
def specl12Names_e0 (_ : Nat) (s0 : (List ByteArray)) : (List ByteArray) := s0
def specl12Names (q : (List NodeD)) (under : Bool) : (List ByteArray) := (Out.on (forL (specl12Names_f0 q under) specl12Names_e0 (specNegatedNodes q) 0 []) (fun y0 => y0))
theorem specl12Names_a (q : (List NodeD)) (under : Bool) : ACalls Tryz.prog 122 [.h q, .b under] (.o 0 (specl12Names q under)) := by
 refine en tt_ok Tryz.func122 fun w0 F0 hG => ?_
 have hnl := negated_lenS q
 refine sn tt_ok [0, 1, 4] [] (p0) ?_
 refine tn tt_ok [0, 1, 4, 5] [] (p0) ?_
 refine tu tt_ok [(4, .e 0), (5, .one (.slc (.own true 512) 1 [])), (6, .o 640 (specNegatedNodes q))] [] [] [] (pc 1 (specNegatedNodes_a q) p0) ?_
 refine awp_seq ?_
 refine su tt_ok [(7, .i 0)] [] [] [] (p0) ?_
 refine wT 6 0 (.own true 640) (specNegatedNodes q) (fun hw1 hl2 => ?_)
 refine blL1 (specl12Names_f0 q under) specl12Names_e0 (specNegatedNodes q) [] (fun k0 s0 => [(5, .h s0), (7, .i ((k0 : Nat) : Int))]) [5, 7] (fun y0 => [(5, .h y0)]) [0, 1, 5, 6, 7] (fun k0 s0 => List.length s0 ≤ k0) (weak_gf [] [512] [] [] (by kernel_rfl)) (by simp) (fun k0 s0 hk0 hI0 => ?_) (fun k0 s0 hk0 hI0 => ?_) (fun y0 hD0 => ?_)
 ·
  have hA0_0 := hI0.2
  obtain ⟨a0, hx0⟩ := get_some (l := specNegatedNodes q) (i := k0) hk0
  refine awp_seq ?_
  refine su tt_ok [(14, .b true)] [] [] [] (pl 2 (specNegatedNodes q) (pe 3 (av_bool (decide_eq_true (p := ((k0 : Nat) : Int) < ((specNegatedNodes q).length : Int)) (by omega))) p0)) ?_
  refine ckT ?_
  refine awp_skip ?_
  refine awp_seq ?_
  refine awp_block ?_
  refine awp_seq ?_
  refine jn [(30, .b ((specl01In ((nth q k0).1) 8 9) && (a0 == under)))] [14] [] [] (specl01In ((nth q k0).1) 8 9) (fun h3 => ?_) (fun h3 => ?_) ?_
  ·
   refine wT 0 0 .sh q (fun hw5 hl6 => ?_)
   have hx4 := ng q k0
   refine rn tt_ok [0, 1, 4, 5, 6, 7, 30] [] (pn 2 hx4 (pc 5 (cb h3 (specl01In_a ((nth q k0).1) 8 9)) (pN 9 hx0 p0))) ?_
   exact ⟨rfl, weak_fit (by rw [h3] <;> kernel_rfl)⟩
  ·
   refine wT 0 0 .sh q (fun hw8 hl9 => ?_)
   have hx7 := ng q k0
   refine rn tt_ok [0, 1, 4, 5, 6, 7, 30] [] (pn 2 hx7 (pc 5 (cb h3 (specl01In_a ((nth q k0).1) 8 9)) p0)) ?_
   exact ⟨rfl, weak_fit (by rw [h3] <;> kernel_rfl)⟩
  refine ck ((specl01In ((nth q k0).1) 8 9) && (a0 == under)) (fun h10 => ?_) (fun h10 => ?_)
  ·
   have h10r : ((a0 == under)) = true := and_r h10
   have h10rd := eq_of_beq h10r
   refine wT 0 0 .sh q (fun hw12 hl13 => ?_)
   have hx11 := ng q k0
   refine rn tt_ok [0, 1, 4, 5, 6, 7] [] (pn 3 hx11 (pc 6 (specl04Put_a s0 ((nth q k0).2.2.2.1) (by omega)) p0)) ?_
   refine qn tt_ok [0, 1, 4, 5, 6, 7] [] (pe 1 (av_i (wrap_succ k0 (by omega))) p0) ?_
   exact xw (specl04Put s0 ((nth q k0).2.2.2.1)) ⟨forL_next hx0 (bif_t h10 (rfl)) hI0.1, (by first | omega | (have hz := put_len s0 (nth q k0).2.2.2.1; omega))⟩
  refine awp_skip ?_
  refine rn tt_ok [0, 1, 4, 5, 6, 7] [] (pe 1 (av_i (wrap_succ k0 (by omega))) p0) ?_
  exact xw s0 ⟨forL_next hx0 (bif_f h10 (rfl)) hI0.1, (by first | omega | (have hz := put_len s0 (nth q k0).2.2.2.1; omega))⟩
 ·
  have hA0_0 := hI0.2
  refine awp_seq ?_
  refine su tt_ok [(14, .b false)] [] [] [] (pl 2 (specNegatedNodes q) (pe 3 (av_bool (decide_eq_false (p := ((k0 : Nat) : Int) < ((specNegatedNodes q).length : Int)) (by omega))) p0)) ?_
  refine ckF ?_
  refine awp_exit ?_
  exact xw _ (forL_end hk0 (rfl) hI0.1)
 refine wT 5 0 .sh y0 (fun hw14 hl15 => ?_)
 refine sn tt_ok [4] [] (po 2 (.flat) (px (ob_len (n := (([] : List (List PV)).length + ((eL y0) : List (List PV)).length)) (len_of (rfl) (eL_length y0) (by first | omega | (simp only [List.length_cons, List.length_nil]; omega) | (simp; omega) | simp))) (px (ob_flat (flat_eL y0)) p0))) ?_
 refine awp_ret ?_
 exact po0 [] (on_b hD0 (rfl))
def specPositiveDeps (q : (List NodeD)) : (List ByteArray) := (specl12Names q false)
theorem specPositiveDeps_a (q : (List NodeD)) : ACalls Tryz.prog 104 [.h q] (.o 0 (specPositiveDeps q)) := by
 refine en tt_ok Tryz.func104 fun w0 F0 hG => ?_
 refine sn tt_ok [0, 2] [] (p0) ?_
 refine tn tt_ok [2] [] (pc 1 (specl12Names_a q false) p0) ?_
 refine awp_ret ?_
 exact po0 [] (show specPositiveDeps q = (specl12Names q false) from rfl)
def specNegativeDeps (q : (List NodeD)) : (List ByteArray) := (specl12Names q true)
theorem specNegativeDeps_a (q : (List NodeD)) : ACalls Tryz.prog 106 [.h q] (.o 0 (specNegativeDeps q)) := by
 refine en tt_ok Tryz.func106 fun w0 F0 hG => ?_
 refine sn tt_ok [0, 2] [] (p0) ?_
 refine tn tt_ok [2] [] (pc 1 (specl12Names_a q true) p0) ?_
 refine awp_ret ?_
 exact po0 [] (show specNegativeDeps q = (specl12Names q true) from rfl)
theorem namesDir_eq (n : NodeD) : specl01In n.1 8 9 = implnamesDir n := by
  unfold specl01In implnamesDir
  rw [Bool.eq_iff_iff]
  simp
  omega
theorem deps_loop (q : List NodeD) (b : Bool) : ∀ (l : List Bool) (k : Nat) (s : List ByteArray), ∃ m, forL (impldepsBelow_f0 q b) impldepsBelow_e0 l k s = .brk (s ++ m) ∧ ∀ t, forL (specl12Names_f0 q b) specl12Names_e0 l k t = .brk (putAllS t m)
  | [], k, s => ⟨[], by simp [forL, impldepsBelow_e0], fun t => by simp [forL, specl12Names_e0, putAllS]⟩
  | a :: l, k, s => by
    simp only [forL, impldepsBelow_f0, specl12Names_f0, namesDir_eq]
    cases h : (implnamesDir (nth q k) && (a == b)) with
    | true =>
      obtain ⟨m, h1, h2⟩ := deps_loop q b l (k + 1) (s ++ [(nth q k).2.2.2.1])
      refine ⟨(nth q k).2.2.2.1 :: m, ?_, fun t => ?_⟩
      · simp only [cond_true]; rw [h1, List.append_assoc]; rfl
      simp only [cond_true]; rw [h2, l04Put_eq]; rfl
    | false =>
      obtain ⟨m, h1, h2⟩ := deps_loop q b l (k + 1) s
      exact ⟨m, by simp only [cond_false]; exact h1, fun t => by simp only [cond_false]; exact h2 t⟩
theorem deps_eq (q : List NodeD) (b : Bool) : specl12Names q b = impldepsBelow q b := by
  unfold specl12Names impldepsBelow
  obtain ⟨m, h1, h2⟩ := deps_loop q b (implNegatedNodes q) 0 []
  rw [negated_eq, h1, h2]
  simp only [Out.on, List.nil_append]
  exact (once_put m).symm
theorem posdeps_eq (q : List NodeD) : specPositiveDeps q = implPositiveDeps q := deps_eq q false
theorem negdeps_eq (q : List NodeD) : specNegativeDeps q = implNegativeDeps q := deps_eq q true
open GoE (enc wide)
def implIsValidDirs_f0 (d : (List DirD)) (k0 : Nat) (a0 : DirD) (_ : Unit) : Rd (Bool) (Unit) (Unit) := (bif ((!(implIsValidString a0.1)) || (bif decide (((k0 : Nat) : Int) > (0 : Int)) then ((!(Op.bytesLess ((nth d (Int.toNat (((k0 : Nat) : Int) - 1))).1).toList a0.1.toList)) || (!(implIsValidQuery a0.2))) else (!(implIsValidQuery a0.2)))) then (.ret false) else (.next ()))
def implIsValidDirs_e0 (_ : Nat) (_ : Unit) : Unit := ()
def implIsValidDirs (d : (List DirD)) : Bool := (Out.on (forL (implIsValidDirs_f0 d) implIsValidDirs_e0 d 0 ()) (fun _ => decide ((d.length : Int) ≤ (5 : Int))))
theorem implIsValidDirs_a (d : (List DirD)) : ACalls Tryz.prog 90 [.h d] (.b (implIsValidDirs d)) := by
 refine en tt_ok Tryz.func90 fun w0 F0 hG => ?_
 refine sn tt_ok [0, 2] [] (p0) ?_
 refine awp_seq ?_
 refine tn tt_ok [0, 2, 5, 6, 7] [] (pl 1 d p0) ?_
 refine mz [(2, .b false), (5, .h d), (6, .i (d.length : Int)), (7, .i 0)] [] [] [] ?_
 refine wT 0 0 .sh d (fun hw1 hl2 => ?_)
 refine blL0 (implIsValidDirs_f0 d) implIsValidDirs_e0 d () (fun k0 _ => [(7, .i ((k0 : Nat) : Int))]) [7] (fun _ => []) [5, 6, 7] wf0 (fun k0 s0 hk0 hI0 => ?_) (fun k0 s0 hk0 hI0 => ?_) (fun y0 hD0 => ?_)
 ·
  obtain ⟨a0, hx0⟩ := get_some (l := d) (i := k0) hk0
  refine sn tt_ok [0, 2, 5, 6, 7, 8] [] (pe 0 (av_bool (decide_eq_true (p := ((k0 : Nat) : Int) < (d.length : Int)) (by omega))) p0) ?_
  refine awp_seq ?_
  refine ckT ?_
  refine awp_skip ?_
  refine awp_seq ?_
  refine awp_block ?_
  refine tn tt_ok [0, 2, 3, 4, 5, 6, 7] [4] (pn 1 hx0 p0) ?_
  refine awp_seq ?_
  refine mz [(3, .i ((k0 : Nat) : Int)), (4, .p 4 0)] [] [(4, [.s a0.1, .h a0.2])] [] ?_
  refine jn [(36, .b ((!(implIsValidString a0.1)) || (bif decide (((k0 : Nat) : Int) > (0 : Int)) then ((!(Op.bytesLess ((nth d (Int.toNat (((k0 : Nat) : Int) - 1))).1).toList a0.1.toList)) || (!(implIsValidQuery a0.2))) else (!(implIsValidQuery a0.2)))))] [3, 4] [] [4] (!(implIsValidString a0.1)) (fun h3 => ?_) (fun h3 => ?_) ?_
  ·
   have h3n : (implIsValidString a0.1) = false := bnot_t h3
   refine rN tt_ok tt_mx [0, 2, 5, 6, 7, 36] [] (pc 2 (cb h3n (implIsValidString_a a0.1)) (pe 3 (show .b (!false) = .b true from rfl) p0)) ?_
   exact ⟨rfl, weak_fit (by rw [h3] <;> kernel_rfl)⟩
  ·
   have h3n : (implIsValidString a0.1) = true := bnot_f h3
   refine awp_split (decide (((k0 : Nat) : Int) > (0 : Int))) (fun h4 => ?_) (fun h4 => ?_)
   ·
    have h4d := of_decide_eq_true h4
    refine awp_split (!(Op.bytesLess ((nth d (Int.toNat (((k0 : Nat) : Int) - 1))).1).toList a0.1.toList)) (fun h5 => ?_) (fun h5 => ?_)
    ·
     have hx6 := ng d (Int.toNat (((k0 : Nat) : Int) - 1))
     refine rN tt_ok tt_mx [0, 2, 5, 6, 7, 36] [] (pc 2 (cb h3n (implIsValidString_a a0.1)) (pe 3 (show .b (!true) = .b false from rfl) (pt 6 h4 (pe 10 (av_i (IntWalk.i64_in (((k0 : Nat) : Int) - 1) (by omega))) (pg 11 (((k0 : Nat) : Int) - 1) hx6 (pt 16 h5 p0)))))) ?_
     exact ⟨rfl, weak_fit (by rw [h3, h4, h5] <;> kernel_rfl)⟩
    have hx7 := ng d (Int.toNat (((k0 : Nat) : Int) - 1))
    refine rN tt_ok tt_mx [0, 2, 5, 6, 7, 36] [] (pc 2 (cb h3n (implIsValidString_a a0.1)) (pe 3 (show .b (!true) = .b false from rfl) (pt 6 h4 (pe 10 (av_i (IntWalk.i64_in (((k0 : Nat) : Int) - 1) (by omega))) (pg 11 (((k0 : Nat) : Int) - 1) hx7 (pf 16 h5 (pc 22 (implIsValidQuery_a a0.2) p0))))))) ?_
    exact ⟨rfl, weak_fit (by rw [h3, h4, h5] <;> kernel_rfl)⟩
   refine rN tt_ok tt_mx [0, 2, 5, 6, 7, 36] [] (pc 2 (cb h3n (implIsValidString_a a0.1)) (pe 3 (show .b (!true) = .b false from rfl) (pf 6 h4 (pc 22 (implIsValidQuery_a a0.2) p0)))) ?_
   exact ⟨rfl, weak_fit (by rw [h3, h4] <;> kernel_rfl)⟩
  refine ck ((!(implIsValidString a0.1)) || (bif decide (((k0 : Nat) : Int) > (0 : Int)) then ((!(Op.bytesLess ((nth d (Int.toNat (((k0 : Nat) : Int) - 1))).1).toList a0.1.toList)) || (!(implIsValidQuery a0.2))) else (!(implIsValidQuery a0.2)))) (fun h8 => ?_) (fun h8 => ?_)
  ·
   refine su tt_ok [] [36] [] [] (p0) ?_
   refine awp_ret ?_
   have hr9 : (forL (implIsValidDirs_f0 d) implIsValidDirs_e0 d 0 ()) = .ret false := forL_ret hx0 (bif_t h8 (rfl)) hI0
   exact pb [] (on_r hr9)
  refine awp_skip ?_
  refine rn tt_ok [0, 2, 5, 6, 7] [] (pe 0 (av_i (wrap_succ k0 (by omega))) p0) ?_
  exact xw _ (forL_next hx0 (bif_f h8 (rfl)) hI0)
 ·
  refine sn tt_ok [0, 2, 5, 6, 7, 8] [] (pe 0 (av_bool (decide_eq_false (p := ((k0 : Nat) : Int) < (d.length : Int)) (by omega))) p0) ?_
  refine awp_seq ?_
  refine ckF ?_
  refine awp_exit ?_
  exact xw _ (forL_end hk0 (rfl) hI0)
 refine sn tt_ok [2] [] (pl 1 d p0) ?_
 refine awp_ret ?_
 exact pb [] (on_b hD0 (rfl))
def specIsValidDirs_f0 (d : (List DirD)) (k0 : Nat) (a0 : DirD) (_ : Unit) : Rd (Bool) (Unit) (Unit) := (bif ((!(specIsValidString a0.1)) || ((!(specIsValidQuery a0.2)) || (decide (((k0 : Nat) : Int) > (0 : Int)) && (!(Op.bytesLess ((nth d (Int.toNat (((k0 : Nat) : Int) - 1))).1).toList a0.1.toList))))) then (.ret false) else (.next ()))
def specIsValidDirs_e0 (_ : Nat) (_ : Unit) : Unit := ()
def specIsValidDirs (d : (List DirD)) : Bool := (Out.on (forL (specIsValidDirs_f0 d) specIsValidDirs_e0 d 0 ()) (fun _ => decide ((d.length : Int) ≤ (5 : Int))))
theorem specIsValidDirs_a (d : (List DirD)) : ACalls Tryz.prog 79 [.h d] (.b (specIsValidDirs d)) := by
 refine en tt_ok Tryz.func79 fun w0 F0 hG => ?_
 refine sn tt_ok [0, 2] [] (p0) ?_
 refine awp_seq ?_
 refine tn tt_ok [0, 2, 3] [] (p0) ?_
 refine mz [(2, .b false), (3, .i 0)] [] [] [] ?_
 refine wT 0 0 .sh d (fun hw1 hl2 => ?_)
 refine blL0 (specIsValidDirs_f0 d) specIsValidDirs_e0 d () (fun k0 _ => [(3, .i ((k0 : Nat) : Int))]) [3] (fun _ => []) [3] wf0 (fun k0 s0 hk0 hI0 => ?_) (fun k0 s0 hk0 hI0 => ?_) (fun y0 hD0 => ?_)
 ·
  obtain ⟨a0, hx0⟩ := get_some (l := d) (i := k0) hk0
  refine awp_seq ?_
  refine sn tt_ok [0, 2, 3, 7] [] (pl 2 d (pe 3 (av_bool (decide_eq_true (p := ((k0 : Nat) : Int) < (d.length : Int)) (by omega))) p0)) ?_
  refine ckT ?_
  refine awp_skip ?_
  refine awp_seq ?_
  refine awp_block ?_
  refine awp_seq ?_
  refine mz [(7, .b true)] [] [] [] ?_
  refine jn [(43, .b ((!(specIsValidString a0.1)) || ((!(specIsValidQuery a0.2)) || (decide (((k0 : Nat) : Int) > (0 : Int)) && (!(Op.bytesLess ((nth d (Int.toNat (((k0 : Nat) : Int) - 1))).1).toList a0.1.toList))))))] [7] [] [] (!(specIsValidString a0.1)) (fun h3 => ?_) (fun h3 => ?_) ?_
  ·
   have h3n : (specIsValidString a0.1) = false := bnot_t h3
   refine rN tt_ok tt_mx [0, 2, 3, 43] [] (pn 2 hx0 (pc 5 (cb h3n (specIsValidString_a a0.1)) (pe 6 (show .b (!false) = .b true from rfl) p0))) ?_
   exact ⟨rfl, weak_fit (by rw [h3] <;> kernel_rfl)⟩
  ·
   have h3n : (specIsValidString a0.1) = true := bnot_f h3
   refine awp_split (!(specIsValidQuery a0.2)) (fun h4 => ?_) (fun h4 => ?_)
   ·
    have h4n : (specIsValidQuery a0.2) = false := bnot_t h4
    refine rN tt_ok tt_mx [0, 2, 3, 43] [] (pn 2 hx0 (pc 5 (cb h3n (specIsValidString_a a0.1)) (pe 6 (show .b (!true) = .b false from rfl) (pn 10 hx0 (pc 13 (cb h4n (specIsValidQuery_a a0.2)) (pe 14 (show .b (!false) = .b true from rfl) p0)))))) ?_
    exact ⟨rfl, weak_fit (by rw [h3, h4] <;> kernel_rfl)⟩
   have h4n : (specIsValidQuery a0.2) = true := bnot_f h4
   refine awp_split (decide (((k0 : Nat) : Int) > (0 : Int))) (fun h5 => ?_) (fun h5 => ?_)
   ·
    have h5d := of_decide_eq_true h5
    have hx6 := ng d (Int.toNat (((k0 : Nat) : Int) - 1))
    refine rN tt_ok tt_mx [0, 2, 3, 43] [] (pn 2 hx0 (pc 5 (cb h3n (specIsValidString_a a0.1)) (pe 6 (show .b (!true) = .b false from rfl) (pn 10 hx0 (pc 13 (cb h4n (specIsValidQuery_a a0.2)) (pe 14 (show .b (!true) = .b false from rfl) (pt 18 h5 (pe 22 (av_i (IntWalk.i64_in (((k0 : Nat) : Int) - 1) (by omega))) (pg 23 (((k0 : Nat) : Int) - 1) hx6 (pn 28 hx0 p0)))))))))) ?_
    exact ⟨rfl, weak_fit (by rw [h3, h4, h5] <;> kernel_rfl)⟩
   refine rN tt_ok tt_mx [0, 2, 3, 43] [] (pn 2 hx0 (pc 5 (cb h3n (specIsValidString_a a0.1)) (pe 6 (show .b (!true) = .b false from rfl) (pn 10 hx0 (pc 13 (cb h4n (specIsValidQuery_a a0.2)) (pe 14 (show .b (!true) = .b false from rfl) (pf 18 h5 p0))))))) ?_
   exact ⟨rfl, weak_fit (by rw [h3, h4, h5] <;> kernel_rfl)⟩
  refine ck ((!(specIsValidString a0.1)) || ((!(specIsValidQuery a0.2)) || (decide (((k0 : Nat) : Int) > (0 : Int)) && (!(Op.bytesLess ((nth d (Int.toNat (((k0 : Nat) : Int) - 1))).1).toList a0.1.toList))))) (fun h7 => ?_) (fun h7 => ?_)
  ·
   refine sn tt_ok [0, 2, 3] [] (p0) ?_
   refine awp_ret ?_
   have hr8 : (forL (specIsValidDirs_f0 d) specIsValidDirs_e0 d 0 ()) = .ret false := forL_ret hx0 (bif_t h7 (rfl)) hI0
   exact pb [] (on_r hr8)
  refine awp_skip ?_
  refine rn tt_ok [0, 2, 3] [] (pe 1 (av_i (wrap_succ k0 (by omega))) p0) ?_
  exact xw _ (forL_next hx0 (bif_f h7 (rfl)) hI0)
 ·
  refine awp_seq ?_
  refine sn tt_ok [0, 2, 3, 7] [] (pl 2 d (pe 3 (av_bool (decide_eq_false (p := ((k0 : Nat) : Int) < (d.length : Int)) (by omega))) p0)) ?_
  refine ckF ?_
  refine awp_exit ?_
  exact xw _ (forL_end hk0 (rfl) hI0)
 refine sn tt_ok [2] [] (pl 1 d p0) ?_
 refine awp_ret ?_
 exact pb [] (on_b hD0 (rfl))
def impldirAt_1 (x : DirD) (q0 : ByteArray) : Bool := (x.1.toList == q0.toList)
theorem impldirAt_1_a (x : DirD) (q0 : ByteArray) : ACalls Tryz.prog 128 [.a [.s x.1, .h x.2], .one (.rptr .sh [.s q0])] (.b (impldirAt_1 x q0)) := by
 refine en tt_ok Tryz.func128 fun w0 F0 hG => ?_
 refine sn tt_ok [1, 2, 3] [2] (p0) ?_
 refine tn tt_ok [3] [] (p0) ?_
 refine awp_ret ?_
 exact pb [] (show impldirAt_1 x q0 = (x.1.toList == q0.toList) from rfl)
def slicesIndexFunc_Dir_impldirAt_1_f0 (c0 : ByteArray) (k0 : Nat) (a0 : DirD) (_ : Unit) : Rd (Int) (Unit) (Unit) := (bif (impldirAt_1 a0 c0) then (.ret ((k0 : Nat) : Int)) else (.next ()))
def slicesIndexFunc_Dir_impldirAt_1_e0 (_ : Nat) (_ : Unit) : Unit := ()
def slicesIndexFunc_Dir_impldirAt_1 (s_ : (List DirD)) (c0 : ByteArray) : Int := (Out.on (forL (slicesIndexFunc_Dir_impldirAt_1_f0 c0) slicesIndexFunc_Dir_impldirAt_1_e0 s_ 0 ()) (fun _ => -1))
theorem slicesIndexFunc_Dir_impldirAt_1_a (s_ : (List DirD)) (c0 : ByteArray) : ACalls Tryz.prog 127 [.h s_, .one (.fnr 128 [[.s c0]])] (.i (slicesIndexFunc_Dir_impldirAt_1 s_ c0)) := by
 refine en tt_ok Tryz.func127 fun w0 F0 hG => ?_
 refine sn tt_ok [0, 1, 4] [] (p0) ?_
 refine awp_seq ?_
 refine tn tt_ok [0, 1, 4, 7, 8] [] (pl 1 s_ p0) ?_
 refine mz [(4, .i 0), (7, .i (s_.length : Int)), (8, .i 0)] [] [] [] ?_
 refine wT 0 0 .sh s_ (fun hw1 hl2 => ?_)
 refine blL0 (slicesIndexFunc_Dir_impldirAt_1_f0 c0) slicesIndexFunc_Dir_impldirAt_1_e0 s_ () (fun k0 _ => [(8, .i ((k0 : Nat) : Int))]) [8] (fun _ => []) [0, 1, 7, 8] wf0 (fun k0 s0 hk0 hI0 => ?_) (fun k0 s0 hk0 hI0 => ?_) (fun y0 hD0 => ?_)
 ·
  obtain ⟨a0, hx0⟩ := get_some (l := s_) (i := k0) hk0
  refine sn tt_ok [0, 1, 4, 7, 8, 9] [] (pe 0 (av_bool (decide_eq_true (p := ((k0 : Nat) : Int) < (s_.length : Int)) (by omega))) p0) ?_
  refine awp_seq ?_
  refine ckT ?_
  refine awp_skip ?_
  refine awp_seq ?_
  refine awp_block ?_
  refine tn tt_ok [0, 1, 4, 5, 7, 8] [] (p0) ?_
  refine tu tt_ok [(5, .i ((k0 : Nat) : Int)), (16, .b (impldirAt_1 a0 c0))] [] [] [] (pn 3 hx0 (pc 5 (impldirAt_1_a a0 c0) p0)) ?_
  refine ck (impldirAt_1 a0 c0) (fun h3 => ?_) (fun h3 => ?_)
  ·
   refine sn tt_ok [0, 1, 4, 7, 8] [] (p0) ?_
   refine awp_ret ?_
   have hr4 : (forL (slicesIndexFunc_Dir_impldirAt_1_f0 c0) slicesIndexFunc_Dir_impldirAt_1_e0 s_ 0 ()) = .ret ((k0 : Nat) : Int) := forL_ret hx0 (bif_t h3 (rfl)) hI0
   exact pi [] (on_r hr4)
  refine awp_skip ?_
  refine rn tt_ok [0, 1, 4, 7, 8] [] (pe 0 (av_i (wrap_succ k0 (by omega))) p0) ?_
  exact xw _ (forL_next hx0 (bif_f h3 (rfl)) hI0)
 ·
  refine sn tt_ok [0, 1, 4, 7, 8, 9] [] (pe 0 (av_bool (decide_eq_false (p := ((k0 : Nat) : Int) < (s_.length : Int)) (by omega))) p0) ?_
  refine awp_seq ?_
  refine ckF ?_
  refine awp_exit ?_
  exact xw _ (forL_end hk0 (rfl) hI0)
 refine sn tt_ok [4] [] (p0) ?_
 refine awp_ret ?_
 exact pi [] (on_b hD0 (rfl))
def impldirAt (d : (List DirD)) (name : ByteArray) : Int := (slicesIndexFunc_Dir_impldirAt_1 d name)
theorem impldirAt_a (d : (List DirD)) (name : ByteArray) : ACalls Tryz.prog 114 [.h d, .s name] (.i (impldirAt d name)) := by
 refine en tt_ok Tryz.func114 fun w0 F0 hG => ?_
 refine sn tt_ok [0, 3, 4] [3] (p0) ?_
 refine tn tt_ok [4] [] (pc 2 (slicesIndexFunc_Dir_impldirAt_1_a d name) p0) ?_
 refine awp_ret ?_
 exact pi [] (show impldirAt d name = (slicesIndexFunc_Dir_impldirAt_1 d name) from rfl)
def specl11Place_f0 (name : ByteArray) (k0 : Nat) (a0 : DirD) (_ : Unit) : Rd (Int) (Unit) (Unit) := (bif (a0.1.toList == name.toList) then (.ret ((k0 : Nat) : Int)) else (.next ()))
def specl11Place_e0 (_ : Nat) (_ : Unit) : Unit := ()
def specl11Place (d : (List DirD)) (name : ByteArray) : Int := (Out.on (forL (specl11Place_f0 name) specl11Place_e0 d 0 ()) (fun _ => -1))
theorem specl11Place_a (d : (List DirD)) (name : ByteArray) : ACalls Tryz.prog 105 [.h d, .s name] (.i (specl11Place d name)) := by
 refine en tt_ok Tryz.func105 fun w0 F0 hG => ?_
 refine sn tt_ok [0, 1, 4] [] (p0) ?_
 refine awp_seq ?_
 refine tn tt_ok [0, 1, 4, 5] [] (p0) ?_
 refine mz [(4, .i 0), (5, .i 0)] [] [] [] ?_
 refine wT 0 0 .sh d (fun hw1 hl2 => ?_)
 refine blL0 (specl11Place_f0 name) specl11Place_e0 d () (fun k0 _ => [(5, .i ((k0 : Nat) : Int))]) [5] (fun _ => []) [0, 1, 5] wf0 (fun k0 s0 hk0 hI0 => ?_) (fun k0 s0 hk0 hI0 => ?_) (fun y0 hD0 => ?_)
 ·
  obtain ⟨a0, hx0⟩ := get_some (l := d) (i := k0) hk0
  refine awp_seq ?_
  refine sn tt_ok [0, 1, 4, 5, 9] [] (pl 2 d (pe 3 (av_bool (decide_eq_true (p := ((k0 : Nat) : Int) < (d.length : Int)) (by omega))) p0)) ?_
  refine ckT ?_
  refine awp_skip ?_
  refine awp_seq ?_
  refine awp_block ?_
  refine tn tt_ok [0, 1, 4, 5, 18] [] (pn 2 hx0 p0) ?_
  refine ck (a0.1.toList == name.toList) (fun h3 => ?_) (fun h3 => ?_)
  ·
   refine tu tt_ok [(4, .i ((k0 : Nat) : Int))] [4] [] [] (p0) ?_
   refine awp_ret ?_
   have hr4 : (forL (specl11Place_f0 name) specl11Place_e0 d 0 ()) = .ret ((k0 : Nat) : Int) := forL_ret hx0 (bif_t h3 (rfl)) hI0
   exact pi [] (on_r hr4)
  refine awp_skip ?_
  refine qu tt_ok [(5, .i ((k0 + 1 : Nat) : Int))] [5] [] [] (pe 1 (av_i (wrap_succ k0 (by omega))) p0) ?_
  exact xw _ (forL_next hx0 (bif_f h3 (rfl)) hI0)
 ·
  refine awp_seq ?_
  refine sn tt_ok [0, 1, 4, 5, 9] [] (pl 2 d (pe 3 (av_bool (decide_eq_false (p := ((k0 : Nat) : Int) < (d.length : Int)) (by omega))) p0)) ?_
  refine ckF ?_
  refine awp_exit ?_
  exact xw _ (forL_end hk0 (rfl) hI0)
 refine sn tt_ok [4] [] (p0) ?_
 refine awp_ret ?_
 exact pi [] (on_b hD0 (rfl))
theorem vdirs_eq (d : List DirD) : implIsValidDirs d = specIsValidDirs d := by
  unfold implIsValidDirs specIsValidDirs
  rw [forL_ext (f := implIsValidDirs_f0 d) (g := specIsValidDirs_f0 d) (e := implIsValidDirs_e0) (e' := specIsValidDirs_e0) (fun k a s => by
    unfold implIsValidDirs_f0 specIsValidDirs_f0
    rw [vq_eq, vstr_eq]
    cases specIsValidString a.1 <;> cases specIsValidQuery a.2 <;> cases decide (((k : Nat) : Int) > (0 : Int)) <;> simp) (fun _ _ => rfl)]
theorem place_go (s : ByteArray) : ∀ (l : List DirD) (k : Nat), forL (slicesIndexFunc_Dir_impldirAt_1_f0 s) slicesIndexFunc_Dir_impldirAt_1_e0 l k () = .brk () ∨ ∃ i : Nat, i < l.length ∧ forL (slicesIndexFunc_Dir_impldirAt_1_f0 s) slicesIndexFunc_Dir_impldirAt_1_e0 l k () = .ret (((k + i : Nat)) : Int)
  | [], _ => .inl rfl
  | a :: l, k => by
    simp only [forL, slicesIndexFunc_Dir_impldirAt_1_f0]
    unfold impldirAt_1
    cases (a.1.toList == s.toList) with
    | true => exact .inr ⟨0, by simp, rfl⟩
    | false =>
      simp only [cond_false]
      rcases place_go s l (k + 1) with h | ⟨i, hi, h⟩
      · exact .inl h
      exact .inr ⟨i + 1, by simpa using hi, by rw [h, show k + 1 + i = k + (i + 1) by omega]⟩
theorem place_lt (d : List DirD) (s : ByteArray) : -1 ≤ impldirAt d s ∧ impldirAt d s < (List.length d : Int) := by
  unfold impldirAt slicesIndexFunc_Dir_impldirAt_1
  rcases place_go s d 0 with h | ⟨i, hi, h⟩
  · rw [h]; simp only [Out.on]; omega
  rw [h]; simp only [Out.on]; omega
theorem place_ltS (d : List DirD) (s : ByteArray) : -1 ≤ specl11Place d s ∧ specl11Place d s < (List.length d : Int) := place_lt d s
open GoE (enc wide)
def implstrataAbove_f0 (d : (List DirD)) (strata : (List Int)) (more : Int) (_ : Nat) (a0 : ByteArray) (s0 : Int) : Rd (Int) (Int) (Int) := (bif decide ((impldirAt d a0) ≥ (0 : Int)) then (.next (max s0 (IntKind.i64.wrap ((nth strata (Int.toNat (impldirAt d a0))) + more)))) else (.next s0))
def implstrataAbove_e0 (_ : Nat) (s0 : Int) : Int := s0
def implstrataAbove (d : (List DirD)) (strata : (List Int)) (names : (List ByteArray)) (more : Int) : Int := (Out.on (forL (implstrataAbove_f0 d strata more) implstrataAbove_e0 names 0 0) (fun y0 => y0))
theorem implstrataAbove_a (d : (List DirD)) (strata : (List Int)) (names : (List ByteArray)) (more : Int) (hp : List.length d ≤ List.length strata) : ACalls Tryz.prog 91 [.h d, .h strata, .h names, .i more] (.i (implstrataAbove d strata names more)) := by
 refine en tt_ok Tryz.func91 fun w0 F0 hG => ?_
 refine sn tt_ok [0, 1, 2, 3, 8] [] (p0) ?_
 refine tn tt_ok [0, 1, 2, 3, 8, 9] [] (p0) ?_
 refine awp_seq ?_
 refine tu tt_ok [(8, .i 0), (9, .i 0), (13, .h names), (14, .i (names.length : Int)), (15, .i 0)] [2] [] [] (pl 1 names p0) ?_
 refine wT 13 0 .sh names (fun hw1 hl2 => ?_)
 refine blL0 (implstrataAbove_f0 d strata more) implstrataAbove_e0 names 0 (fun k0 s0 => [(9, .i s0), (15, .i ((k0 : Nat) : Int))]) [9, 15] (fun y0 => [(9, .i y0)]) [0, 1, 3, 9, 13, 14, 15] wf0 (fun k0 s0 hk0 hI0 => ?_) (fun k0 s0 hk0 hI0 => ?_) (fun y0 hD0 => ?_)
 ·
  obtain ⟨a0, hx0⟩ := get_some (l := names) (i := k0) hk0
  refine su tt_ok [(16, .b true)] [] [] [] (pe 0 (av_bool (decide_eq_true (p := ((k0 : Nat) : Int) < (names.length : Int)) (by omega))) p0) ?_
  refine awp_seq ?_
  refine ckT ?_
  refine awp_skip ?_
  refine awp_seq ?_
  refine awp_block ?_
  refine su tt_ok [(11, .s a0)] [16] [] [] (pn 0 hx0 p0) ?_
  refine sn tt_ok [0, 1, 3, 8, 9, 12, 13, 14, 15] [] (pc 2 (impldirAt_a d a0) p0) ?_
  refine tn tt_ok [0, 1, 3, 8, 9, 12, 13, 14, 15, 23] [] (p0) ?_
  refine ck (decide ((impldirAt d a0) ≥ (0 : Int))) (fun h3 => ?_) (fun h3 => ?_)
  ·
   have h3p := place_lt d a0
   have h3d := of_decide_eq_true h3
   refine wT 1 0 .sh strata (fun hw5 hl6 => ?_)
   have hx4 := ng strata (Int.toNat (impldirAt d a0))
   refine qu tt_ok [(9, .i (max s0 (IntKind.i64.wrap ((nth strata (Int.toNat (impldirAt d a0))) + more))))] [9, 11] [] [] (pg 3 (impldirAt d a0) hx4 p0) ?_
   refine rn tt_ok [0, 1, 3, 8, 9, 13, 14, 15] [] (pe 0 (av_i (wrap_succ k0 (by omega))) p0) ?_
   exact xw _ (forL_next hx0 (bif_t h3 (rfl)) hI0)
  have h3d := of_decide_eq_false h3
  refine awp_skip ?_
  refine qu tt_ok [(15, .i ((k0 + 1 : Nat) : Int))] [11, 15] [] [] (pe 0 (av_i (wrap_succ k0 (by omega))) p0) ?_
  exact xw _ (forL_next hx0 (bif_f h3 (rfl)) hI0)
 ·
  refine su tt_ok [(16, .b false)] [] [] [] (pe 0 (av_bool (decide_eq_false (p := ((k0 : Nat) : Int) < (names.length : Int)) (by omega))) p0) ?_
  refine awp_seq ?_
  refine ckF ?_
  refine awp_exit ?_
  exact xw _ (forL_end hk0 (rfl) hI0)
 refine sn tt_ok [8] [] (p0) ?_
 refine awp_ret ?_
 exact pi [] (on_b hD0 (rfl))
def specl13Raise_f1 (d : (List DirD)) (k0 : Nat) (_ : Nat) (a1 : ByteArray) (s1 : (List Int)) : Rd (Rd ((List Int)) ((List Int)) ((List Int))) ((List Int)) ((List Int)) := (bif (decide ((specl11Place d a1) ≥ (0 : Int)) && decide ((nth s1 (Int.toNat (specl11Place d a1))) > (nth s1 k0))) then (.next (List.set s1 k0 (nth s1 (Int.toNat (specl11Place d a1))))) else (.next s1))
def specl13Raise_e1 (_ : Nat) (s1 : (List Int)) : (List Int) := s1
def specl13Raise_f2 (d : (List DirD)) (k0 : Nat) (_ : Nat) (a2 : ByteArray) (s2 : (List Int)) : Rd (Rd ((List Int)) ((List Int)) ((List Int))) ((List Int)) ((List Int)) := (bif (decide ((specl11Place d a2) ≥ (0 : Int)) && decide (IntKind.i64.wrap ((nth s2 (Int.toNat (specl11Place d a2))) + 1) > (nth s2 k0))) then (.next (List.set s2 k0 (IntKind.i64.wrap ((nth s2 (Int.toNat (specl11Place d a2))) + 1)))) else (.next s2))
def specl13Raise_e2 (_ : Nat) (s2 : (List Int)) : (List Int) := s2
def specl13Raise_f0 (d : (List DirD)) (k0 : Nat) (a0 : DirD) (s0 : (List Int)) : Rd ((List Int)) ((List Int)) ((List Int)) := (Out.on (forL (specl13Raise_f1 d k0) specl13Raise_e1 (specPositiveDeps a0.2) 0 s0) (fun y1 => (Out.on (forL (specl13Raise_f2 d k0) specl13Raise_e2 (specNegativeDeps a0.2) 0 y1) (fun y2 => (.next y2)))))
def specl13Raise_e0 (_ : Nat) (s0 : (List Int)) : (List Int) := s0
def specl13Raise (d : (List DirD)) (lev : (List Int)) : (List Int) := (Out.on (forL (specl13Raise_f0 d) specl13Raise_e0 d 0 lev) (fun y0 => y0))
theorem specl13Raise_a (d : (List DirD)) (lev : (List Int)) (hp : List.length d ≤ List.length lev) : ACalls Tryz.prog 80 [.h d, .h lev] (.o 0 (specl13Raise d lev)) := by
 refine en tt_ok Tryz.func80 fun w0 F0 hG => ?_
 refine sn tt_ok [0, 1, 4] [] (p0) ?_
 refine wT 1 0 .sh lev (fun hw1 hl2 => ?_)
 refine tn tt_ok [0, 4, 5] [] (po 2 (.flat) (px (ob_len (n := (([] : List (List PV)).length + ((eL lev) : List (List PV)).length)) (len_of (rfl) (eL_length lev) (by first | omega | (simp only [List.length_cons, List.length_nil]; omega) | (simp; omega) | simp))) (px (ob_flat (flat_eL lev)) p0))) ?_
 refine awp_seq ?_
 refine tu tt_ok [(4, .e 0), (5, .o 960 lev), (6, .i 0)] [1] [] [] (p0) ?_
 refine wT 0 0 .sh d (fun hw3 hl4 => ?_)
 refine blL3 (specl13Raise_f0 d) specl13Raise_e0 d lev (fun k0 s0 => [(5, .o 960 s0), (6, .i ((k0 : Nat) : Int))]) [5, 6] (fun y0 => [(5, .o 960 y0)]) [0, 5, 6] (fun _ s0 => List.length s0 = List.length lev) (fun y0 => List.length y0 = List.length lev) wf0 (by simp) (fun k0 s0 hk0 hI0 => ?_) (fun k0 s0 hk0 hI0 => ?_) (fun y0 hD0 => ?_)
 ·
  have hA0_0 := hI0.2
  obtain ⟨a0, hx0⟩ := get_some (l := d) (i := k0) hk0
  refine awp_seq ?_
  refine sn tt_ok [0, 4, 5, 6, 19] [] (pl 2 d (pe 3 (av_bool (decide_eq_true (p := ((k0 : Nat) : Int) < (d.length : Int)) (by omega))) p0)) ?_
  refine ckT ?_
  refine awp_skip ?_
  refine awp_seq ?_
  refine awp_block ?_
  refine tn tt_ok [0, 4, 5, 6, 7] [] (pn 2 hx0 (pc 5 (specPositiveDeps_a a0.2) p0)) ?_
  refine awp_seq ?_
  refine tu tt_ok [(7, .o 1728 (specPositiveDeps a0.2)), (8, .i 0)] [] [] [] (p0) ?_
  refine wT 7 0 (.own true 1728) (specPositiveDeps a0.2) (fun hw5 hl6 => ?_)
  refine blL3 (specl13Raise_f1 d k0) specl13Raise_e1 (specPositiveDeps a0.2) s0 (fun k1 s1 => [(5, .o 960 s1), (8, .i ((k1 : Nat) : Int))]) [5, 8] (fun y1 => [(5, .o 960 y1)]) [5, 7, 8] (fun _ s1 => List.length s1 = List.length s0) (fun y1 => List.length y1 = List.length s0) wf0 (by simp) (fun k1 s1 hk1 hI1 => ?_) (fun k1 s1 hk1 hI1 => ?_) (fun y1 hD1 => ?_)
  ·
   have hA1_0 := hI1.2
   obtain ⟨a1, hx1⟩ := get_some (l := specPositiveDeps a0.2) (i := k1) hk1
   refine awp_seq ?_
   refine su tt_ok [(31, .b true)] [] [] [] (pl 2 (specPositiveDeps a0.2) (pe 3 (av_bool (decide_eq_true (p := ((k1 : Nat) : Int) < ((specPositiveDeps a0.2).length : Int)) (by omega))) p0)) ?_
   refine ckT ?_
   refine awp_skip ?_
   refine awp_seq ?_
   refine awp_block ?_
   refine sn tt_ok [0, 4, 5, 6, 7, 8, 9] [] (pN 3 hx1 (pc 5 (specl11Place_a d a1) p0)) ?_
   refine awp_seq ?_
   refine mz [(9, .i (specl11Place d a1))] [31] [] [] ?_
   refine jn [(52, .b (decide ((specl11Place d a1) ≥ (0 : Int)) && decide ((nth s1 (Int.toNat (specl11Place d a1))) > (nth s1 k0))))] [] [] [] (decide ((specl11Place d a1) ≥ (0 : Int))) (fun h7 => ?_) (fun h7 => ?_) ?_
   ·
    have h7p := place_ltS d a1
    have h7d := of_decide_eq_true h7
    refine wT 5 0 (.own true 960) s1 (fun hw9 hl10 => ?_)
    have hx8 := ng s1 (Int.toNat (specl11Place d a1))
    have hx11 := ng s1 k0
    refine rN tt_ok tt_mx [0, 4, 5, 6, 7, 8, 9, 52] [] (pt 1 h7 (pG 5 (specl11Place d a1) hx8 (pN 9 hx11 p0))) ?_
    exact ⟨rfl, weak_fit (by rw [h7] <;> kernel_rfl)⟩
   ·
    refine rU tt_ok tt_mx [(52, .b false)] [] [] [] (pf 1 h7 p0) ?_
    exact ⟨rfl, weak_fit (by rw [h7] <;> kernel_rfl)⟩
   refine ck (decide ((specl11Place d a1) ≥ (0 : Int)) && decide ((nth s1 (Int.toNat (specl11Place d a1))) > (nth s1 k0))) (fun h12 => ?_) (fun h12 => ?_)
   ·
    have h12l : (decide ((specl11Place d a1) ≥ (0 : Int))) = true := and_l h12
    have h12lp := place_ltS d a1
    have h12ld := of_decide_eq_true h12l
    have h12r : (decide ((nth s1 (Int.toNat (specl11Place d a1))) > (nth s1 k0))) = true := and_r h12
    have h12rd := of_decide_eq_true h12r
    refine wT 5 0 (.own true 960) s1 (fun hw14 hl15 => ?_)
    have hx13 := ng s1 (Int.toNat (specl11Place d a1))
    have hx16 := ng s1 k0
    refine ru tt_ok [(5, .one (.slc (.own true 960) 1 (setRow (eL s1) k0 0 [.i (nth s1 (Int.toNat (specl11Place d a1)))])))] [5, 9, 52] [] [] (pG 4 (specl11Place d a1) hx13 (pN 6 hx16 p0)) ?_
    refine eqn [(5, .o 960 (List.set s1 k0 (nth s1 (Int.toNat (specl11Place d a1)))))] [5] [] [] (by rw [setRow_eL (y := (nth s1 (Int.toNat (specl11Place d a1)))) hx16 rfl] <;> kernel_rfl) ?_
    refine rn tt_ok [0, 4, 5, 6, 7, 8] [] (pe 1 (av_i (wrap_succ k1 (by omega))) p0) ?_
    exact xw (List.set s1 k0 (nth s1 (Int.toNat (specl11Place d a1)))) ⟨forL_next hx1 (bif_t h12 (rfl)) hI1.1, (by first | omega | (simp only [List.length_set]; omega))⟩
   refine awp_skip ?_
   refine rn tt_ok [0, 4, 5, 6, 7, 8] [] (pe 1 (av_i (wrap_succ k1 (by omega))) p0) ?_
   exact xw s1 ⟨forL_next hx1 (bif_f h12 (rfl)) hI1.1, (by first | omega | (simp only [List.length_set]; omega))⟩
  ·
   have hA1_0 := hI1.2
   refine awp_seq ?_
   refine su tt_ok [(31, .b false)] [] [] [] (pl 2 (specPositiveDeps a0.2) (pe 3 (av_bool (decide_eq_false (p := ((k1 : Nat) : Int) < ((specPositiveDeps a0.2).length : Int)) (by omega))) p0)) ?_
   refine ckF ?_
   refine awp_exit ?_
   exact xw s1 ⟨forL_end hk1 (rfl) hI1.1, by first | omega | (simp only [List.length_set]; omega)⟩
  have hD1_0 := hD1.2
  refine sn tt_ok [0, 4, 5, 6, 10] [] (pn 2 hx0 (pc 5 (specNegativeDeps_a a0.2) p0)) ?_
  refine tn tt_ok [0, 4, 5, 6, 10, 11] [] (p0) ?_
  refine mz [(10, .o 4160 (specNegativeDeps a0.2)), (11, .i 0)] [] [] [] ?_
  refine wT 10 0 (.own true 4160) (specNegativeDeps a0.2) (fun hw17 hl18 => ?_)
  refine blL3 (specl13Raise_f2 d k0) specl13Raise_e2 (specNegativeDeps a0.2) y1 (fun k2 s2 => [(5, .o 960 s2), (11, .i ((k2 : Nat) : Int))]) [5, 11] (fun y2 => [(5, .o 960 y2)]) [5, 10, 11] (fun _ s2 => List.length s2 = List.length y1) (fun y2 => List.length y2 = List.length y1) wf0 (by simp) (fun k2 s2 hk2 hI2 => ?_) (fun k2 s2 hk2 hI2 => ?_) (fun y2 hD2 => ?_)
  ·
   have hA2_0 := hI2.2
   obtain ⟨a2, hx2⟩ := get_some (l := specNegativeDeps a0.2) (i := k2) hk2
   refine awp_seq ?_
   refine su tt_ok [(69, .b true)] [] [] [] (pl 2 (specNegativeDeps a0.2) (pe 3 (av_bool (decide_eq_true (p := ((k2 : Nat) : Int) < ((specNegativeDeps a0.2).length : Int)) (by omega))) p0)) ?_
   refine ckT ?_
   refine awp_skip ?_
   refine awp_seq ?_
   refine awp_block ?_
   refine sn tt_ok [0, 4, 5, 6, 10, 11, 12] [] (pN 3 hx2 (pc 5 (specl11Place_a d a2) p0)) ?_
   refine awp_seq ?_
   refine mz [(12, .i (specl11Place d a2))] [69] [] [] ?_
   refine jn [(91, .b (decide ((specl11Place d a2) ≥ (0 : Int)) && decide (IntKind.i64.wrap ((nth s2 (Int.toNat (specl11Place d a2))) + 1) > (nth s2 k0))))] [] [] [] (decide ((specl11Place d a2) ≥ (0 : Int))) (fun h19 => ?_) (fun h19 => ?_) ?_
   ·
    have h19p := place_ltS d a2
    have h19d := of_decide_eq_true h19
    refine wT 5 0 (.own true 960) s2 (fun hw21 hl22 => ?_)
    have hx20 := ng s2 (Int.toNat (specl11Place d a2))
    have hx23 := ng s2 k0
    refine rN tt_ok tt_mx [0, 4, 5, 6, 10, 11, 12, 91] [] (pt 1 h19 (pG 5 (specl11Place d a2) hx20 (pN 10 hx23 p0))) ?_
    exact ⟨rfl, weak_fit (by rw [h19] <;> kernel_rfl)⟩
   ·
    refine rU tt_ok tt_mx [(91, .b false)] [] [] [] (pf 1 h19 p0) ?_
    exact ⟨rfl, weak_fit (by rw [h19] <;> kernel_rfl)⟩
   refine ck (decide ((specl11Place d a2) ≥ (0 : Int)) && decide (IntKind.i64.wrap ((nth s2 (Int.toNat (specl11Place d a2))) + 1) > (nth s2 k0))) (fun h24 => ?_) (fun h24 => ?_)
   ·
    have h24l : (decide ((specl11Place d a2) ≥ (0 : Int))) = true := and_l h24
    have h24lp := place_ltS d a2
    have h24ld := of_decide_eq_true h24l
    have h24r : (decide (IntKind.i64.wrap ((nth s2 (Int.toNat (specl11Place d a2))) + 1) > (nth s2 k0))) = true := and_r h24
    have h24rd := of_decide_eq_true h24r
    refine wT 5 0 (.own true 960) s2 (fun hw26 hl27 => ?_)
    have hx25 := ng s2 (Int.toNat (specl11Place d a2))
    have hx28 := ng s2 k0
    refine ru tt_ok [(5, .one (.slc (.own true 960) 1 (setRow (eL s2) k0 0 [.i (IntKind.i64.wrap ((nth s2 (Int.toNat (specl11Place d a2))) + 1))])))] [5, 12, 91] [] [] (pG 4 (specl11Place d a2) hx25 (pN 7 hx28 p0)) ?_
    refine eqn [(5, .o 960 (List.set s2 k0 (IntKind.i64.wrap ((nth s2 (Int.toNat (specl11Place d a2))) + 1))))] [5] [] [] (by rw [setRow_eL (y := IntKind.i64.wrap ((nth s2 (Int.toNat (specl11Place d a2))) + 1)) hx28 rfl] <;> kernel_rfl) ?_
    refine rn tt_ok [0, 4, 5, 6, 10, 11] [] (pe 1 (av_i (wrap_succ k2 (by omega))) p0) ?_
    exact xw (List.set s2 k0 (IntKind.i64.wrap ((nth s2 (Int.toNat (specl11Place d a2))) + 1))) ⟨forL_next hx2 (bif_t h24 (rfl)) hI2.1, (by first | omega | (simp only [List.length_set]; omega))⟩
   refine awp_skip ?_
   refine rn tt_ok [0, 4, 5, 6, 10, 11] [] (pe 1 (av_i (wrap_succ k2 (by omega))) p0) ?_
   exact xw s2 ⟨forL_next hx2 (bif_f h24 (rfl)) hI2.1, (by first | omega | (simp only [List.length_set]; omega))⟩
  ·
   have hA2_0 := hI2.2
   refine awp_seq ?_
   refine su tt_ok [(69, .b false)] [] [] [] (pl 2 (specNegativeDeps a0.2) (pe 3 (av_bool (decide_eq_false (p := ((k2 : Nat) : Int) < ((specNegativeDeps a0.2).length : Int)) (by omega))) p0)) ?_
   refine ckF ?_
   refine awp_exit ?_
   exact xw s2 ⟨forL_end hk2 (rfl) hI2.1, by first | omega | (simp only [List.length_set]; omega)⟩
  have hD2_0 := hD2.2
  refine rn tt_ok [0, 4, 5, 6] [] (pe 1 (av_i (wrap_succ k0 (by omega))) p0) ?_
  exact xw y2 ⟨forL_next hx0 (on_b hD1.1 (on_b hD2.1 (rfl))) hI0.1, (by first | omega | (simp only [List.length_set]; omega))⟩
 ·
  have hA0_0 := hI0.2
  refine awp_seq ?_
  refine sn tt_ok [0, 4, 5, 6, 19] [] (pl 2 d (pe 3 (av_bool (decide_eq_false (p := ((k0 : Nat) : Int) < (d.length : Int)) (by omega))) p0)) ?_
  refine ckF ?_
  refine awp_exit ?_
  exact xw s0 ⟨forL_end hk0 (rfl) hI0.1, by first | omega | (simp only [List.length_set]; omega)⟩
 have hD0_0 := hD0.2
 refine sn tt_ok [4] [] (p0) ?_
 refine awp_ret ?_
 exact po0 [] (on_b hD0.1 (rfl))
theorem forL_inv {α R S T : Type} {f : Nat → α → S → Rd R S T} {e : Nat → S → T} (I : S → Prop) (h : ∀ k a s, I s → ∃ s', f k a s = .next s' ∧ I s') : ∀ (l : List α) (k : Nat) (s : S), I s → ∃ s', forL f e l k s = .brk (e (k + l.length) s') ∧ I s'
  | [], k, s, hs => ⟨s, by simp [forL], hs⟩
  | a :: l, k, s, hs => by
    obtain ⟨s1, h1, h2⟩ := h k a s hs
    obtain ⟨s2, h3, h4⟩ := forL_inv I h l (k + 1) s1 h2
    refine ⟨s2, ?_, h4⟩
    simp only [forL, h1]
    rw [h3, List.length_cons, show k + 1 + l.length = k + (l.length + 1) by omega]
theorem l13_f1 (d : List DirD) (k0 n : Nat) (k : Nat) (a : ByteArray) (s : List Int) (hs : s.length = n) : ∃ s', specl13Raise_f1 d k0 k a s = .next s' ∧ s'.length = n := by
  unfold specl13Raise_f1
  generalize (decide ((specl11Place d a) ≥ (0 : Int)) && decide ((nth s (Int.toNat (specl11Place d a))) > (nth s k0))) = c
  cases c <;> exact ⟨_, rfl, by simpa using hs⟩
theorem l13_f2 (d : List DirD) (k0 n : Nat) (k : Nat) (a : ByteArray) (s : List Int) (hs : s.length = n) : ∃ s', specl13Raise_f2 d k0 k a s = .next s' ∧ s'.length = n := by
  unfold specl13Raise_f2
  generalize (decide ((specl11Place d a) ≥ (0 : Int)) && decide (IntKind.i64.wrap ((nth s (Int.toNat (specl11Place d a))) + 1) > (nth s k0))) = c
  cases c <;> exact ⟨_, rfl, by simpa using hs⟩
theorem l13_f0 (d : List DirD) (n : Nat) (k : Nat) (a : DirD) (s : List Int) (hs : s.length = n) : ∃ s', specl13Raise_f0 d k a s = .next s' ∧ s'.length = n := by
  unfold specl13Raise_f0
  obtain ⟨s1, h1, h2⟩ := forL_inv (e := specl13Raise_e1) (fun s : List Int => s.length = n) (l13_f1 d k n) (specPositiveDeps a.2) 0 s hs
  obtain ⟨s2, h3, h4⟩ := forL_inv (e := specl13Raise_e2) (fun s : List Int => s.length = n) (l13_f2 d k n) (specNegativeDeps a.2) 0 s1 h2
  refine ⟨s2, ?_, h4⟩
  rw [h1]
  simp only [Out.on, specl13Raise_e1]
  rw [h3]
  rfl
theorem l13Raise_len (d : List DirD) (lev : List Int) : List.length (specl13Raise d lev) = List.length lev := by
  unfold specl13Raise
  obtain ⟨s1, h1, h2⟩ := forL_inv (e := specl13Raise_e0) (fun s : List Int => s.length = lev.length) (l13_f0 d lev.length) d 0 lev rfl
  rw [h1]
  exact h2
theorem vdirs_len {d : List DirD} (h : implIsValidDirs d = true) : List.length d ≤ 5 := by
  unfold implIsValidDirs at h
  cases hf : forL (implIsValidDirs_f0 d) implIsValidDirs_e0 d 0 () with
  | brk t => rw [hf] at h; simp only [Out.on, decide_eq_true_eq] at h; omega
  | ret r =>
    rw [hf] at h
    obtain rfl : r = true := h
    exfalso
    have key : ∀ (l : List DirD) k, forL (implIsValidDirs_f0 d) implIsValidDirs_e0 l k () ≠ .ret true := by
      intro l
      induction l with
      | nil => intro k h; simp [forL] at h
      | cons a l ih =>
        intro k h
        simp only [forL] at h
        unfold implIsValidDirs_f0 at h
        split at h
        · rename_i hf; exact ih _ h
        · cases h
        rename_i r hf; cases h; revert hf; generalize (_ || _ : Bool) = c; cases c <;> simp
    exact key _ _ hf
theorem dirs5 {d : List DirD} (h : specIsValidDirs d = true) : IntKind.i64.wrap (IntKind.i64.wrap ((d.length : Int) * (d.length : Int)) + 1) = ((List.length d * List.length d + 1 : Nat) : Int) ∧ ((List.length d * List.length d + 1 : Nat) : Int) ≤ 26 := by
  have h5 := vdirs_len ((vdirs_eq d).trans h)
  generalize List.length d = n at h5 ⊢
  have : n = 0 ∨ n = 1 ∨ n = 2 ∨ n = 3 ∨ n = 4 ∨ n = 5 := by omega
  rcases this with rfl | rfl | rfl | rfl | rfl | rfl <;> decide
def edgesOfN (d : List DirD) (w : Int) : List ByteArray → Edges
  | [] => []
  | s :: r => if 0 ≤ impldirAt d s then (Int.toNat (impldirAt d s), w) :: edgesOfN d w r else edgesOfN d w r
theorem edgesOfN_ok (d : List DirD) (w : Int) : ∀ (l : List ByteArray) (e : Nat × Int), e ∈ edgesOfN d w l → e.2 = w ∧ e.1 < d.length
  | [], e, h => by simp [edgesOfN] at h
  | s :: r, e, h => by
    simp only [edgesOfN] at h
    split at h
    · rename_i h0
      rcases List.mem_cons.1 h with rfl | h
      · have := (place_lt d s).2
        exact ⟨rfl, by show Int.toNat _ < _; omega⟩
      exact edgesOfN_ok d w r e h
    exact edgesOfN_ok d w r e h
def edgesD (d : List DirD) (i : Nat) : Edges := if i < d.length then edgesOfN d 0 (implPositiveDeps (nth d i).2) ++ edgesOfN d 1 (implNegativeDeps (nth d i).2) else []
theorem edgesD_ok (d : List DirD) (i : Nat) (e : Nat × Int) (h : e ∈ edgesD d i) : e.2 ≤ 1 ∧ e.1 < d.length ∧ i < d.length := by
  unfold edgesD at h
  split at h
  · rename_i hi
    rcases List.mem_append.1 h with h | h <;> (have := edgesOfN_ok d _ _ e h; omega)
  simp at h
theorem need_app (E1 E2 : Edges) (L : List Int) : need (E1 ++ E2) L = max (need E1 L) (need E2 L) := by
  have h1 : need (E1 ++ E2) L ≤ max (need E1 L) (need E2 L) := need_le.2 ⟨by have := need_nonneg E1 L; omega, fun e he => by
    rcases List.mem_append.1 he with he | he
    · have := (need_le.1 (Int.le_refl (need E1 L))).2 e he; omega
    have := (need_le.1 (Int.le_refl (need E2 L))).2 e he; omega⟩
  have h2 := need_le.1 (Int.le_refl (need (E1 ++ E2) L))
  have h3 : need E1 L ≤ need (E1 ++ E2) L := need_le.2 ⟨h2.1, fun e he => h2.2 e (List.mem_append_left _ he)⟩
  have h4 : need E2 L ≤ need (E1 ++ E2) L := need_le.2 ⟨h2.1, fun e he => h2.2 e (List.mem_append_right _ he)⟩
  omega
theorem above_loop (d : List DirD) (L : List Int) (w : Int) (hw : 0 ≤ w ∧ w ≤ 1) (hL : ∀ j, 0 ≤ nth L j ∧ nth L j ≤ 1000000) : ∀ (l : List ByteArray) (k : Nat) (m : Int), forL (implstrataAbove_f0 d L w) implstrataAbove_e0 l k m = .brk ((edgesOfN d w l).foldl (fun m e => max m (nth L e.1 + e.2)) m)
  | [], k, m => rfl
  | s :: r, k, m => by
    simp only [forL, implstrataAbove_f0, edgesOfN]
    have hwr : ∀ j, IntKind.i64.wrap (nth L j + w) = nth L j + w := fun j => IntWalk.i64_in _ (by have := hL j; omega)
    by_cases h : 0 ≤ impldirAt d s
    · have h' : decide (impldirAt d s ≥ (0 : Int)) = true := decide_eq_true h
      rw [h', cond_true, if_pos h, hwr]
      exact above_loop d L w hw hL r (k + 1) _
    have h' : decide (impldirAt d s ≥ (0 : Int)) = false := decide_eq_false h
    rw [h', cond_false, if_neg h]
    exact above_loop d L w hw hL r (k + 1) _
theorem above_eq {d : List DirD} {L : List Int} {w : Int} (hw : 0 ≤ w ∧ w ≤ 1) (hL : ∀ j, 0 ≤ nth L j ∧ nth L j ≤ 1000000) (l : List ByteArray) : implstrataAbove d L l w = need (edgesOfN d w l) L := by
  unfold implstrataAbove
  rw [above_loop d L w hw hL]
  rfl
theorem least_eq {d : List DirD} {L : List Int} (hL : ∀ j, 0 ≤ nth L j ∧ nth L j ≤ 1000000) {i : Nat} (hi : i < d.length) : max (implstrataAbove d L (implPositiveDeps (nth d i).2) 0) (implstrataAbove d L (implNegativeDeps (nth d i).2) 1) = need (edgesD d i) L := by
  rw [above_eq (by omega) hL, above_eq (by omega) hL]
  unfold edgesD
  rw [if_pos hi, need_app]
abbrev leastD (d : List DirD) (a : DirD) (L : List Int) : Int := max (implstrataAbove d L (implPositiveDeps a.2) 0) (implstrataAbove d L (implNegativeDeps a.2) 1)
abbrev StepD := Nat → DirD → List Int × Bool → Rd (Rd (List Int × Bool) (List Int × Bool) (List Int)) (List Int × Bool) (List Int × Bool)
def StepOk (d : List DirD) (f : StepD) : Prop := ∀ k a s, f k a s = bif decide (leastD d a s.1 > (d.length : Int)) then .ret (.ret ([], false)) else (bif decide (leastD d a s.1 > nth s.1 k) then .next (List.set s.1 k (leastD d a s.1), true) else .next (s.1, s.2))
theorem climb_round {d : List DirD} {f : StepD} {e : Nat → List Int × Bool → List Int × Bool} (hf : StepOk d f) (he : ∀ k s, e k s = s) (hd : d.length ≤ 1000000) :
    ∀ (l : List DirD) (k : Nat) (L : List Int) (c : Bool), d.drop k = l → L.length = d.length → (∀ j, 0 ≤ nth L j ∧ nth L j ≤ (d.length : Int)) →
      forL f e l k (L, c) = (match crounds (edgesD d) d.length (List.range' k l.length) (c, L) with
        | none => .ret (.ret ([], false))
        | some s => .brk (s.2, s.1))
  | [], k, L, c, _, _, _ => by simp [forL, crounds, he]
  | a :: l, k, L, c, hl, hlen, hL => by
    have hk : d[k]? = some a := by
      have := congrArg (·[0]?) hl
      simpa using this
    have hkl : k < d.length := (List.getElem?_eq_some_iff.1 hk).1
    have ha : nth d k = a := nth_of hk
    have hrest : d.drop (k + 1) = l := by rw [← List.drop_drop, hl]; rfl
    have hb : ∀ j, 0 ≤ nth L j ∧ nth L j ≤ 1000000 := fun j => by have := hL j; omega
    have hM : leastD d a L = need (edgesD d k) L := by rw [← ha]; exact least_eq hb hkl
    simp only [forL, hf k a (L, c), List.length_cons, List.range'_succ, crounds, hM]
    by_cases h1 : (d.length : Int) < need (edgesD d k) L
    · rw [decide_eq_true (show need (edgesD d k) L > (d.length : Int) from h1), cond_true, if_pos h1]
    rw [decide_eq_false (show ¬ need (edgesD d k) L > (d.length : Int) from h1), cond_false, if_neg h1]
    by_cases h2 : nth L k < need (edgesD d k) L
    · rw [decide_eq_true (show need (edgesD d k) L > nth L k from h2), cond_true, if_pos h2]
      refine climb_round hf he hd l (k + 1) _ true hrest (by rw [List.length_set]; exact hlen) fun j => ?_
      have h0 := need_nonneg (edgesD d k) L
      rw [nth_set _ _ (by omega)]
      split
      · omega
      exact hL j
    rw [decide_eq_false (show ¬ need (edgesD d k) L > nth L k from h2), cond_false, if_neg h2]
    exact climb_round hf he hd l (k + 1) L c hrest hlen hL
def endD : Option (List Int) → Out (List Int × Bool) (List Int)
  | none => .ret ([], false)
  | some L => .brk L
def LoopOk (d : List DirD) (f : StepD) (e : Nat → List Int × Bool → List Int × Bool) (F : List Int × Bool → Rd (List Int × Bool) (List Int × Bool) (List Int)) : Prop := ∀ s, F s = bif s.2 then (Out.on (forL f e d 0 (s.1, false)) fun y1 => .next (y1.1, y1.2)) else .brk s.1
theorem whl_climb {d : List DirD} {f : StepD} {e : Nat → List Int × Bool → List Int × Bool} {F : List Int × Bool → Rd (List Int × Bool) (List Int × Bool) (List Int)} (hf : StepOk d f) (he : ∀ k s, e k s = s) (hF : LoopOk d f e F) (hd : d.length ≤ 1000000) :
    ∀ (n : Nat) (L : List Int) (c : Bool), L.length = d.length → (∀ j, 0 ≤ nth L j ∧ nth L j ≤ (d.length : Int)) → whl F n (L, c) = (climb (edgesD d) d.length d.length n (c, L)).map endD
  | 0, L, c, _, _ => rfl
  | n + 1, L, false, _, _ => by
    simp only [whl, hF (L, false), cond_false, climb]
    rfl
  | n + 1, L, true, hlen, hL => by
    have hr := climb_round hf he hd d 0 L false rfl hlen hL
    have e1 : List.range' 0 d.length = List.range d.length := (List.range_eq_range' ..).symm
    rw [e1] at hr
    simp only [whl, hF (L, true), cond_true, hr, climb]
    cases hc : crounds (edgesD d) d.length (List.range d.length) (false, L) with
    | none => rfl
    | some s =>
      obtain ⟨h1, _, _, h4⟩ := crounds_some (List.range d.length) false L s (fun i hi => by rw [hlen]; exact range_lt hi) hc
      have := whl_climb hf he hF hd n s.2 s.1 (by rw [h1, rounds_len, hlen]) fun j => ⟨by rw [h1]; exact Int.le_trans (hL j).1 (rounds_ge (edgesD d) j _ L), h4 (fun j => (hL j).2) j⟩
      exact this
theorem zeroL_ok (n : Nat) : (List.replicate n (0 : Int)).length = n ∧ ∀ j, 0 ≤ nth (List.replicate n (0 : Int)) j ∧ nth (List.replicate n (0 : Int)) j ≤ (n : Int) :=
  ⟨by simp, fun j => by rw [nth_zero]; omega⟩
theorem strata_some {d : List DirD} {f : StepD} {e : Nat → List Int × Bool → List Int × Bool} {F : List Int × Bool → Rd (List Int × Bool) (List Int × Bool) (List Int)} (hf : StepOk d f) (he : ∀ k s, e k s = s) (hF : LoopOk d f e F) (hd : d.length ≤ 1000000) :
    (whl F (List.length d * List.length d + 3) (List.replicate (Int.toNat (d.length : Int)) (0 : Int), true)).isSome = true := by
  rw [Int.toNat_natCast, whl_climb hf he hF hd _ _ _ (zeroL_ok _).1 (zeroL_ok _).2, Option.isSome_map]
  refine climb_some _ _ _ (zeroL_ok _).1 (fun j => ((zeroL_ok _).2 j).2) ?_
  have : ((List.length d * List.length d + 3 : Nat) : Int) = (d.length : Int) * (d.length : Int) + 3 := by rw [Int.natCast_add, Int.natCast_mul]; rfl
  have h0 : (List.replicate d.length (0 : Int)).sum = 0 := by simp
  rw [this, h0]
  omega
open GoE (enc wide)
def specl07Ints_f0 (b : (List Int)) (k0 : Nat) (a0 : Int) (_ : Unit) : Rd (Bool) (Unit) (Unit) := (bif (a0 != (nth b k0)) then (.ret false) else (.next ()))
def specl07Ints_e0 (_ : Nat) (_ : Unit) : Unit := ()
def specl07Ints (a_ : (List Int)) (b : (List Int)) : Bool := (bif ((a_.length : Int) != (b.length : Int)) then false else (Out.on (forL (specl07Ints_f0 b) specl07Ints_e0 a_ 0 ()) (fun _ => true)))
theorem specl07Ints_a (a_ : (List Int)) (b : (List Int)) : ACalls Tryz.prog 81 [.h a_, .h b] (.b (specl07Ints a_ b)) := by
 refine en tt_ok Tryz.func81 fun w0 F0 hG => ?_
 refine sn tt_ok [0, 1, 4] [] (p0) ?_
 refine awp_seq ?_
 refine tn tt_ok [0, 1, 4, 10] [] (pl 1 a_ (pl 3 b p0)) ?_
 refine ck ((a_.length : Int) != (b.length : Int)) (fun h1 => ?_) (fun h1 => ?_)
 ·
  refine tu tt_ok [(4, .b false)] [] [] [] (p0) ?_
  refine awp_ret ?_
  exact pb [] (bif_t h1 (rfl))
 have h1d := eq_of_bne h1
 refine awp_skip ?_
 refine awp_seq ?_
 refine tu tt_ok [(4, .b false), (5, .i 0)] [] [] [] (p0) ?_
 refine wT 0 0 .sh a_ (fun hw2 hl3 => ?_)
 refine blL0 (specl07Ints_f0 b) specl07Ints_e0 a_ () (fun k0 _ => [(5, .i ((k0 : Nat) : Int))]) [5] (fun _ => []) [0, 1, 5] wf0 (fun k0 s0 hk0 hI0 => ?_) (fun k0 s0 hk0 hI0 => ?_) (fun y0 hD0 => ?_)
 ·
  obtain ⟨a0, hx0⟩ := get_some (l := a_) (i := k0) hk0
  refine awp_seq ?_
  refine sn tt_ok [0, 1, 4, 5, 14] [] (pl 2 a_ (pe 3 (av_bool (decide_eq_true (p := ((k0 : Nat) : Int) < (a_.length : Int)) (by omega))) p0)) ?_
  refine ckT ?_
  refine awp_skip ?_
  refine awp_seq ?_
  refine awp_block ?_
  refine wT 1 0 .sh b (fun hw5 hl6 => ?_)
  have hx4 := ng b k0
  refine tN tt_ok tt_mx [0, 1, 4, 5, 25] [] (pn 2 hx0 (pn 6 hx4 p0)) ?_
  refine ck (a0 != (nth b k0)) (fun h7 => ?_) (fun h7 => ?_)
  ·
   refine tu tt_ok [] [] [] [] (p0) ?_
   refine awp_ret ?_
   have hr8 : (forL (specl07Ints_f0 b) specl07Ints_e0 a_ 0 ()) = .ret false := forL_ret hx0 (bif_t h7 (rfl)) hI0
   exact pb [] (bif_f h1 (on_r hr8))
  have h7d := eq_of_bne h7
  refine awp_skip ?_
  refine qu tt_ok [(5, .i ((k0 + 1 : Nat) : Int))] [5] [] [] (pe 1 (av_i (wrap_succ k0 (by omega))) p0) ?_
  exact xw _ (forL_next hx0 (bif_f h7 (rfl)) hI0)
 ·
  refine awp_seq ?_
  refine sn tt_ok [0, 1, 4, 5, 14] [] (pl 2 a_ (pe 3 (av_bool (decide_eq_false (p := ((k0 : Nat) : Int) < (a_.length : Int)) (by omega))) p0)) ?_
  refine ckF ?_
  refine awp_exit ?_
  exact xw _ (forL_end hk0 (rfl) hI0)
 refine sn tt_ok [4] [] (p0) ?_
 refine awp_ret ?_
 exact pb [] (bif_f h1 (on_b hD0 (rfl)))
def specStrata_f0 (d : (List DirD)) (_ : Nat) (s0 : (List Int)) : Rd ((List Int) × Bool) ((List Int)) ((List Int)) := (.next (specl13Raise d s0))
def specStrata_e0 (_ : Nat) (s0 : (List Int)) : (List Int) := s0
def specStrata (d : (List DirD)) : (List Int) × Bool := (bif (!(specIsValidDirs d)) then ([], false) else (Out.on (forN (specStrata_f0 d) specStrata_e0 (Int.toNat (IntKind.i64.wrap (IntKind.i64.wrap ((d.length : Int) * (d.length : Int)) + 1) + 1)) 0 (List.replicate (Int.toNat (d.length : Int)) (0 : Int))) (fun y0 => (bif (!(specl07Ints (specl13Raise d y0) y0)) then ([], false) else (y0, true)))))
theorem specStrata_a (d : (List DirD)) : ACalls Tryz.prog 60 [.h d] (.tup [(false, [.o 0 (((specStrata d)).1)]), (false, [.b (((specStrata d)).2)])]) := by
 refine en tt_ok Tryz.func60 fun w0 F0 hG => ?_
 refine sn tt_ok [0, 2, 3] [] (p0) ?_
 refine awp_seq ?_
 refine tn tt_ok [0, 2, 3, 8] [] (pc 1 (specIsValidDirs_a d) p0) ?_
 refine ck (!(specIsValidDirs d)) (fun h1 => ?_) (fun h1 => ?_)
 ·
  refine tu tt_ok [(2, .one (.slc (.own true 576) 1 [])), (3, .b false)] [] [] [] (p0) ?_
  refine awp_ret ?_
  exact pz [] (show specStrata d = _ from bif_t h1 (rfl)) (fun z => .tup [(false, [.o 0 z.1]), (false, [.b z.2])])
 have h1n : (specIsValidDirs d) = true := bnot_f h1
 have h1nv := dirs5 h1n
 refine awp_skip ?_
 refine wT 0 0 .sh d (fun hw2 hl3 => ?_)
 refine tu tt_ok [(2, .e 0), (3, .b false), (4, .one (.slc (.own true 768) 1 (List.replicate (Int.toNat (d.length : Int)) [.i 0])))] [] [] [] (pl 1 d (px (ob_rng (lo := 0) (hi := (d.length : Int)) (n := 1073741824) (⟨by omega, by omega, by omega⟩)) p0)) ?_
 refine eqn [(4, .o 768 (List.replicate (Int.toNat (d.length : Int)) (0 : Int)))] [4] [] [] (by rw [show (List.replicate (Int.toNat (d.length : Int)) [.i 0]) = (eL (List.replicate (Int.toNat (d.length : Int)) (0 : Int))) from mk_eL _ (0 : Int)]; first | done | kernel_rfl) ?_
 refine awp_seq ?_
 refine sn tt_ok [0, 2, 3, 4, 5] [] (p0) ?_
 refine mz [(5, .i 0)] [] [] [] ?_
 refine blN3 (specStrata_f0 d) specStrata_e0 (Int.toNat (IntKind.i64.wrap (IntKind.i64.wrap ((d.length : Int) * (d.length : Int)) + 1) + 1)) (List.replicate (Int.toNat (d.length : Int)) (0 : Int)) (fun k0 s0 => [(4, .o 147203 s0), (5, .i ((k0 : Nat) : Int))]) [4, 5] (fun y0 => [(4, .o 147353 y0)]) [4, 5] (fun _ s0 => List.length s0 = List.length d) (fun y0 => List.length y0 = List.length d) (weak_sf [(768, 147203)] (by kernel_rfl)) (by simp) (fun k0 s0 hk0 hI0 => ?_) (fun k0 s0 hk0 hI0 => ?_) (fun y0 hD0 => ?_)
 ·
  have hA0_0 := hI0.2
  refine awp_seq ?_
  refine sn tt_ok [0, 2, 3, 4, 5, 20] [] (pl 2 d (pl 4 d (pe 7 (av_bool (decide_eq_true (p := ((k0 : Nat) : Int) ≤ IntKind.i64.wrap (IntKind.i64.wrap ((d.length : Int) * (d.length : Int)) + 1)) (by omega))) p0))) ?_
  refine ckT ?_
  refine awp_skip ?_
  refine awp_seq ?_
  refine awp_block ?_
  refine qn tt_ok [0, 2, 3, 4, 5] [] (pc 2 (specl13Raise_a d s0 (by omega)) p0) ?_
  refine qu tt_ok [(4, .o 1600 (specl13Raise d s0)), (5, .i ((k0 + 1 : Nat) : Int))] [4, 5] [] [] (pe 1 (av_i (wrap_succ k0 (by omega))) p0) ?_
  exact Exists.intro (specl13Raise d s0) (And.intro (weak_sf [(1600, 147203)] (by kernel_rfl)) ⟨forN_next hk0 (rfl) hI0.1, (by have hz := l13Raise_len d s0; omega)⟩)
 ·
  have hA0_0 := hI0.2
  refine awp_seq ?_
  refine sn tt_ok [0, 2, 3, 4, 5, 20] [] (pl 2 d (pl 4 d (pe 7 (av_bool (decide_eq_false (p := ((k0 : Nat) : Int) ≤ IntKind.i64.wrap (IntKind.i64.wrap ((d.length : Int) * (d.length : Int)) + 1)) (by omega))) p0))) ?_
  refine ckF ?_
  refine awp_exit ?_
  exact Exists.intro s0 (And.intro (weak_sf [(147203, 147353)] (by kernel_rfl)) ⟨forN_end hk0 (rfl) hI0.1, by first | omega | (simp only [List.length_set]; omega)⟩)
 have hD0_0 := hD0.2
 refine awp_seq ?_
 refine sn tt_ok [2, 3, 4, 31] [] (pc 2 (specl13Raise_a d y0 (by omega)) (pc 4 (specl07Ints_a (specl13Raise d y0) y0) p0)) ?_
 refine ck (!(specl07Ints (specl13Raise d y0) y0)) (fun h4 => ?_) (fun h4 => ?_)
 ·
  refine tn tt_ok [2, 3, 4] [] (p0) ?_
  refine awp_ret ?_
  exact pz [] (show specStrata d = _ from bif_f h1 (on_b hD0.1 (bif_t h4 (rfl)))) (fun z => .tup [(false, [.o 0 z.1]), (false, [.b z.2])])
 refine awp_skip ?_
 refine tn tt_ok [2, 3] [] (p0) ?_
 refine awp_ret ?_
 exact pz [] (show specStrata d = _ from bif_f h1 (on_b hD0.1 (bif_f h4 (rfl)))) (fun z => .tup [(false, [.o 0 z.1]), (false, [.b z.2])])
def implStrata_f1 (d : (List DirD)) (k1 : Nat) (a1 : DirD) (s1 : (List Int) × Bool) : Rd (Rd ((List Int) × Bool) ((List Int) × Bool) ((List Int))) ((List Int) × Bool) ((List Int) × Bool) := (bif decide ((max (implstrataAbove d s1.1 (implPositiveDeps a1.2) 0) (implstrataAbove d s1.1 (implNegativeDeps a1.2) 1)) > (d.length : Int)) then (.ret (.ret ([], false))) else (bif decide ((max (implstrataAbove d s1.1 (implPositiveDeps a1.2) 0) (implstrataAbove d s1.1 (implNegativeDeps a1.2) 1)) > (nth s1.1 k1)) then (.next (List.set s1.1 k1 (max (implstrataAbove d s1.1 (implPositiveDeps a1.2) 0) (implstrataAbove d s1.1 (implNegativeDeps a1.2) 1)), true)) else (.next (s1.1, s1.2))))
def implStrata_e1 (_ : Nat) (s1 : (List Int) × Bool) : (List Int) × Bool := (s1.1, s1.2)
def implStrata_f0 (d : (List DirD)) (s0 : (List Int) × Bool) : Rd ((List Int) × Bool) ((List Int) × Bool) ((List Int)) := (bif s0.2 then (Out.on (forL (implStrata_f1 d) implStrata_e1 d 0 (s0.1, false)) (fun y1 => (.next (y1.1, y1.2)))) else (.brk s0.1))
def implStrata (d : (List DirD)) : (List Int) × Bool := (bif (!(implIsValidDirs d)) then ([], false) else (Out.on (whlD (implStrata_f0 d) (List.length d * List.length d + 3) ((List.replicate (Int.toNat (d.length : Int)) (0 : Int)), true)) (fun y0 => (y0, true))))
theorem implStrata_w (d : List DirD) (hd : d.length ≤ 5) : (whl (implStrata_f0 d) (List.length d * List.length d + 3) (List.replicate (Int.toNat (d.length : Int)) (0 : Int), true)).isSome = true := strata_some (f := implStrata_f1 d) (e := implStrata_e1) (fun _ _ _ => rfl) (fun _ _ => rfl) (fun _ => rfl) (by omega)
theorem implStrata_a (d : (List DirD)) : ACalls Tryz.prog 70 [.h d] (.tup [(false, [.o 0 (((implStrata d)).1)]), (false, [.b (((implStrata d)).2)])]) := by
 refine en tt_ok Tryz.func70 fun w0 F0 hG => ?_
 refine sn tt_ok [0, 2, 3] [] (p0) ?_
 refine awp_seq ?_
 refine tn tt_ok [0, 2, 3, 11] [] (pc 1 (implIsValidDirs_a d) p0) ?_
 refine ck (!(implIsValidDirs d)) (fun h1 => ?_) (fun h1 => ?_)
 ·
  refine tu tt_ok [(2, .e 0), (3, .b false)] [] [] [] (p0) ?_
  refine opn [(false, 2, 0, true, 384000, 1)] ?_
  refine awp_ret ?_
  exact pz [] (show implStrata d = _ from bif_t h1 (rfl)) (fun z => .tup [(false, [.o 0 z.1]), (false, [.b z.2])])
 have h1n : (implIsValidDirs d) = true := bnot_f h1
 refine awp_skip ?_
 refine wT 0 0 .sh d (fun hw2 hl3 => ?_)
 refine tu tt_ok [(2, .e 0), (3, .b false), (4, .one (.slc (.own true 896) 1 (List.replicate (Int.toNat (d.length : Int)) [.i 0])))] [] [] [] (pl 1 d (px (ob_rng (lo := 0) (hi := (d.length : Int)) (n := 1073741824) (⟨by omega, by omega, by omega⟩)) p0)) ?_
 refine eqn [(4, .o 896 (List.replicate (Int.toNat (d.length : Int)) (0 : Int)))] [4] [] [] (by rw [show (List.replicate (Int.toNat (d.length : Int)) [.i 0]) = (eL (List.replicate (Int.toNat (d.length : Int)) (0 : Int))) from mk_eL _ (0 : Int)]; first | done | kernel_rfl) ?_
 refine awp_seq ?_
 refine sn tt_ok [0, 2, 3, 4, 5] [] (p0) ?_
 refine mz [(5, .b true)] [] [] [] ?_
 refine blw (fun (s0 : (List Int) × Bool) => [(4, .o 896 s0.1), (5, .b s0.2)]) [4, 5] (fun s0 => []) [] (fun (y0 : (List Int)) => [(4, .o 896 y0)]) [0, 4, 5] (fun y0 => []) [] (fun (k0 : Nat) (s0 : (List Int) × Bool) => whl (implStrata_f0 d) k0 s0 = some (whlD (implStrata_f0 d) (List.length d * List.length d + 3) ((List.replicate (Int.toNat (d.length : Int)) (0 : Int)), true)) ∧ List.length s0.1 = List.length d) (fun (y0 : (List Int)) => (whlD (implStrata_f0 d) (List.length d * List.length d + 3) ((List.replicate (Int.toNat (d.length : Int)) (0 : Int)), true)) = .brk y0) (List.length d * List.length d + 3) ((List.replicate (Int.toNat (d.length : Int)) (0 : Int)), true) wf0 ⟨whl_some (implStrata_w d (vdirs_len (h1n))), (by simp)⟩ (fun _ h => whl_zero h.1) (fun k0 s0 hI0 => ?_) (fun y0 hD0 => ?_)
 ·
  have hA0_0 := hI0.2
  refine awp_seq ?_
  refine sn tt_ok [0, 2, 3, 4, 5, 15] [] (p0) ?_
  refine ck s0.2 (fun h4 => ?_) (fun h4 => ?_)
  ·
   refine awp_skip ?_
   refine awp_block ?_
   refine tn tt_ok [0, 2, 3, 4, 5] [] (p0) ?_
   refine tu tt_ok [(5, .b false), (16, .h d), (17, .i (d.length : Int)), (18, .i 0)] [5] [] [] (pl 1 d p0) ?_
   refine blL3 (implStrata_f1 d) implStrata_e1 d (s0.1, false) (fun k1 s1 => [(4, .o 896 s1.1), (5, .b s1.2), (18, .i ((k1 : Nat) : Int))]) [4, 5, 18] (fun y1 => [(4, .o 896 y1.1), (5, .b y1.2)]) [4, 5, 16, 17, 18] (fun _ s1 => List.length s1.1 = List.length s0.1) (fun y1 => List.length y1.1 = List.length s0.1) wf0 (by simp) (fun k1 s1 hk1 hI1 => ?_) (fun k1 s1 hk1 hI1 => ?_) (fun y1 hD1 => ?_)
   ·
    have hA1_0 := hI1.2
    obtain ⟨a1, hx1⟩ := get_some (l := d) (i := k1) hk1
    refine su tt_ok [(19, .b true)] [] [] [] (pe 0 (av_bool (decide_eq_true (p := ((k1 : Nat) : Int) < (d.length : Int)) (by omega))) p0) ?_
    refine awp_seq ?_
    refine ckT ?_
    refine awp_skip ?_
    refine awp_seq ?_
    refine awp_block ?_
    refine sn tt_ok [0, 2, 3, 4, 5, 6, 7, 16, 17, 18] [7] (pn 1 hx1 p0) ?_
    refine tN tt_ok tt_mx [0, 2, 3, 4, 5, 6, 8, 16, 17, 18] [] (pc 4 (implPositiveDeps_a a1.2) (pc 5 (implstrataAbove_a d s1.1 (implPositiveDeps a1.2) 0 (by omega)) (pc 10 (implNegativeDeps_a a1.2) (pc 11 (implstrataAbove_a d s1.1 (implNegativeDeps a1.2) 1 (by omega)) p0)))) ?_
    refine awp_seq ?_
    refine tu tt_ok [(6, .i ((k1 : Nat) : Int)), (8, .i (max (implstrataAbove d s1.1 (implPositiveDeps a1.2) 0) (implstrataAbove d s1.1 (implNegativeDeps a1.2) 1))), (39, .b (decide ((max (implstrataAbove d s1.1 (implPositiveDeps a1.2) 0) (implstrataAbove d s1.1 (implNegativeDeps a1.2) 1)) > (d.length : Int))))] [19] [] [] (pl 2 d p0) ?_
    refine ck (decide ((max (implstrataAbove d s1.1 (implPositiveDeps a1.2) 0) (implstrataAbove d s1.1 (implNegativeDeps a1.2) 1)) > (d.length : Int))) (fun h5 => ?_) (fun h5 => ?_)
    ·
     refine su tt_ok [] [39] [] [] (p0) ?_
     refine opn [(false, 2, 0, true, 384000, 1)] ?_
     refine awp_ret ?_
     have hr6 : (forL (implStrata_f1 d) implStrata_e1 d 0 (s0.1, false)) = .ret (.ret ([], false)) := forL_ret hx1 (bif_t h5 (rfl)) hI1.1
     have hr7 : (whlD (implStrata_f0 d) (List.length d * List.length d + 3) ((List.replicate (Int.toNat (d.length : Int)) (0 : Int)), true)) = .ret ([], false) := whl_ret (bif_t h4 (on_r hr6)) hI0.1
     exact pz [] (show implStrata d = _ from bif_f h1 (on_r hr7)) (fun z => .tup [(false, [.o 0 z.1]), (false, [.b z.2])])
    have h5d := of_decide_eq_false h5
    refine awp_skip ?_
    refine wT 4 0 (.own true 896) s1.1 (fun hw9 hl10 => ?_)
    have hx8 := ng s1.1 k1
    refine sn tt_ok [0, 2, 3, 4, 5, 6, 8, 16, 17, 18, 45] [] (pN 3 hx8 p0) ?_
    refine ck (decide ((max (implstrataAbove d s1.1 (implPositiveDeps a1.2) 0) (implstrataAbove d s1.1 (implNegativeDeps a1.2) 1)) > (nth s1.1 k1))) (fun h11 => ?_) (fun h11 => ?_)
    ·
     have h11d := of_decide_eq_true h11
     refine tu tt_ok [(4, .one (.slc (.own true 896) 1 (setRow (eL s1.1) k1 0 [.i (max (implstrataAbove d s1.1 (implPositiveDeps a1.2) 0) (implstrataAbove d s1.1 (implNegativeDeps a1.2) 1))])))] [4, 6, 8, 39] [] [] (pN 3 hx8 p0) ?_
     refine eqn [(4, .o 896 (List.set s1.1 k1 (max (implstrataAbove d s1.1 (implPositiveDeps a1.2) 0) (implstrataAbove d s1.1 (implNegativeDeps a1.2) 1))))] [4] [] [] (by rw [setRow_eL (y := (max (implstrataAbove d s1.1 (implPositiveDeps a1.2) 0) (implstrataAbove d s1.1 (implNegativeDeps a1.2) 1))) hx8 rfl] <;> kernel_rfl) ?_
     refine ru tt_ok [(5, .b true)] [5] [] [] (p0) ?_
     refine rn tt_ok [0, 2, 3, 4, 5, 16, 17, 18] [] (pe 0 (av_i (wrap_succ k1 (by omega))) p0) ?_
     exact xw (List.set s1.1 k1 (max (implstrataAbove d s1.1 (implPositiveDeps a1.2) 0) (implstrataAbove d s1.1 (implNegativeDeps a1.2) 1)), true) ⟨forL_next hx1 (bif_f h5 (bif_t h11 (rfl))) hI1.1, (by first | omega | (simp only [List.length_set]; omega))⟩
    have h11d := of_decide_eq_false h11
    refine awp_skip ?_
    refine qn tt_ok [0, 2, 3, 4, 5, 16, 17, 18] [] (pe 0 (av_i (wrap_succ k1 (by omega))) p0) ?_
    exact xw (s1.1, s1.2) ⟨forL_next hx1 (bif_f h5 (bif_f h11 (rfl))) hI1.1, (by first | omega | (simp only [List.length_set]; omega))⟩
   ·
    have hA1_0 := hI1.2
    refine su tt_ok [(19, .b false)] [] [] [] (pe 0 (av_bool (decide_eq_false (p := ((k1 : Nat) : Int) < (d.length : Int)) (by omega))) p0) ?_
    refine awp_seq ?_
    refine ckF ?_
    refine awp_exit ?_
    exact xw (s1.1, s1.2) ⟨forL_end hk1 (rfl) hI1.1, by first | omega | (simp only [List.length_set]; omega)⟩
   have hD1_0 := hD1.2
   exact xw (y1.1, y1.2) ⟨wn hI0.1 (bif_t h4 (on_b hD1.1 (rfl))), (by first | omega | (simp only [List.length_set]; omega))⟩
  refine awp_exit ?_
  exact xw _ (wb hI0.1 (bif_f h4 (rfl)))
 refine sn tt_ok [2, 3] [] (p0) ?_
 refine awp_ret ?_
 exact pz [] (show implStrata d = _ from bif_f h1 (on_b hD0 (rfl))) (fun z => .tup [(false, [.o 0 z.1]), (false, [.b z.2])])
def Low (b : Int) (L : List Int) : Prop := ∀ j, 0 ≤ nth L j ∧ nth L j ≤ b
theorem bump_low {b w : Int} {i : Nat} {L : List Int} {p : Nat} (hi : i < L.length) (hw : 0 ≤ w ∧ w ≤ 1) (h : Low b L) : Low (b + w) (bump i L (p, w)) := fun j => by
  rw [bump_nth _ hi]
  have h1 := h j
  have h2 := h p
  have h3 := h i
  split
  · show 0 ≤ max (nth L i) (nth L p + w) ∧ max (nth L i) (nth L p + w) ≤ b + w; omega
  omega
theorem f1_loop (d : List DirD) (k0 : Nat) : ∀ (l : List ByteArray) (k : Nat) (s : List Int) (b : Int), k0 < s.length → Low b s → forL (specl13Raise_f1 d k0) specl13Raise_e1 l k s = .brk (bumps k0 (edgesOfN d 0 l) s) ∧ Low b (bumps k0 (edgesOfN d 0 l) s)
  | [], k, s, b, _, h => ⟨rfl, h⟩
  | a :: l, k, s, b, hk, h => by
    have hf : specl13Raise_f1 d k0 k a s = (bif (decide (0 ≤ impldirAt d a) && decide (nth s k0 < nth s (Int.toNat (impldirAt d a)))) then .next (List.set s k0 (nth s (Int.toNat (impldirAt d a)))) else .next s) := rfl
    simp only [forL, hf, edgesOfN]
    by_cases h0 : 0 ≤ impldirAt d a
    · rw [if_pos h0, decide_eq_true h0, Bool.true_and]
      have hb : Low b (bump k0 s (Int.toNat (impldirAt d a), 0)) := by have := bump_low (w := 0) (p := Int.toNat (impldirAt d a)) hk (by omega) h; simpa using this
      have hbk : bumps k0 ((Int.toNat (impldirAt d a), 0) :: edgesOfN d 0 l) s = bumps k0 (edgesOfN d 0 l) (bump k0 s (Int.toNat (impldirAt d a), 0)) := rfl
      rw [hbk]
      have ih := f1_loop d k0 l (k + 1) (bump k0 s (Int.toNat (impldirAt d a), 0)) b (by rw [bump_len]; exact hk) hb
      by_cases h1 : nth s k0 < nth s (Int.toNat (impldirAt d a))
      · have e : bump k0 s (Int.toNat (impldirAt d a), 0) = List.set s k0 (nth s (Int.toNat (impldirAt d a))) := by unfold bump; simp [h1]
        rw [decide_eq_true h1, cond_true]
        rw [e] at ih ⊢; exact ih
      have e : bump k0 s (Int.toNat (impldirAt d a), 0) = s := by unfold bump; simp [h1]
      rw [decide_eq_false h1, cond_false]
      rw [e] at ih ⊢; exact ih
    rw [if_neg h0, decide_eq_false h0, Bool.false_and, cond_false]
    exact f1_loop d k0 l (k + 1) s b hk h
theorem f2_loop (d : List DirD) (k0 : Nat) : ∀ (l : List ByteArray) (k : Nat) (s : List Int) (b : Int), k0 < s.length → Low b s → b + l.length ≤ 1000000 → forL (specl13Raise_f2 d k0) specl13Raise_e2 l k s = .brk (bumps k0 (edgesOfN d 1 l) s) ∧ Low (b + l.length) (bumps k0 (edgesOfN d 1 l) s)
  | [], k, s, b, _, h, _ => ⟨rfl, by show Low (b + ((0 : Nat) : Int)) s; simpa using h⟩
  | a :: l, k, s, b, hk, h, hb => by
    rw [List.length_cons] at hb ⊢
    have hf : specl13Raise_f2 d k0 k a s = (bif (decide (0 ≤ impldirAt d a) && decide (nth s k0 < IntKind.i64.wrap (nth s (Int.toNat (impldirAt d a)) + 1))) then .next (List.set s k0 (IntKind.i64.wrap (nth s (Int.toNat (impldirAt d a)) + 1))) else .next s) := rfl
    simp only [forL, hf, edgesOfN]
    have hl : b + ((l.length + 1 : Nat) : Int) = b + 1 + (l.length : Int) := by omega
    have hw : IntKind.i64.wrap (nth s (Int.toNat (impldirAt d a)) + 1) = nth s (Int.toNat (impldirAt d a)) + 1 := IntWalk.i64_in _ (by have := h (Int.toNat (impldirAt d a)); omega)
    rw [hl] at hb ⊢
    by_cases h0 : 0 ≤ impldirAt d a
    · rw [if_pos h0, decide_eq_true h0, Bool.true_and, hw]
      have hlow := bump_low (w := 1) (p := Int.toNat (impldirAt d a)) hk (by omega) h
      have hbk : bumps k0 ((Int.toNat (impldirAt d a), 1) :: edgesOfN d 1 l) s = bumps k0 (edgesOfN d 1 l) (bump k0 s (Int.toNat (impldirAt d a), 1)) := rfl
      rw [hbk]
      have ih := f2_loop d k0 l (k + 1) (bump k0 s (Int.toNat (impldirAt d a), 1)) (b + 1) (by rw [bump_len]; exact hk) hlow hb
      by_cases h1 : nth s k0 < nth s (Int.toNat (impldirAt d a)) + 1
      · have e : bump k0 s (Int.toNat (impldirAt d a), 1) = List.set s k0 (nth s (Int.toNat (impldirAt d a)) + 1) := by unfold bump; rw [if_pos h1]
        rw [decide_eq_true h1, cond_true]
        rw [e] at ih ⊢; exact ih
      have e : bump k0 s (Int.toNat (impldirAt d a), 1) = s := by unfold bump; rw [if_neg h1]
      rw [decide_eq_false h1, cond_false]
      rw [e] at ih ⊢; exact ih
    rw [if_neg h0, decide_eq_false h0, Bool.false_and, cond_false]
    exact f2_loop d k0 l (k + 1) s (b + 1) hk (fun j => by have := h j; omega) hb
theorem deps_grow (q : List NodeD) (b : Bool) : ∀ (l : List Bool) (k : Nat) (s : List ByteArray), ∃ t, forL (impldepsBelow_f0 q b) impldepsBelow_e0 l k s = .brk t ∧ t.length ≤ s.length + l.length
  | [], k, s => ⟨s, rfl, by simp⟩
  | a :: l, k, s => by
    simp only [forL, impldepsBelow_f0]
    cases (implnamesDir (nth q k) && (a == b)) with
    | true =>
      obtain ⟨t, h1, h2⟩ := deps_grow q b l (k + 1) (s ++ [(nth q k).2.2.2.1])
      exact ⟨t, h1, by simp at h2 ⊢; omega⟩
    | false =>
      obtain ⟨t, h1, h2⟩ := deps_grow q b l (k + 1) s
      exact ⟨t, h1, by simp at h2 ⊢; omega⟩
theorem negated9 (q : List NodeD) : List.length (implNegatedNodes q) ≤ 9 := by
  cases hv : implIsValidQuery q with
  | true => have := negated_len q; have := (vq_len hv).2; omega
  | false => unfold implNegatedNodes; rw [hv]; simp
theorem deps9 (q : List NodeD) (b : Bool) : List.length (impldepsBelow q b) ≤ 9 := by
  unfold impldepsBelow
  obtain ⟨t, h1, h2⟩ := deps_grow q b (implNegatedNodes q) 0 []
  rw [h1]
  have h3 := negated9 q
  have h4 := compS_len (sortS t)
  rw [sortS_len] at h4
  show (compS (sortS t)).length ≤ 9
  simp at h2
  omega
theorem bumps_app (i : Nat) (E1 E2 : Edges) (L : List Int) : bumps i (E1 ++ E2) L = bumps i E2 (bumps i E1 L) := List.foldl_append
theorem f0_step {d : List DirD} {k : Nat} {a : DirD} {s : List Int} {b : Int} (hk : d[k]? = some a) (hs : s.length = d.length) (h : Low b s) (hb : b + 9 ≤ 1000000) : specl13Raise_f0 d k a s = .next (bumps k (edgesD d k) s) ∧ Low (b + 9) (bumps k (edgesD d k) s) := by
  have hkl : k < d.length := (List.getElem?_eq_some_iff.1 hk).1
  have ha : nth d k = a := nth_of hk
  obtain ⟨h1, h2⟩ := f1_loop d k (implPositiveDeps a.2) 0 s b (by omega) h
  have h9 : (implNegativeDeps a.2).length ≤ 9 := deps9 a.2 true
  obtain ⟨h3, h4⟩ := f2_loop d k (implNegativeDeps a.2) 0 (bumps k (edgesOfN d 0 (implPositiveDeps a.2)) s) b (by rw [bumps_len]; omega) h2 (by omega)
  have he : edgesD d k = edgesOfN d 0 (implPositiveDeps a.2) ++ edgesOfN d 1 (implNegativeDeps a.2) := by unfold edgesD; rw [if_pos hkl, ha]
  rw [he, bumps_app]
  refine ⟨?_, fun j => by have := h4 j; omega⟩
  unfold specl13Raise_f0
  rw [posdeps_eq, negdeps_eq, h1]
  simp only [Out.on]
  rw [h3]
theorem raise_loop {d : List DirD} : ∀ (l : List DirD) (k : Nat) (s : List Int) (b : Int), d.drop k = l → s.length = d.length → Low b s → b + 9 * l.length ≤ 1000000 → forL (specl13Raise_f0 d) specl13Raise_e0 l k s = .brk (brounds (edgesD d) (List.range' k l.length) s) ∧ Low (b + 9 * l.length) (brounds (edgesD d) (List.range' k l.length) s)
  | [], k, s, b, _, _, h, _ => ⟨rfl, by show Low (b + 9 * ((0 : Nat) : Int)) s; simpa using h⟩
  | a :: l, k, s, b, hl, hs, h, hb => by
    have hk : d[k]? = some a := by
      have := congrArg (·[0]?) hl
      simpa using this
    have hrest : d.drop (k + 1) = l := by rw [← List.drop_drop, hl]; rfl
    rw [List.length_cons] at hb ⊢
    obtain ⟨h1, h2⟩ := f0_step hk hs h (by omega)
    have e : b + 9 * ((l.length + 1 : Nat) : Int) = b + 9 + 9 * (l.length : Int) := by omega
    rw [e] at hb ⊢
    obtain ⟨h3, h4⟩ := raise_loop l (k + 1) (bumps k (edgesD d k) s) (b + 9) hrest (by rw [bumps_len]; exact hs) h2 hb
    simp only [forL, h1, List.range'_succ]
    exact ⟨h3, h4⟩
theorem raise_bump {d : List DirD} {s : List Int} {b : Int} (hs : s.length = d.length) (h : Low b s) (hb : b + 9 * d.length ≤ 1000000) : specl13Raise d s = brounds (edgesD d) (List.range d.length) s ∧ Low (b + 9 * d.length) (brounds (edgesD d) (List.range d.length) s) := by
  obtain ⟨h1, h2⟩ := raise_loop d 0 s b rfl hs h hb
  have e1 : List.range' 0 d.length = List.range d.length := (List.range_eq_range' ..).symm
  rw [e1] at h1 h2
  refine ⟨?_, h2⟩
  unfold specl13Raise
  rw [h1]
  rfl
theorem rounds_loop {d : List DirD} (hd : d.length ≤ 5) : ∀ (n k m : Nat), m + n ≤ 1000 → Low (45 * m) (bafter (edgesD d) d.length m) → forN (specStrata_f0 d) specStrata_e0 n k (bafter (edgesD d) d.length m) = .brk (bafter (edgesD d) d.length (m + n)) ∧ Low (45 * (m + n)) (bafter (edgesD d) d.length (m + n))
  | 0, k, m, _, h => ⟨rfl, by simpa using h⟩
  | n + 1, k, m, hm, h => by
    obtain ⟨h1, h2⟩ := raise_bump (bafter_len (edgesD d) d.length m) h (by omega)
    have e : bafter (edgesD d) d.length (m + 1) = brounds (edgesD d) (List.range d.length) (bafter (edgesD d) d.length m) := rfl
    simp only [forN, specStrata_f0, h1]
    rw [← e] at h2 ⊢
    have := rounds_loop hd n (k + 1) (m + 1) (by omega) (fun j => by have := h2 j; omega)
    rw [show m + (n + 1) = m + 1 + n by omega]
    refine ⟨this.1, fun j => by have := this.2 j; omega⟩
theorem ints_go (b : List Int) : ∀ (l : List Int) (k : Nat), l.length = (b.drop k).length → Out.on (forL (specl07Ints_f0 b) specl07Ints_e0 l k ()) (fun _ => true) = decide (l = b.drop k)
  | [], k, h => by
    have : b.drop k = [] := List.eq_nil_of_length_eq_zero (by rw [← h]; rfl)
    rw [this]; rfl
  | a :: l, k, h => by
    have hk : k < b.length := by simp only [List.length_cons, List.length_drop] at h; omega
    have hd : b.drop k = nth b k :: b.drop (k + 1) := by
      rw [List.drop_eq_getElem_cons hk, show nth b k = b[k] by simp [nth, List.getD, hk]]
    rw [hd] at h ⊢
    simp only [forL, specl07Ints_f0]
    by_cases e : a = nth b k
    · rw [show (a != nth b k) = false by simp [e], cond_false, ints_go b l (k + 1) (by simpa using h)]
      simp [e]
    rw [show (a != nth b k) = true by simp [e], cond_true]
    simp [e, Out.on]
theorem ints_eq (a b : List Int) (h : a.length = b.length) : specl07Ints a b = decide (a = b) := by
  unfold specl07Ints
  rw [show ((a.length : Int) != (b.length : Int)) = false by simp [h], cond_false, ints_go b a 0 (by simpa using h), List.drop_zero]
theorem strata_alike (d : List DirD) : specStrata d = implStrata d := by
  unfold specStrata implStrata
  rw [← vdirs_eq]
  cases hv : implIsValidDirs d with
  | false => rfl
  | true =>
    have h5 := vdirs_len hv
    obtain ⟨hn, _⟩ := dirs5 ((vdirs_eq d).symm.trans hv)
    simp only [Bool.not_true, cond_false]
    have hz : bafter (edgesD d) d.length 0 = List.replicate (Int.toNat (d.length : Int)) (0 : Int) := by rw [Int.toNat_natCast]; rfl
    have hnn : d.length * d.length ≤ 25 := Nat.le_trans (Nat.mul_le_mul h5 h5) (by decide)
    obtain ⟨h1, h2⟩ := rounds_loop (d := d) h5 (d.length * d.length + 2) 0 0 (by omega) (fun j => by rw [hz, Int.toNat_natCast, nth_zero]; omega)
    rw [hz, Nat.zero_add] at h1
    rw [Nat.zero_add] at h2
    rw [hn, show Int.toNat (((d.length * d.length + 1 : Nat) : Int) + 1) = d.length * d.length + 2 by omega, h1]
    simp only [Out.on]
    have hlen := bafter_len (edgesD d) d.length (d.length * d.length + 2)
    obtain ⟨h3, _⟩ := raise_bump (d := d) hlen h2 (by omega)
    rw [h3, ints_eq _ _ (by rw [brounds_len])]
    have hw := whl_climb (d := d) (f := implStrata_f1 d) (e := implStrata_e1) (F := implStrata_f0 d) (fun _ _ _ => rfl) (fun _ _ => rfl) (fun _ => rfl) (by omega) (d.length * d.length + 3) (List.replicate d.length 0) true (zeroL_ok _).1 (zeroL_ok _).2
    have hsome : (climb (edgesD d) d.length d.length (d.length * d.length + 3) (true, List.replicate d.length 0)).isSome = true := by
      have := implStrata_w d h5
      rw [Int.toNat_natCast, hw, Option.isSome_map] at this
      exact this
    obtain ⟨r, hr⟩ := Option.isSome_iff_exists.1 hsome
    unfold whlD
    rw [Int.toNat_natCast, hw, hr]
    obtain ⟨h6, h7⟩ := strata_eq (E := edgesD d) (n := d.length) (fun i e he => edgesD_ok d i e he) hr
    by_cases hfix : brounds (edgesD d) (List.range d.length) (bafter (edgesD d) d.length (d.length * d.length + 2)) = bafter (edgesD d) d.length (d.length * d.length + 2)
    · rw [h6 hfix, decide_eq_true hfix]
      rfl
    rw [h7 hfix, decide_eq_false hfix]
    rfl
end
end Go.Proofs.YtkadekboakhhiaaGreat
