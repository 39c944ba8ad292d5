/- Texts of this proof, put together by a program: Cka, Ckb, Nga, Ngb, Zd, Sh, Ts, Dpa, Dpb, Dpc, Dpd, Sta, Stb. -/
import Derived.Test.YtamghcfmhfknmaaGreatP3
import Derived.Test.YtamghcfmhfknmaaGreatProg
import Derived.KernelRfl
import Derived.Sort.EncStr
import Derived.Sort.Grow
import Derived.Lib.SlicesCompact
import Derived.Sort.Walk0
import Derived.Shelf.Small.Bits
import Derived.Shelf.Small.Wraps
import Derived.Shelf.Strconv.Itoa0
import Derived.Shelf.Sort.Plain
import Derived.Shelf.Slices.Turned
import Derived.Shelf.Slices.Equal
import Derived.Ground.Names2Prog
import Derived.Shelf.Slices.Clone
import Derived.Shelf.Slices.CompactI
import Derived.Shelf.Slices.CompactS
import Derived.Shelf.Slices.SearchI
import Derived.Shelf.Slices.Cells
import Derived.Shelf.Slices.In.SortNone
import Derived.Shelf.Slices.Empties2
import Derived.Ground.SlgnProg
import Derived.Shelf.SlicesE.Equal
import Derived.Shelf.SlicesE.Compact
import Derived.Shelf.SlicesE.Clone
import Derived.Ground.SlgfProg
import Derived.Shelf.SlicesE.IndexFunc
import Derived.Shelf.SlicesE.DeleteFunc
set_option linter.unusedVariables false
set_option linter.unusedSimpArgs false
namespace Go.Proofs.YtamghcfmhfknmaaGreat
open Go.RowKit
open GoE (enc wide)
def tt : List (Nat × TI) := [(3, ⟨.int .i64, 1, [.i 0], []⟩),
 (4, ⟨.bool, 1, [.b false], []⟩),
 (5, ⟨.int .u8, 1, [.int .u8 0], []⟩),
 (9, ⟨.str, 1, [.s ⟨#[]⟩], []⟩),
 (22, ⟨.sli 5, 1, [.e 1], []⟩),
 (24, ⟨.sli 3, 1, [.e 1], []⟩),
 (39, ⟨.sli 124, 1, [.e 2], []⟩),
 (40, ⟨.sli 54, 1, [.e 5], []⟩),
 (42, ⟨.struct [(0, 1, false), (1, 1, false), (2, 1, false)], 3, [.e 2, .e 5, .i 0], []⟩),
 (43, ⟨.sli 57, 1, [.e 2], []⟩),
 (44, ⟨.sli 141, 1, [.e 2], []⟩),
 (46, ⟨.struct [(0, 3, true), (3, 1, false), (4, 1, false)], 5, [.e 2, .e 5, .i 0, .e 2, .e 2], []⟩),
 (51, ⟨.sli 59, 1, [.e 9], []⟩),
 (52, ⟨.sli 74, 1, [.e 4], []⟩),
 (54, ⟨.struct [(0, 1, false), (1, 1, false), (2, 1, false), (3, 1, false), (4, 1, false)], 5, [.i 0, .i 0, .b false, .i 0, .e 4], []⟩),
 (55, ⟨.sli 68, 1, [.e 7], []⟩),
 (57, ⟨.struct [(0, 1, false), (1, 1, false)], 2, [.s ⟨#[]⟩, .e 7], []⟩),
 (59, ⟨.struct [(0, 1, false), (1, 5, true), (6, 1, false), (7, 2, true)], 9, [.i 0, .i 0, .i 0, .b false, .i 0, .e 4, .i 0, .s ⟨#[]⟩, .e 7], []⟩),
 (60, ⟨.sli 116, 1, [.e 3], []⟩),
 (65, ⟨.struct [(0, 1, false), (1, 1, false), (2, 1, false)], 3, [.i 0, .i 0, .s ⟨#[]⟩], [.int, .int, .str]⟩),
 (68, ⟨.struct [(0, 1, false), (1, 1, false), (2, 1, false), (3, 1, false), (4, 3, true)], 7, [.i 0, .i 0, .i 0, .s ⟨#[]⟩, .i 0, .i 0, .s ⟨#[]⟩], [.int, .int, .int, .str, .int, .int, .str]⟩),
 (74, ⟨.struct [(0, 1, false), (1, 3, true)], 4, [.s ⟨#[]⟩, .i 0, .i 0, .s ⟨#[]⟩], []⟩),
 (107, ⟨.struct [(0, 1, false), (1, 1, false), (2, 1, false)], 3, [.e 1, .i 0, .i 0], []⟩),
 (116, ⟨.struct [(0, 1, false), (1, 1, false), (2, 1, false)], 3, [.s ⟨#[]⟩, .e 1, .e 1], []⟩),
 (124, ⟨.struct [(0, 1, false), (1, 1, false)], 2, [.s ⟨#[]⟩, .i 0], []⟩),
 (136, ⟨.sli 9, 1, [.e 1], []⟩),
 (141, ⟨.struct [(0, 1, false), (1, 1, false)], 2, [.s ⟨#[]⟩, .e 1], []⟩),
 (269, ⟨.sli 4, 1, [.e 1], []⟩)]
theorem Qb : ttOk Tryz.prog tt = true := by kernel_rfl
theorem Js : Tryz.prog.follows .mixedOrders = true := by kernel_rfl
def Xy (n : Int) (low : Int) (high_ : Int) : Bool := (decide (low ≤ n) && decide (n ≤ high_))
theorem Jx (n : Int) (low : Int) (high_ : Int) : ACalls Tryz.prog 64 [.i n, .i low, .i high_] (.b (Xy n low high_)) := by
 refine Qt (tt := tt) Qb Tryz.func64 (fn := Tryz.f64) rfl (by unfold Jr; kernel_rfl) (Nat.le_of_ble_eq_true rfl) fun w0 F0 hG => ?_
 refine Qa ?_
 refine rk Qb [(6, .b false)] [] [] [] [] (o0) ?_
 refine Qa ?_
 refine jn [(6, .b (decide (low ≤ n) && decide (n ≤ high_)))] [0, 1, 2, 6] [] [] (decide (low ≤ n)) (fun h1 => ?_) (fun h1 => ?_) ?_
 ·
  refine rk Qb [(6, .b (decide (n ≤ high_)))] [0, 1, 2, 6] [] [] [(2, .val (.b true))] (o1 (Qi (Qh h1))) ?_
  exact ⟨rfl, Qd (by rw [h1]; first | done | kernel_rfl)⟩
 ·
  refine rk Qb [] [0, 1, 2] [] [] [(2, .val (.b false))] (o1 (Qi (Qh h1))) ?_
  exact ⟨rfl, Qd (by rw [h1]; first | done | kernel_rfl)⟩
 refine Qq ?_
 exact Ze [] (congrArg (fun z => (.b z : AV)) (show Xy n low high_ = (decide (low ≤ n) && decide (n ≤ high_)) from rfl).symm)
def W0 (s_ : ByteArray) (k0 : Nat) (_ : Unit) : Rd (Bool) (Unit) (Unit) := (bif (decide (Qal s_ ((k0 : Nat) : Int) < (97 : Int)) || decide (Qal s_ ((k0 : Nat) : Int) > (122 : Int))) then (.ret false) else (.next ()))
def W4 (_ : Nat) (_ : Unit) : Unit := ()
def X7 (s_ : ByteArray) : Bool := (Out.on (Hu (W0 s_) W4 (Int.toNat (ByteArray.size s_ : Int)) 0 ()) (fun _ => (Xy (ByteArray.size s_ : Int) 1 6)))
theorem Kf (s_ : ByteArray) : ACalls Tryz.prog 188 [.s s_] (.b (X7 s_)) := by
 refine Qt (tt := tt) Qb Tryz.func188 (fn := Tryz.f188) rfl (by unfold Jr; kernel_rfl) (Nat.le_of_ble_eq_true rfl) fun w0 F0 hG => ?_
 refine Qa ?_
 refine rk Qb [(2, .b false)] [] [] [] [] (o0) ?_
 refine Qa ?_
 refine Qa ?_
 refine rk Qb [(5, .i (ByteArray.size s_ : Int)), (6, .i 0)] [] [] [] [] (o0) ?_
 refine stT 0 0 s_ (fun hs1 => ?_)
 refine blk (fun (k0 : Nat) (s0 : Unit) => [(6, .i ((k0 : Nat) : Int))]) [6] (fun k0 s0 => []) [] (fun (y0 : Unit) => []) [5, 6] (fun y0 => []) [] (fun (k0 : Nat) (s0 : Unit) => (Hu (W0 s_) W4 (Int.toNat (ByteArray.size s_ : Int)) 0 ()) = Hu (W0 s_) W4 ((Int.toNat (ByteArray.size s_ : Int)) - k0) k0 s0) (fun (y0 : Unit) => (Hu (W0 s_) W4 (Int.toNat (ByteArray.size s_ : Int)) 0 ()) = .brk y0) (Int.toNat (ByteArray.size s_ : Int)) () (Qd (by kernel_rfl)) rfl (fun k0 s0 hk0 hI0 => ?_) (fun k0 s0 hk0 hI0 => ?_) (fun y0 hD0 => ?_)
 ·
  refine Qa ?_
  refine rk Qb [(7, .b true)] [] [] [] [(0, .val (.b true))] (o1 (Qi (Qh (decide_eq_true (p := ((k0 : Nat) : Int) < (ByteArray.size s_ : Int)) (by omega))))) ?_
  refine Qa ?_
  refine ckT ?_
  refine Qr ?_
  refine Qa ?_
  refine Xf ?_
  refine Qa ?_
  refine rk Qb [(3, .i ((k0 : Nat) : Int))] [7] [] [] [] (o0) ?_
  refine Qa ?_
  refine jn [(18, .b (decide (Qal s_ ((k0 : Nat) : Int) < (97 : Int)) || decide (Qal s_ ((k0 : Nat) : Int) > (122 : Int))))] [3] [] [] (decide (Qal s_ ((k0 : Nat) : Int) < (97 : Int))) (fun h2 => ?_) (fun h2 => ?_) ?_
  ·
   have h2d := of_decide_eq_true h2
   refine rk Qb [(18, .b true)] [3] [] [] [(3, .val (.b true))] (o2 (ob_idx (i := ((k0 : Nat) : Int)) (n := (ByteArray.size s_)) (by omega)) (o1 (Qi (Qh h2)))) ?_
   exact ⟨rfl, Qd (by rw [h2]; first | done | kernel_rfl)⟩
  ·
   have h2d := of_decide_eq_false h2
   refine rk Qb [(18, .b (decide (Qal s_ ((k0 : Nat) : Int) > (122 : Int))))] [3] [] [] [(3, .val (.b false))] (o2 (ob_idx (i := ((k0 : Nat) : Int)) (n := (ByteArray.size s_)) (by omega)) (o2 (Qi (Qh h2)) (o1 (ob_idx (i := ((k0 : Nat) : Int)) (n := (ByteArray.size s_)) (by omega))))) ?_
   exact ⟨rfl, Qd (by rw [h2]; first | done | kernel_rfl)⟩
  refine ck (decide (Qal s_ ((k0 : Nat) : Int) < (97 : Int)) || decide (Qal s_ ((k0 : Nat) : Int) > (122 : Int))) (fun h3 => ?_) (fun h3 => ?_)
  ·
   refine Qa ?_
   refine rk Qb [] [18] [] [] [] (o0) ?_
   refine Qq ?_
   have hr4 : (Hu (W0 s_) W4 (Int.toNat (ByteArray.size s_ : Int)) 0 ()) = .ret false := forN_ret hk0 (X8 h3 (rfl)) hI0
   exact Ze [] (congrArg (fun z => (.b z : AV)) (show X7 s_ = false from on_r hr4).symm)
  ·
   have h3l : (decide (Qal s_ ((k0 : Nat) : Int) < (97 : Int))) = false := or_l h3
   have h3ld := of_decide_eq_false h3l
   have h3r : (decide (Qal s_ ((k0 : Nat) : Int) > (122 : Int))) = false := or_r h3
   have h3rd := of_decide_eq_false h3r
   refine Qr ?_
   refine rk Qb [(6, .i ((k0 + 1 : Nat) : Int))] [6, 18] [] [] [(0, .val (.i ((k0 + 1 : Nat) : Int)))] (o1 (Qi (Km (Q8 k0 (by omega))))) ?_
   exact Exists.intro () (And.intro (Qd (by kernel_rfl)) (Vh hk0 (Q6 h3 (rfl)) hI0))
 ·
  refine Qa ?_
  refine rk Qb [(7, .b false)] [] [] [] [(0, .val (.b false))] (o1 (Qi (Qh (decide_eq_false (p := ((k0 : Nat) : Int) < (ByteArray.size s_ : Int)) (by omega))))) ?_
  refine Qa ?_
  refine ckF ?_
  refine Xt ?_
  exact Exists.intro () (And.intro (Qd (by kernel_rfl)) (Qbu hk0 (rfl) hI0))
 ·
  refine Qa ?_
  refine rk Qb [(2, .b (Xy (ByteArray.size s_ : Int) 1 6))] [0, 2] [] [] [(2, .val (.b (Xy (ByteArray.size s_ : Int) 1 6)))] (o1 (Qg (Jx (ByteArray.size s_ : Int) 1 6))) ?_
  refine Qq ?_
  exact Ze [] (congrArg (fun z => (.b z : AV)) (show X7 s_ = (Xy (ByteArray.size s_ : Int) 1 6) from Hk hD0 (rfl)).symm)
def Z9 (v : Qee) : Bool := (bif (v.1 == (0 : Int)) then ((v.1 == 0) && ((v.2.1 == 0) && ((v.2.2.toList == (⟨#[]⟩ : ByteArray).toList) && true))) else (bif (v.1 == (1 : Int)) then ((Xy v.2.1 0 999) && (v.2.2.toList == (⟨#[]⟩ : ByteArray).toList)) else (bif (v.1 == (2 : Int)) then ((X7 v.2.2) && (v.2.1 == (0 : Int))) else false)))
theorem Vi (v : Qee) : ACalls Tryz.prog 238 [.a [.i v.1, .i v.2.1, .s v.2.2]] (.b (Z9 v)) := by
 refine Qt (tt := tt) Qb Tryz.func238 (fn := Tryz.f238) rfl (by unfold Jr; kernel_rfl) (Nat.le_of_ble_eq_true rfl) fun w0 F0 hG => ?_
 refine Qa ?_
 refine rk Qb [(1, .p 1 0), (2, .b false)] [0] [(1, [.i v.1, .i v.2.1, .s v.2.2])] [] [] (o0) ?_
 refine Qa ?_
 refine Qa ?_
 refine rk Qb [(4, .i v.1)] [] [] [] [] (o0) ?_
 refine Xf ?_
 refine Qa ?_
 refine rk Qb [(5, .b (v.1 == (0 : Int)))] [] [] [] [] (o0) ?_
 refine ck (v.1 == (0 : Int)) (fun h1 => ?_) (fun h1 => ?_)
 ·
  refine Qa ?_
  refine rk Qb [(2, .b ((v.1 == 0) && ((v.2.1 == 0) && ((v.2.2.toList == (⟨#[]⟩ : ByteArray).toList) && true))))] [1, 2, 4, 5] [] [1] [] (o0) ?_
  refine Qq ?_
  exact Ze [] (congrArg (fun z => (.b z : AV)) (show Z9 v = ((v.1 == 0) && ((v.2.1 == 0) && ((v.2.2.toList == (⟨#[]⟩ : ByteArray).toList) && true))) from X8 h1 (rfl)).symm)
 ·
  refine Qa ?_
  refine rk Qb [(10, .b (v.1 == (1 : Int)))] [5] [] [] [] (o0) ?_
  refine ck (v.1 == (1 : Int)) (fun h2 => ?_) (fun h2 => ?_)
  ·
   refine Qa ?_
   refine jn [(2, .b ((Xy v.2.1 0 999) && (v.2.2.toList == (⟨#[]⟩ : ByteArray).toList)))] [1, 2, 4, 10] [] [1] (Xy v.2.1 0 999) (fun h3 => ?_) (fun h3 => ?_) ?_
   ·
    refine rk Qb [(2, .b (v.2.2.toList == (⟨#[]⟩ : ByteArray).toList))] [1, 2, 4, 10] [] [1] [(2, .val (.b true))] (o1 (Qg (cb h3 (Jx v.2.1 0 999)))) ?_
    exact ⟨rfl, Qd (by rw [h3]; first | done | kernel_rfl)⟩
   ·
    refine rk Qb [] [1, 4, 10] [] [1] [(2, .val (.b false))] (o1 (Qg (cb h3 (Jx v.2.1 0 999)))) ?_
    exact ⟨rfl, Qd (by rw [h3]; first | done | kernel_rfl)⟩
   refine Qq ?_
   exact Ze [] (congrArg (fun z => (.b z : AV)) (show Z9 v = ((Xy v.2.1 0 999) && (v.2.2.toList == (⟨#[]⟩ : ByteArray).toList)) from Q6 h1 (X8 h2 (rfl))).symm)
  ·
   refine Qa ?_
   refine rk Qb [(20, .b (v.1 == (2 : Int)))] [4, 10] [] [] [] (o0) ?_
   refine ck (v.1 == (2 : Int)) (fun h4 => ?_) (fun h4 => ?_)
   ·
    refine Qa ?_
    refine jn [(2, .b ((X7 v.2.2) && (v.2.1 == (0 : Int))))] [1, 2, 20] [] [1] (X7 v.2.2) (fun h5 => ?_) (fun h5 => ?_) ?_
    ·
     refine rk Qb [(2, .b (v.2.1 == (0 : Int)))] [1, 2, 20] [] [1] [(2, .val (.b true))] (o1 (Qg (cb h5 (Kf v.2.2)))) ?_
     exact ⟨rfl, Qd (by rw [h5]; first | done | kernel_rfl)⟩
    ·
     refine rk Qb [] [1, 20] [] [1] [(2, .val (.b false))] (o1 (Qg (cb h5 (Kf v.2.2)))) ?_
     exact ⟨rfl, Qd (by rw [h5]; first | done | kernel_rfl)⟩
    refine Qq ?_
    exact Ze [] (congrArg (fun z => (.b z : AV)) (show Z9 v = ((X7 v.2.2) && (v.2.1 == (0 : Int))) from Q6 h1 (Q6 h2 (X8 h4 (rfl)))).symm)
   ·
    refine Qr ?_
    refine Qa ?_
    refine rk Qb [] [1, 20] [] [1] [] (o0) ?_
    refine Qq ?_
    exact Ze [] (congrArg (fun z => (.b z : AV)) (show Z9 v = false from Q6 h1 (Q6 h2 (Q6 h4 (rfl)))).symm)
def Xr (x : Int) (least : Int) (most : Int) : Bool := (decide (x ≥ least) && decide (x ≤ most))
theorem Jz (x : Int) (least : Int) (most : Int) : ACalls Tryz.prog 33 [.i x, .i least, .i most] (.b (Xr x least most)) := by
 refine Qt (tt := tt) Qb Tryz.func33 (fn := Tryz.f33) rfl (by unfold Jr; kernel_rfl) (Nat.le_of_ble_eq_true rfl) fun w0 F0 hG => ?_
 refine Qa ?_
 refine rk Qb [(6, .b false)] [] [] [] [] (o0) ?_
 refine Qa ?_
 refine jn [(6, .b (decide (x ≥ least) && decide (x ≤ most)))] [0, 1, 2, 6] [] [] (decide (x ≥ least)) (fun h1 => ?_) (fun h1 => ?_) ?_
 ·
  refine rk Qb [(6, .b (decide (x ≤ most)))] [0, 1, 2, 6] [] [] [(2, .val (.b true))] (o1 (Qi (Qh h1))) ?_
  exact ⟨rfl, Qd (by rw [h1]; first | done | kernel_rfl)⟩
 ·
  refine rk Qb [] [0, 1, 2] [] [] [(2, .val (.b false))] (o1 (Qi (Qh h1))) ?_
  exact ⟨rfl, Qd (by rw [h1]; first | done | kernel_rfl)⟩
 refine Qq ?_
 exact Ze [] (congrArg (fun z => (.b z : AV)) (show Xr x least most = (decide (x ≥ least) && decide (x ≤ most)) from rfl).symm)
def V7 (s_ : ByteArray) (k0 : Nat) (_ : Unit) : Rd (Bool) (Unit) (Unit) := (bif (decide (Qal s_ ((k0 : Nat) : Int) < (97 : Int)) || decide (Qal s_ ((k0 : Nat) : Int) > (122 : Int))) then (.ret false) else (.next ()))
def Uh (_ : Nat) (_ : Unit) : Unit := ()
def Wr (s_ : ByteArray) (most : Int) : Bool := (Out.on (Hu (V7 s_) Uh (Int.toNat (ByteArray.size s_ : Int)) 0 ()) (fun _ => (Xr (ByteArray.size s_ : Int) 1 most)))
theorem specl02Text_a (s_ : ByteArray) (most : Int) : ACalls Tryz.prog 236 [.s s_, .i most] (.b (Wr s_ most)) := by
 refine Qt (tt := tt) Qb Tryz.func236 (fn := Tryz.f236) rfl (by unfold Jr; kernel_rfl) (Nat.le_of_ble_eq_true rfl) fun w0 F0 hG => ?_
 refine Qa ?_
 refine rk Qb [(4, .b false)] [] [] [] [] (o0) ?_
 refine Qa ?_
 refine Qa ?_
 refine rk Qb [(5, .i 0)] [] [] [] [] (o0) ?_
 refine stT 0 0 s_ (fun hs1 => ?_)
 refine blk (fun (k0 : Nat) (s0 : Unit) => [(5, .i ((k0 : Nat) : Int))]) [5] (fun k0 s0 => []) [] (fun (y0 : Unit) => []) [5] (fun y0 => []) [] (fun (k0 : Nat) (s0 : Unit) => (Hu (V7 s_) Uh (Int.toNat (ByteArray.size s_ : Int)) 0 ()) = Hu (V7 s_) Uh ((Int.toNat (ByteArray.size s_ : Int)) - k0) k0 s0) (fun (y0 : Unit) => (Hu (V7 s_) Uh (Int.toNat (ByteArray.size s_ : Int)) 0 ()) = .brk y0) (Int.toNat (ByteArray.size s_ : Int)) () (Qd (by kernel_rfl)) rfl (fun k0 s0 hk0 hI0 => ?_) (fun k0 s0 hk0 hI0 => ?_) (fun y0 hD0 => ?_)
 ·
  refine Qa ?_
  refine Qa ?_
  refine rk Qb [(9, .b true)] [] [] [] [(3, .val (.b true))] (o1 (Qi (Qh (decide_eq_true (p := ((k0 : Nat) : Int) < (ByteArray.size s_ : Int)) (by omega))))) ?_
  refine ckT ?_
  refine Qr ?_
  refine Qa ?_
  refine Xf ?_
  refine Qa ?_
  refine jn [(21, .b (decide (Qal s_ ((k0 : Nat) : Int) < (97 : Int)) || decide (Qal s_ ((k0 : Nat) : Int) > (122 : Int))))] [9] [] [] (decide (Qal s_ ((k0 : Nat) : Int) < (97 : Int))) (fun h2 => ?_) (fun h2 => ?_) ?_
  ·
   have h2d := of_decide_eq_true h2
   refine rk Qb [(21, .b true)] [9] [] [] [(3, .val (.b true))] (o2 (ob_idx (i := ((k0 : Nat) : Int)) (n := (ByteArray.size s_)) (by omega)) (o1 (Qi (Qh h2)))) ?_
   exact ⟨rfl, Qd (by rw [h2]; first | done | kernel_rfl)⟩
  ·
   have h2d := of_decide_eq_false h2
   refine rk Qb [(21, .b (decide (Qal s_ ((k0 : Nat) : Int) > (122 : Int))))] [9] [] [] [(3, .val (.b false))] (o2 (ob_idx (i := ((k0 : Nat) : Int)) (n := (ByteArray.size s_)) (by omega)) (o2 (Qi (Qh h2)) (o1 (ob_idx (i := ((k0 : Nat) : Int)) (n := (ByteArray.size s_)) (by omega))))) ?_
   exact ⟨rfl, Qd (by rw [h2]; first | done | kernel_rfl)⟩
  refine ck (decide (Qal s_ ((k0 : Nat) : Int) < (97 : Int)) || decide (Qal s_ ((k0 : Nat) : Int) > (122 : Int))) (fun h3 => ?_) (fun h3 => ?_)
  ·
   refine Qa ?_
   refine rk Qb [] [21] [] [] [] (o0) ?_
   refine Qq ?_
   have hr4 : (Hu (V7 s_) Uh (Int.toNat (ByteArray.size s_ : Int)) 0 ()) = .ret false := forN_ret hk0 (X8 h3 (rfl)) hI0
   exact Ze [] (congrArg (fun z => (.b z : AV)) (show Wr s_ most = false from on_r hr4).symm)
  ·
   have h3l : (decide (Qal s_ ((k0 : Nat) : Int) < (97 : Int))) = false := or_l h3
   have h3ld := of_decide_eq_false h3l
   have h3r : (decide (Qal s_ ((k0 : Nat) : Int) > (122 : Int))) = false := or_r h3
   have h3rd := of_decide_eq_false h3r
   refine Qr ?_
   refine rk Qb [(5, .i ((k0 + 1 : Nat) : Int))] [5, 21] [] [] [(1, .val (.i ((k0 + 1 : Nat) : Int)))] (o1 (Qi (Km (Q8 k0 (by omega))))) ?_
   exact Exists.intro () (And.intro (Qd (by kernel_rfl)) (Vh hk0 (Q6 h3 (rfl)) hI0))
 ·
  refine Qa ?_
  refine Qa ?_
  refine rk Qb [(9, .b false)] [] [] [] [(3, .val (.b false))] (o1 (Qi (Qh (decide_eq_false (p := ((k0 : Nat) : Int) < (ByteArray.size s_ : Int)) (by omega))))) ?_
  refine ckF ?_
  refine Xt ?_
  exact Exists.intro () (And.intro (Qd (by kernel_rfl)) (Qbu hk0 (rfl) hI0))
 ·
  refine Qa ?_
  refine rk Qb [(4, .b (Xr (ByteArray.size s_ : Int) 1 most))] [0, 1, 4] [] [] [(3, .val (.b (Xr (ByteArray.size s_ : Int) 1 most)))] (o1 (Qg (Jz (ByteArray.size s_ : Int) 1 most))) ?_
  refine Qq ?_
  exact Ze [] (congrArg (fun z => (.b z : AV)) (show Wr s_ most = (Xr (ByteArray.size s_ : Int) 1 most) from Hk hD0 (rfl)).symm)
def Yk (s_ : ByteArray) : Bool := (Wr s_ 6)
theorem Jo (s_ : ByteArray) : ACalls Tryz.prog 214 [.s s_] (.b (Yk s_)) := by
 refine Qt (tt := tt) Qb Tryz.func214 (fn := Tryz.f214) rfl (by unfold Jr; kernel_rfl) (Nat.le_of_ble_eq_true rfl) fun w0 F0 hG => ?_
 refine Qa ?_
 refine rk Qb [(2, .b false)] [] [] [] [] (o0) ?_
 refine Qa ?_
 refine rk Qb [(2, .b (Wr s_ 6))] [0, 2] [] [] [(1, .val (.b (Wr s_ 6)))] (o1 (Qg (specl02Text_a s_ 6))) ?_
 refine Qq ?_
 exact Ze [] (congrArg (fun z => (.b z : AV)) (show Yk s_ = (Wr s_ 6) from rfl).symm)
def Zi (v : Qee) : Bool := (bif (v.1 == (0 : Int)) then ((v.1 == 0) && ((v.2.1 == 0) && ((v.2.2.toList == (⟨#[]⟩ : ByteArray).toList) && true))) else (bif (v.1 == (1 : Int)) then ((Xr v.2.1 0 999) && (v.2.2.toList == (⟨#[]⟩ : ByteArray).toList)) else (bif (v.1 == (2 : Int)) then ((Yk v.2.2) && (v.2.1 == (0 : Int))) else false)))
theorem Ji (v : Qee) : ACalls Tryz.prog 194 [.a [.i v.1, .i v.2.1, .s v.2.2]] (.b (Zi v)) := by
 refine Qt (tt := tt) Qb Tryz.func194 (fn := Tryz.f194) rfl (by unfold Jr; kernel_rfl) (Nat.le_of_ble_eq_true rfl) fun w0 F0 hG => ?_
 refine Qa ?_
 refine rk Qb [(1, .p 1 0), (2, .b false)] [0] [(1, [.i v.1, .i v.2.1, .s v.2.2])] [] [] (o0) ?_
 refine Qa ?_
 refine Qa ?_
 refine rk Qb [(4, .i v.1)] [] [] [] [] (o0) ?_
 refine Xf ?_
 refine Qa ?_
 refine rk Qb [(5, .b (v.1 == (0 : Int)))] [] [] [] [] (o0) ?_
 refine ck (v.1 == (0 : Int)) (fun h1 => ?_) (fun h1 => ?_)
 ·
  refine Qa ?_
  refine rk Qb [(2, .b ((v.1 == 0) && ((v.2.1 == 0) && ((v.2.2.toList == (⟨#[]⟩ : ByteArray).toList) && true))))] [1, 2, 4, 5] [] [1] [] (o0) ?_
  refine Qq ?_
  exact Ze [] (congrArg (fun z => (.b z : AV)) (show Zi v = ((v.1 == 0) && ((v.2.1 == 0) && ((v.2.2.toList == (⟨#[]⟩ : ByteArray).toList) && true))) from X8 h1 (rfl)).symm)
 ·
  refine Qa ?_
  refine rk Qb [(10, .b (v.1 == (1 : Int)))] [5] [] [] [] (o0) ?_
  refine ck (v.1 == (1 : Int)) (fun h2 => ?_) (fun h2 => ?_)
  ·
   refine Qa ?_
   refine jn [(2, .b ((Xr v.2.1 0 999) && (v.2.2.toList == (⟨#[]⟩ : ByteArray).toList)))] [1, 2, 4, 10] [] [1] (Xr v.2.1 0 999) (fun h3 => ?_) (fun h3 => ?_) ?_
   ·
    refine rk Qb [(2, .b (v.2.2.toList == (⟨#[]⟩ : ByteArray).toList))] [1, 2, 4, 10] [] [1] [(2, .val (.b true))] (o1 (Qg (cb h3 (Jz v.2.1 0 999)))) ?_
    exact ⟨rfl, Qd (by rw [h3]; first | done | kernel_rfl)⟩
   ·
    refine rk Qb [] [1, 4, 10] [] [1] [(2, .val (.b false))] (o1 (Qg (cb h3 (Jz v.2.1 0 999)))) ?_
    exact ⟨rfl, Qd (by rw [h3]; first | done | kernel_rfl)⟩
   refine Qq ?_
   exact Ze [] (congrArg (fun z => (.b z : AV)) (show Zi v = ((Xr v.2.1 0 999) && (v.2.2.toList == (⟨#[]⟩ : ByteArray).toList)) from Q6 h1 (X8 h2 (rfl))).symm)
  ·
   refine Qa ?_
   refine rk Qb [(20, .b (v.1 == (2 : Int)))] [4, 10] [] [] [] (o0) ?_
   refine ck (v.1 == (2 : Int)) (fun h4 => ?_) (fun h4 => ?_)
   ·
    refine Qa ?_
    refine jn [(2, .b ((Yk v.2.2) && (v.2.1 == (0 : Int))))] [1, 2, 20] [] [1] (Yk v.2.2) (fun h5 => ?_) (fun h5 => ?_) ?_
    ·
     refine rk Qb [(2, .b (v.2.1 == (0 : Int)))] [1, 2, 20] [] [1] [(2, .val (.b true))] (o1 (Qg (cb h5 (Jo v.2.2)))) ?_
     exact ⟨rfl, Qd (by rw [h5]; first | done | kernel_rfl)⟩
    ·
     refine rk Qb [] [1, 20] [] [1] [(2, .val (.b false))] (o1 (Qg (cb h5 (Jo v.2.2)))) ?_
     exact ⟨rfl, Qd (by rw [h5]; first | done | kernel_rfl)⟩
    refine Qq ?_
    exact Ze [] (congrArg (fun z => (.b z : AV)) (show Zi v = ((Yk v.2.2) && (v.2.1 == (0 : Int))) from Q6 h1 (Q6 h2 (X8 h4 (rfl)))).symm)
   ·
    refine Qr ?_
    refine Qa ?_
    refine rk Qb [] [1, 20] [] [1] [] (o0) ?_
    refine Qq ?_
    exact Ze [] (congrArg (fun z => (.b z : AV)) (show Zi v = false from Q6 h1 (Q6 h2 (Q6 h4 (rfl)))).symm)
def X5 (s_ : ByteArray) : Bool := (Wr s_ 1)
theorem Yu (s_ : ByteArray) : ACalls Tryz.prog 193 [.s s_] (.b (X5 s_)) := by
 refine Qt (tt := tt) Qb Tryz.func193 (fn := Tryz.f193) rfl (by unfold Jr; kernel_rfl) (Nat.le_of_ble_eq_true rfl) fun w0 F0 hG => ?_
 refine Qa ?_
 refine rk Qb [(2, .b false)] [] [] [] [] (o0) ?_
 refine Qa ?_
 refine rk Qb [(2, .b (Wr s_ 1))] [0, 2] [] [] [(1, .val (.b (Wr s_ 1)))] (o1 (Qg (specl02Text_a s_ 1))) ?_
 refine Qq ?_
 exact Ze [] (congrArg (fun z => (.b z : AV)) (show X5 s_ = (Wr s_ 1) from rfl).symm)
def Yn (s_ : ByteArray) : Bool := (((ByteArray.size s_ : Int) == (1 : Int)) && (decide (Qal s_ 0 ≥ (97 : Int)) && decide (Qal s_ 0 ≤ (122 : Int))))
theorem Zq (s_ : ByteArray) : ACalls Tryz.prog 237 [.s s_] (.b (Yn s_)) := by
 refine Qt (tt := tt) Qb Tryz.func237 (fn := Tryz.f237) rfl (by unfold Jr; kernel_rfl) (Nat.le_of_ble_eq_true rfl) fun w0 F0 hG => ?_
 refine Qa ?_
 refine rk Qb [(2, .b false)] [] [] [] [] (o0) ?_
 refine Qa ?_
 refine jn [(2, .b (((ByteArray.size s_ : Int) == (1 : Int)) && (decide (Qal s_ 0 ≥ (97 : Int)) && decide (Qal s_ 0 ≤ (122 : Int)))))] [0, 2] [] [] ((ByteArray.size s_ : Int) == (1 : Int)) (fun h1 => ?_) (fun h1 => ?_) ?_
 ·
  have h1d := eq_of_beq h1
  refine X9 (decide (Qal s_ 0 ≥ (97 : Int))) (fun h2 => ?_) (fun h2 => ?_)
  ·
   have h2d := of_decide_eq_true h2
   refine rk Qb [(2, .b (decide (Qal s_ 0 ≤ (122 : Int))))] [0, 2] [] [] [(2, .val (.b true)), (6, .val (.b true))] (o2 (Qi (Qh h1)) (o2 (ob_idx (i := 0) (n := (ByteArray.size s_)) (by omega)) (o2 (Qi (Qh h2)) (o1 (ob_idx (i := 0) (n := (ByteArray.size s_)) (by omega)))))) ?_
   exact ⟨rfl, Qd (by rw [h1, h2]; first | done | kernel_rfl)⟩
  ·
   have h2d := of_decide_eq_false h2
   refine rk Qb [] [0] [] [] [(2, .val (.b true)), (6, .val (.b false))] (o2 (Qi (Qh h1)) (o2 (ob_idx (i := 0) (n := (ByteArray.size s_)) (by omega)) (o1 (Qi (Qh h2))))) ?_
   exact ⟨rfl, Qd (by rw [h1, h2]; first | done | kernel_rfl)⟩
 ·
  refine rk Qb [] [0] [] [] [(2, .val (.b false))] (o1 (Qi (Qh h1))) ?_
  exact ⟨rfl, Qd (by rw [h1]; first | done | kernel_rfl)⟩
 refine Qq ?_
 exact Ze [] (congrArg (fun z => (.b z : AV)) (show Yn s_ = (((ByteArray.size s_ : Int) == (1 : Int)) && (decide (Qal s_ 0 ≥ (97 : Int)) && decide (Qal s_ 0 ≤ (122 : Int)))) from rfl).symm)
def Y0 (n : Zo) (at_ : Int) : Bool := (bif (n.1 == (1 : Int)) then ((n.1 == n.1) && ((n.2.1 == 0) && ((n.2.2.1 == 0) && ((n.2.2.2.1.toList == (⟨#[]⟩ : ByteArray).toList) && ((n.2.2.2.2.1 == 0) && ((n.2.2.2.2.2.1 == 0) && ((n.2.2.2.2.2.2.toList == (⟨#[]⟩ : ByteArray).toList) && true))))))) else (bif (n.1 == (2 : Int)) then (((n.1 == n.1) && ((n.2.1 == 0) && ((n.2.2.1 == 0) && ((n.2.2.2.1.toList == n.2.2.2.1.toList) && ((n.2.2.2.2.1 == 0) && ((n.2.2.2.2.2.1 == 0) && ((n.2.2.2.2.2.2.toList == (⟨#[]⟩ : ByteArray).toList) && true))))))) && (Yn n.2.2.2.1)) else (bif (bif (n.1 == (3 : Int)) then (n.1 == (3 : Int)) else (n.1 == (4 : Int))) then (((n.1 == n.1) && ((n.2.1 == 0) && ((n.2.2.1 == 0) && ((n.2.2.2.1.toList == n.2.2.2.1.toList) && ((n.2.2.2.2.1 == n.2.2.2.2.1) && ((n.2.2.2.2.2.1 == n.2.2.2.2.2.1) && ((n.2.2.2.2.2.2.toList == n.2.2.2.2.2.2.toList) && true))))))) && ((Yn n.2.2.2.1) && ((Z9 n.2.2.2.2) && ((n.2.2.2.2.1 != (0 : Int)) && ((n.1 == (3 : Int)) || (n.2.2.2.2.1 == (1 : Int))))))) else (bif (n.1 == (5 : Int)) then (((n.1 == n.1) && ((n.2.1 == n.2.1) && ((n.2.2.1 == 0) && ((n.2.2.2.1.toList == (⟨#[]⟩ : ByteArray).toList) && ((n.2.2.2.2.1 == 0) && ((n.2.2.2.2.2.1 == 0) && ((n.2.2.2.2.2.2.toList == (⟨#[]⟩ : ByteArray).toList) && true))))))) && (decide (at_ > (0 : Int)) && (Xy n.2.1 0 (IntKind.i64.wrap (at_ - 1))))) else (bif (bif (n.1 == (6 : Int)) then (n.1 == (6 : Int)) else (n.1 == (7 : Int))) then (((n.1 == n.1) && ((n.2.1 == n.2.1) && ((n.2.2.1 == n.2.2.1) && ((n.2.2.2.1.toList == (⟨#[]⟩ : ByteArray).toList) && ((n.2.2.2.2.1 == 0) && ((n.2.2.2.2.2.1 == 0) && ((n.2.2.2.2.2.2.toList == (⟨#[]⟩ : ByteArray).toList) && true))))))) && (decide (at_ > (0 : Int)) && ((Xy n.2.1 0 (IntKind.i64.wrap (at_ - 1))) && (Xy n.2.2.1 0 (IntKind.i64.wrap (at_ - 1)))))) else (bif (n.1 == (8 : Int)) then (((n.1 == n.1) && ((n.2.1 == 0) && ((n.2.2.1 == 0) && ((n.2.2.2.1.toList == n.2.2.2.1.toList) && ((n.2.2.2.2.1 == 0) && ((n.2.2.2.2.2.1 == 0) && ((n.2.2.2.2.2.2.toList == (⟨#[]⟩ : ByteArray).toList) && true))))))) && (X7 n.2.2.2.1)) else (bif (n.1 == (9 : Int)) then (((n.1 == n.1) && ((n.2.1 == 0) && ((n.2.2.1 == 0) && ((n.2.2.2.1.toList == n.2.2.2.1.toList) && ((n.2.2.2.2.1 == 0) && ((n.2.2.2.2.2.1 == 0) && ((n.2.2.2.2.2.2.toList == (⟨#[]⟩ : ByteArray).toList) && true))))))) && (X7 n.2.2.2.1)) else false)))))))
theorem Qc3 (n : Zo) (at_ : Int) : ACalls Tryz.prog 197 [.a [.i n.1, .i n.2.1, .i n.2.2.1, .s n.2.2.2.1, .i n.2.2.2.2.1, .i n.2.2.2.2.2.1, .s n.2.2.2.2.2.2], .i at_] (.b (Y0 n at_)) := by
 refine Qt (tt := tt) Qb Tryz.func197 (fn := Tryz.f197) rfl (by unfold Jr; kernel_rfl) (Nat.le_of_ble_eq_true rfl) fun w0 F0 hG => ?_
 refine Qa ?_
 refine rk Qb [(2, .p 2 0), (4, .b false)] [0] [(2, [.i n.1, .i n.2.1, .i n.2.2.1, .s n.2.2.2.1, .i n.2.2.2.2.1, .i n.2.2.2.2.2.1, .s n.2.2.2.2.2.2])] [] [] (o0) ?_
 refine Qa ?_
 refine rk Qb [(5, .p 5 0)] [] [(5, [.i n.1, .i 0, .i 0, .s ⟨#[]⟩, .i 0, .i 0, .s ⟨#[]⟩])] [] [] (o0) ?_
 refine Qa ?_
 refine Qa ?_
 refine rk Qb [(10, .i n.1)] [] [] [] [] (o0) ?_
 refine Xf ?_
 refine Qa ?_
 refine rk Qb [(11, .b (n.1 == (1 : Int)))] [] [] [] [] (o0) ?_
 refine ck (n.1 == (1 : Int)) (fun h1 => ?_) (fun h1 => ?_)
 ·
  refine Qr ?_
  refine Qa ?_
  refine rk Qb [(4, .b ((n.1 == n.1) && ((n.2.1 == 0) && ((n.2.2.1 == 0) && ((n.2.2.2.1.toList == (⟨#[]⟩ : ByteArray).toList) && ((n.2.2.2.2.1 == 0) && ((n.2.2.2.2.2.1 == 0) && ((n.2.2.2.2.2.2.toList == (⟨#[]⟩ : ByteArray).toList) && true))))))))] [1, 2, 4, 5, 10, 11] [] [2, 5] [] (o0) ?_
  refine Qq ?_
  exact Ze [] (congrArg (fun z => (.b z : AV)) (show Y0 n at_ = ((n.1 == n.1) && ((n.2.1 == 0) && ((n.2.2.1 == 0) && ((n.2.2.2.1.toList == (⟨#[]⟩ : ByteArray).toList) && ((n.2.2.2.2.1 == 0) && ((n.2.2.2.2.2.1 == 0) && ((n.2.2.2.2.2.2.toList == (⟨#[]⟩ : ByteArray).toList) && true))))))) from X8 h1 (rfl)).symm)
 ·
  refine Qa ?_
  refine rk Qb [(13, .b (n.1 == (2 : Int)))] [11] [] [] [] (o0) ?_
  refine ck (n.1 == (2 : Int)) (fun h2 => ?_) (fun h2 => ?_)
  ·
   refine Qa ?_
   refine rk Qb [] [1, 10, 13] [(5, [.i n.1, .i 0, .i 0, .s n.2.2.2.1, .i 0, .i 0, .s ⟨#[]⟩])] [5] [] (o0) ?_
   refine Qa ?_
   refine jn [(4, .b (((n.1 == n.1) && ((n.2.1 == 0) && ((n.2.2.1 == 0) && ((n.2.2.2.1.toList == n.2.2.2.1.toList) && ((n.2.2.2.2.1 == 0) && ((n.2.2.2.2.2.1 == 0) && ((n.2.2.2.2.2.2.toList == (⟨#[]⟩ : ByteArray).toList) && true))))))) && (Yn n.2.2.2.1)))] [4] [] [] ((n.1 == n.1) && ((n.2.1 == 0) && ((n.2.2.1 == 0) && ((n.2.2.2.1.toList == n.2.2.2.1.toList) && ((n.2.2.2.2.1 == 0) && ((n.2.2.2.2.2.1 == 0) && ((n.2.2.2.2.2.2.toList == (⟨#[]⟩ : ByteArray).toList) && true))))))) (fun h3 => ?_) (fun h3 => ?_) ?_
   ·
    refine rk Qb [(4, .b (Yn n.2.2.2.1))] [4] [] [] [(2, .val (.b true)), (6, .val (.b (Yn n.2.2.2.1)))] (o2 (Qi (Qh h3)) (o1 (Qg (Zq n.2.2.2.1)))) ?_
    exact ⟨rfl, Qd (by rw [h3]; first | done | kernel_rfl)⟩
   ·
    refine rk Qb [] [] [] [] [(2, .val (.b false))] (o1 (Qi (Qh h3))) ?_
    exact ⟨rfl, Qd (by rw [h3]; first | done | kernel_rfl)⟩
   refine Qq ?_
   exact Ze [] (congrArg (fun z => (.b z : AV)) (show Y0 n at_ = (((n.1 == n.1) && ((n.2.1 == 0) && ((n.2.2.1 == 0) && ((n.2.2.2.1.toList == n.2.2.2.1.toList) && ((n.2.2.2.2.1 == 0) && ((n.2.2.2.2.2.1 == 0) && ((n.2.2.2.2.2.2.toList == (⟨#[]⟩ : ByteArray).toList) && true))))))) && (Yn n.2.2.2.1)) from Q6 h1 (X8 h2 (rfl))).symm)
  ·
   refine Qa ?_
   refine Qa ?_
   refine rk Qb [(26, .b (n.1 == (3 : Int)))] [13] [] [] [] (o0) ?_
   refine jn [(26, .b (bif (n.1 == (3 : Int)) then (n.1 == (3 : Int)) else (n.1 == (4 : Int))))] [26] [] [] (n.1 == (3 : Int)) (fun h4 => ?_) (fun h4 => ?_) ?_
   ·
    refine ckt h4 ?_
    refine Qr ?_
    exact ⟨rfl, Qd (by rw [h4]; first | done | kernel_rfl)⟩
   ·
    refine ckf h4 ?_
    refine rk Qb [(26, .b (n.1 == (4 : Int)))] [26] [] [] [] (o0) ?_
    exact ⟨rfl, Qd (by rw [h4]; first | done | kernel_rfl)⟩
   refine ck (bif (n.1 == (3 : Int)) then (n.1 == (3 : Int)) else (n.1 == (4 : Int))) (fun h5 => ?_) (fun h5 => ?_)
   ·
    refine Qa ?_
    refine rd' Qb Js [] [1, 10, 26] [(5, [.i n.1, .i 0, .i 0, .s n.2.2.2.1, .i n.2.2.2.2.1, .i n.2.2.2.2.2.1, .s n.2.2.2.2.2.2])] [5] [] (o0) ?_
    refine Qa ?_
    refine jn [(4, .b (((n.1 == n.1) && ((n.2.1 == 0) && ((n.2.2.1 == 0) && ((n.2.2.2.1.toList == n.2.2.2.1.toList) && ((n.2.2.2.2.1 == n.2.2.2.2.1) && ((n.2.2.2.2.2.1 == n.2.2.2.2.2.1) && ((n.2.2.2.2.2.2.toList == n.2.2.2.2.2.2.toList) && true))))))) && ((Yn n.2.2.2.1) && ((Z9 n.2.2.2.2) && ((n.2.2.2.2.1 != (0 : Int)) && ((n.1 == (3 : Int)) || (n.2.2.2.2.1 == (1 : Int))))))))] [4] [] [] ((n.1 == n.1) && ((n.2.1 == 0) && ((n.2.2.1 == 0) && ((n.2.2.2.1.toList == n.2.2.2.1.toList) && ((n.2.2.2.2.1 == n.2.2.2.2.1) && ((n.2.2.2.2.2.1 == n.2.2.2.2.2.1) && ((n.2.2.2.2.2.2.toList == n.2.2.2.2.2.2.toList) && true))))))) (fun h6 => ?_) (fun h6 => ?_) ?_
    ·
     refine X9 (Yn n.2.2.2.1) (fun h7 => ?_) (fun h7 => ?_)
     ·
      refine X9 (Z9 n.2.2.2.2) (fun h8 => ?_) (fun h8 => ?_)
      ·
       refine X9 (n.2.2.2.2.1 != (0 : Int)) (fun h9 => ?_) (fun h9 => ?_)
       ·
        refine X9 (n.1 == (3 : Int)) (fun h10 => ?_) (fun h10 => ?_)
        ·
         refine rk Qb [(4, .b true)] [4] [] [] [(2, .val (.b true)), (6, .val (.b true)), (11, .val (.b true)), (17, .val (.b true)), (22, .val (.b true))] (o2 (Qi (Qh h6)) (o2 (Qg (cb h7 (Zq n.2.2.2.1))) (o2 (Qg (cb h8 (Vi n.2.2.2.2))) (o2 (Qi (Qh h9)) (o1 (Qi (Qh h10))))))) ?_
         exact ⟨rfl, Qd (by rw [h6, h7, h8, h9, h10]; first | done | kernel_rfl)⟩
        ·
         refine rk Qb [(4, .b (n.2.2.2.2.1 == (1 : Int)))] [4] [] [] [(2, .val (.b true)), (6, .val (.b true)), (11, .val (.b true)), (17, .val (.b true)), (22, .val (.b false))] (o2 (Qi (Qh h6)) (o2 (Qg (cb h7 (Zq n.2.2.2.1))) (o2 (Qg (cb h8 (Vi n.2.2.2.2))) (o2 (Qi (Qh h9)) (o1 (Qi (Qh h10))))))) ?_
         exact ⟨rfl, Qd (by rw [h6, h7, h8, h9, h10]; first | done | kernel_rfl)⟩
       ·
        refine rk Qb [] [] [] [] [(2, .val (.b true)), (6, .val (.b true)), (11, .val (.b true)), (17, .val (.b false))] (o2 (Qi (Qh h6)) (o2 (Qg (cb h7 (Zq n.2.2.2.1))) (o2 (Qg (cb h8 (Vi n.2.2.2.2))) (o1 (Qi (Qh h9)))))) ?_
        exact ⟨rfl, Qd (by rw [h6, h7, h8, h9]; first | done | kernel_rfl)⟩
      ·
       refine rk Qb [] [] [] [] [(2, .val (.b true)), (6, .val (.b true)), (11, .val (.b false))] (o2 (Qi (Qh h6)) (o2 (Qg (cb h7 (Zq n.2.2.2.1))) (o1 (Qg (cb h8 (Vi n.2.2.2.2)))))) ?_
       exact ⟨rfl, Qd (by rw [h6, h7, h8]; first | done | kernel_rfl)⟩
     ·
      refine rk Qb [] [] [] [] [(2, .val (.b true)), (6, .val (.b false))] (o2 (Qi (Qh h6)) (o1 (Qg (cb h7 (Zq n.2.2.2.1))))) ?_
      exact ⟨rfl, Qd (by rw [h6, h7]; first | done | kernel_rfl)⟩
    ·
     refine rk Qb [] [] [] [] [(2, .val (.b false))] (o1 (Qi (Qh h6))) ?_
     exact ⟨rfl, Qd (by rw [h6]; first | done | kernel_rfl)⟩
    refine Qq ?_
    exact Ze [] (congrArg (fun z => (.b z : AV)) (show Y0 n at_ = (((n.1 == n.1) && ((n.2.1 == 0) && ((n.2.2.1 == 0) && ((n.2.2.2.1.toList == n.2.2.2.1.toList) && ((n.2.2.2.2.1 == n.2.2.2.2.1) && ((n.2.2.2.2.2.1 == n.2.2.2.2.2.1) && ((n.2.2.2.2.2.2.toList == n.2.2.2.2.2.2.toList) && true))))))) && ((Yn n.2.2.2.1) && ((Z9 n.2.2.2.2) && ((n.2.2.2.2.1 != (0 : Int)) && ((n.1 == (3 : Int)) || (n.2.2.2.2.1 == (1 : Int))))))) from Q6 h1 (Q6 h2 (X8 h5 (rfl)))).symm)
   ·
    refine Qa ?_
    refine rk Qb [(65, .b (n.1 == (5 : Int)))] [26] [] [] [] (o0) ?_
    refine ck (n.1 == (5 : Int)) (fun h11 => ?_) (fun h11 => ?_)
    ·
     refine Qa ?_
     refine rk Qb [] [10, 65] [(5, [.i n.1, .i n.2.1, .i 0, .s ⟨#[]⟩, .i 0, .i 0, .s ⟨#[]⟩])] [5] [] (o0) ?_
     refine Qa ?_
     refine jn [(4, .b (((n.1 == n.1) && ((n.2.1 == n.2.1) && ((n.2.2.1 == 0) && ((n.2.2.2.1.toList == (⟨#[]⟩ : ByteArray).toList) && ((n.2.2.2.2.1 == 0) && ((n.2.2.2.2.2.1 == 0) && ((n.2.2.2.2.2.2.toList == (⟨#[]⟩ : ByteArray).toList) && true))))))) && (decide (at_ > (0 : Int)) && (Xy n.2.1 0 (IntKind.i64.wrap (at_ - 1))))))] [1, 4] [] [] ((n.1 == n.1) && ((n.2.1 == n.2.1) && ((n.2.2.1 == 0) && ((n.2.2.2.1.toList == (⟨#[]⟩ : ByteArray).toList) && ((n.2.2.2.2.1 == 0) && ((n.2.2.2.2.2.1 == 0) && ((n.2.2.2.2.2.2.toList == (⟨#[]⟩ : ByteArray).toList) && true))))))) (fun h12 => ?_) (fun h12 => ?_) ?_
     ·
      refine X9 (decide (at_ > (0 : Int))) (fun h13 => ?_) (fun h13 => ?_)
      ·
       refine rk Qb [(4, .b (Xy n.2.1 0 (IntKind.i64.wrap (at_ - 1))))] [1, 4] [] [] [(2, .val (.b true)), (5, .val (.b true)), (12, .val (.b (Xy n.2.1 0 (IntKind.i64.wrap (at_ - 1)))))] (o2 (Qi (Qh h12)) (o2 (Qi (Qh h13)) (o1 (Qg (Jx n.2.1 0 (IntKind.i64.wrap (at_ - 1))))))) ?_
       exact ⟨rfl, Qd (by rw [h12, h13]; first | done | kernel_rfl)⟩
      ·
       refine rk Qb [] [1] [] [] [(2, .val (.b true)), (5, .val (.b false))] (o2 (Qi (Qh h12)) (o1 (Qi (Qh h13)))) ?_
       exact ⟨rfl, Qd (by rw [h12, h13]; first | done | kernel_rfl)⟩
     ·
      refine rk Qb [] [1] [] [] [(2, .val (.b false))] (o1 (Qi (Qh h12))) ?_
      exact ⟨rfl, Qd (by rw [h12]; first | done | kernel_rfl)⟩
     refine Qq ?_
     exact Ze [] (congrArg (fun z => (.b z : AV)) (show Y0 n at_ = (((n.1 == n.1) && ((n.2.1 == n.2.1) && ((n.2.2.1 == 0) && ((n.2.2.2.1.toList == (⟨#[]⟩ : ByteArray).toList) && ((n.2.2.2.2.1 == 0) && ((n.2.2.2.2.2.1 == 0) && ((n.2.2.2.2.2.2.toList == (⟨#[]⟩ : ByteArray).toList) && true))))))) && (decide (at_ > (0 : Int)) && (Xy n.2.1 0 (IntKind.i64.wrap (at_ - 1))))) from Q6 h1 (Q6 h2 (Q6 h5 (X8 h11 (rfl))))).symm)
    ·
     refine Qa ?_
     refine Qa ?_
     refine rk Qb [(84, .b (n.1 == (6 : Int)))] [65] [] [] [] (o0) ?_
     refine jn [(84, .b (bif (n.1 == (6 : Int)) then (n.1 == (6 : Int)) else (n.1 == (7 : Int))))] [84] [] [] (n.1 == (6 : Int)) (fun h14 => ?_) (fun h14 => ?_) ?_
     ·
      refine ckt h14 ?_
      refine Qr ?_
      exact ⟨rfl, Qd (by rw [h14]; first | done | kernel_rfl)⟩
     ·
      refine ckf h14 ?_
      refine rk Qb [(84, .b (n.1 == (7 : Int)))] [84] [] [] [] (o0) ?_
      exact ⟨rfl, Qd (by rw [h14]; first | done | kernel_rfl)⟩
     refine ck (bif (n.1 == (6 : Int)) then (n.1 == (6 : Int)) else (n.1 == (7 : Int))) (fun h15 => ?_) (fun h15 => ?_)
     ·
      refine Qa ?_
      refine rd' Qb Js [] [10, 84] [(5, [.i n.1, .i n.2.1, .i n.2.2.1, .s ⟨#[]⟩, .i 0, .i 0, .s ⟨#[]⟩])] [5] [] (o0) ?_
      refine Qa ?_
      refine jn [(4, .b (((n.1 == n.1) && ((n.2.1 == n.2.1) && ((n.2.2.1 == n.2.2.1) && ((n.2.2.2.1.toList == (⟨#[]⟩ : ByteArray).toList) && ((n.2.2.2.2.1 == 0) && ((n.2.2.2.2.2.1 == 0) && ((n.2.2.2.2.2.2.toList == (⟨#[]⟩ : ByteArray).toList) && true))))))) && (decide (at_ > (0 : Int)) && ((Xy n.2.1 0 (IntKind.i64.wrap (at_ - 1))) && (Xy n.2.2.1 0 (IntKind.i64.wrap (at_ - 1)))))))] [1, 4] [] [] ((n.1 == n.1) && ((n.2.1 == n.2.1) && ((n.2.2.1 == n.2.2.1) && ((n.2.2.2.1.toList == (⟨#[]⟩ : ByteArray).toList) && ((n.2.2.2.2.1 == 0) && ((n.2.2.2.2.2.1 == 0) && ((n.2.2.2.2.2.2.toList == (⟨#[]⟩ : ByteArray).toList) && true))))))) (fun h16 => ?_) (fun h16 => ?_) ?_
      ·
       refine X9 (decide (at_ > (0 : Int))) (fun h17 => ?_) (fun h17 => ?_)
       ·
        refine X9 (Xy n.2.1 0 (IntKind.i64.wrap (at_ - 1))) (fun h18 => ?_) (fun h18 => ?_)
        ·
         refine rk Qb [(4, .b (Xy n.2.2.1 0 (IntKind.i64.wrap (at_ - 1))))] [1, 4] [] [] [(2, .val (.b true)), (5, .val (.b true)), (12, .val (.b true)), (19, .val (.b (Xy n.2.2.1 0 (IntKind.i64.wrap (at_ - 1)))))] (o2 (Qi (Qh h16)) (o2 (Qi (Qh h17)) (o2 (Qg (cb h18 (Jx n.2.1 0 (IntKind.i64.wrap (at_ - 1))))) (o1 (Qg (Jx n.2.2.1 0 (IntKind.i64.wrap (at_ - 1)))))))) ?_
         exact ⟨rfl, Qd (by rw [h16, h17, h18]; first | done | kernel_rfl)⟩
        ·
         refine rk Qb [] [1] [] [] [(2, .val (.b true)), (5, .val (.b true)), (12, .val (.b false))] (o2 (Qi (Qh h16)) (o2 (Qi (Qh h17)) (o1 (Qg (cb h18 (Jx n.2.1 0 (IntKind.i64.wrap (at_ - 1)))))))) ?_
         exact ⟨rfl, Qd (by rw [h16, h17, h18]; first | done | kernel_rfl)⟩
       ·
        refine rk Qb [] [1] [] [] [(2, .val (.b true)), (5, .val (.b false))] (o2 (Qi (Qh h16)) (o1 (Qi (Qh h17)))) ?_
        exact ⟨rfl, Qd (by rw [h16, h17]; first | done | kernel_rfl)⟩
      ·
       refine rk Qb [] [1] [] [] [(2, .val (.b false))] (o1 (Qi (Qh h16))) ?_
       exact ⟨rfl, Qd (by rw [h16]; first | done | kernel_rfl)⟩
      refine Qq ?_
      exact Ze [] (congrArg (fun z => (.b z : AV)) (show Y0 n at_ = (((n.1 == n.1) && ((n.2.1 == n.2.1) && ((n.2.2.1 == n.2.2.1) && ((n.2.2.2.1.toList == (⟨#[]⟩ : ByteArray).toList) && ((n.2.2.2.2.1 == 0) && ((n.2.2.2.2.2.1 == 0) && ((n.2.2.2.2.2.2.toList == (⟨#[]⟩ : ByteArray).toList) && true))))))) && (decide (at_ > (0 : Int)) && ((Xy n.2.1 0 (IntKind.i64.wrap (at_ - 1))) && (Xy n.2.2.1 0 (IntKind.i64.wrap (at_ - 1)))))) from Q6 h1 (Q6 h2 (Q6 h5 (Q6 h11 (X8 h15 (rfl)))))).symm)
     ·
      refine Qa ?_
      refine Qa ?_
      refine rk Qb [(114, .b (n.1 == (8 : Int)))] [1, 84] [] [] [] (o0) ?_
      refine ck (n.1 == (8 : Int)) (fun h19 => ?_) (fun h19 => ?_)
      ·
       refine Qr ?_
       refine ckt h19 ?_
       refine Qa ?_
       refine rk Qb [] [10, 114] [(5, [.i n.1, .i 0, .i 0, .s n.2.2.2.1, .i 0, .i 0, .s ⟨#[]⟩])] [5] [] (o0) ?_
       refine Qa ?_
       refine jn [(4, .b (((n.1 == n.1) && ((n.2.1 == 0) && ((n.2.2.1 == 0) && ((n.2.2.2.1.toList == n.2.2.2.1.toList) && ((n.2.2.2.2.1 == 0) && ((n.2.2.2.2.2.1 == 0) && ((n.2.2.2.2.2.2.toList == (⟨#[]⟩ : ByteArray).toList) && true))))))) && (X7 n.2.2.2.1)))] [4] [] [] ((n.1 == n.1) && ((n.2.1 == 0) && ((n.2.2.1 == 0) && ((n.2.2.2.1.toList == n.2.2.2.1.toList) && ((n.2.2.2.2.1 == 0) && ((n.2.2.2.2.2.1 == 0) && ((n.2.2.2.2.2.2.toList == (⟨#[]⟩ : ByteArray).toList) && true))))))) (fun h20 => ?_) (fun h20 => ?_) ?_
       ·
        refine rk Qb [(4, .b (X7 n.2.2.2.1))] [4] [] [] [(2, .val (.b true)), (6, .val (.b (X7 n.2.2.2.1)))] (o2 (Qi (Qh h20)) (o1 (Qg (Kf n.2.2.2.1)))) ?_
        exact ⟨rfl, Qd (by rw [h20]; first | done | kernel_rfl)⟩
       ·
        refine rk Qb [] [] [] [] [(2, .val (.b false))] (o1 (Qi (Qh h20))) ?_
        exact ⟨rfl, Qd (by rw [h20]; first | done | kernel_rfl)⟩
       refine Qq ?_
       exact Ze [] (congrArg (fun z => (.b z : AV)) (show Y0 n at_ = (((n.1 == n.1) && ((n.2.1 == 0) && ((n.2.2.1 == 0) && ((n.2.2.2.1.toList == n.2.2.2.1.toList) && ((n.2.2.2.2.1 == 0) && ((n.2.2.2.2.2.1 == 0) && ((n.2.2.2.2.2.2.toList == (⟨#[]⟩ : ByteArray).toList) && true))))))) && (X7 n.2.2.2.1)) from Q6 h1 (Q6 h2 (Q6 h5 (Q6 h11 (Q6 h15 (X8 h19 (rfl))))))).symm)
      ·
       refine rk Qb [(114, .b (n.1 == (9 : Int)))] [10, 114] [] [] [] (o0) ?_
       refine ck (n.1 == (9 : Int)) (fun h21 => ?_) (fun h21 => ?_)
       ·
        refine Qa ?_
        refine rk Qb [] [114] [(5, [.i n.1, .i 0, .i 0, .s n.2.2.2.1, .i 0, .i 0, .s ⟨#[]⟩])] [5] [] (o0) ?_
        refine Qa ?_
        refine jn [(4, .b (((n.1 == n.1) && ((n.2.1 == 0) && ((n.2.2.1 == 0) && ((n.2.2.2.1.toList == n.2.2.2.1.toList) && ((n.2.2.2.2.1 == 0) && ((n.2.2.2.2.2.1 == 0) && ((n.2.2.2.2.2.2.toList == (⟨#[]⟩ : ByteArray).toList) && true))))))) && (X7 n.2.2.2.1)))] [4] [] [] ((n.1 == n.1) && ((n.2.1 == 0) && ((n.2.2.1 == 0) && ((n.2.2.2.1.toList == n.2.2.2.1.toList) && ((n.2.2.2.2.1 == 0) && ((n.2.2.2.2.2.1 == 0) && ((n.2.2.2.2.2.2.toList == (⟨#[]⟩ : ByteArray).toList) && true))))))) (fun h22 => ?_) (fun h22 => ?_) ?_
        ·
         refine rk Qb [(4, .b (X7 n.2.2.2.1))] [4] [] [] [(2, .val (.b true)), (6, .val (.b (X7 n.2.2.2.1)))] (o2 (Qi (Qh h22)) (o1 (Qg (Kf n.2.2.2.1)))) ?_
         exact ⟨rfl, Qd (by rw [h22]; first | done | kernel_rfl)⟩
        ·
         refine rk Qb [] [] [] [] [(2, .val (.b false))] (o1 (Qi (Qh h22))) ?_
         exact ⟨rfl, Qd (by rw [h22]; first | done | kernel_rfl)⟩
        refine Qq ?_
        exact Ze [] (congrArg (fun z => (.b z : AV)) (show Y0 n at_ = (((n.1 == n.1) && ((n.2.1 == 0) && ((n.2.2.1 == 0) && ((n.2.2.2.1.toList == n.2.2.2.1.toList) && ((n.2.2.2.2.1 == 0) && ((n.2.2.2.2.2.1 == 0) && ((n.2.2.2.2.2.2.toList == (⟨#[]⟩ : ByteArray).toList) && true))))))) && (X7 n.2.2.2.1)) from Q6 h1 (Q6 h2 (Q6 h5 (Q6 h11 (Q6 h15 (Q6 h19 (X8 h21 (rfl)))))))).symm)
       ·
        refine Qa ?_
        refine rk Qb [] [114] [] [] [] (o0) ?_
        refine Qq ?_
        exact Ze [] (congrArg (fun z => (.b z : AV)) (show Y0 n at_ = false from Q6 h1 (Q6 h2 (Q6 h5 (Q6 h11 (Q6 h15 (Q6 h19 (Q6 h21 (rfl)))))))).symm)
def Jf (at_ : Int) (_ : Nat) (a0 : Zo) (s0 : Int) : Rd (Int) (Int) (Int) := (bif ((a0.2.1 == at_) && (((a0.1 == (6 : Int)) || (a0.1 == (7 : Int))) || (a0.1 == (5 : Int)))) then (bif ((a0.2.2.1 == at_) && ((a0.1 == (6 : Int)) || (a0.1 == (7 : Int)))) then (.next (IntKind.i64.wrap (IntKind.i64.wrap (s0 + 1) + 1))) else (.next (IntKind.i64.wrap (s0 + 1)))) else (bif ((a0.2.2.1 == at_) && ((a0.1 == (6 : Int)) || (a0.1 == (7 : Int)))) then (.next (IntKind.i64.wrap (s0 + 1))) else (.next s0)))
def Kw (_ : Nat) (s0 : Int) : Int := s0
def Z2 (q : (List Zo)) (at_ : Int) : Int := (Out.on (Xv (Jf at_) Kw q 0 0) (fun y0 => y0))
theorem implCountReferences_a (q : (List Zo)) (at_ : Int) : ACalls Tryz.prog 198 [.h q, .i at_] (.i (Z2 q at_)) := by
 refine Qt (tt := tt) Qb Tryz.func198 (fn := Tryz.f198) rfl (by unfold Jr; kernel_rfl) (Nat.le_of_ble_eq_true rfl) fun w0 F0 hG => ?_
 refine Qa ?_
 refine rk Qb [(4, .i 0)] [] [] [] [] (o0) ?_
 refine Qa ?_
 refine rk Qb [(5, .i 0)] [] [] [] [] (o0) ?_
 refine Qa ?_
 refine Qa ?_
 refine rk Qb [(9, .h q), (10, .i (q.length : Int)), (11, .i 0)] [0] [] [] [(1, .val (.i (q.length : Int)))] (o1 (Qi (Xs q))) ?_
 refine wdT 9 0 .sh q (fun hw1 => ?_)
 have hl2 : List.length q ≤ 1073741824 := Qx (hw1)
 refine blk (fun (k0 : Nat) (s0 : Int) => [(5, .i s0), (11, .i ((k0 : Nat) : Int))]) [5, 11] (fun k0 s0 => []) [] (fun (y0 : Int) => [(5, .i y0)]) [1, 5, 9, 10, 11] (fun y0 => []) [] (fun (k0 : Nat) (s0 : Int) => (Xv (Jf at_) Kw q 0 0) = Xv (Jf at_) Kw (List.drop k0 q) k0 s0) (fun (y0 : Int) => (Xv (Jf at_) Kw q 0 0) = .brk y0) q.length 0 (Qd (by kernel_rfl)) rfl (fun k0 s0 hk0 hI0 => ?_) (fun k0 s0 hk0 hI0 => ?_) (fun y0 hD0 => ?_)
 ·
  obtain ⟨a0, hx0⟩ := Yl (l := q) (i := k0) hk0
  refine Qa ?_
  refine rk Qb [(12, .b true)] [] [] [] [(0, .val (.b true))] (o1 (Qi (Qh (decide_eq_true (p := ((k0 : Nat) : Int) < (q.length : Int)) (by omega))))) ?_
  refine Qa ?_
  refine ckT ?_
  refine Qr ?_
  refine Qa ?_
  refine Xf ?_
  refine Qa ?_
  refine rk Qb [(7, .p 7 0)] [12] [(7, [.i a0.1, .i a0.2.1, .i a0.2.2.1, .s a0.2.2.2.1, .i a0.2.2.2.2.1, .i a0.2.2.2.2.2.1, .s a0.2.2.2.2.2.2])] [] [(0, .row [.i a0.1, .i a0.2.1, .i a0.2.2.1, .s a0.2.2.2.1, .i a0.2.2.2.2.1, .i a0.2.2.2.2.2.1, .s a0.2.2.2.2.2.2])] (o1 (Qy (X4 (i := ((k0 : Nat) : Int)) (by omega) rfl hx0))) ?_
  refine Qa ?_
  refine jn [(8, .b ((a0.1 == (6 : Int)) || (a0.1 == (7 : Int))))] [] [] [] (a0.1 == (6 : Int)) (fun h3 => ?_) (fun h3 => ?_) ?_
  ·
   refine rk Qb [(8, .b true)] [] [] [] [(2, .val (.b true))] (o1 (Qi (Qh h3))) ?_
   exact ⟨rfl, Qd (by rw [h3]; first | done | kernel_rfl)⟩
  ·
   refine rk Qb [(8, .b (a0.1 == (7 : Int)))] [] [] [] [(2, .val (.b false))] (o1 (Qi (Qh h3))) ?_
   exact ⟨rfl, Qd (by rw [h3]; first | done | kernel_rfl)⟩
  refine Qa ?_
  refine Qa ?_
  refine jn [(34, .b ((a0.2.1 == at_) && (((a0.1 == (6 : Int)) || (a0.1 == (7 : Int))) || (a0.1 == (5 : Int)))))] [] [] [] (a0.2.1 == at_) (fun h4 => ?_) (fun h4 => ?_) ?_
  ·
   refine X9 ((a0.1 == (6 : Int)) || (a0.1 == (7 : Int))) (fun h5 => ?_) (fun h5 => ?_)
   ·
    refine rk Qb [(34, .b true)] [] [] [] [(3, .val (.b true)), (5, .val (.b true))] (o2 (Qi (Qh h4)) (o1 (Qi (Qh h5)))) ?_
    exact ⟨rfl, Qd (by rw [h4, h5]; first | done | kernel_rfl)⟩
   ·
    refine rk Qb [(34, .b (a0.1 == (5 : Int)))] [] [] [] [(3, .val (.b true)), (5, .val (.b false))] (o2 (Qi (Qh h4)) (o1 (Qi (Qh h5)))) ?_
    exact ⟨rfl, Qd (by rw [h4, h5]; first | done | kernel_rfl)⟩
  ·
   refine rk Qb [(34, .b false)] [] [] [] [(3, .val (.b false))] (o1 (Qi (Qh h4))) ?_
   exact ⟨rfl, Qd (by rw [h4]; first | done | kernel_rfl)⟩
  refine ck ((a0.2.1 == at_) && (((a0.1 == (6 : Int)) || (a0.1 == (7 : Int))) || (a0.1 == (5 : Int)))) (fun h6 => ?_) (fun h6 => ?_)
  ·
   have h6l : ((a0.2.1 == at_)) = true := and_l h6
   have h6ld := eq_of_beq h6l
   refine rk Qb [(5, .i (IntKind.i64.wrap (s0 + 1)))] [5, 34] [] [] [] (o0) ?_
   refine Qa ?_
   refine jn [(43, .b ((a0.2.2.1 == at_) && ((a0.1 == (6 : Int)) || (a0.1 == (7 : Int)))))] [7, 8] [] [7] (a0.2.2.1 == at_) (fun h7 => ?_) (fun h7 => ?_) ?_
   ·
    refine rk Qb [(43, .b ((a0.1 == (6 : Int)) || (a0.1 == (7 : Int))))] [7, 8] [] [7] [(3, .val (.b true))] (o1 (Qi (Qh h7))) ?_
    exact ⟨rfl, Qd (by rw [h7]; first | done | kernel_rfl)⟩
   ·
    refine rk Qb [(43, .b false)] [7, 8] [] [7] [(3, .val (.b false))] (o1 (Qi (Qh h7))) ?_
    exact ⟨rfl, Qd (by rw [h7]; first | done | kernel_rfl)⟩
   refine ck ((a0.2.2.1 == at_) && ((a0.1 == (6 : Int)) || (a0.1 == (7 : Int)))) (fun h8 => ?_) (fun h8 => ?_)
   ·
    have h8l : ((a0.2.2.1 == at_)) = true := and_l h8
    have h8ld := eq_of_beq h8l
    refine rk Qb [(5, .i (IntKind.i64.wrap (IntKind.i64.wrap (s0 + 1) + 1)))] [5, 43] [] [] [] (o0) ?_
    refine rk Qb [(11, .i ((k0 + 1 : Nat) : Int))] [11] [] [] [(0, .val (.i ((k0 + 1 : Nat) : Int)))] (o1 (Qi (Km (Q8 k0 (by omega))))) ?_
    exact Exists.intro (IntKind.i64.wrap (IntKind.i64.wrap (s0 + 1) + 1)) (And.intro (Qd (by kernel_rfl)) (Xe hx0 (X8 h6 (X8 h8 (rfl))) hI0))
   ·
    refine Qr ?_
    refine rk Qb [(11, .i ((k0 + 1 : Nat) : Int))] [11, 43] [] [] [(0, .val (.i ((k0 + 1 : Nat) : Int)))] (o1 (Qi (Km (Q8 k0 (by omega))))) ?_
    exact Exists.intro (IntKind.i64.wrap (s0 + 1)) (And.intro (Qd (by kernel_rfl)) (Xe hx0 (X8 h6 (Q6 h8 (rfl))) hI0))
  ·
   refine Qr ?_
   refine Qa ?_
   refine jn [(43, .b ((a0.2.2.1 == at_) && ((a0.1 == (6 : Int)) || (a0.1 == (7 : Int)))))] [7, 8, 34] [] [7] (a0.2.2.1 == at_) (fun h9 => ?_) (fun h9 => ?_) ?_
   ·
    refine rk Qb [(43, .b ((a0.1 == (6 : Int)) || (a0.1 == (7 : Int))))] [7, 8, 34] [] [7] [(3, .val (.b true))] (o1 (Qi (Qh h9))) ?_
    exact ⟨rfl, Qd (by rw [h9]; first | done | kernel_rfl)⟩
   ·
    refine rk Qb [(43, .b false)] [7, 8, 34] [] [7] [(3, .val (.b false))] (o1 (Qi (Qh h9))) ?_
    exact ⟨rfl, Qd (by rw [h9]; first | done | kernel_rfl)⟩
   refine ck ((a0.2.2.1 == at_) && ((a0.1 == (6 : Int)) || (a0.1 == (7 : Int)))) (fun h10 => ?_) (fun h10 => ?_)
   ·
    have h10l : ((a0.2.2.1 == at_)) = true := and_l h10
    have h10ld := eq_of_beq h10l
    refine rk Qb [(5, .i (IntKind.i64.wrap (s0 + 1)))] [5, 43] [] [] [] (o0) ?_
    refine rk Qb [(11, .i ((k0 + 1 : Nat) : Int))] [11] [] [] [(0, .val (.i ((k0 + 1 : Nat) : Int)))] (o1 (Qi (Km (Q8 k0 (by omega))))) ?_
    exact Exists.intro (IntKind.i64.wrap (s0 + 1)) (And.intro (Qd (by kernel_rfl)) (Xe hx0 (Q6 h6 (X8 h10 (rfl))) hI0))
   ·
    refine Qr ?_
    refine rk Qb [(11, .i ((k0 + 1 : Nat) : Int))] [11, 43] [] [] [(0, .val (.i ((k0 + 1 : Nat) : Int)))] (o1 (Qi (Km (Q8 k0 (by omega))))) ?_
    exact Exists.intro s0 (And.intro (Qd (by kernel_rfl)) (Xe hx0 (Q6 h6 (Q6 h10 (rfl))) hI0))
 ·
  refine Qa ?_
  refine rk Qb [(12, .b false)] [] [] [] [(0, .val (.b false))] (o1 (Qi (Qh (decide_eq_false (p := ((k0 : Nat) : Int) < (q.length : Int)) (by omega))))) ?_
  refine Qa ?_
  refine ckF ?_
  refine Xt ?_
  exact Exists.intro s0 (And.intro (Qd (by kernel_rfl)) (Ym hk0 (rfl) hI0))
 ·
  refine Qa ?_
  refine rk Qb [(4, .i y0)] [4, 5] [] [] [] (o0) ?_
  refine Qq ?_
  exact Ze [] (congrArg (fun z => (.i z : AV)) (show Z2 q at_ = y0 from Hk hD0 (rfl)).symm)
def Zf (q : (List Zo)) (k0 : Nat) (a0 : Zo) (_ : Unit) : Rd (Bool) (Unit) (Unit) := (bif ((!(Y0 a0 ((k0 : Nat) : Int))) || (decide (((k0 : Nat) : Int) < ((q.length : Int) - 1)) && ((Z2 q ((k0 : Nat) : Int)) != (1 : Int)))) then (.ret false) else (.next ()))
def J0 (_ : Nat) (_ : Unit) : Unit := ()
def Q7 (q : (List Zo)) : Bool := (Out.on (Xv (Zf q) J0 q 0 ()) (fun _ => (Xy (q.length : Int) 1 9)))
theorem U0 (q : (List Zo)) : ACalls Tryz.prog 150 [.h q] (.b (Q7 q)) := by
 refine Qt (tt := tt) Qb Tryz.func150 (fn := Tryz.f150) rfl (by unfold Jr; kernel_rfl) (Nat.le_of_ble_eq_true rfl) fun w0 F0 hG => ?_
 refine Qa ?_
 refine rk Qb [(2, .b false)] [] [] [] [] (o0) ?_
 refine Qa ?_
 refine Qa ?_
 refine rk Qb [(5, .h q), (6, .i (q.length : Int)), (7, .i 0)] [] [] [] [(1, .val (.i (q.length : Int)))] (o1 (Qi (Xs q))) ?_
 refine wdT 0 0 .sh q (fun hw1 => ?_)
 have hl2 : List.length q ≤ 1073741824 := Qx (hw1)
 refine blk (fun (k0 : Nat) (s0 : Unit) => [(7, .i ((k0 : Nat) : Int))]) [7] (fun k0 s0 => []) [] (fun (y0 : Unit) => []) [5, 6, 7] (fun y0 => []) [] (fun (k0 : Nat) (s0 : Unit) => (Xv (Zf q) J0 q 0 ()) = Xv (Zf q) J0 (List.drop k0 q) k0 s0) (fun (y0 : Unit) => (Xv (Zf q) J0 q 0 ()) = .brk y0) q.length () (Qd (by kernel_rfl)) rfl (fun k0 s0 hk0 hI0 => ?_) (fun k0 s0 hk0 hI0 => ?_) (fun y0 hD0 => ?_)
 ·
  obtain ⟨a0, hx0⟩ := Yl (l := q) (i := k0) hk0
  refine Qa ?_
  refine rk Qb [(8, .b true)] [] [] [] [(0, .val (.b true))] (o1 (Qi (Qh (decide_eq_true (p := ((k0 : Nat) : Int) < (q.length : Int)) (by omega))))) ?_
  refine Qa ?_
  refine ckT ?_
  refine Qr ?_
  refine Qa ?_
  refine Xf ?_
  refine Qa ?_
  refine rk Qb [(3, .i ((k0 : Nat) : Int)), (4, .p 4 0)] [8] [(4, [.i a0.1, .i a0.2.1, .i a0.2.2.1, .s a0.2.2.2.1, .i a0.2.2.2.2.1, .i a0.2.2.2.2.2.1, .s a0.2.2.2.2.2.2])] [] [(1, .row [.i a0.1, .i a0.2.1, .i a0.2.2.1, .s a0.2.2.2.1, .i a0.2.2.2.2.1, .i a0.2.2.2.2.2.1, .s a0.2.2.2.2.2.2])] (o1 (Qy (X4 (i := ((k0 : Nat) : Int)) (by omega) rfl hx0))) ?_
  refine Qa ?_
  refine jn [(28, .b ((!(Y0 a0 ((k0 : Nat) : Int))) || (decide (((k0 : Nat) : Int) < ((q.length : Int) - 1)) && ((Z2 q ((k0 : Nat) : Int)) != (1 : Int)))))] [3, 4] [] [4] (!(Y0 a0 ((k0 : Nat) : Int))) (fun h3 => ?_) (fun h3 => ?_) ?_
  ·
   have h3n : (Y0 a0 ((k0 : Nat) : Int)) = false := Ug h3
   refine rk Qb [(28, .b true)] [3, 4] [] [4] [(2, .val (.b false)), (3, .val (.b true))] (o2 (Qg (cb h3n (Qc3 a0 ((k0 : Nat) : Int)))) (o1 (Qi (show .b (!false) = .b true from rfl)))) ?_
   exact ⟨rfl, Qd (by rw [h3]; first | done | kernel_rfl)⟩
  ·
   have h3n : (Y0 a0 ((k0 : Nat) : Int)) = true := Jn h3
   refine X9 (decide (((k0 : Nat) : Int) < ((q.length : Int) - 1))) (fun h4 => ?_) (fun h4 => ?_)
   ·
    have h4d := of_decide_eq_true h4
    refine rk Qb [(28, .b ((Z2 q ((k0 : Nat) : Int)) != (1 : Int)))] [3, 4] [] [4] [(2, .val (.b true)), (3, .val (.b false)), (7, .val (.i (q.length : Int))), (8, .val (.i ((q.length : Int) - 1))), (9, .val (.b true)), (13, .val (.i (Z2 q ((k0 : Nat) : Int))))] (o2 (Qg (cb h3n (Qc3 a0 ((k0 : Nat) : Int)))) (o2 (Qi (show .b (!true) = .b false from rfl)) (o2 (Qi (Xs q)) (o2 (Qi (Km (IntWalk.i64_in ((q.length : Int) - 1) (by omega)))) (o2 (Qi (Qh h4)) (o1 (Qg (implCountReferences_a q ((k0 : Nat) : Int))))))))) ?_
    exact ⟨rfl, Qd (by rw [h3, h4]; first | done | kernel_rfl)⟩
   ·
    have h4d := of_decide_eq_false h4
    refine rk Qb [(28, .b false)] [3, 4] [] [4] [(2, .val (.b true)), (3, .val (.b false)), (7, .val (.i (q.length : Int))), (8, .val (.i ((q.length : Int) - 1))), (9, .val (.b false))] (o2 (Qg (cb h3n (Qc3 a0 ((k0 : Nat) : Int)))) (o2 (Qi (show .b (!true) = .b false from rfl)) (o2 (Qi (Xs q)) (o2 (Qi (Km (IntWalk.i64_in ((q.length : Int) - 1) (by omega)))) (o1 (Qi (Qh h4))))))) ?_
    exact ⟨rfl, Qd (by rw [h3, h4]; first | done | kernel_rfl)⟩
  refine ck ((!(Y0 a0 ((k0 : Nat) : Int))) || (decide (((k0 : Nat) : Int) < ((q.length : Int) - 1)) && ((Z2 q ((k0 : Nat) : Int)) != (1 : Int)))) (fun h5 => ?_) (fun h5 => ?_)
  ·
   refine Qa ?_
   refine rk Qb [] [28] [] [] [] (o0) ?_
   refine Qq ?_
   have hr6 : (Xv (Zf q) J0 q 0 ()) = .ret false := Jy hx0 (X8 h5 (rfl)) hI0
   exact Ze [] (congrArg (fun z => (.b z : AV)) (show Q7 q = false from on_r hr6).symm)
  ·
   refine Qr ?_
   refine rk Qb [(7, .i ((k0 + 1 : Nat) : Int))] [7, 28] [] [] [(0, .val (.i ((k0 + 1 : Nat) : Int)))] (o1 (Qi (Km (Q8 k0 (by omega))))) ?_
   exact Exists.intro () (And.intro (Qd (by kernel_rfl)) (Xe hx0 (Q6 h5 (rfl)) hI0))
 ·
  refine Qa ?_
  refine rk Qb [(8, .b false)] [] [] [] [(0, .val (.b false))] (o1 (Qi (Qh (decide_eq_false (p := ((k0 : Nat) : Int) < (q.length : Int)) (by omega))))) ?_
  refine Qa ?_
  refine ckF ?_
  refine Xt ?_
  exact Exists.intro () (And.intro (Qd (by kernel_rfl)) (Ym hk0 (rfl) hI0))
 ·
  refine Qa ?_
  refine rk Qb [(2, .b (Xy (q.length : Int) 1 9))] [0, 2] [] [] [(1, .val (.i (q.length : Int))), (2, .val (.b (Xy (q.length : Int) 1 9)))] (o2 (Qi (Xs q)) (o1 (Qg (Jx (q.length : Int) 1 9)))) ?_
  refine Qq ?_
  exact Ze [] (congrArg (fun z => (.b z : AV)) (show Q7 q = (Xy (q.length : Int) 1 9) from Hk hD0 (rfl)).symm)
def Zr (n : Zo) (at_ : Int) : Bool := (bif (n.1 == (1 : Int)) then ((n.1 == 1) && ((n.2.1 == 0) && ((n.2.2.1 == 0) && ((n.2.2.2.1.toList == (⟨#[]⟩ : ByteArray).toList) && ((n.2.2.2.2.1 == 0) && ((n.2.2.2.2.2.1 == 0) && ((n.2.2.2.2.2.2.toList == (⟨#[]⟩ : ByteArray).toList) && true))))))) else (bif (n.1 == (2 : Int)) then ((X5 n.2.2.2.1) && ((n.1 == n.1) && ((n.2.1 == 0) && ((n.2.2.1 == 0) && ((n.2.2.2.1.toList == n.2.2.2.1.toList) && ((n.2.2.2.2.1 == 0) && ((n.2.2.2.2.2.1 == 0) && ((n.2.2.2.2.2.2.toList == (⟨#[]⟩ : ByteArray).toList) && true)))))))) else (bif (n.1 == (3 : Int)) then ((X5 n.2.2.2.1) && ((Zi n.2.2.2.2) && ((n.2.2.2.2.1 != (0 : Int)) && ((n.2.1 == (0 : Int)) && (n.2.2.1 == (0 : Int)))))) else (bif (n.1 == (4 : Int)) then ((X5 n.2.2.2.1) && ((Zi n.2.2.2.2) && ((n.2.2.2.2.1 == (1 : Int)) && ((n.2.1 == (0 : Int)) && (n.2.2.1 == (0 : Int)))))) else (bif (n.1 == (5 : Int)) then (((Xr n.2.1 0 (IntKind.i64.wrap (at_ - 1))) && decide (at_ > (0 : Int))) && ((n.2.2.1 == (0 : Int)) && ((n.2.2.2.1.toList == (⟨#[]⟩ : ByteArray).toList) && ((n.2.2.2.2.1 == 0) && ((n.2.2.2.2.2.1 == 0) && ((n.2.2.2.2.2.2.toList == (⟨#[]⟩ : ByteArray).toList) && true)))))) else (bif (bif (n.1 == (6 : Int)) then (n.1 == (6 : Int)) else (n.1 == (7 : Int))) then ((((Xr n.2.1 0 (IntKind.i64.wrap (at_ - 1))) && decide (at_ > (0 : Int))) && (Xr n.2.2.1 0 (IntKind.i64.wrap (at_ - 1)))) && ((n.2.2.2.1.toList == (⟨#[]⟩ : ByteArray).toList) && ((n.2.2.2.2.1 == 0) && ((n.2.2.2.2.2.1 == 0) && ((n.2.2.2.2.2.2.toList == (⟨#[]⟩ : ByteArray).toList) && true))))) else (bif (n.1 == (8 : Int)) then ((Yk n.2.2.2.1) && ((n.1 == n.1) && ((n.2.1 == 0) && ((n.2.2.1 == 0) && ((n.2.2.2.1.toList == n.2.2.2.1.toList) && ((n.2.2.2.2.1 == 0) && ((n.2.2.2.2.2.1 == 0) && ((n.2.2.2.2.2.2.toList == (⟨#[]⟩ : ByteArray).toList) && true)))))))) else (bif (n.1 == (9 : Int)) then ((Yk n.2.2.2.1) && ((n.1 == n.1) && ((n.2.1 == 0) && ((n.2.2.1 == 0) && ((n.2.2.2.1.toList == n.2.2.2.1.toList) && ((n.2.2.2.2.1 == 0) && ((n.2.2.2.2.2.1 == 0) && ((n.2.2.2.2.2.2.toList == (⟨#[]⟩ : ByteArray).toList) && true)))))))) else false))))))))
theorem Qc4 (n : Zo) (at_ : Int) : ACalls Tryz.prog 247 [.a [.i n.1, .i n.2.1, .i n.2.2.1, .s n.2.2.2.1, .i n.2.2.2.2.1, .i n.2.2.2.2.2.1, .s n.2.2.2.2.2.2], .i at_] (.b (Zr n at_)) := by
 refine Qt (tt := tt) Qb Tryz.func247 (fn := Tryz.f247) rfl (by unfold Jr; kernel_rfl) (Nat.le_of_ble_eq_true rfl) fun w0 F0 hG => ?_
 refine Qa ?_
 refine rk Qb [(2, .p 2 0), (4, .b false)] [0] [(2, [.i n.1, .i n.2.1, .i n.2.2.1, .s n.2.2.2.1, .i n.2.2.2.2.1, .i n.2.2.2.2.2.1, .s n.2.2.2.2.2.2])] [] [] (o0) ?_
 refine Qa ?_
 refine jn [(5, .b ((Xr n.2.1 0 (IntKind.i64.wrap (at_ - 1))) && decide (at_ > (0 : Int))))] [] [] [] (Xr n.2.1 0 (IntKind.i64.wrap (at_ - 1))) (fun h1 => ?_) (fun h1 => ?_) ?_
 ·
  refine rk Qb [(5, .b (decide (at_ > (0 : Int))))] [] [] [] [(4, .val (.b true))] (o1 (Qg (cb h1 (Jz n.2.1 0 (IntKind.i64.wrap (at_ - 1)))))) ?_
  exact ⟨rfl, Qd (by rw [h1]; first | done | kernel_rfl)⟩
 ·
  refine rk Qb [(5, .b false)] [] [] [] [(4, .val (.b false))] (o1 (Qg (cb h1 (Jz n.2.1 0 (IntKind.i64.wrap (at_ - 1)))))) ?_
  exact ⟨rfl, Qd (by rw [h1]; first | done | kernel_rfl)⟩
 refine Qa ?_
 refine jn [(6, .b (((Xr n.2.1 0 (IntKind.i64.wrap (at_ - 1))) && decide (at_ > (0 : Int))) && (Xr n.2.2.1 0 (IntKind.i64.wrap (at_ - 1)))))] [1] [] [] ((Xr n.2.1 0 (IntKind.i64.wrap (at_ - 1))) && decide (at_ > (0 : Int))) (fun h2 => ?_) (fun h2 => ?_) ?_
 ·
  refine rk Qb [(6, .b (Xr n.2.2.1 0 (IntKind.i64.wrap (at_ - 1))))] [1] [] [] [(0, .val (.b true)), (6, .val (.b (Xr n.2.2.1 0 (IntKind.i64.wrap (at_ - 1)))))] (o2 (Qi (Qh h2)) (o1 (Qg (Jz n.2.2.1 0 (IntKind.i64.wrap (at_ - 1)))))) ?_
  exact ⟨rfl, Qd (by rw [h2]; first | done | kernel_rfl)⟩
 ·
  refine rk Qb [(6, .b false)] [1] [] [] [(0, .val (.b false))] (o1 (Qi (Qh h2))) ?_
  exact ⟨rfl, Qd (by rw [h2]; first | done | kernel_rfl)⟩
 refine Qa ?_
 refine Qa ?_
 refine rk Qb [(25, .i n.1)] [] [] [] [] (o0) ?_
 refine Xf ?_
 refine Qa ?_
 refine rk Qb [(26, .b (n.1 == (1 : Int)))] [] [] [] [] (o0) ?_
 refine ck (n.1 == (1 : Int)) (fun h3 => ?_) (fun h3 => ?_)
 ·
  refine Qa ?_
  refine rk Qb [(4, .b ((n.1 == 1) && ((n.2.1 == 0) && ((n.2.2.1 == 0) && ((n.2.2.2.1.toList == (⟨#[]⟩ : ByteArray).toList) && ((n.2.2.2.2.1 == 0) && ((n.2.2.2.2.2.1 == 0) && ((n.2.2.2.2.2.2.toList == (⟨#[]⟩ : ByteArray).toList) && true))))))))] [2, 4, 5, 6, 25, 26] [] [2] [] (o0) ?_
  refine Qq ?_
  exact Ze [] (congrArg (fun z => (.b z : AV)) (show Zr n at_ = ((n.1 == 1) && ((n.2.1 == 0) && ((n.2.2.1 == 0) && ((n.2.2.2.1.toList == (⟨#[]⟩ : ByteArray).toList) && ((n.2.2.2.2.1 == 0) && ((n.2.2.2.2.2.1 == 0) && ((n.2.2.2.2.2.2.toList == (⟨#[]⟩ : ByteArray).toList) && true))))))) from X8 h3 (rfl)).symm)
 ·
  refine Qa ?_
  refine rk Qb [(31, .b (n.1 == (2 : Int)))] [26] [] [] [] (o0) ?_
  refine ck (n.1 == (2 : Int)) (fun h4 => ?_) (fun h4 => ?_)
  ·
   refine Qa ?_
   refine jn [(4, .b ((X5 n.2.2.2.1) && ((n.1 == n.1) && ((n.2.1 == 0) && ((n.2.2.1 == 0) && ((n.2.2.2.1.toList == n.2.2.2.1.toList) && ((n.2.2.2.2.1 == 0) && ((n.2.2.2.2.2.1 == 0) && ((n.2.2.2.2.2.2.toList == (⟨#[]⟩ : ByteArray).toList) && true)))))))))] [2, 4, 5, 6, 25, 31] [] [2] (X5 n.2.2.2.1) (fun h5 => ?_) (fun h5 => ?_) ?_
   ·
    refine rk Qb [(4, .b ((n.1 == n.1) && ((n.2.1 == 0) && ((n.2.2.1 == 0) && ((n.2.2.2.1.toList == n.2.2.2.1.toList) && ((n.2.2.2.2.1 == 0) && ((n.2.2.2.2.2.1 == 0) && ((n.2.2.2.2.2.2.toList == (⟨#[]⟩ : ByteArray).toList) && true))))))))] [2, 4, 5, 6, 25, 31] [] [2] [(2, .val (.b true))] (o1 (Qg (cb h5 (Yu n.2.2.2.1)))) ?_
    exact ⟨rfl, Qd (by rw [h5]; first | done | kernel_rfl)⟩
   ·
    refine rk Qb [] [2, 5, 6, 25, 31] [] [2] [(2, .val (.b false))] (o1 (Qg (cb h5 (Yu n.2.2.2.1)))) ?_
    exact ⟨rfl, Qd (by rw [h5]; first | done | kernel_rfl)⟩
   refine Qq ?_
   exact Ze [] (congrArg (fun z => (.b z : AV)) (show Zr n at_ = ((X5 n.2.2.2.1) && ((n.1 == n.1) && ((n.2.1 == 0) && ((n.2.2.1 == 0) && ((n.2.2.2.1.toList == n.2.2.2.1.toList) && ((n.2.2.2.2.1 == 0) && ((n.2.2.2.2.2.1 == 0) && ((n.2.2.2.2.2.2.toList == (⟨#[]⟩ : ByteArray).toList) && true)))))))) from Q6 h3 (X8 h4 (rfl))).symm)
  ·
   refine Qa ?_
   refine rk Qb [(45, .b (n.1 == (3 : Int)))] [31] [] [] [] (o0) ?_
   refine ck (n.1 == (3 : Int)) (fun h6 => ?_) (fun h6 => ?_)
   ·
    refine Qa ?_
    refine jn [(4, .b ((X5 n.2.2.2.1) && ((Zi n.2.2.2.2) && ((n.2.2.2.2.1 != (0 : Int)) && ((n.2.1 == (0 : Int)) && (n.2.2.1 == (0 : Int)))))))] [2, 4, 5, 6, 25, 45] [] [2] (X5 n.2.2.2.1) (fun h7 => ?_) (fun h7 => ?_) ?_
    ·
     refine X9 (Zi n.2.2.2.2) (fun h8 => ?_) (fun h8 => ?_)
     ·
      refine X9 (n.2.2.2.2.1 != (0 : Int)) (fun h9 => ?_) (fun h9 => ?_)
      ·
       refine X9 (n.2.1 == (0 : Int)) (fun h10 => ?_) (fun h10 => ?_)
       ·
        refine rk Qb [(4, .b (n.2.2.1 == (0 : Int)))] [2, 4, 5, 6, 25, 45] [] [2] [(2, .val (.b true)), (6, .val (.b true)), (12, .val (.b true)), (17, .val (.b true))] (o2 (Qg (cb h7 (Yu n.2.2.2.1))) (o2 (Qg (cb h8 (Ji n.2.2.2.2))) (o2 (Qi (Qh h9)) (o1 (Qi (Qh h10)))))) ?_
        exact ⟨rfl, Qd (by rw [h7, h8, h9, h10]; first | done | kernel_rfl)⟩
       ·
        refine rk Qb [] [2, 5, 6, 25, 45] [] [2] [(2, .val (.b true)), (6, .val (.b true)), (12, .val (.b true)), (17, .val (.b false))] (o2 (Qg (cb h7 (Yu n.2.2.2.1))) (o2 (Qg (cb h8 (Ji n.2.2.2.2))) (o2 (Qi (Qh h9)) (o1 (Qi (Qh h10)))))) ?_
        exact ⟨rfl, Qd (by rw [h7, h8, h9, h10]; first | done | kernel_rfl)⟩
      ·
       refine rk Qb [] [2, 5, 6, 25, 45] [] [2] [(2, .val (.b true)), (6, .val (.b true)), (12, .val (.b false))] (o2 (Qg (cb h7 (Yu n.2.2.2.1))) (o2 (Qg (cb h8 (Ji n.2.2.2.2))) (o1 (Qi (Qh h9))))) ?_
       exact ⟨rfl, Qd (by rw [h7, h8, h9]; first | done | kernel_rfl)⟩
     ·
      refine rk Qb [] [2, 5, 6, 25, 45] [] [2] [(2, .val (.b true)), (6, .val (.b false))] (o2 (Qg (cb h7 (Yu n.2.2.2.1))) (o1 (Qg (cb h8 (Ji n.2.2.2.2))))) ?_
      exact ⟨rfl, Qd (by rw [h7, h8]; first | done | kernel_rfl)⟩
    ·
     refine rk Qb [] [2, 5, 6, 25, 45] [] [2] [(2, .val (.b false))] (o1 (Qg (cb h7 (Yu n.2.2.2.1)))) ?_
     exact ⟨rfl, Qd (by rw [h7]; first | done | kernel_rfl)⟩
    refine Qq ?_
    exact Ze [] (congrArg (fun z => (.b z : AV)) (show Zr n at_ = ((X5 n.2.2.2.1) && ((Zi n.2.2.2.2) && ((n.2.2.2.2.1 != (0 : Int)) && ((n.2.1 == (0 : Int)) && (n.2.2.1 == (0 : Int)))))) from Q6 h3 (Q6 h4 (X8 h6 (rfl)))).symm)
   ·
    refine Qa ?_
    refine rk Qb [(71, .b (n.1 == (4 : Int)))] [45] [] [] [] (o0) ?_
    refine ck (n.1 == (4 : Int)) (fun h11 => ?_) (fun h11 => ?_)
    ·
     refine Qa ?_
     refine jn [(4, .b ((X5 n.2.2.2.1) && ((Zi n.2.2.2.2) && ((n.2.2.2.2.1 == (1 : Int)) && ((n.2.1 == (0 : Int)) && (n.2.2.1 == (0 : Int)))))))] [2, 4, 5, 6, 25, 71] [] [2] (X5 n.2.2.2.1) (fun h12 => ?_) (fun h12 => ?_) ?_
     ·
      refine X9 (Zi n.2.2.2.2) (fun h13 => ?_) (fun h13 => ?_)
      ·
       refine X9 (n.2.2.2.2.1 == (1 : Int)) (fun h14 => ?_) (fun h14 => ?_)
       ·
        refine X9 (n.2.1 == (0 : Int)) (fun h15 => ?_) (fun h15 => ?_)
        ·
         refine rk Qb [(4, .b (n.2.2.1 == (0 : Int)))] [2, 4, 5, 6, 25, 71] [] [2] [(2, .val (.b true)), (6, .val (.b true)), (12, .val (.b true)), (17, .val (.b true))] (o2 (Qg (cb h12 (Yu n.2.2.2.1))) (o2 (Qg (cb h13 (Ji n.2.2.2.2))) (o2 (Qi (Qh h14)) (o1 (Qi (Qh h15)))))) ?_
         exact ⟨rfl, Qd (by rw [h12, h13, h14, h15]; first | done | kernel_rfl)⟩
        ·
         refine rk Qb [] [2, 5, 6, 25, 71] [] [2] [(2, .val (.b true)), (6, .val (.b true)), (12, .val (.b true)), (17, .val (.b false))] (o2 (Qg (cb h12 (Yu n.2.2.2.1))) (o2 (Qg (cb h13 (Ji n.2.2.2.2))) (o2 (Qi (Qh h14)) (o1 (Qi (Qh h15)))))) ?_
         exact ⟨rfl, Qd (by rw [h12, h13, h14, h15]; first | done | kernel_rfl)⟩
       ·
        refine rk Qb [] [2, 5, 6, 25, 71] [] [2] [(2, .val (.b true)), (6, .val (.b true)), (12, .val (.b false))] (o2 (Qg (cb h12 (Yu n.2.2.2.1))) (o2 (Qg (cb h13 (Ji n.2.2.2.2))) (o1 (Qi (Qh h14))))) ?_
        exact ⟨rfl, Qd (by rw [h12, h13, h14]; first | done | kernel_rfl)⟩
      ·
       refine rk Qb [] [2, 5, 6, 25, 71] [] [2] [(2, .val (.b true)), (6, .val (.b false))] (o2 (Qg (cb h12 (Yu n.2.2.2.1))) (o1 (Qg (cb h13 (Ji n.2.2.2.2))))) ?_
       exact ⟨rfl, Qd (by rw [h12, h13]; first | done | kernel_rfl)⟩
     ·
      refine rk Qb [] [2, 5, 6, 25, 71] [] [2] [(2, .val (.b false))] (o1 (Qg (cb h12 (Yu n.2.2.2.1)))) ?_
      exact ⟨rfl, Qd (by rw [h12]; first | done | kernel_rfl)⟩
     refine Qq ?_
     exact Ze [] (congrArg (fun z => (.b z : AV)) (show Zr n at_ = ((X5 n.2.2.2.1) && ((Zi n.2.2.2.2) && ((n.2.2.2.2.1 == (1 : Int)) && ((n.2.1 == (0 : Int)) && (n.2.2.1 == (0 : Int)))))) from Q6 h3 (Q6 h4 (Q6 h6 (X8 h11 (rfl))))).symm)
    ·
     refine Qa ?_
     refine rk Qb [(97, .b (n.1 == (5 : Int)))] [71] [] [] [] (o0) ?_
     refine ck (n.1 == (5 : Int)) (fun h16 => ?_) (fun h16 => ?_)
     ·
      refine Qa ?_
      refine jn [(4, .b (((Xr n.2.1 0 (IntKind.i64.wrap (at_ - 1))) && decide (at_ > (0 : Int))) && ((n.2.2.1 == (0 : Int)) && ((n.2.2.2.1.toList == (⟨#[]⟩ : ByteArray).toList) && ((n.2.2.2.2.1 == 0) && ((n.2.2.2.2.2.1 == 0) && ((n.2.2.2.2.2.2.toList == (⟨#[]⟩ : ByteArray).toList) && true)))))))] [2, 4, 5, 6, 25, 97] [] [2] ((Xr n.2.1 0 (IntKind.i64.wrap (at_ - 1))) && decide (at_ > (0 : Int))) (fun h17 => ?_) (fun h17 => ?_) ?_
      ·
       refine X9 (n.2.2.1 == (0 : Int)) (fun h18 => ?_) (fun h18 => ?_)
       ·
        refine X9 (n.2.2.2.1.toList == (⟨#[]⟩ : ByteArray).toList) (fun h19 => ?_) (fun h19 => ?_)
        ·
         refine rk Qb [(4, .b ((n.2.2.2.2.1 == 0) && ((n.2.2.2.2.2.1 == 0) && ((n.2.2.2.2.2.2.toList == (⟨#[]⟩ : ByteArray).toList) && true))))] [2, 4, 5, 6, 25, 97] [] [2] [(0, .val (.b true)), (4, .val (.b true)), (9, .val (.b true))] (o2 (Qi (Qh h17)) (o2 (Qi (Qh h18)) (o1 (Qi (Qh h19))))) ?_
         exact ⟨rfl, Qd (by rw [h17, h18, h19]; first | done | kernel_rfl)⟩
        ·
         refine rk Qb [] [2, 5, 6, 25, 97] [] [2] [(0, .val (.b true)), (4, .val (.b true)), (9, .val (.b false))] (o2 (Qi (Qh h17)) (o2 (Qi (Qh h18)) (o1 (Qi (Qh h19))))) ?_
         exact ⟨rfl, Qd (by rw [h17, h18, h19]; first | done | kernel_rfl)⟩
       ·
        refine rk Qb [] [2, 5, 6, 25, 97] [] [2] [(0, .val (.b true)), (4, .val (.b false))] (o2 (Qi (Qh h17)) (o1 (Qi (Qh h18)))) ?_
        exact ⟨rfl, Qd (by rw [h17, h18]; first | done | kernel_rfl)⟩
      ·
       refine rk Qb [] [2, 5, 6, 25, 97] [] [2] [(0, .val (.b false))] (o1 (Qi (Qh h17))) ?_
       exact ⟨rfl, Qd (by rw [h17]; first | done | kernel_rfl)⟩
      refine Qq ?_
      exact Ze [] (congrArg (fun z => (.b z : AV)) (show Zr n at_ = (((Xr n.2.1 0 (IntKind.i64.wrap (at_ - 1))) && decide (at_ > (0 : Int))) && ((n.2.2.1 == (0 : Int)) && ((n.2.2.2.1.toList == (⟨#[]⟩ : ByteArray).toList) && ((n.2.2.2.2.1 == 0) && ((n.2.2.2.2.2.1 == 0) && ((n.2.2.2.2.2.2.toList == (⟨#[]⟩ : ByteArray).toList) && true)))))) from Q6 h3 (Q6 h4 (Q6 h6 (Q6 h11 (X8 h16 (rfl)))))).symm)
     ·
      refine Qa ?_
      refine Qa ?_
      refine rk Qb [(116, .b (n.1 == (6 : Int)))] [5, 97] [] [] [] (o0) ?_
      refine jn [(116, .b (bif (n.1 == (6 : Int)) then (n.1 == (6 : Int)) else (n.1 == (7 : Int))))] [116] [] [] (n.1 == (6 : Int)) (fun h20 => ?_) (fun h20 => ?_) ?_
      ·
       refine ckt h20 ?_
       refine Qr ?_
       exact ⟨rfl, Qd (by rw [h20]; first | done | kernel_rfl)⟩
      ·
       refine ckf h20 ?_
       refine rk Qb [(116, .b (n.1 == (7 : Int)))] [116] [] [] [] (o0) ?_
       exact ⟨rfl, Qd (by rw [h20]; first | done | kernel_rfl)⟩
      refine ck (bif (n.1 == (6 : Int)) then (n.1 == (6 : Int)) else (n.1 == (7 : Int))) (fun h21 => ?_) (fun h21 => ?_)
      ·
       refine Qa ?_
       refine jn [(4, .b ((((Xr n.2.1 0 (IntKind.i64.wrap (at_ - 1))) && decide (at_ > (0 : Int))) && (Xr n.2.2.1 0 (IntKind.i64.wrap (at_ - 1)))) && ((n.2.2.2.1.toList == (⟨#[]⟩ : ByteArray).toList) && ((n.2.2.2.2.1 == 0) && ((n.2.2.2.2.2.1 == 0) && ((n.2.2.2.2.2.2.toList == (⟨#[]⟩ : ByteArray).toList) && true))))))] [2, 4, 6, 25, 116] [] [2] (((Xr n.2.1 0 (IntKind.i64.wrap (at_ - 1))) && decide (at_ > (0 : Int))) && (Xr n.2.2.1 0 (IntKind.i64.wrap (at_ - 1)))) (fun h22 => ?_) (fun h22 => ?_) ?_
       ·
        refine X9 (n.2.2.2.1.toList == (⟨#[]⟩ : ByteArray).toList) (fun h23 => ?_) (fun h23 => ?_)
        ·
         refine rk Qb [(4, .b ((n.2.2.2.2.1 == 0) && ((n.2.2.2.2.2.1 == 0) && ((n.2.2.2.2.2.2.toList == (⟨#[]⟩ : ByteArray).toList) && true))))] [2, 4, 6, 25, 116] [] [2] [(0, .val (.b true)), (4, .val (.b true))] (o2 (Qi (Qh h22)) (o1 (Qi (Qh h23)))) ?_
         exact ⟨rfl, Qd (by rw [h22, h23]; first | done | kernel_rfl)⟩
        ·
         refine rk Qb [] [2, 6, 25, 116] [] [2] [(0, .val (.b true)), (4, .val (.b false))] (o2 (Qi (Qh h22)) (o1 (Qi (Qh h23)))) ?_
         exact ⟨rfl, Qd (by rw [h22, h23]; first | done | kernel_rfl)⟩
       ·
        refine rk Qb [] [2, 6, 25, 116] [] [2] [(0, .val (.b false))] (o1 (Qi (Qh h22))) ?_
        exact ⟨rfl, Qd (by rw [h22]; first | done | kernel_rfl)⟩
       refine Qq ?_
       exact Ze [] (congrArg (fun z => (.b z : AV)) (show Zr n at_ = ((((Xr n.2.1 0 (IntKind.i64.wrap (at_ - 1))) && decide (at_ > (0 : Int))) && (Xr n.2.2.1 0 (IntKind.i64.wrap (at_ - 1)))) && ((n.2.2.2.1.toList == (⟨#[]⟩ : ByteArray).toList) && ((n.2.2.2.2.1 == 0) && ((n.2.2.2.2.2.1 == 0) && ((n.2.2.2.2.2.2.toList == (⟨#[]⟩ : ByteArray).toList) && true))))) from Q6 h3 (Q6 h4 (Q6 h6 (Q6 h11 (Q6 h16 (X8 h21 (rfl))))))).symm)
      ·
       refine Qa ?_
       refine Qa ?_
       refine rk Qb [(131, .b (n.1 == (8 : Int)))] [6, 116] [] [] [] (o0) ?_
       refine ck (n.1 == (8 : Int)) (fun h24 => ?_) (fun h24 => ?_)
       ·
        refine Qr ?_
        refine ckt h24 ?_
        refine Qa ?_
        refine jn [(4, .b ((Yk n.2.2.2.1) && ((n.1 == n.1) && ((n.2.1 == 0) && ((n.2.2.1 == 0) && ((n.2.2.2.1.toList == n.2.2.2.1.toList) && ((n.2.2.2.2.1 == 0) && ((n.2.2.2.2.2.1 == 0) && ((n.2.2.2.2.2.2.toList == (⟨#[]⟩ : ByteArray).toList) && true)))))))))] [2, 4, 25, 131] [] [2] (Yk n.2.2.2.1) (fun h25 => ?_) (fun h25 => ?_) ?_
        ·
         refine rk Qb [(4, .b ((n.1 == n.1) && ((n.2.1 == 0) && ((n.2.2.1 == 0) && ((n.2.2.2.1.toList == n.2.2.2.1.toList) && ((n.2.2.2.2.1 == 0) && ((n.2.2.2.2.2.1 == 0) && ((n.2.2.2.2.2.2.toList == (⟨#[]⟩ : ByteArray).toList) && true))))))))] [2, 4, 25, 131] [] [2] [(2, .val (.b true))] (o1 (Qg (cb h25 (Jo n.2.2.2.1)))) ?_
         exact ⟨rfl, Qd (by rw [h25]; first | done | kernel_rfl)⟩
        ·
         refine rk Qb [] [2, 25, 131] [] [2] [(2, .val (.b false))] (o1 (Qg (cb h25 (Jo n.2.2.2.1)))) ?_
         exact ⟨rfl, Qd (by rw [h25]; first | done | kernel_rfl)⟩
        refine Qq ?_
        exact Ze [] (congrArg (fun z => (.b z : AV)) (show Zr n at_ = ((Yk n.2.2.2.1) && ((n.1 == n.1) && ((n.2.1 == 0) && ((n.2.2.1 == 0) && ((n.2.2.2.1.toList == n.2.2.2.1.toList) && ((n.2.2.2.2.1 == 0) && ((n.2.2.2.2.2.1 == 0) && ((n.2.2.2.2.2.2.toList == (⟨#[]⟩ : ByteArray).toList) && true)))))))) from Q6 h3 (Q6 h4 (Q6 h6 (Q6 h11 (Q6 h16 (Q6 h21 (X8 h24 (rfl)))))))).symm)
       ·
        refine rk Qb [(131, .b (n.1 == (9 : Int)))] [25, 131] [] [] [] (o0) ?_
        refine ck (n.1 == (9 : Int)) (fun h26 => ?_) (fun h26 => ?_)
        ·
         refine Qa ?_
         refine jn [(4, .b ((Yk n.2.2.2.1) && ((n.1 == n.1) && ((n.2.1 == 0) && ((n.2.2.1 == 0) && ((n.2.2.2.1.toList == n.2.2.2.1.toList) && ((n.2.2.2.2.1 == 0) && ((n.2.2.2.2.2.1 == 0) && ((n.2.2.2.2.2.2.toList == (⟨#[]⟩ : ByteArray).toList) && true)))))))))] [2, 4, 131] [] [2] (Yk n.2.2.2.1) (fun h27 => ?_) (fun h27 => ?_) ?_
         ·
          refine rk Qb [(4, .b ((n.1 == n.1) && ((n.2.1 == 0) && ((n.2.2.1 == 0) && ((n.2.2.2.1.toList == n.2.2.2.1.toList) && ((n.2.2.2.2.1 == 0) && ((n.2.2.2.2.2.1 == 0) && ((n.2.2.2.2.2.2.toList == (⟨#[]⟩ : ByteArray).toList) && true))))))))] [2, 4, 131] [] [2] [(2, .val (.b true))] (o1 (Qg (cb h27 (Jo n.2.2.2.1)))) ?_
          exact ⟨rfl, Qd (by rw [h27]; first | done | kernel_rfl)⟩
         ·
          refine rk Qb [] [2, 131] [] [2] [(2, .val (.b false))] (o1 (Qg (cb h27 (Jo n.2.2.2.1)))) ?_
          exact ⟨rfl, Qd (by rw [h27]; first | done | kernel_rfl)⟩
         refine Qq ?_
         exact Ze [] (congrArg (fun z => (.b z : AV)) (show Zr n at_ = ((Yk n.2.2.2.1) && ((n.1 == n.1) && ((n.2.1 == 0) && ((n.2.2.1 == 0) && ((n.2.2.2.1.toList == n.2.2.2.1.toList) && ((n.2.2.2.2.1 == 0) && ((n.2.2.2.2.2.1 == 0) && ((n.2.2.2.2.2.2.toList == (⟨#[]⟩ : ByteArray).toList) && true)))))))) from Q6 h3 (Q6 h4 (Q6 h6 (Q6 h11 (Q6 h16 (Q6 h21 (Q6 h24 (X8 h26 (rfl))))))))).symm)
        ·
         refine Qr ?_
         refine Qa ?_
         refine rk Qb [] [2, 131] [] [2] [] (o0) ?_
         refine Qq ?_
         exact Ze [] (congrArg (fun z => (.b z : AV)) (show Zr n at_ = false from Q6 h3 (Q6 h4 (Q6 h6 (Q6 h11 (Q6 h16 (Q6 h21 (Q6 h24 (Q6 h26 (rfl))))))))).symm)
def Kx (at_ : Int) (_ : Nat) (a0 : Zo) (s0 : Int) : Rd (Int) (Int) (Int) := (bif (bif ((a0.1 == (6 : Int)) || (a0.1 == (7 : Int))) then (a0.2.1 == at_) else ((a0.1 == (5 : Int)) && (a0.2.1 == at_))) then (bif (((a0.1 == (6 : Int)) || (a0.1 == (7 : Int))) && (a0.2.2.1 == at_)) then (.next (IntKind.i64.wrap (IntKind.i64.wrap (s0 + 1) + 1))) else (.next (IntKind.i64.wrap (s0 + 1)))) else (bif (((a0.1 == (6 : Int)) || (a0.1 == (7 : Int))) && (a0.2.2.1 == at_)) then (.next (IntKind.i64.wrap (s0 + 1))) else (.next s0)))
def V3 (_ : Nat) (s0 : Int) : Int := s0
def J3 (q : (List Zo)) (at_ : Int) : Int := (Out.on (Xv (Kx at_) V3 q 0 0) (fun y0 => y0))
theorem specCountReferences_a (q : (List Zo)) (at_ : Int) : ACalls Tryz.prog 248 [.h q, .i at_] (.i (J3 q at_)) := by
 refine Qt (tt := tt) Qb Tryz.func248 (fn := Tryz.f248) rfl (by unfold Jr; kernel_rfl) (Nat.le_of_ble_eq_true rfl) fun w0 F0 hG => ?_
 refine Qa ?_
 refine rk Qb [(4, .i 0)] [] [] [] [] (o0) ?_
 refine Qa ?_
 refine rk Qb [(5, .i 0)] [] [] [] [] (o0) ?_
 refine Qa ?_
 refine Qa ?_
 refine rk Qb [(6, .i 0)] [] [] [] [] (o0) ?_
 refine wdT 0 0 .sh q (fun hw1 => ?_)
 have hl2 : List.length q ≤ 1073741824 := Qx (hw1)
 refine blk (fun (k0 : Nat) (s0 : Int) => [(5, .i s0), (6, .i ((k0 : Nat) : Int))]) [5, 6] (fun k0 s0 => []) [] (fun (y0 : Int) => [(5, .i y0)]) [0, 1, 5, 6] (fun y0 => []) [] (fun (k0 : Nat) (s0 : Int) => (Xv (Kx at_) V3 q 0 0) = Xv (Kx at_) V3 (List.drop k0 q) k0 s0) (fun (y0 : Int) => (Xv (Kx at_) V3 q 0 0) = .brk y0) q.length 0 (Qd (by kernel_rfl)) rfl (fun k0 s0 hk0 hI0 => ?_) (fun k0 s0 hk0 hI0 => ?_) (fun y0 hD0 => ?_)
 ·
  obtain ⟨a0, hx0⟩ := Yl (l := q) (i := k0) hk0
  refine Qa ?_
  refine Qa ?_
  refine rk Qb [(11, .b true)] [] [] [] [(2, .val (.i (q.length : Int))), (3, .val (.b true))] (o2 (Qi (Xs q)) (o1 (Qi (Qh (decide_eq_true (p := ((k0 : Nat) : Int) < (q.length : Int)) (by omega)))))) ?_
  refine ckT ?_
  refine Qr ?_
  refine Qa ?_
  refine Xf ?_
  refine Qa ?_
  refine jn [(7, .b ((a0.1 == (6 : Int)) || (a0.1 == (7 : Int))))] [11] [] [] (a0.1 == (6 : Int)) (fun h3 => ?_) (fun h3 => ?_) ?_
  ·
   have h3d := eq_of_beq h3
   refine rk Qb [(7, .b true)] [11] [] [] [(2, .row [.i a0.1, .i a0.2.1, .i a0.2.2.1, .s a0.2.2.2.1, .i a0.2.2.2.2.1, .i a0.2.2.2.2.2.1, .s a0.2.2.2.2.2.2]), (5, .val (.b true))] (o2 (Qy (X4 (i := ((k0 : Nat) : Int)) (by omega) rfl hx0)) (o1 (Qi (Qh h3)))) ?_
   exact ⟨rfl, Qd (by rw [h3]; first | done | kernel_rfl)⟩
  ·
   have h3d := Zz h3
   refine rk Qb [(7, .b (a0.1 == (7 : Int)))] [11] [] [] [(2, .row [.i a0.1, .i a0.2.1, .i a0.2.2.1, .s a0.2.2.2.1, .i a0.2.2.2.2.1, .i a0.2.2.2.2.2.1, .s a0.2.2.2.2.2.2]), (5, .val (.b false)), (9, .row [.i a0.1, .i a0.2.1, .i a0.2.2.1, .s a0.2.2.2.1, .i a0.2.2.2.2.1, .i a0.2.2.2.2.2.1, .s a0.2.2.2.2.2.2])] (o2 (Qy (X4 (i := ((k0 : Nat) : Int)) (by omega) rfl hx0)) (o2 (Qi (Qh h3)) (o1 (Qy (X4 (i := ((k0 : Nat) : Int)) (by omega) rfl hx0))))) ?_
   exact ⟨rfl, Qd (by rw [h3]; first | done | kernel_rfl)⟩
  refine Qa ?_
  refine Qa ?_
  refine jn [(45, .b (bif ((a0.1 == (6 : Int)) || (a0.1 == (7 : Int))) then (a0.2.1 == at_) else ((a0.1 == (5 : Int)) && (a0.2.1 == at_))))] [] [] [] ((a0.1 == (6 : Int)) || (a0.1 == (7 : Int))) (fun h4 => ?_) (fun h4 => ?_) ?_
  ·
   refine rk Qb [(45, .b (a0.2.1 == at_))] [] [] [] [(0, .val (.b true)), (12, .row [.i a0.1, .i a0.2.1, .i a0.2.2.1, .s a0.2.2.2.1, .i a0.2.2.2.2.1, .i a0.2.2.2.2.2.1, .s a0.2.2.2.2.2.2])] (o2 (Qi (Qh h4)) (o1 (Qy (X4 (i := ((k0 : Nat) : Int)) (by omega) rfl hx0)))) ?_
   exact ⟨rfl, Qd (by rw [h4]; first | done | kernel_rfl)⟩
  ·
   have h4l : ((a0.1 == (6 : Int))) = false := or_l h4
   have h4ld := Zz h4l
   have h4r : ((a0.1 == (7 : Int))) = false := or_r h4
   have h4rd := Zz h4r
   refine X9 (a0.1 == (5 : Int)) (fun h5 => ?_) (fun h5 => ?_)
   ·
    have h5d := eq_of_beq h5
    refine rk Qb [(45, .b (a0.2.1 == at_))] [] [] [] [(0, .val (.b false)), (4, .row [.i a0.1, .i a0.2.1, .i a0.2.2.1, .s a0.2.2.2.1, .i a0.2.2.2.2.1, .i a0.2.2.2.2.2.1, .s a0.2.2.2.2.2.2]), (7, .val (.b true)), (12, .row [.i a0.1, .i a0.2.1, .i a0.2.2.1, .s a0.2.2.2.1, .i a0.2.2.2.2.1, .i a0.2.2.2.2.2.1, .s a0.2.2.2.2.2.2])] (o2 (Qi (Qh h4)) (o2 (Qy (X4 (i := ((k0 : Nat) : Int)) (by omega) rfl hx0)) (o2 (Qi (Qh h5)) (o1 (Qy (X4 (i := ((k0 : Nat) : Int)) (by omega) rfl hx0)))))) ?_
    exact ⟨rfl, Qd (by rw [h4, h5]; first | done | kernel_rfl)⟩
   ·
    have h5d := Zz h5
    refine rk Qb [(45, .b false)] [] [] [] [(0, .val (.b false)), (4, .row [.i a0.1, .i a0.2.1, .i a0.2.2.1, .s a0.2.2.2.1, .i a0.2.2.2.2.1, .i a0.2.2.2.2.2.1, .s a0.2.2.2.2.2.2]), (7, .val (.b false))] (o2 (Qi (Qh h4)) (o2 (Qy (X4 (i := ((k0 : Nat) : Int)) (by omega) rfl hx0)) (o1 (Qi (Qh h5))))) ?_
    exact ⟨rfl, Qd (by rw [h4, h5]; first | done | kernel_rfl)⟩
  refine ck (bif ((a0.1 == (6 : Int)) || (a0.1 == (7 : Int))) then (a0.2.1 == at_) else ((a0.1 == (5 : Int)) && (a0.2.1 == at_))) (fun h6 => ?_) (fun h6 => ?_)
  ·
   refine rk Qb [(5, .i (IntKind.i64.wrap (s0 + 1)))] [5, 45] [] [] [] (o0) ?_
   refine Qa ?_
   refine jn [(57, .b (((a0.1 == (6 : Int)) || (a0.1 == (7 : Int))) && (a0.2.2.1 == at_)))] [7] [] [] ((a0.1 == (6 : Int)) || (a0.1 == (7 : Int))) (fun h7 => ?_) (fun h7 => ?_) ?_
   ·
    refine rk Qb [(57, .b (a0.2.2.1 == at_))] [7] [] [] [(0, .val (.b true)), (4, .row [.i a0.1, .i a0.2.1, .i a0.2.2.1, .s a0.2.2.2.1, .i a0.2.2.2.2.1, .i a0.2.2.2.2.2.1, .s a0.2.2.2.2.2.2])] (o2 (Qi (Qh h7)) (o1 (Qy (X4 (i := ((k0 : Nat) : Int)) (by omega) rfl hx0)))) ?_
    exact ⟨rfl, Qd (by rw [h7]; first | done | kernel_rfl)⟩
   ·
    refine rk Qb [(57, .b false)] [7] [] [] [(0, .val (.b false))] (o1 (Qi (Qh h7))) ?_
    exact ⟨rfl, Qd (by rw [h7]; first | done | kernel_rfl)⟩
   refine ck (((a0.1 == (6 : Int)) || (a0.1 == (7 : Int))) && (a0.2.2.1 == at_)) (fun h8 => ?_) (fun h8 => ?_)
   ·
    have h8r : ((a0.2.2.1 == at_)) = true := and_r h8
    have h8rd := eq_of_beq h8r
    refine rk Qb [(5, .i (IntKind.i64.wrap (IntKind.i64.wrap (s0 + 1) + 1)))] [5, 57] [] [] [] (o0) ?_
    refine rk Qb [(6, .i ((k0 + 1 : Nat) : Int))] [6] [] [] [(1, .val (.i ((k0 + 1 : Nat) : Int)))] (o1 (Qi (Km (Q8 k0 (by omega))))) ?_
    exact Exists.intro (IntKind.i64.wrap (IntKind.i64.wrap (s0 + 1) + 1)) (And.intro (Qd (by kernel_rfl)) (Xe hx0 (X8 h6 (X8 h8 (rfl))) hI0))
   ·
    refine Qr ?_
    refine rk Qb [(6, .i ((k0 + 1 : Nat) : Int))] [6, 57] [] [] [(1, .val (.i ((k0 + 1 : Nat) : Int)))] (o1 (Qi (Km (Q8 k0 (by omega))))) ?_
    exact Exists.intro (IntKind.i64.wrap (s0 + 1)) (And.intro (Qd (by kernel_rfl)) (Xe hx0 (X8 h6 (Q6 h8 (rfl))) hI0))
  ·
   refine Qr ?_
   refine Qa ?_
   refine jn [(57, .b (((a0.1 == (6 : Int)) || (a0.1 == (7 : Int))) && (a0.2.2.1 == at_)))] [7, 45] [] [] ((a0.1 == (6 : Int)) || (a0.1 == (7 : Int))) (fun h9 => ?_) (fun h9 => ?_) ?_
   ·
    refine rk Qb [(57, .b (a0.2.2.1 == at_))] [7, 45] [] [] [(0, .val (.b true)), (4, .row [.i a0.1, .i a0.2.1, .i a0.2.2.1, .s a0.2.2.2.1, .i a0.2.2.2.2.1, .i a0.2.2.2.2.2.1, .s a0.2.2.2.2.2.2])] (o2 (Qi (Qh h9)) (o1 (Qy (X4 (i := ((k0 : Nat) : Int)) (by omega) rfl hx0)))) ?_
    exact ⟨rfl, Qd (by rw [h9]; first | done | kernel_rfl)⟩
   ·
    refine rk Qb [(57, .b false)] [7, 45] [] [] [(0, .val (.b false))] (o1 (Qi (Qh h9))) ?_
    exact ⟨rfl, Qd (by rw [h9]; first | done | kernel_rfl)⟩
   refine ck (((a0.1 == (6 : Int)) || (a0.1 == (7 : Int))) && (a0.2.2.1 == at_)) (fun h10 => ?_) (fun h10 => ?_)
   ·
    have h10r : ((a0.2.2.1 == at_)) = true := and_r h10
    have h10rd := eq_of_beq h10r
    refine rk Qb [(5, .i (IntKind.i64.wrap (s0 + 1)))] [5, 57] [] [] [] (o0) ?_
    refine rk Qb [(6, .i ((k0 + 1 : Nat) : Int))] [6] [] [] [(1, .val (.i ((k0 + 1 : Nat) : Int)))] (o1 (Qi (Km (Q8 k0 (by omega))))) ?_
    exact Exists.intro (IntKind.i64.wrap (s0 + 1)) (And.intro (Qd (by kernel_rfl)) (Xe hx0 (Q6 h6 (X8 h10 (rfl))) hI0))
   ·
    refine Qr ?_
    refine rk Qb [(6, .i ((k0 + 1 : Nat) : Int))] [6, 57] [] [] [(1, .val (.i ((k0 + 1 : Nat) : Int)))] (o1 (Qi (Km (Q8 k0 (by omega))))) ?_
    exact Exists.intro s0 (And.intro (Qd (by kernel_rfl)) (Xe hx0 (Q6 h6 (Q6 h10 (rfl))) hI0))
 ·
  refine Qa ?_
  refine Qa ?_
  refine rk Qb [(11, .b false)] [] [] [] [(2, .val (.i (q.length : Int))), (3, .val (.b false))] (o2 (Qi (Xs q)) (o1 (Qi (Qh (decide_eq_false (p := ((k0 : Nat) : Int) < (q.length : Int)) (by omega)))))) ?_
  refine ckF ?_
  refine Xt ?_
  exact Exists.intro s0 (And.intro (Qd (by kernel_rfl)) (Ym hk0 (rfl) hI0))
 ·
  refine Qa ?_
  refine rk Qb [(4, .i y0)] [4, 5] [] [] [] (o0) ?_
  refine Qq ?_
  exact Ze [] (congrArg (fun z => (.i z : AV)) (show J3 q at_ = y0 from Hk hD0 (rfl)).symm)
def K7 (q : (List Zo)) (k0 : Nat) (a0 : Zo) (_ : Unit) : Rd (Bool) (Unit) (Unit) := (bif ((!(Zr a0 ((k0 : Nat) : Int))) || (decide (((k0 : Nat) : Int) < ((q.length : Int) - 1)) && ((J3 q ((k0 : Nat) : Int)) != (1 : Int)))) then (.ret false) else (.next ()))
def V5 (_ : Nat) (_ : Unit) : Unit := ()
def Yx (q : (List Zo)) : Bool := (Out.on (Xv (K7 q) V5 q 0 ()) (fun _ => (Xr (q.length : Int) 1 9)))
theorem Wj (q : (List Zo)) : ACalls Tryz.prog 215 [.h q] (.b (Yx q)) := by
 refine Qt (tt := tt) Qb Tryz.func215 (fn := Tryz.f215) rfl (by unfold Jr; kernel_rfl) (Nat.le_of_ble_eq_true rfl) fun w0 F0 hG => ?_
 refine Qa ?_
 refine rk Qb [(2, .b false)] [] [] [] [] (o0) ?_
 refine Qa ?_
 refine Qa ?_
 refine rk Qb [(3, .i 0)] [] [] [] [] (o0) ?_
 refine wdT 0 0 .sh q (fun hw1 => ?_)
 have hl2 : List.length q ≤ 1073741824 := Qx (hw1)
 refine blk (fun (k0 : Nat) (s0 : Unit) => [(3, .i ((k0 : Nat) : Int))]) [3] (fun k0 s0 => []) [] (fun (y0 : Unit) => []) [3] (fun y0 => []) [] (fun (k0 : Nat) (s0 : Unit) => (Xv (K7 q) V5 q 0 ()) = Xv (K7 q) V5 (List.drop k0 q) k0 s0) (fun (y0 : Unit) => (Xv (K7 q) V5 q 0 ()) = .brk y0) q.length () (Qd (by kernel_rfl)) rfl (fun k0 s0 hk0 hI0 => ?_) (fun k0 s0 hk0 hI0 => ?_) (fun y0 hD0 => ?_)
 ·
  obtain ⟨a0, hx0⟩ := Yl (l := q) (i := k0) hk0
  refine Qa ?_
  refine Qa ?_
  refine rk Qb [(7, .b true)] [] [] [] [(2, .val (.i (q.length : Int))), (3, .val (.b true))] (o2 (Qi (Xs q)) (o1 (Qi (Qh (decide_eq_true (p := ((k0 : Nat) : Int) < (q.length : Int)) (by omega)))))) ?_
  refine ckT ?_
  refine Qr ?_
  refine Qa ?_
  refine Xf ?_
  refine Qa ?_
  refine jn [(29, .b ((!(Zr a0 ((k0 : Nat) : Int))) || (decide (((k0 : Nat) : Int) < ((q.length : Int) - 1)) && ((J3 q ((k0 : Nat) : Int)) != (1 : Int)))))] [7] [] [] (!(Zr a0 ((k0 : Nat) : Int))) (fun h3 => ?_) (fun h3 => ?_) ?_
  ·
   have h3n : (Zr a0 ((k0 : Nat) : Int)) = false := Ug h3
   refine rk Qb [(29, .b true)] [7] [] [] [(2, .row [.i a0.1, .i a0.2.1, .i a0.2.2.1, .s a0.2.2.2.1, .i a0.2.2.2.2.1, .i a0.2.2.2.2.2.1, .s a0.2.2.2.2.2.2]), (5, .val (.b false)), (6, .val (.b true))] (o2 (Qy (X4 (i := ((k0 : Nat) : Int)) (by omega) rfl hx0)) (o2 (Qg (cb h3n (Qc4 a0 ((k0 : Nat) : Int)))) (o1 (Qi (show .b (!false) = .b true from rfl))))) ?_
   exact ⟨rfl, Qd (by rw [h3]; first | done | kernel_rfl)⟩
  ·
   have h3n : (Zr a0 ((k0 : Nat) : Int)) = true := Jn h3
   refine X9 (decide (((k0 : Nat) : Int) < ((q.length : Int) - 1))) (fun h4 => ?_) (fun h4 => ?_)
   ·
    have h4d := of_decide_eq_true h4
    refine rk Qb [(29, .b ((J3 q ((k0 : Nat) : Int)) != (1 : Int)))] [7] [] [] [(2, .row [.i a0.1, .i a0.2.1, .i a0.2.2.1, .s a0.2.2.2.1, .i a0.2.2.2.2.1, .i a0.2.2.2.2.2.1, .s a0.2.2.2.2.2.2]), (5, .val (.b true)), (6, .val (.b false)), (10, .val (.i (q.length : Int))), (11, .val (.i ((q.length : Int) - 1))), (12, .val (.b true)), (16, .val (.i (J3 q ((k0 : Nat) : Int))))] (o2 (Qy (X4 (i := ((k0 : Nat) : Int)) (by omega) rfl hx0)) (o2 (Qg (cb h3n (Qc4 a0 ((k0 : Nat) : Int)))) (o2 (Qi (show .b (!true) = .b false from rfl)) (o2 (Qi (Xs q)) (o2 (Qi (Km (IntWalk.i64_in ((q.length : Int) - 1) (by omega)))) (o2 (Qi (Qh h4)) (o1 (Qg (specCountReferences_a q ((k0 : Nat) : Int)))))))))) ?_
    exact ⟨rfl, Qd (by rw [h3, h4]; first | done | kernel_rfl)⟩
   ·
    have h4d := of_decide_eq_false h4
    refine rk Qb [(29, .b false)] [7] [] [] [(2, .row [.i a0.1, .i a0.2.1, .i a0.2.2.1, .s a0.2.2.2.1, .i a0.2.2.2.2.1, .i a0.2.2.2.2.2.1, .s a0.2.2.2.2.2.2]), (5, .val (.b true)), (6, .val (.b false)), (10, .val (.i (q.length : Int))), (11, .val (.i ((q.length : Int) - 1))), (12, .val (.b false))] (o2 (Qy (X4 (i := ((k0 : Nat) : Int)) (by omega) rfl hx0)) (o2 (Qg (cb h3n (Qc4 a0 ((k0 : Nat) : Int)))) (o2 (Qi (show .b (!true) = .b false from rfl)) (o2 (Qi (Xs q)) (o2 (Qi (Km (IntWalk.i64_in ((q.length : Int) - 1) (by omega)))) (o1 (Qi (Qh h4)))))))) ?_
    exact ⟨rfl, Qd (by rw [h3, h4]; first | done | kernel_rfl)⟩
  refine ck ((!(Zr a0 ((k0 : Nat) : Int))) || (decide (((k0 : Nat) : Int) < ((q.length : Int) - 1)) && ((J3 q ((k0 : Nat) : Int)) != (1 : Int)))) (fun h5 => ?_) (fun h5 => ?_)
  ·
   refine Qa ?_
   refine rk Qb [] [29] [] [] [] (o0) ?_
   refine Qq ?_
   have hr6 : (Xv (K7 q) V5 q 0 ()) = .ret false := Jy hx0 (X8 h5 (rfl)) hI0
   exact Ze [] (congrArg (fun z => (.b z : AV)) (show Yx q = false from on_r hr6).symm)
  ·
   refine Qr ?_
   refine rk Qb [(3, .i ((k0 + 1 : Nat) : Int))] [3, 29] [] [] [(1, .val (.i ((k0 + 1 : Nat) : Int)))] (o1 (Qi (Km (Q8 k0 (by omega))))) ?_
   exact Exists.intro () (And.intro (Qd (by kernel_rfl)) (Xe hx0 (Q6 h5 (rfl)) hI0))
 ·
  refine Qa ?_
  refine Qa ?_
  refine rk Qb [(7, .b false)] [] [] [] [(2, .val (.i (q.length : Int))), (3, .val (.b false))] (o2 (Qi (Xs q)) (o1 (Qi (Qh (decide_eq_false (p := ((k0 : Nat) : Int) < (q.length : Int)) (by omega)))))) ?_
  refine ckF ?_
  refine Xt ?_
  exact Exists.intro () (And.intro (Qd (by kernel_rfl)) (Ym hk0 (rfl) hI0))
 ·
  refine Qa ?_
  refine rk Qb [(2, .b (Xr (q.length : Int) 1 9))] [0, 2] [] [] [(1, .val (.i (q.length : Int))), (2, .val (.b (Xr (q.length : Int) 1 9)))] (o2 (Qi (Xs q)) (o1 (Qg (Jz (q.length : Int) 1 9)))) ?_
  refine Qq ?_
  exact Ze [] (congrArg (fun z => (.b z : AV)) (show Yx q = (Xr (q.length : Int) 1 9) from Hk hD0 (rfl)).symm)
end Go.Proofs.YtamghcfmhfknmaaGreat
namespace Go.Proofs.YtamghcfmhfknmaaGreat
open Go.RowKit
theorem within_in (a b c : Int) : Xy a b c = Xr a b c := rfl
theorem within_iff {a b c : Int} : Xy a b c = true ↔ b ≤ a ∧ a ≤ c := by simp [Xy]
theorem l01In_iff {a b c : Int} : Xr a b c = true ↔ b ≤ a ∧ a ≤ c := by simp [Xr]
theorem vstr_eq (s : ByteArray) : X7 s = Yk s := rfl
theorem vname_eq (s : ByteArray) : Yn s = X5 s := by
  unfold Yn X5 Wr
  by_cases h : s.size = 1
  · simp only [h, Int.toNat_natCast, Hu, V7]
    by_cases h1 : Qal s 0 < 97 <;> by_cases h2 : Qal s 0 > 122 <;> simp [h1, h2, Out.on, Xr, Uh] <;> omega
  · have h1 : ((s.size : Int) == 1) = false := by simpa using fun e : (s.size : Int) = 1 => h (by omega)
    have h2 : Xr (s.size : Int) 1 1 = false := by simp [Xr]; omega
    rw [h1, h2, Bool.false_and]
    cases hf : Hu (V7 s) Uh (Int.toNat (s.size : Int)) 0 () with
    | brk t => rfl
    | ret r =>
      have key : ∀ n k, ∀ r, Hu (V7 s) Uh n k () = .ret r → r = false := by
        intro n
        induction n with
        | zero => intro k r h; simp [Hu] at h
        | succ n ih =>
          intro k r h
          simp only [Hu, V7] at h
          cases hc : (decide (Qal s ((k : Nat) : Int) < (97 : Int)) || decide (Qal s ((k : Nat) : Int) > (122 : Int))) with
          | true => rw [hc] at h; simp only [cond_true] at h; cases h; rfl
          | false => rw [hc] at h; exact ih _ _ h
      exact (key _ _ _ hf).symm
theorem vval_eq (v : Qee) : Z9 v = Zi v := rfl
theorem vnode_eq (n : Zo) (k : Int) : Y0 n k = Zr n k := by
  unfold Y0 Zr
  rw [vname_eq, vval_eq, vstr_eq]
  simp only [within_in]
  by_cases h1 : n.1 = 1
  · simp [h1]
  by_cases h2 : n.1 = 2
  · simp [h1, h2, Bool.and_comm]
  by_cases h3 : n.1 = 3
  · simp [h1, h2, h3]; ac_rfl
  by_cases h4 : n.1 = 4
  · simp [h1, h2, h3, h4]; cases h : (n.2.2.2.2.1 == 1) <;> simp_all <;> ac_rfl
  by_cases h5 : n.1 = 5
  · simp [h1, h2, h3, h4, h5]; ac_rfl
  by_cases h6 : n.1 = 6
  · simp [h1, h2, h3, h4, h5, h6]; ac_rfl
  by_cases h7 : n.1 = 7
  · simp [h1, h2, h3, h4, h5, h6, h7]; ac_rfl
  by_cases h8 : n.1 = 8
  · simp [h1, h2, h3, h4, h5, h6, h7, h8, Bool.and_comm]
  by_cases h9 : n.1 = 9
  · simp [h1, h2, h3, h4, h5, h6, h7, h8, h9, Bool.and_comm]
  simp only [beq_eq_false_iff_ne.2 h1, beq_eq_false_iff_ne.2 h2, beq_eq_false_iff_ne.2 h3, beq_eq_false_iff_ne.2 h4, beq_eq_false_iff_ne.2 h5, beq_eq_false_iff_ne.2 h6, beq_eq_false_iff_ne.2 h7, beq_eq_false_iff_ne.2 h8, beq_eq_false_iff_ne.2 h9, cond_false]
theorem refs_eq (q : List Zo) (k : Int) : Z2 q k = J3 q k := by
  unfold Z2 J3
  rw [forL_ext (f := Jf k) (g := Kx k) (e := Kw) (e' := V3) (fun i a s => by
    unfold Jf Kx
    cases (a.2.1 == k) <;> cases (a.2.2.1 == k) <;> cases (a.1 == 6) <;> cases (a.1 == 7) <;> cases (a.1 == 5) <;> rfl) (fun _ _ => rfl)]
theorem vq_eq (q : List Zo) : Q7 q = Yx q := by
  unfold Q7 Yx
  rw [forL_ext (f := Zf q) (g := K7 q) (e := J0) (e' := V5) (fun i a s => by
    unfold Zf K7
    rw [vnode_eq, refs_eq]) (fun _ _ => rfl)]
  rfl
theorem vq_spec {q : List Zo} (h : Yx q = true) : Q7 q = true := (vq_eq q).trans h
theorem vq_run {q : List Zo} (h : Q7 q = true) : (∃ t, Xv (Zf q) J0 q 0 () = .brk t) ∧ Xy (q.length : Int) 1 9 = true := by
  unfold Q7 at h
  cases hf : Xv (Zf q) J0 q 0 () with
  | brk t => rw [hf] at h; exact ⟨⟨t, rfl⟩, h⟩
  | ret r =>
    rw [hf] at h
    obtain rfl : r = true := h
    exfalso
    have key : ∀ (l : List Zo) k, Xv (Zf q) J0 l k () ≠ .ret true := by
      intro l
      induction l with
      | nil => intro k h; simp [Xv] at h
      | cons a l ih =>
        intro k h
        simp only [Xv] at h
        unfold Zf at h
        split at h
        · rename_i hf; exact ih _ h
        · cases h
        · rename_i r hf; cases h; revert hf; generalize (_ || _ : Bool) = c; cases c <;> simp
    exact key _ _ hf
theorem vq_len {q : List Zo} (h : Q7 q = true) : 1 ≤ q.length ∧ q.length ≤ 9 := by
  have := within_iff.1 (vq_run h).2
  omega
theorem vq_node {q : List Zo} (h : Q7 q = true) {i : Nat} {n : Zo} (hi : q[i]? = some n) : Y0 n (i : Int) = true := by
  obtain ⟨⟨t, ht⟩, _⟩ := vq_run h
  have := forL_all (fun k a t => by unfold Zf; generalize (_ || _ : Bool) = c; cases c <;> simp) ht i n hi
  unfold Zf at this
  rw [Nat.zero_add] at this
  cases hn : Y0 n (i : Int) with
  | true => rfl
  | false => rw [hn] at this; simp at this
theorem vn_kids {n : Zo} {k : Int} (h : Y0 n k = true) (hk : 0 ≤ k ∧ k < 4611686018427387904) : (n.1 = 5 ∨ n.1 = 6 ∨ n.1 = 7 → 0 ≤ n.2.1 ∧ n.2.1 < k) ∧ (n.1 = 6 ∨ n.1 = 7 → 0 ≤ n.2.2.1 ∧ n.2.2.1 < k) := by
  have hw : IntKind.i64.wrap (k - 1) = k - 1 := IntWalk.i64_in _ (by omega)
  unfold Y0 at h
  rw [hw] at h
  refine ⟨fun h5 => ?_, fun h5 => ?_⟩
  · rcases h5 with h5 | h5 | h5 <;> (simp [h5, Xy] at h; omega)
  · rcases h5 with h5 | h5 <;> (simp [h5, Xy] at h; omega)
theorem Qdv {q : List Zo} (h : Q7 q = true) {k : Int} (ha : 0 ≤ k) (hb : k < (q.length : Int)) :
    ((nth q (Int.toNat k)).1 = 5 ∨ (nth q (Int.toNat k)).1 = 6 ∨ (nth q (Int.toNat k)).1 = 7 → 0 ≤ (nth q (Int.toNat k)).2.1 ∧ (nth q (Int.toNat k)).2.1 < k) ∧ ((nth q (Int.toNat k)).1 = 6 ∨ (nth q (Int.toNat k)).1 = 7 → 0 ≤ (nth q (Int.toNat k)).2.2.1 ∧ (nth q (Int.toNat k)).2.2.1 < k) := by
  have hi : q[Int.toNat k]? = some (nth q (Int.toNat k)) := Yj (by omega)
  have := vq_node h hi
  rw [Int.toNat_of_nonneg ha] at this
  exact vn_kids this ⟨ha, by have := (vq_len h).2; omega⟩
section
variable {q : List Zo} {k : Int} (h : Q7 q = true) (ha : 0 ≤ k) (hb : k < (q.length : Int))
include h ha hb
theorem ql_a (h5 : ((nth q (Int.toNat k)).1 == (5 : Int)) = true) : 0 ≤ (nth q (Int.toNat k)).2.1 ∧ (nth q (Int.toNat k)).2.1 < k := (Qdv h ha hb).1 (.inl (eq_of_beq h5))
theorem ql_b (h5 : ((nth q (Int.toNat k)).1 == (6 : Int)) = true) : 0 ≤ (nth q (Int.toNat k)).2.1 ∧ (nth q (Int.toNat k)).2.1 < k := (Qdv h ha hb).1 (.inr (.inl (eq_of_beq h5)))
theorem ql_c (h5 : ((nth q (Int.toNat k)).1 == (7 : Int)) = true) : 0 ≤ (nth q (Int.toNat k)).2.1 ∧ (nth q (Int.toNat k)).2.1 < k := (Qdv h ha hb).1 (.inr (.inr (eq_of_beq h5)))
theorem qr_b (h5 : ((nth q (Int.toNat k)).1 == (6 : Int)) = true) : 0 ≤ (nth q (Int.toNat k)).2.2.1 ∧ (nth q (Int.toNat k)).2.2.1 < k := (Qdv h ha hb).2 (.inl (eq_of_beq h5))
theorem qr_c (h5 : ((nth q (Int.toNat k)).1 == (7 : Int)) = true) : 0 ≤ (nth q (Int.toNat k)).2.2.1 ∧ (nth q (Int.toNat k)).2.2.1 < k := (Qdv h ha hb).2 (.inr (eq_of_beq h5))
theorem qlr_bc (h5 : (((nth q (Int.toNat k)).1 == (6 : Int)) || ((nth q (Int.toNat k)).1 == (7 : Int))) = true) : (0 ≤ (nth q (Int.toNat k)).2.1 ∧ (nth q (Int.toNat k)).2.1 < k) ∧ (0 ≤ (nth q (Int.toNat k)).2.2.1 ∧ (nth q (Int.toNat k)).2.2.1 < k) := by
  have h6 : (nth q (Int.toNat k)).1 = 6 ∨ (nth q (Int.toNat k)).1 = 7 := by simpa using h5
  exact ⟨(Qdv h ha hb).1 (.inr h6), (Qdv h ha hb).2 h6⟩
end
open GoE (enc wide)
def Zm (q : (List Zo)) (k0 : Nat) (s0 : (List Bool)) : Rd ((List Bool)) ((List Bool)) ((List Bool)) := (bif ((nth q (Int.toNat (dn ((q.length : Int) - 1) k0))).1 == (5 : Int)) then (.next (List.set s0 (Int.toNat ((nth q (Int.toNat (dn ((q.length : Int) - 1) k0))).2.1)) ((nth s0 (Int.toNat (dn ((q.length : Int) - 1) k0))) || ((nth q (Int.toNat (dn ((q.length : Int) - 1) k0))).1 == (5 : Int))))) else (bif ((nth q (Int.toNat (dn ((q.length : Int) - 1) k0))).1 == (6 : Int)) then (.next (List.set (List.set s0 (Int.toNat ((nth q (Int.toNat (dn ((q.length : Int) - 1) k0))).2.1)) ((nth s0 (Int.toNat (dn ((q.length : Int) - 1) k0))) || ((nth q (Int.toNat (dn ((q.length : Int) - 1) k0))).1 == (5 : Int)))) (Int.toNat ((nth q (Int.toNat (dn ((q.length : Int) - 1) k0))).2.2.1)) ((nth s0 (Int.toNat (dn ((q.length : Int) - 1) k0))) || ((nth q (Int.toNat (dn ((q.length : Int) - 1) k0))).1 == (5 : Int))))) else (bif ((nth q (Int.toNat (dn ((q.length : Int) - 1) k0))).1 == (7 : Int)) then (.next (List.set (List.set s0 (Int.toNat ((nth q (Int.toNat (dn ((q.length : Int) - 1) k0))).2.1)) ((nth s0 (Int.toNat (dn ((q.length : Int) - 1) k0))) || ((nth q (Int.toNat (dn ((q.length : Int) - 1) k0))).1 == (5 : Int)))) (Int.toNat ((nth q (Int.toNat (dn ((q.length : Int) - 1) k0))).2.2.1)) ((nth s0 (Int.toNat (dn ((q.length : Int) - 1) k0))) || ((nth q (Int.toNat (dn ((q.length : Int) - 1) k0))).1 == (5 : Int))))) else (.next s0))))
def K8 (_ : Nat) (s0 : (List Bool)) : (List Bool) := s0
def Xq (q : (List Zo)) : (List Bool) := (bif (!(Q7 q)) then [] else (Out.on (Hu (Zm q) K8 (List.length q) 0 (List.replicate (Int.toNat (q.length : Int)) false)) (fun y0 => y0)))
theorem implNegatedNodes_a (q : (List Zo)) : ACalls Tryz.prog 269 [.h q] (.o 0 (Xq q)) := by
 refine Qt (tt := tt) Qb Tryz.func269 (fn := Tryz.f269) rfl (by unfold Jr; kernel_rfl) (Nat.le_of_ble_eq_true rfl) fun w0 F0 hG => ?_
 refine Qa ?_
 refine rk Qb [(2, .e 0)] [] [] [] [] (o0) ?_
 refine Qa ?_
 refine Qa ?_
 refine rk Qb [(8, .b (!(Q7 q)))] [] [] [] [(1, .val (.b (Q7 q)))] (o1 (Qg (U0 q))) ?_
 refine ck (!(Q7 q)) (fun h1 => ?_) (fun h1 => ?_)
 ·
  refine Qa ?_
  refine rk Qb [] [8] [] [] [] (o0) ?_
  refine opn [(false, 2, 0, true, 384000, 1)] ?_
  refine Qq ?_
  exact Ze [] (congrArg (fun z => (.o 0 z : AV)) (show Xq q = [] from X8 h1 (rfl)).symm)
 ·
  have h1n : (Q7 q) = true := Jn h1
  refine Qr ?_
  refine Qa ?_
  refine wdT 0 0 .sh q (fun hw2 => ?_)
  have hl3 : List.length q ≤ 1073741824 := Qx (hw2)
  refine rk Qb [(3, .one (.slc (.own true 704) 1 (List.replicate (Int.toNat (q.length : Int)) [.b false])))] [8] [] [] [(1, .val (.i (q.length : Int)))] (o2 (Qi (Xs q)) (o1 (ob_rng (lo := 0) (hi := (q.length : Int)) (n := 1073741824) (⟨by omega, by omega, by omega⟩)))) ?_
  refine eqn [(3, .o 704 (List.replicate (Int.toNat (q.length : Int)) false))] [3] [] [] (by rw [show (List.replicate (Int.toNat (q.length : Int)) [.b false]) = (eL (List.replicate (Int.toNat (q.length : Int)) false)) from mk_eL _ false]; first | done | kernel_rfl) ?_
  refine Qa ?_
  refine Qa ?_
  refine rk Qb [(4, .i ((q.length : Int) - 1))] [] [] [] [(1, .val (.i (q.length : Int))), (2, .val (.i ((q.length : Int) - 1)))] (o2 (Qi (Xs q)) (o1 (Qi (Km (IntWalk.i64_in ((q.length : Int) - 1) (by omega)))))) ?_
  refine blk (fun (k0 : Nat) (s0 : (List Bool)) => [(3, .o 704 s0), (4, .i (dn ((q.length : Int) - 1) k0))]) [3, 4] (fun k0 s0 => []) [] (fun (y0 : (List Bool)) => [(3, .o 704 y0)]) [0, 3, 4] (fun y0 => []) [] (fun (k0 : Nat) (s0 : (List Bool)) => (Hu (Zm q) K8 (List.length q) 0 (List.replicate (Int.toNat (q.length : Int)) false)) = Hu (Zm q) K8 ((List.length q) - k0) k0 s0 ∧ List.length s0 = (Int.toNat (q.length : Int))) (fun (y0 : (List Bool)) => (Hu (Zm q) K8 (List.length q) 0 (List.replicate (Int.toNat (q.length : Int)) false)) = .brk y0 ∧ List.length y0 = (Int.toNat (q.length : Int))) (List.length q) (List.replicate (Int.toNat (q.length : Int)) false) (Qd (by kernel_rfl)) ⟨rfl, (by simp)⟩ (fun k0 s0 hk0 hI0 => ?_) (fun k0 s0 hk0 hI0 => ?_) (fun y0 hD0 => ?_)
  ·
   have hA0_0 := hI0.2
   have hdn0 := dn_eq ((q.length : Int) - 1) k0
   refine Qa ?_
   refine Qa ?_
   refine rk Qb [(16, .b true)] [] [] [] [(1, .val (.b true))] (o1 (Qi (Qh (decide_eq_true (p := (dn ((q.length : Int) - 1) k0) ≥ (0 : Int)) (by omega))))) ?_
   refine ckT ?_
   refine Qr ?_
   refine Qa ?_
   refine Xf ?_
   refine Qa ?_
   refine jn [(5, .b ((nth s0 (Int.toNat (dn ((q.length : Int) - 1) k0))) || ((nth q (Int.toNat (dn ((q.length : Int) - 1) k0))).1 == (5 : Int))))] [16] [] [] (nth s0 (Int.toNat (dn ((q.length : Int) - 1) k0))) (fun h4 => ?_) (fun h4 => ?_) ?_
   ·
    refine wdT 3 0 (.own true 704) s0 (fun hw6 => ?_)
    have hl7 : List.length s0 ≤ 1073741824 := Qx (hw6)
    have hx5 : s0[(Int.toNat (dn ((q.length : Int) - 1) k0))]? = some (nth s0 (Int.toNat (dn ((q.length : Int) - 1) k0))) := Yj (by omega)
    refine rk Qb [(5, .b true)] [16] [] [] [(2, .rowE [.b (nth s0 (Int.toNat (dn ((q.length : Int) - 1) k0)))]), (3, .val (.b true))] (o2 (Qy (X4 (i := (dn ((q.length : Int) - 1) k0)) (by omega) rfl hx5)) (o1 (Qi (Qh h4)))) ?_
    exact ⟨rfl, Qd (by rw [h4]; first | done | kernel_rfl)⟩
   ·
    refine wdT 3 0 (.own true 704) s0 (fun hw9 => ?_)
    have hl10 : List.length s0 ≤ 1073741824 := Qx (hw9)
    have hx8 : s0[(Int.toNat (dn ((q.length : Int) - 1) k0))]? = some (nth s0 (Int.toNat (dn ((q.length : Int) - 1) k0))) := Yj (by omega)
    have hx11 : q[(Int.toNat (dn ((q.length : Int) - 1) k0))]? = some (nth q (Int.toNat (dn ((q.length : Int) - 1) k0))) := Yj (by omega)
    refine rk Qb [(5, .b ((nth q (Int.toNat (dn ((q.length : Int) - 1) k0))).1 == (5 : Int)))] [16] [] [] [(2, .rowE [.b (nth s0 (Int.toNat (dn ((q.length : Int) - 1) k0)))]), (3, .val (.b false)), (7, .row [.i ((nth q (Int.toNat (dn ((q.length : Int) - 1) k0))).1), .i ((nth q (Int.toNat (dn ((q.length : Int) - 1) k0))).2.1), .i ((nth q (Int.toNat (dn ((q.length : Int) - 1) k0))).2.2.1), .s ((nth q (Int.toNat (dn ((q.length : Int) - 1) k0))).2.2.2.1), .i ((nth q (Int.toNat (dn ((q.length : Int) - 1) k0))).2.2.2.2.1), .i ((nth q (Int.toNat (dn ((q.length : Int) - 1) k0))).2.2.2.2.2.1), .s ((nth q (Int.toNat (dn ((q.length : Int) - 1) k0))).2.2.2.2.2.2)])] (o2 (Qy (X4 (i := (dn ((q.length : Int) - 1) k0)) (by omega) rfl hx8)) (o2 (Qi (Qh h4)) (o1 (Qy (X4 (i := (dn ((q.length : Int) - 1) k0)) (by omega) rfl hx11))))) ?_
    exact ⟨rfl, Qd (by rw [h4]; first | done | kernel_rfl)⟩
   refine Qa ?_
   have hx12 : q[(Int.toNat (dn ((q.length : Int) - 1) k0))]? = some (nth q (Int.toNat (dn ((q.length : Int) - 1) k0))) := Yj (by omega)
   refine rk Qb [(35, .i ((nth q (Int.toNat (dn ((q.length : Int) - 1) k0))).1))] [] [] [] [(2, .row [.i ((nth q (Int.toNat (dn ((q.length : Int) - 1) k0))).1), .i ((nth q (Int.toNat (dn ((q.length : Int) - 1) k0))).2.1), .i ((nth q (Int.toNat (dn ((q.length : Int) - 1) k0))).2.2.1), .s ((nth q (Int.toNat (dn ((q.length : Int) - 1) k0))).2.2.2.1), .i ((nth q (Int.toNat (dn ((q.length : Int) - 1) k0))).2.2.2.2.1), .i ((nth q (Int.toNat (dn ((q.length : Int) - 1) k0))).2.2.2.2.2.1), .s ((nth q (Int.toNat (dn ((q.length : Int) - 1) k0))).2.2.2.2.2.2)])] (o1 (Qy (X4 (i := (dn ((q.length : Int) - 1) k0)) (by omega) rfl hx12))) ?_
   refine Xf ?_
   refine Qa ?_
   refine rk Qb [(36, .b ((nth q (Int.toNat (dn ((q.length : Int) - 1) k0))).1 == (5 : Int)))] [] [] [] [] (o0) ?_
   refine ck ((nth q (Int.toNat (dn ((q.length : Int) - 1) k0))).1 == (5 : Int)) (fun h13 => ?_) (fun h13 => ?_)
   ·
    have h13k := ql_a h1n (by omega) (by omega) h13
    have h13d := eq_of_beq h13
    refine wdT 3 0 (.own true 704) s0 (fun hw15 => ?_)
    have hl16 : List.length s0 ≤ 1073741824 := Qx (hw15)
    have hx14 : s0[(Int.toNat ((nth q (Int.toNat (dn ((q.length : Int) - 1) k0))).2.1))]? = some (nth s0 (Int.toNat ((nth q (Int.toNat (dn ((q.length : Int) - 1) k0))).2.1))) := Yj (by omega)
    refine rk Qb [(3, .one (.slc (.own true 704) 1 (setRow (eL s0) (Int.toNat ((nth q (Int.toNat (dn ((q.length : Int) - 1) k0))).2.1)) 0 [.b ((nth s0 (Int.toNat (dn ((q.length : Int) - 1) k0))) || ((nth q (Int.toNat (dn ((q.length : Int) - 1) k0))).1 == (5 : Int)))])))] [3, 5, 35, 36] [] [] [(3, .row [.i ((nth q (Int.toNat (dn ((q.length : Int) - 1) k0))).1), .i ((nth q (Int.toNat (dn ((q.length : Int) - 1) k0))).2.1), .i ((nth q (Int.toNat (dn ((q.length : Int) - 1) k0))).2.2.1), .s ((nth q (Int.toNat (dn ((q.length : Int) - 1) k0))).2.2.2.1), .i ((nth q (Int.toNat (dn ((q.length : Int) - 1) k0))).2.2.2.2.1), .i ((nth q (Int.toNat (dn ((q.length : Int) - 1) k0))).2.2.2.2.2.1), .s ((nth q (Int.toNat (dn ((q.length : Int) - 1) k0))).2.2.2.2.2.2)]), (7, .rowE [.b (nth s0 (Int.toNat ((nth q (Int.toNat (dn ((q.length : Int) - 1) k0))).2.1)))])] (o2 (Qy (X4 (i := (dn ((q.length : Int) - 1) k0)) (by omega) rfl hx12)) (o1 (Qy (X4 (i := (nth q (Int.toNat (dn ((q.length : Int) - 1) k0))).2.1) (by omega) rfl hx14)))) ?_
    refine eqn [(3, .o 704 (List.set s0 (Int.toNat ((nth q (Int.toNat (dn ((q.length : Int) - 1) k0))).2.1)) ((nth s0 (Int.toNat (dn ((q.length : Int) - 1) k0))) || ((nth q (Int.toNat (dn ((q.length : Int) - 1) k0))).1 == (5 : Int)))))] [3] [] [] (by rw [K0 (y := ((nth s0 (Int.toNat (dn ((q.length : Int) - 1) k0))) || ((nth q (Int.toNat (dn ((q.length : Int) - 1) k0))).1 == (5 : Int)))) hx14 rfl]; first | done | kernel_rfl) ?_
    refine rk Qb [(4, .i (dn ((q.length : Int) - 1) (k0 + 1)))] [4] [] [] [(1, .val (.i (dn ((q.length : Int) - 1) (k0 + 1))))] (o1 (Qi (show .i (IntKind.i64.wrap ((dn ((q.length : Int) - 1) k0) - 1)) = .i (dn ((q.length : Int) - 1) (k0 + 1)) from Km (show IntKind.i64.wrap ((dn ((q.length : Int) - 1) k0) - 1) = (dn ((q.length : Int) - 1) (k0 + 1)) from IntWalk.i64_in ((dn ((q.length : Int) - 1) k0) - 1) (by omega))))) ?_
    exact Exists.intro (List.set s0 (Int.toNat ((nth q (Int.toNat (dn ((q.length : Int) - 1) k0))).2.1)) ((nth s0 (Int.toNat (dn ((q.length : Int) - 1) k0))) || ((nth q (Int.toNat (dn ((q.length : Int) - 1) k0))).1 == (5 : Int)))) (And.intro (Qd (by kernel_rfl)) ⟨Vh hk0 (X8 h13 (rfl)) hI0.1, (by first | omega | (simp only [List.length_set]; omega))⟩)
   ·
    have h13d := Zz h13
    refine Qa ?_
    refine Qa ?_
    refine rk Qb [(46, .b ((nth q (Int.toNat (dn ((q.length : Int) - 1) k0))).1 == (6 : Int)))] [36] [] [] [] (o0) ?_
    refine ck ((nth q (Int.toNat (dn ((q.length : Int) - 1) k0))).1 == (6 : Int)) (fun h17 => ?_) (fun h17 => ?_)
    ·
     have h17k := ql_b h1n (by omega) (by omega) h17; have h17m := qr_b h1n (by omega) (by omega) h17
     have h17d := eq_of_beq h17
     refine Qr ?_
     refine ckt h17 ?_
     refine wdT 3 0 (.own true 704) s0 (fun hw19 => ?_)
     have hl20 : List.length s0 ≤ 1073741824 := Qx (hw19)
     have hx18 : s0[(Int.toNat ((nth q (Int.toNat (dn ((q.length : Int) - 1) k0))).2.1))]? = some (nth s0 (Int.toNat ((nth q (Int.toNat (dn ((q.length : Int) - 1) k0))).2.1))) := Yj (by omega)
     have hx21 : (List.set s0 (Int.toNat ((nth q (Int.toNat (dn ((q.length : Int) - 1) k0))).2.1)) ((nth s0 (Int.toNat (dn ((q.length : Int) - 1) k0))) || ((nth q (Int.toNat (dn ((q.length : Int) - 1) k0))).1 == (5 : Int))))[(Int.toNat ((nth q (Int.toNat (dn ((q.length : Int) - 1) k0))).2.2.1))]? = some (nth (List.set s0 (Int.toNat ((nth q (Int.toNat (dn ((q.length : Int) - 1) k0))).2.1)) ((nth s0 (Int.toNat (dn ((q.length : Int) - 1) k0))) || ((nth q (Int.toNat (dn ((q.length : Int) - 1) k0))).1 == (5 : Int)))) (Int.toNat ((nth q (Int.toNat (dn ((q.length : Int) - 1) k0))).2.2.1))) := Yj (by first | omega | (simp only [List.length_set]; omega))
     refine rd' Qb Js [(3, .one (.slc (.own true 704) 1 (setRow (setRow (eL s0) (Int.toNat ((nth q (Int.toNat (dn ((q.length : Int) - 1) k0))).2.1)) 0 [.b ((nth s0 (Int.toNat (dn ((q.length : Int) - 1) k0))) || ((nth q (Int.toNat (dn ((q.length : Int) - 1) k0))).1 == (5 : Int)))]) (Int.toNat ((nth q (Int.toNat (dn ((q.length : Int) - 1) k0))).2.2.1)) 0 [.b ((nth s0 (Int.toNat (dn ((q.length : Int) - 1) k0))) || ((nth q (Int.toNat (dn ((q.length : Int) - 1) k0))).1 == (5 : Int)))])))] [3, 5, 35, 46] [] [] [(3, .row [.i ((nth q (Int.toNat (dn ((q.length : Int) - 1) k0))).1), .i ((nth q (Int.toNat (dn ((q.length : Int) - 1) k0))).2.1), .i ((nth q (Int.toNat (dn ((q.length : Int) - 1) k0))).2.2.1), .s ((nth q (Int.toNat (dn ((q.length : Int) - 1) k0))).2.2.2.1), .i ((nth q (Int.toNat (dn ((q.length : Int) - 1) k0))).2.2.2.2.1), .i ((nth q (Int.toNat (dn ((q.length : Int) - 1) k0))).2.2.2.2.2.1), .s ((nth q (Int.toNat (dn ((q.length : Int) - 1) k0))).2.2.2.2.2.2)]), (9, .row [.i ((nth q (Int.toNat (dn ((q.length : Int) - 1) k0))).1), .i ((nth q (Int.toNat (dn ((q.length : Int) - 1) k0))).2.1), .i ((nth q (Int.toNat (dn ((q.length : Int) - 1) k0))).2.2.1), .s ((nth q (Int.toNat (dn ((q.length : Int) - 1) k0))).2.2.2.1), .i ((nth q (Int.toNat (dn ((q.length : Int) - 1) k0))).2.2.2.2.1), .i ((nth q (Int.toNat (dn ((q.length : Int) - 1) k0))).2.2.2.2.2.1), .s ((nth q (Int.toNat (dn ((q.length : Int) - 1) k0))).2.2.2.2.2.2)]), (14, .rowE [.b (nth s0 (Int.toNat ((nth q (Int.toNat (dn ((q.length : Int) - 1) k0))).2.1)))]), (16, .rowE [.b (nth (List.set s0 (Int.toNat ((nth q (Int.toNat (dn ((q.length : Int) - 1) k0))).2.1)) ((nth s0 (Int.toNat (dn ((q.length : Int) - 1) k0))) || ((nth q (Int.toNat (dn ((q.length : Int) - 1) k0))).1 == (5 : Int)))) (Int.toNat ((nth q (Int.toNat (dn ((q.length : Int) - 1) k0))).2.2.1)))])] (o2 (Qy (X4 (i := (dn ((q.length : Int) - 1) k0)) (by omega) rfl hx12)) (o2 (Qy (X4 (i := (dn ((q.length : Int) - 1) k0)) (by omega) rfl hx12)) (o2 (Qy (X4 (i := (nth q (Int.toNat (dn ((q.length : Int) - 1) k0))).2.1) (by omega) rfl hx18)) (o1 (Qy (l := (setRow (eL s0) (Int.toNat ((nth q (Int.toNat (dn ((q.length : Int) - 1) k0))).2.1)) 0 [.b ((nth s0 (Int.toNat (dn ((q.length : Int) - 1) k0))) || ((nth q (Int.toNat (dn ((q.length : Int) - 1) k0))).1 == (5 : Int)))])) (i := ((nth q (Int.toNat (dn ((q.length : Int) - 1) k0))).2.2.1)) (r := [.b (nth (List.set s0 (Int.toNat ((nth q (Int.toNat (dn ((q.length : Int) - 1) k0))).2.1)) ((nth s0 (Int.toNat (dn ((q.length : Int) - 1) k0))) || ((nth q (Int.toNat (dn ((q.length : Int) - 1) k0))).1 == (5 : Int)))) (Int.toNat ((nth q (Int.toNat (dn ((q.length : Int) - 1) k0))).2.2.1)))]) (by rw [K0 (y := ((nth s0 (Int.toNat (dn ((q.length : Int) - 1) k0))) || ((nth q (Int.toNat (dn ((q.length : Int) - 1) k0))).1 == (5 : Int)))) hx18 rfl]; exact X4 (by omega) rfl hx21)))))) ?_
     refine eqn [(3, .o 704 (List.set (List.set s0 (Int.toNat ((nth q (Int.toNat (dn ((q.length : Int) - 1) k0))).2.1)) ((nth s0 (Int.toNat (dn ((q.length : Int) - 1) k0))) || ((nth q (Int.toNat (dn ((q.length : Int) - 1) k0))).1 == (5 : Int)))) (Int.toNat ((nth q (Int.toNat (dn ((q.length : Int) - 1) k0))).2.2.1)) ((nth s0 (Int.toNat (dn ((q.length : Int) - 1) k0))) || ((nth q (Int.toNat (dn ((q.length : Int) - 1) k0))).1 == (5 : Int)))))] [3] [] [] (by rw [K0 (y := ((nth s0 (Int.toNat (dn ((q.length : Int) - 1) k0))) || ((nth q (Int.toNat (dn ((q.length : Int) - 1) k0))).1 == (5 : Int)))) hx18 rfl, K0 (y := ((nth s0 (Int.toNat (dn ((q.length : Int) - 1) k0))) || ((nth q (Int.toNat (dn ((q.length : Int) - 1) k0))).1 == (5 : Int)))) hx21 rfl]; first | done | kernel_rfl) ?_
     refine rk Qb [(4, .i (dn ((q.length : Int) - 1) (k0 + 1)))] [4] [] [] [(1, .val (.i (dn ((q.length : Int) - 1) (k0 + 1))))] (o1 (Qi (show .i (IntKind.i64.wrap ((dn ((q.length : Int) - 1) k0) - 1)) = .i (dn ((q.length : Int) - 1) (k0 + 1)) from Km (show IntKind.i64.wrap ((dn ((q.length : Int) - 1) k0) - 1) = (dn ((q.length : Int) - 1) (k0 + 1)) from IntWalk.i64_in ((dn ((q.length : Int) - 1) k0) - 1) (by omega))))) ?_
     exact Exists.intro (List.set (List.set s0 (Int.toNat ((nth q (Int.toNat (dn ((q.length : Int) - 1) k0))).2.1)) ((nth s0 (Int.toNat (dn ((q.length : Int) - 1) k0))) || ((nth q (Int.toNat (dn ((q.length : Int) - 1) k0))).1 == (5 : Int)))) (Int.toNat ((nth q (Int.toNat (dn ((q.length : Int) - 1) k0))).2.2.1)) ((nth s0 (Int.toNat (dn ((q.length : Int) - 1) k0))) || ((nth q (Int.toNat (dn ((q.length : Int) - 1) k0))).1 == (5 : Int)))) (And.intro (Qd (by kernel_rfl)) ⟨Vh hk0 (Q6 h13 (X8 h17 (rfl))) hI0.1, (by first | omega | (simp only [List.length_set]; omega))⟩)
    ·
     have h17d := Zz h17
     refine rk Qb [(46, .b ((nth q (Int.toNat (dn ((q.length : Int) - 1) k0))).1 == (7 : Int)))] [35, 46] [] [] [] (o0) ?_
     refine ck ((nth q (Int.toNat (dn ((q.length : Int) - 1) k0))).1 == (7 : Int)) (fun h22 => ?_) (fun h22 => ?_)
     ·
      have h22k := ql_c h1n (by omega) (by omega) h22; have h22m := qr_c h1n (by omega) (by omega) h22
      have h22d := eq_of_beq h22
      refine wdT 3 0 (.own true 704) s0 (fun hw24 => ?_)
      have hl25 : List.length s0 ≤ 1073741824 := Qx (hw24)
      have hx23 : s0[(Int.toNat ((nth q (Int.toNat (dn ((q.length : Int) - 1) k0))).2.1))]? = some (nth s0 (Int.toNat ((nth q (Int.toNat (dn ((q.length : Int) - 1) k0))).2.1))) := Yj (by omega)
      have hx26 : (List.set s0 (Int.toNat ((nth q (Int.toNat (dn ((q.length : Int) - 1) k0))).2.1)) ((nth s0 (Int.toNat (dn ((q.length : Int) - 1) k0))) || ((nth q (Int.toNat (dn ((q.length : Int) - 1) k0))).1 == (5 : Int))))[(Int.toNat ((nth q (Int.toNat (dn ((q.length : Int) - 1) k0))).2.2.1))]? = some (nth (List.set s0 (Int.toNat ((nth q (Int.toNat (dn ((q.length : Int) - 1) k0))).2.1)) ((nth s0 (Int.toNat (dn ((q.length : Int) - 1) k0))) || ((nth q (Int.toNat (dn ((q.length : Int) - 1) k0))).1 == (5 : Int)))) (Int.toNat ((nth q (Int.toNat (dn ((q.length : Int) - 1) k0))).2.2.1))) := Yj (by first | omega | (simp only [List.length_set]; omega))
      refine rd' Qb Js [(3, .one (.slc (.own true 704) 1 (setRow (setRow (eL s0) (Int.toNat ((nth q (Int.toNat (dn ((q.length : Int) - 1) k0))).2.1)) 0 [.b ((nth s0 (Int.toNat (dn ((q.length : Int) - 1) k0))) || ((nth q (Int.toNat (dn ((q.length : Int) - 1) k0))).1 == (5 : Int)))]) (Int.toNat ((nth q (Int.toNat (dn ((q.length : Int) - 1) k0))).2.2.1)) 0 [.b ((nth s0 (Int.toNat (dn ((q.length : Int) - 1) k0))) || ((nth q (Int.toNat (dn ((q.length : Int) - 1) k0))).1 == (5 : Int)))])))] [3, 5, 46] [] [] [(3, .row [.i ((nth q (Int.toNat (dn ((q.length : Int) - 1) k0))).1), .i ((nth q (Int.toNat (dn ((q.length : Int) - 1) k0))).2.1), .i ((nth q (Int.toNat (dn ((q.length : Int) - 1) k0))).2.2.1), .s ((nth q (Int.toNat (dn ((q.length : Int) - 1) k0))).2.2.2.1), .i ((nth q (Int.toNat (dn ((q.length : Int) - 1) k0))).2.2.2.2.1), .i ((nth q (Int.toNat (dn ((q.length : Int) - 1) k0))).2.2.2.2.2.1), .s ((nth q (Int.toNat (dn ((q.length : Int) - 1) k0))).2.2.2.2.2.2)]), (9, .row [.i ((nth q (Int.toNat (dn ((q.length : Int) - 1) k0))).1), .i ((nth q (Int.toNat (dn ((q.length : Int) - 1) k0))).2.1), .i ((nth q (Int.toNat (dn ((q.length : Int) - 1) k0))).2.2.1), .s ((nth q (Int.toNat (dn ((q.length : Int) - 1) k0))).2.2.2.1), .i ((nth q (Int.toNat (dn ((q.length : Int) - 1) k0))).2.2.2.2.1), .i ((nth q (Int.toNat (dn ((q.length : Int) - 1) k0))).2.2.2.2.2.1), .s ((nth q (Int.toNat (dn ((q.length : Int) - 1) k0))).2.2.2.2.2.2)]), (14, .rowE [.b (nth s0 (Int.toNat ((nth q (Int.toNat (dn ((q.length : Int) - 1) k0))).2.1)))]), (16, .rowE [.b (nth (List.set s0 (Int.toNat ((nth q (Int.toNat (dn ((q.length : Int) - 1) k0))).2.1)) ((nth s0 (Int.toNat (dn ((q.length : Int) - 1) k0))) || ((nth q (Int.toNat (dn ((q.length : Int) - 1) k0))).1 == (5 : Int)))) (Int.toNat ((nth q (Int.toNat (dn ((q.length : Int) - 1) k0))).2.2.1)))])] (o2 (Qy (X4 (i := (dn ((q.length : Int) - 1) k0)) (by omega) rfl hx12)) (o2 (Qy (X4 (i := (dn ((q.length : Int) - 1) k0)) (by omega) rfl hx12)) (o2 (Qy (X4 (i := (nth q (Int.toNat (dn ((q.length : Int) - 1) k0))).2.1) (by omega) rfl hx23)) (o1 (Qy (l := (setRow (eL s0) (Int.toNat ((nth q (Int.toNat (dn ((q.length : Int) - 1) k0))).2.1)) 0 [.b ((nth s0 (Int.toNat (dn ((q.length : Int) - 1) k0))) || ((nth q (Int.toNat (dn ((q.length : Int) - 1) k0))).1 == (5 : Int)))])) (i := ((nth q (Int.toNat (dn ((q.length : Int) - 1) k0))).2.2.1)) (r := [.b (nth (List.set s0 (Int.toNat ((nth q (Int.toNat (dn ((q.length : Int) - 1) k0))).2.1)) ((nth s0 (Int.toNat (dn ((q.length : Int) - 1) k0))) || ((nth q (Int.toNat (dn ((q.length : Int) - 1) k0))).1 == (5 : Int)))) (Int.toNat ((nth q (Int.toNat (dn ((q.length : Int) - 1) k0))).2.2.1)))]) (by rw [K0 (y := ((nth s0 (Int.toNat (dn ((q.length : Int) - 1) k0))) || ((nth q (Int.toNat (dn ((q.length : Int) - 1) k0))).1 == (5 : Int)))) hx23 rfl]; exact X4 (by omega) rfl hx26)))))) ?_
      refine eqn [(3, .o 704 (List.set (List.set s0 (Int.toNat ((nth q (Int.toNat (dn ((q.length : Int) - 1) k0))).2.1)) ((nth s0 (Int.toNat (dn ((q.length : Int) - 1) k0))) || ((nth q (Int.toNat (dn ((q.length : Int) - 1) k0))).1 == (5 : Int)))) (Int.toNat ((nth q (Int.toNat (dn ((q.length : Int) - 1) k0))).2.2.1)) ((nth s0 (Int.toNat (dn ((q.length : Int) - 1) k0))) || ((nth q (Int.toNat (dn ((q.length : Int) - 1) k0))).1 == (5 : Int)))))] [3] [] [] (by rw [K0 (y := ((nth s0 (Int.toNat (dn ((q.length : Int) - 1) k0))) || ((nth q (Int.toNat (dn ((q.length : Int) - 1) k0))).1 == (5 : Int)))) hx23 rfl, K0 (y := ((nth s0 (Int.toNat (dn ((q.length : Int) - 1) k0))) || ((nth q (Int.toNat (dn ((q.length : Int) - 1) k0))).1 == (5 : Int)))) hx26 rfl]; first | done | kernel_rfl) ?_
      refine rk Qb [(4, .i (dn ((q.length : Int) - 1) (k0 + 1)))] [4] [] [] [(1, .val (.i (dn ((q.length : Int) - 1) (k0 + 1))))] (o1 (Qi (show .i (IntKind.i64.wrap ((dn ((q.length : Int) - 1) k0) - 1)) = .i (dn ((q.length : Int) - 1) (k0 + 1)) from Km (show IntKind.i64.wrap ((dn ((q.length : Int) - 1) k0) - 1) = (dn ((q.length : Int) - 1) (k0 + 1)) from IntWalk.i64_in ((dn ((q.length : Int) - 1) k0) - 1) (by omega))))) ?_
      exact Exists.intro (List.set (List.set s0 (Int.toNat ((nth q (Int.toNat (dn ((q.length : Int) - 1) k0))).2.1)) ((nth s0 (Int.toNat (dn ((q.length : Int) - 1) k0))) || ((nth q (Int.toNat (dn ((q.length : Int) - 1) k0))).1 == (5 : Int)))) (Int.toNat ((nth q (Int.toNat (dn ((q.length : Int) - 1) k0))).2.2.1)) ((nth s0 (Int.toNat (dn ((q.length : Int) - 1) k0))) || ((nth q (Int.toNat (dn ((q.length : Int) - 1) k0))).1 == (5 : Int)))) (And.intro (Qd (by kernel_rfl)) ⟨Vh hk0 (Q6 h13 (Q6 h17 (X8 h22 (rfl)))) hI0.1, (by first | omega | (simp only [List.length_set]; omega))⟩)
     ·
      have h22d := Zz h22
      refine Qr ?_
      refine rk Qb [(4, .i (dn ((q.length : Int) - 1) (k0 + 1)))] [4, 5, 46] [] [] [(1, .val (.i (dn ((q.length : Int) - 1) (k0 + 1))))] (o1 (Qi (show .i (IntKind.i64.wrap ((dn ((q.length : Int) - 1) k0) - 1)) = .i (dn ((q.length : Int) - 1) (k0 + 1)) from Km (show IntKind.i64.wrap ((dn ((q.length : Int) - 1) k0) - 1) = (dn ((q.length : Int) - 1) (k0 + 1)) from IntWalk.i64_in ((dn ((q.length : Int) - 1) k0) - 1) (by omega))))) ?_
      exact Exists.intro s0 (And.intro (Qd (by kernel_rfl)) ⟨Vh hk0 (Q6 h13 (Q6 h17 (Q6 h22 (rfl)))) hI0.1, (by first | omega | (simp only [List.length_set]; omega))⟩)
  ·
   have hA0_0 := hI0.2
   have hdn0 := dn_eq ((q.length : Int) - 1) k0
   refine Qa ?_
   refine Qa ?_
   refine rk Qb [(16, .b false)] [] [] [] [(1, .val (.b false))] (o1 (Qi (Qh (decide_eq_false (p := (dn ((q.length : Int) - 1) k0) ≥ (0 : Int)) (by omega))))) ?_
   refine ckF ?_
   refine Xt ?_
   exact Exists.intro s0 (And.intro (Qd (by kernel_rfl)) ⟨Qbu hk0 (rfl) hI0.1, by first | omega | (simp only [List.length_set]; omega)⟩)
  ·
   have hD0_0 := hD0.2
   refine Qa ?_
   refine rk Qb [(2, .o 704 y0)] [2, 3] [] [] [] (o0) ?_
   refine Qq ?_
   exact Ze [] (congrArg (fun z => (.o 0 z : AV)) (show Xq q = y0 from Q6 h1 (Hk hD0.1 (rfl))).symm)
def K9 (q : (List Zo)) (k0 : Nat) (s0 : (List Bool)) : Rd ((List Bool)) ((List Bool)) ((List Bool)) := (bif ((nth q (Int.toNat (dn ((q.length : Int) - 1) k0))).1 == (5 : Int)) then (bif (((nth q (Int.toNat (dn ((q.length : Int) - 1) k0))).1 == (6 : Int)) || ((nth q (Int.toNat (dn ((q.length : Int) - 1) k0))).1 == (7 : Int))) then (.next (List.set (List.set (List.set s0 (Int.toNat ((nth q (Int.toNat (dn ((q.length : Int) - 1) k0))).2.1)) true) (Int.toNat ((nth q (Int.toNat (dn ((q.length : Int) - 1) k0))).2.1)) (nth (List.set s0 (Int.toNat ((nth q (Int.toNat (dn ((q.length : Int) - 1) k0))).2.1)) true) (Int.toNat (dn ((q.length : Int) - 1) k0)))) (Int.toNat ((nth q (Int.toNat (dn ((q.length : Int) - 1) k0))).2.2.1)) (nth (List.set (List.set s0 (Int.toNat ((nth q (Int.toNat (dn ((q.length : Int) - 1) k0))).2.1)) true) (Int.toNat ((nth q (Int.toNat (dn ((q.length : Int) - 1) k0))).2.1)) (nth (List.set s0 (Int.toNat ((nth q (Int.toNat (dn ((q.length : Int) - 1) k0))).2.1)) true) (Int.toNat (dn ((q.length : Int) - 1) k0)))) (Int.toNat (dn ((q.length : Int) - 1) k0))))) else (.next (List.set s0 (Int.toNat ((nth q (Int.toNat (dn ((q.length : Int) - 1) k0))).2.1)) true))) else (bif (((nth q (Int.toNat (dn ((q.length : Int) - 1) k0))).1 == (6 : Int)) || ((nth q (Int.toNat (dn ((q.length : Int) - 1) k0))).1 == (7 : Int))) then (.next (List.set (List.set s0 (Int.toNat ((nth q (Int.toNat (dn ((q.length : Int) - 1) k0))).2.1)) (nth s0 (Int.toNat (dn ((q.length : Int) - 1) k0)))) (Int.toNat ((nth q (Int.toNat (dn ((q.length : Int) - 1) k0))).2.2.1)) (nth (List.set s0 (Int.toNat ((nth q (Int.toNat (dn ((q.length : Int) - 1) k0))).2.1)) (nth s0 (Int.toNat (dn ((q.length : Int) - 1) k0)))) (Int.toNat (dn ((q.length : Int) - 1) k0))))) else (.next s0)))
def Uo (_ : Nat) (s0 : (List Bool)) : (List Bool) := s0
def Yy (q : (List Zo)) : (List Bool) := (bif (!(Yx q)) then [] else (Out.on (Hu (K9 q) Uo (List.length q) 0 (List.replicate (Int.toNat (q.length : Int)) false)) (fun y0 => y0)))
theorem specNegatedNodes_a (q : (List Zo)) : ACalls Tryz.prog 267 [.h q] (.o 0 (Yy q)) := by
 refine Qt (tt := tt) Qb Tryz.func267 (fn := Tryz.f267) rfl (by unfold Jr; kernel_rfl) (Nat.le_of_ble_eq_true rfl) fun w0 F0 hG => ?_
 refine Qa ?_
 refine rk Qb [(2, .e 0)] [] [] [] [] (o0) ?_
 refine Qa ?_
 refine Qa ?_
 refine rk Qb [(9, .b (!(Yx q)))] [] [] [] [(1, .val (.b (Yx q)))] (o1 (Qg (Wj q))) ?_
 refine ck (!(Yx q)) (fun h1 => ?_) (fun h1 => ?_)
 ·
  refine Qa ?_
  refine rk Qb [(2, .one (.slc (.own true 640) 1 []))] [2, 9] [] [] [] (o0) ?_
  refine Qq ?_
  exact Ze [] (congrArg (fun z => (.o 0 z : AV)) (show Yy q = [] from X8 h1 (rfl)).symm)
 ·
  have h1n : (Yx q) = true := Jn h1
  refine Qr ?_
  refine Qa ?_
  refine wdT 0 0 .sh q (fun hw2 => ?_)
  have hl3 : List.length q ≤ 1073741824 := Qx (hw2)
  refine rk Qb [(3, .one (.slc (.own true 832) 1 (List.replicate (Int.toNat (q.length : Int)) [.b false])))] [9] [] [] [(1, .val (.i (q.length : Int)))] (o2 (Qi (Xs q)) (o1 (ob_rng (lo := 0) (hi := (q.length : Int)) (n := 1073741824) (⟨by omega, by omega, by omega⟩)))) ?_
  refine eqn [(3, .o 832 (List.replicate (Int.toNat (q.length : Int)) false))] [3] [] [] (by rw [show (List.replicate (Int.toNat (q.length : Int)) [.b false]) = (eL (List.replicate (Int.toNat (q.length : Int)) false)) from mk_eL _ false]; first | done | kernel_rfl) ?_
  refine Qa ?_
  refine Qa ?_
  refine rk Qb [(4, .i ((q.length : Int) - 1))] [] [] [] [(1, .val (.i (q.length : Int))), (2, .val (.i ((q.length : Int) - 1)))] (o2 (Qi (Xs q)) (o1 (Qi (Km (IntWalk.i64_in ((q.length : Int) - 1) (by omega)))))) ?_
  refine blk (fun (k0 : Nat) (s0 : (List Bool)) => [(3, .o 832 s0), (4, .i (dn ((q.length : Int) - 1) k0))]) [3, 4] (fun k0 s0 => []) [] (fun (y0 : (List Bool)) => [(3, .o 832 y0)]) [0, 3, 4] (fun y0 => []) [] (fun (k0 : Nat) (s0 : (List Bool)) => (Hu (K9 q) Uo (List.length q) 0 (List.replicate (Int.toNat (q.length : Int)) false)) = Hu (K9 q) Uo ((List.length q) - k0) k0 s0 ∧ List.length s0 = (Int.toNat (q.length : Int))) (fun (y0 : (List Bool)) => (Hu (K9 q) Uo (List.length q) 0 (List.replicate (Int.toNat (q.length : Int)) false)) = .brk y0 ∧ List.length y0 = (Int.toNat (q.length : Int))) (List.length q) (List.replicate (Int.toNat (q.length : Int)) false) (Qd (by kernel_rfl)) ⟨rfl, (by simp)⟩ (fun k0 s0 hk0 hI0 => ?_) (fun k0 s0 hk0 hI0 => ?_) (fun y0 hD0 => ?_)
  ·
   have hA0_0 := hI0.2
   have hdn0 := dn_eq ((q.length : Int) - 1) k0
   refine Qa ?_
   refine Qa ?_
   refine rk Qb [(18, .b true)] [] [] [] [(1, .val (.b true))] (o1 (Qi (Qh (decide_eq_true (p := (dn ((q.length : Int) - 1) k0) ≥ (0 : Int)) (by omega))))) ?_
   refine ckT ?_
   refine Qr ?_
   refine Qa ?_
   refine Xf ?_
   refine Qa ?_
   have hx4 : q[(Int.toNat (dn ((q.length : Int) - 1) k0))]? = some (nth q (Int.toNat (dn ((q.length : Int) - 1) k0))) := Yj (by omega)
   refine rk Qb [(5, .p 5 0)] [18] [(5, [.i ((nth q (Int.toNat (dn ((q.length : Int) - 1) k0))).1), .i ((nth q (Int.toNat (dn ((q.length : Int) - 1) k0))).2.1), .i ((nth q (Int.toNat (dn ((q.length : Int) - 1) k0))).2.2.1), .s ((nth q (Int.toNat (dn ((q.length : Int) - 1) k0))).2.2.2.1), .i ((nth q (Int.toNat (dn ((q.length : Int) - 1) k0))).2.2.2.2.1), .i ((nth q (Int.toNat (dn ((q.length : Int) - 1) k0))).2.2.2.2.2.1), .s ((nth q (Int.toNat (dn ((q.length : Int) - 1) k0))).2.2.2.2.2.2)])] [] [(2, .row [.i ((nth q (Int.toNat (dn ((q.length : Int) - 1) k0))).1), .i ((nth q (Int.toNat (dn ((q.length : Int) - 1) k0))).2.1), .i ((nth q (Int.toNat (dn ((q.length : Int) - 1) k0))).2.2.1), .s ((nth q (Int.toNat (dn ((q.length : Int) - 1) k0))).2.2.2.1), .i ((nth q (Int.toNat (dn ((q.length : Int) - 1) k0))).2.2.2.2.1), .i ((nth q (Int.toNat (dn ((q.length : Int) - 1) k0))).2.2.2.2.2.1), .s ((nth q (Int.toNat (dn ((q.length : Int) - 1) k0))).2.2.2.2.2.2)])] (o1 (Qy (X4 (i := (dn ((q.length : Int) - 1) k0)) (by omega) rfl hx4))) ?_
   refine Qa ?_
   refine jn [(6, .b (((nth q (Int.toNat (dn ((q.length : Int) - 1) k0))).1 == (6 : Int)) || ((nth q (Int.toNat (dn ((q.length : Int) - 1) k0))).1 == (7 : Int))))] [] [] [] ((nth q (Int.toNat (dn ((q.length : Int) - 1) k0))).1 == (6 : Int)) (fun h5 => ?_) (fun h5 => ?_) ?_
   ·
    have h5k := ql_b (vq_spec h1n) (by omega) (by omega) h5; have h5m := qr_b (vq_spec h1n) (by omega) (by omega) h5
    refine rk Qb [(6, .b true)] [] [] [] [(2, .val (.b true))] (o1 (Qi (Qh h5))) ?_
    exact ⟨rfl, Qd (by rw [h5]; first | done | kernel_rfl)⟩
   ·
    refine rk Qb [(6, .b ((nth q (Int.toNat (dn ((q.length : Int) - 1) k0))).1 == (7 : Int)))] [] [] [] [(2, .val (.b false))] (o1 (Qi (Qh h5))) ?_
    exact ⟨rfl, Qd (by rw [h5]; first | done | kernel_rfl)⟩
   refine Qa ?_
   refine Qa ?_
   refine rk Qb [(35, .b ((nth q (Int.toNat (dn ((q.length : Int) - 1) k0))).1 == (5 : Int)))] [] [] [] [] (o0) ?_
   refine ck ((nth q (Int.toNat (dn ((q.length : Int) - 1) k0))).1 == (5 : Int)) (fun h6 => ?_) (fun h6 => ?_)
   ·
    have h6k := ql_a (vq_spec h1n) (by omega) (by omega) h6
    have h6d := eq_of_beq h6
    refine wdT 3 0 (.own true 832) s0 (fun hw8 => ?_)
    have hl9 : List.length s0 ≤ 1073741824 := Qx (hw8)
    have hx7 : s0[(Int.toNat ((nth q (Int.toNat (dn ((q.length : Int) - 1) k0))).2.1))]? = some (nth s0 (Int.toNat ((nth q (Int.toNat (dn ((q.length : Int) - 1) k0))).2.1))) := Yj (by omega)
    refine rk Qb [(3, .one (.slc (.own true 832) 1 (setRow (eL s0) (Int.toNat ((nth q (Int.toNat (dn ((q.length : Int) - 1) k0))).2.1)) 0 [.b true])))] [3, 35] [] [] [(3, .rowE [.b (nth s0 (Int.toNat ((nth q (Int.toNat (dn ((q.length : Int) - 1) k0))).2.1)))])] (o1 (Qy (X4 (i := (nth q (Int.toNat (dn ((q.length : Int) - 1) k0))).2.1) (by omega) rfl hx7))) ?_
    refine eqn [(3, .o 832 (List.set s0 (Int.toNat ((nth q (Int.toNat (dn ((q.length : Int) - 1) k0))).2.1)) true))] [3] [] [] (by rw [K0 (y := true) hx7 rfl]; first | done | kernel_rfl) ?_
    refine Qa ?_
    refine rk Qb [(40, .b (((nth q (Int.toNat (dn ((q.length : Int) - 1) k0))).1 == (6 : Int)) || ((nth q (Int.toNat (dn ((q.length : Int) - 1) k0))).1 == (7 : Int))))] [6] [] [] [] (o0) ?_
    refine ck (((nth q (Int.toNat (dn ((q.length : Int) - 1) k0))).1 == (6 : Int)) || ((nth q (Int.toNat (dn ((q.length : Int) - 1) k0))).1 == (7 : Int))) (fun h10 => ?_) (fun h10 => ?_)
    ·
     have h10k := qlr_bc (vq_spec h1n) (by omega) (by omega) h10
     refine Qa ?_
     refine wdT 3 0 (.own true 832) (List.set s0 (Int.toNat ((nth q (Int.toNat (dn ((q.length : Int) - 1) k0))).2.1)) true) (fun hw12 => ?_)
     have hl13 : List.length (List.set s0 (Int.toNat ((nth q (Int.toNat (dn ((q.length : Int) - 1) k0))).2.1)) true) ≤ 1073741824 := Qx (hw12)
     have hx11 : (List.set s0 (Int.toNat ((nth q (Int.toNat (dn ((q.length : Int) - 1) k0))).2.1)) true)[(Int.toNat (dn ((q.length : Int) - 1) k0))]? = some (nth (List.set s0 (Int.toNat ((nth q (Int.toNat (dn ((q.length : Int) - 1) k0))).2.1)) true) (Int.toNat (dn ((q.length : Int) - 1) k0))) := Yj (by first | omega | (simp only [List.length_set]; omega))
     have hx14 : (List.set s0 (Int.toNat ((nth q (Int.toNat (dn ((q.length : Int) - 1) k0))).2.1)) true)[(Int.toNat ((nth q (Int.toNat (dn ((q.length : Int) - 1) k0))).2.1))]? = some (nth (List.set s0 (Int.toNat ((nth q (Int.toNat (dn ((q.length : Int) - 1) k0))).2.1)) true) (Int.toNat ((nth q (Int.toNat (dn ((q.length : Int) - 1) k0))).2.1))) := Yj (by first | omega | (simp only [List.length_set]; omega))
     refine rd' Qb Js [(3, .one (.slc (.own true 832) 1 (setRow (eL (List.set s0 (Int.toNat ((nth q (Int.toNat (dn ((q.length : Int) - 1) k0))).2.1)) true)) (Int.toNat ((nth q (Int.toNat (dn ((q.length : Int) - 1) k0))).2.1)) 0 [.b (nth (List.set s0 (Int.toNat ((nth q (Int.toNat (dn ((q.length : Int) - 1) k0))).2.1)) true) (Int.toNat (dn ((q.length : Int) - 1) k0)))])))] [3, 40] [] [] [(5, .rowE [.b (nth (List.set s0 (Int.toNat ((nth q (Int.toNat (dn ((q.length : Int) - 1) k0))).2.1)) true) (Int.toNat (dn ((q.length : Int) - 1) k0)))]), (7, .rowE [.b (nth (List.set s0 (Int.toNat ((nth q (Int.toNat (dn ((q.length : Int) - 1) k0))).2.1)) true) (Int.toNat ((nth q (Int.toNat (dn ((q.length : Int) - 1) k0))).2.1)))])] (o2 (Qy (X4 (i := (dn ((q.length : Int) - 1) k0)) (by omega) rfl hx11)) (o1 (Qy (X4 (i := (nth q (Int.toNat (dn ((q.length : Int) - 1) k0))).2.1) (by omega) rfl hx14)))) ?_
     refine eqn [(3, .o 832 (List.set (List.set s0 (Int.toNat ((nth q (Int.toNat (dn ((q.length : Int) - 1) k0))).2.1)) true) (Int.toNat ((nth q (Int.toNat (dn ((q.length : Int) - 1) k0))).2.1)) (nth (List.set s0 (Int.toNat ((nth q (Int.toNat (dn ((q.length : Int) - 1) k0))).2.1)) true) (Int.toNat (dn ((q.length : Int) - 1) k0)))))] [3] [] [] (by rw [K0 (y := (nth (List.set s0 (Int.toNat ((nth q (Int.toNat (dn ((q.length : Int) - 1) k0))).2.1)) true) (Int.toNat (dn ((q.length : Int) - 1) k0)))) hx14 rfl]; first | done | kernel_rfl) ?_
     refine wdT 3 0 (.own true 832) (List.set (List.set s0 (Int.toNat ((nth q (Int.toNat (dn ((q.length : Int) - 1) k0))).2.1)) true) (Int.toNat ((nth q (Int.toNat (dn ((q.length : Int) - 1) k0))).2.1)) (nth (List.set s0 (Int.toNat ((nth q (Int.toNat (dn ((q.length : Int) - 1) k0))).2.1)) true) (Int.toNat (dn ((q.length : Int) - 1) k0)))) (fun hw16 => ?_)
     have hl17 : List.length (List.set (List.set s0 (Int.toNat ((nth q (Int.toNat (dn ((q.length : Int) - 1) k0))).2.1)) true) (Int.toNat ((nth q (Int.toNat (dn ((q.length : Int) - 1) k0))).2.1)) (nth (List.set s0 (Int.toNat ((nth q (Int.toNat (dn ((q.length : Int) - 1) k0))).2.1)) true) (Int.toNat (dn ((q.length : Int) - 1) k0)))) ≤ 1073741824 := Qx (hw16)
     have hx15 : (List.set (List.set s0 (Int.toNat ((nth q (Int.toNat (dn ((q.length : Int) - 1) k0))).2.1)) true) (Int.toNat ((nth q (Int.toNat (dn ((q.length : Int) - 1) k0))).2.1)) (nth (List.set s0 (Int.toNat ((nth q (Int.toNat (dn ((q.length : Int) - 1) k0))).2.1)) true) (Int.toNat (dn ((q.length : Int) - 1) k0))))[(Int.toNat (dn ((q.length : Int) - 1) k0))]? = some (nth (List.set (List.set s0 (Int.toNat ((nth q (Int.toNat (dn ((q.length : Int) - 1) k0))).2.1)) true) (Int.toNat ((nth q (Int.toNat (dn ((q.length : Int) - 1) k0))).2.1)) (nth (List.set s0 (Int.toNat ((nth q (Int.toNat (dn ((q.length : Int) - 1) k0))).2.1)) true) (Int.toNat (dn ((q.length : Int) - 1) k0)))) (Int.toNat (dn ((q.length : Int) - 1) k0))) := Yj (by first | omega | (simp only [List.length_set]; omega))
     have hx18 : (List.set (List.set s0 (Int.toNat ((nth q (Int.toNat (dn ((q.length : Int) - 1) k0))).2.1)) true) (Int.toNat ((nth q (Int.toNat (dn ((q.length : Int) - 1) k0))).2.1)) (nth (List.set s0 (Int.toNat ((nth q (Int.toNat (dn ((q.length : Int) - 1) k0))).2.1)) true) (Int.toNat (dn ((q.length : Int) - 1) k0))))[(Int.toNat ((nth q (Int.toNat (dn ((q.length : Int) - 1) k0))).2.2.1))]? = some (nth (List.set (List.set s0 (Int.toNat ((nth q (Int.toNat (dn ((q.length : Int) - 1) k0))).2.1)) true) (Int.toNat ((nth q (Int.toNat (dn ((q.length : Int) - 1) k0))).2.1)) (nth (List.set s0 (Int.toNat ((nth q (Int.toNat (dn ((q.length : Int) - 1) k0))).2.1)) true) (Int.toNat (dn ((q.length : Int) - 1) k0)))) (Int.toNat ((nth q (Int.toNat (dn ((q.length : Int) - 1) k0))).2.2.1))) := Yj (by first | omega | (simp only [List.length_set]; omega))
     refine rd' Qb Js [(3, .one (.slc (.own true 832) 1 (setRow (eL (List.set (List.set s0 (Int.toNat ((nth q (Int.toNat (dn ((q.length : Int) - 1) k0))).2.1)) true) (Int.toNat ((nth q (Int.toNat (dn ((q.length : Int) - 1) k0))).2.1)) (nth (List.set s0 (Int.toNat ((nth q (Int.toNat (dn ((q.length : Int) - 1) k0))).2.1)) true) (Int.toNat (dn ((q.length : Int) - 1) k0))))) (Int.toNat ((nth q (Int.toNat (dn ((q.length : Int) - 1) k0))).2.2.1)) 0 [.b (nth (List.set (List.set s0 (Int.toNat ((nth q (Int.toNat (dn ((q.length : Int) - 1) k0))).2.1)) true) (Int.toNat ((nth q (Int.toNat (dn ((q.length : Int) - 1) k0))).2.1)) (nth (List.set s0 (Int.toNat ((nth q (Int.toNat (dn ((q.length : Int) - 1) k0))).2.1)) true) (Int.toNat (dn ((q.length : Int) - 1) k0)))) (Int.toNat (dn ((q.length : Int) - 1) k0)))])))] [3, 5] [] [5] [(5, .rowE [.b (nth (List.set (List.set s0 (Int.toNat ((nth q (Int.toNat (dn ((q.length : Int) - 1) k0))).2.1)) true) (Int.toNat ((nth q (Int.toNat (dn ((q.length : Int) - 1) k0))).2.1)) (nth (List.set s0 (Int.toNat ((nth q (Int.toNat (dn ((q.length : Int) - 1) k0))).2.1)) true) (Int.toNat (dn ((q.length : Int) - 1) k0)))) (Int.toNat (dn ((q.length : Int) - 1) k0)))]), (7, .rowE [.b (nth (List.set (List.set s0 (Int.toNat ((nth q (Int.toNat (dn ((q.length : Int) - 1) k0))).2.1)) true) (Int.toNat ((nth q (Int.toNat (dn ((q.length : Int) - 1) k0))).2.1)) (nth (List.set s0 (Int.toNat ((nth q (Int.toNat (dn ((q.length : Int) - 1) k0))).2.1)) true) (Int.toNat (dn ((q.length : Int) - 1) k0)))) (Int.toNat ((nth q (Int.toNat (dn ((q.length : Int) - 1) k0))).2.2.1)))])] (o2 (Qy (X4 (i := (dn ((q.length : Int) - 1) k0)) (by omega) rfl hx15)) (o1 (Qy (X4 (i := (nth q (Int.toNat (dn ((q.length : Int) - 1) k0))).2.2.1) (by omega) rfl hx18)))) ?_
     refine eqn [(3, .o 832 (List.set (List.set (List.set s0 (Int.toNat ((nth q (Int.toNat (dn ((q.length : Int) - 1) k0))).2.1)) true) (Int.toNat ((nth q (Int.toNat (dn ((q.length : Int) - 1) k0))).2.1)) (nth (List.set s0 (Int.toNat ((nth q (Int.toNat (dn ((q.length : Int) - 1) k0))).2.1)) true) (Int.toNat (dn ((q.length : Int) - 1) k0)))) (Int.toNat ((nth q (Int.toNat (dn ((q.length : Int) - 1) k0))).2.2.1)) (nth (List.set (List.set s0 (Int.toNat ((nth q (Int.toNat (dn ((q.length : Int) - 1) k0))).2.1)) true) (Int.toNat ((nth q (Int.toNat (dn ((q.length : Int) - 1) k0))).2.1)) (nth (List.set s0 (Int.toNat ((nth q (Int.toNat (dn ((q.length : Int) - 1) k0))).2.1)) true) (Int.toNat (dn ((q.length : Int) - 1) k0)))) (Int.toNat (dn ((q.length : Int) - 1) k0)))))] [3] [] [] (by rw [K0 (y := (nth (List.set (List.set s0 (Int.toNat ((nth q (Int.toNat (dn ((q.length : Int) - 1) k0))).2.1)) true) (Int.toNat ((nth q (Int.toNat (dn ((q.length : Int) - 1) k0))).2.1)) (nth (List.set s0 (Int.toNat ((nth q (Int.toNat (dn ((q.length : Int) - 1) k0))).2.1)) true) (Int.toNat (dn ((q.length : Int) - 1) k0)))) (Int.toNat (dn ((q.length : Int) - 1) k0)))) hx18 rfl]; first | done | kernel_rfl) ?_
     refine rk Qb [(4, .i (dn ((q.length : Int) - 1) (k0 + 1)))] [4] [] [] [(1, .val (.i (dn ((q.length : Int) - 1) (k0 + 1))))] (o1 (Qi (show .i (IntKind.i64.wrap ((dn ((q.length : Int) - 1) k0) - 1)) = .i (dn ((q.length : Int) - 1) (k0 + 1)) from Km (show IntKind.i64.wrap ((dn ((q.length : Int) - 1) k0) - 1) = (dn ((q.length : Int) - 1) (k0 + 1)) from IntWalk.i64_in ((dn ((q.length : Int) - 1) k0) - 1) (by omega))))) ?_
     exact Exists.intro (List.set (List.set (List.set s0 (Int.toNat ((nth q (Int.toNat (dn ((q.length : Int) - 1) k0))).2.1)) true) (Int.toNat ((nth q (Int.toNat (dn ((q.length : Int) - 1) k0))).2.1)) (nth (List.set s0 (Int.toNat ((nth q (Int.toNat (dn ((q.length : Int) - 1) k0))).2.1)) true) (Int.toNat (dn ((q.length : Int) - 1) k0)))) (Int.toNat ((nth q (Int.toNat (dn ((q.length : Int) - 1) k0))).2.2.1)) (nth (List.set (List.set s0 (Int.toNat ((nth q (Int.toNat (dn ((q.length : Int) - 1) k0))).2.1)) true) (Int.toNat ((nth q (Int.toNat (dn ((q.length : Int) - 1) k0))).2.1)) (nth (List.set s0 (Int.toNat ((nth q (Int.toNat (dn ((q.length : Int) - 1) k0))).2.1)) true) (Int.toNat (dn ((q.length : Int) - 1) k0)))) (Int.toNat (dn ((q.length : Int) - 1) k0)))) (And.intro (Qd (by kernel_rfl)) ⟨Vh hk0 (X8 h6 (X8 h10 (rfl))) hI0.1, (by first | omega | (simp only [List.length_set]; omega))⟩)
    ·
     have h10l : (((nth q (Int.toNat (dn ((q.length : Int) - 1) k0))).1 == (6 : Int))) = false := or_l h10
     have h10ld := Zz h10l
     have h10r : (((nth q (Int.toNat (dn ((q.length : Int) - 1) k0))).1 == (7 : Int))) = false := or_r h10
     have h10rd := Zz h10r
     refine Qr ?_
     refine rk Qb [(4, .i (dn ((q.length : Int) - 1) (k0 + 1)))] [4, 5, 40] [] [5] [(1, .val (.i (dn ((q.length : Int) - 1) (k0 + 1))))] (o1 (Qi (show .i (IntKind.i64.wrap ((dn ((q.length : Int) - 1) k0) - 1)) = .i (dn ((q.length : Int) - 1) (k0 + 1)) from Km (show IntKind.i64.wrap ((dn ((q.length : Int) - 1) k0) - 1) = (dn ((q.length : Int) - 1) (k0 + 1)) from IntWalk.i64_in ((dn ((q.length : Int) - 1) k0) - 1) (by omega))))) ?_
     exact Exists.intro (List.set s0 (Int.toNat ((nth q (Int.toNat (dn ((q.length : Int) - 1) k0))).2.1)) true) (And.intro (Qd (by kernel_rfl)) ⟨Vh hk0 (X8 h6 (Q6 h10 (rfl))) hI0.1, (by first | omega | (simp only [List.length_set]; omega))⟩)
   ·
    have h6d := Zz h6
    refine Qr ?_
    refine Qa ?_
    refine rk Qb [(40, .b (((nth q (Int.toNat (dn ((q.length : Int) - 1) k0))).1 == (6 : Int)) || ((nth q (Int.toNat (dn ((q.length : Int) - 1) k0))).1 == (7 : Int))))] [6, 35] [] [] [] (o0) ?_
    refine ck (((nth q (Int.toNat (dn ((q.length : Int) - 1) k0))).1 == (6 : Int)) || ((nth q (Int.toNat (dn ((q.length : Int) - 1) k0))).1 == (7 : Int))) (fun h19 => ?_) (fun h19 => ?_)
    ·
     have h19k := qlr_bc (vq_spec h1n) (by omega) (by omega) h19
     refine Qa ?_
     refine wdT 3 0 (.own true 832) s0 (fun hw21 => ?_)
     have hl22 : List.length s0 ≤ 1073741824 := Qx (hw21)
     have hx20 : s0[(Int.toNat (dn ((q.length : Int) - 1) k0))]? = some (nth s0 (Int.toNat (dn ((q.length : Int) - 1) k0))) := Yj (by omega)
     have hx23 : s0[(Int.toNat ((nth q (Int.toNat (dn ((q.length : Int) - 1) k0))).2.1))]? = some (nth s0 (Int.toNat ((nth q (Int.toNat (dn ((q.length : Int) - 1) k0))).2.1))) := Yj (by omega)
     refine rd' Qb Js [(3, .one (.slc (.own true 832) 1 (setRow (eL s0) (Int.toNat ((nth q (Int.toNat (dn ((q.length : Int) - 1) k0))).2.1)) 0 [.b (nth s0 (Int.toNat (dn ((q.length : Int) - 1) k0)))])))] [3, 40] [] [] [(5, .rowE [.b (nth s0 (Int.toNat (dn ((q.length : Int) - 1) k0)))]), (7, .rowE [.b (nth s0 (Int.toNat ((nth q (Int.toNat (dn ((q.length : Int) - 1) k0))).2.1)))])] (o2 (Qy (X4 (i := (dn ((q.length : Int) - 1) k0)) (by omega) rfl hx20)) (o1 (Qy (X4 (i := (nth q (Int.toNat (dn ((q.length : Int) - 1) k0))).2.1) (by omega) rfl hx23)))) ?_
     refine eqn [(3, .o 832 (List.set s0 (Int.toNat ((nth q (Int.toNat (dn ((q.length : Int) - 1) k0))).2.1)) (nth s0 (Int.toNat (dn ((q.length : Int) - 1) k0)))))] [3] [] [] (by rw [K0 (y := (nth s0 (Int.toNat (dn ((q.length : Int) - 1) k0)))) hx23 rfl]; first | done | kernel_rfl) ?_
     refine wdT 3 0 (.own true 832) (List.set s0 (Int.toNat ((nth q (Int.toNat (dn ((q.length : Int) - 1) k0))).2.1)) (nth s0 (Int.toNat (dn ((q.length : Int) - 1) k0)))) (fun hw25 => ?_)
     have hl26 : List.length (List.set s0 (Int.toNat ((nth q (Int.toNat (dn ((q.length : Int) - 1) k0))).2.1)) (nth s0 (Int.toNat (dn ((q.length : Int) - 1) k0)))) ≤ 1073741824 := Qx (hw25)
     have hx24 : (List.set s0 (Int.toNat ((nth q (Int.toNat (dn ((q.length : Int) - 1) k0))).2.1)) (nth s0 (Int.toNat (dn ((q.length : Int) - 1) k0))))[(Int.toNat (dn ((q.length : Int) - 1) k0))]? = some (nth (List.set s0 (Int.toNat ((nth q (Int.toNat (dn ((q.length : Int) - 1) k0))).2.1)) (nth s0 (Int.toNat (dn ((q.length : Int) - 1) k0)))) (Int.toNat (dn ((q.length : Int) - 1) k0))) := Yj (by first | omega | (simp only [List.length_set]; omega))
     have hx27 : (List.set s0 (Int.toNat ((nth q (Int.toNat (dn ((q.length : Int) - 1) k0))).2.1)) (nth s0 (Int.toNat (dn ((q.length : Int) - 1) k0))))[(Int.toNat ((nth q (Int.toNat (dn ((q.length : Int) - 1) k0))).2.2.1))]? = some (nth (List.set s0 (Int.toNat ((nth q (Int.toNat (dn ((q.length : Int) - 1) k0))).2.1)) (nth s0 (Int.toNat (dn ((q.length : Int) - 1) k0)))) (Int.toNat ((nth q (Int.toNat (dn ((q.length : Int) - 1) k0))).2.2.1))) := Yj (by first | omega | (simp only [List.length_set]; omega))
     refine rd' Qb Js [(3, .one (.slc (.own true 832) 1 (setRow (eL (List.set s0 (Int.toNat ((nth q (Int.toNat (dn ((q.length : Int) - 1) k0))).2.1)) (nth s0 (Int.toNat (dn ((q.length : Int) - 1) k0))))) (Int.toNat ((nth q (Int.toNat (dn ((q.length : Int) - 1) k0))).2.2.1)) 0 [.b (nth (List.set s0 (Int.toNat ((nth q (Int.toNat (dn ((q.length : Int) - 1) k0))).2.1)) (nth s0 (Int.toNat (dn ((q.length : Int) - 1) k0)))) (Int.toNat (dn ((q.length : Int) - 1) k0)))])))] [3, 5] [] [5] [(5, .rowE [.b (nth (List.set s0 (Int.toNat ((nth q (Int.toNat (dn ((q.length : Int) - 1) k0))).2.1)) (nth s0 (Int.toNat (dn ((q.length : Int) - 1) k0)))) (Int.toNat (dn ((q.length : Int) - 1) k0)))]), (7, .rowE [.b (nth (List.set s0 (Int.toNat ((nth q (Int.toNat (dn ((q.length : Int) - 1) k0))).2.1)) (nth s0 (Int.toNat (dn ((q.length : Int) - 1) k0)))) (Int.toNat ((nth q (Int.toNat (dn ((q.length : Int) - 1) k0))).2.2.1)))])] (o2 (Qy (X4 (i := (dn ((q.length : Int) - 1) k0)) (by omega) rfl hx24)) (o1 (Qy (X4 (i := (nth q (Int.toNat (dn ((q.length : Int) - 1) k0))).2.2.1) (by omega) rfl hx27)))) ?_
     refine eqn [(3, .o 832 (List.set (List.set s0 (Int.toNat ((nth q (Int.toNat (dn ((q.length : Int) - 1) k0))).2.1)) (nth s0 (Int.toNat (dn ((q.length : Int) - 1) k0)))) (Int.toNat ((nth q (Int.toNat (dn ((q.length : Int) - 1) k0))).2.2.1)) (nth (List.set s0 (Int.toNat ((nth q (Int.toNat (dn ((q.length : Int) - 1) k0))).2.1)) (nth s0 (Int.toNat (dn ((q.length : Int) - 1) k0)))) (Int.toNat (dn ((q.length : Int) - 1) k0)))))] [3] [] [] (by rw [K0 (y := (nth (List.set s0 (Int.toNat ((nth q (Int.toNat (dn ((q.length : Int) - 1) k0))).2.1)) (nth s0 (Int.toNat (dn ((q.length : Int) - 1) k0)))) (Int.toNat (dn ((q.length : Int) - 1) k0)))) hx27 rfl]; first | done | kernel_rfl) ?_
     refine rk Qb [(4, .i (dn ((q.length : Int) - 1) (k0 + 1)))] [4] [] [] [(1, .val (.i (dn ((q.length : Int) - 1) (k0 + 1))))] (o1 (Qi (show .i (IntKind.i64.wrap ((dn ((q.length : Int) - 1) k0) - 1)) = .i (dn ((q.length : Int) - 1) (k0 + 1)) from Km (show IntKind.i64.wrap ((dn ((q.length : Int) - 1) k0) - 1) = (dn ((q.length : Int) - 1) (k0 + 1)) from IntWalk.i64_in ((dn ((q.length : Int) - 1) k0) - 1) (by omega))))) ?_
     exact Exists.intro (List.set (List.set s0 (Int.toNat ((nth q (Int.toNat (dn ((q.length : Int) - 1) k0))).2.1)) (nth s0 (Int.toNat (dn ((q.length : Int) - 1) k0)))) (Int.toNat ((nth q (Int.toNat (dn ((q.length : Int) - 1) k0))).2.2.1)) (nth (List.set s0 (Int.toNat ((nth q (Int.toNat (dn ((q.length : Int) - 1) k0))).2.1)) (nth s0 (Int.toNat (dn ((q.length : Int) - 1) k0)))) (Int.toNat (dn ((q.length : Int) - 1) k0)))) (And.intro (Qd (by kernel_rfl)) ⟨Vh hk0 (Q6 h6 (X8 h19 (rfl))) hI0.1, (by first | omega | (simp only [List.length_set]; omega))⟩)
    ·
     have h19l : (((nth q (Int.toNat (dn ((q.length : Int) - 1) k0))).1 == (6 : Int))) = false := or_l h19
     have h19ld := Zz h19l
     have h19r : (((nth q (Int.toNat (dn ((q.length : Int) - 1) k0))).1 == (7 : Int))) = false := or_r h19
     have h19rd := Zz h19r
     refine Qr ?_
     refine rk Qb [(4, .i (dn ((q.length : Int) - 1) (k0 + 1)))] [4, 5, 40] [] [5] [(1, .val (.i (dn ((q.length : Int) - 1) (k0 + 1))))] (o1 (Qi (show .i (IntKind.i64.wrap ((dn ((q.length : Int) - 1) k0) - 1)) = .i (dn ((q.length : Int) - 1) (k0 + 1)) from Km (show IntKind.i64.wrap ((dn ((q.length : Int) - 1) k0) - 1) = (dn ((q.length : Int) - 1) (k0 + 1)) from IntWalk.i64_in ((dn ((q.length : Int) - 1) k0) - 1) (by omega))))) ?_
     exact Exists.intro s0 (And.intro (Qd (by kernel_rfl)) ⟨Vh hk0 (Q6 h6 (Q6 h19 (rfl))) hI0.1, (by first | omega | (simp only [List.length_set]; omega))⟩)
  ·
   have hA0_0 := hI0.2
   have hdn0 := dn_eq ((q.length : Int) - 1) k0
   refine Qa ?_
   refine Qa ?_
   refine rk Qb [(18, .b false)] [] [] [] [(1, .val (.b false))] (o1 (Qi (Qh (decide_eq_false (p := (dn ((q.length : Int) - 1) k0) ≥ (0 : Int)) (by omega))))) ?_
   refine ckF ?_
   refine Xt ?_
   exact Exists.intro s0 (And.intro (Qd (by kernel_rfl)) ⟨Qbu hk0 (rfl) hI0.1, by first | omega | (simp only [List.length_set]; omega)⟩)
  ·
   have hD0_0 := hD0.2
   refine Qa ?_
   refine rk Qb [(2, .o 832 y0)] [2, 3] [] [] [] (o0) ?_
   refine Qq ?_
   exact Ze [] (congrArg (fun z => (.o 0 z : AV)) (show Yy q = y0 from Q6 h1 (Hk hD0.1 (rfl))).symm)
end Go.Proofs.YtamghcfmhfknmaaGreat
namespace Go.Proofs.YtamghcfmhfknmaaGreat
open Go.RowKit
theorem Qe7 {α : Type} [Inhabited α] {l : List α} {i j : Nat} (x : α) (h : j ≠ i) : nth (l.set j x) i = nth l i := by
  simp [nth, List.getD, List.getElem?_set_ne h]
theorem negated_f {q : List Zo} (hv : Q7 q = true) {k : Nat} (hk : k < q.length) (s : List Bool) : Zm q k s = K9 q k s := by
  have hdn := dn_eq ((q.length : Int) - 1) k
  obtain ⟨hl, hr⟩ := Qdv hv (k := dn ((q.length : Int) - 1) k) (by omega) (by omega)
  unfold Zm K9
  generalize hi : dn ((q.length : Int) - 1) k = i at hl hr ⊢
  generalize nth q (Int.toNat i) = n at hl hr ⊢
  by_cases h5 : n.1 = 5
  · simp [h5]
  by_cases h6 : n.1 = 6
  · have := hl (.inr (.inl h6))
    simp [h6]
    rw [Qe7 _ (by omega)]
  by_cases h7 : n.1 = 7
  · have := hl (.inr (.inr h7))
    simp [h7]
    rw [Qe7 _ (by omega)]
  simp only [beq_eq_false_iff_ne.2 h5, beq_eq_false_iff_ne.2 h6, beq_eq_false_iff_ne.2 h7, Bool.or_false, cond_false]
theorem negated_eq (q : List Zo) : Yy q = Xq q := by
  unfold Yy Xq
  rw [← vq_eq]
  cases hv : Q7 q with
  | false => rfl
  | true =>
    simp only [Bool.not_true, cond_false]
    rw [forN_congr (f := K9 q) (g := Zm q) (e := Uo) (e' := K8) (fun _ _ => rfl) _ _ _ fun i s _ hi => (negated_f hv (by omega) s).symm]
theorem negated_next (q : List Zo) (k : Nat) (s : List Bool) : ∃ s', Zm q k s = .next s' ∧ s'.length = s.length := by
  unfold Zm
  generalize ((nth q (Int.toNat (dn ((q.length : Int) - 1) k))).1 == (5 : Int)) = a
  generalize ((nth q (Int.toNat (dn ((q.length : Int) - 1) k))).1 == (6 : Int)) = b
  generalize ((nth q (Int.toNat (dn ((q.length : Int) - 1) k))).1 == (7 : Int)) = c
  cases a <;> cases b <;> cases c <;> exact ⟨_, rfl, by simp⟩
theorem negated_loop (q : List Zo) : ∀ (n k : Nat) (s : List Bool), ∃ s', Hu (Zm q) K8 n k s = .brk s' ∧ s'.length = s.length
  | 0, k, s => ⟨s, rfl, rfl⟩
  | n + 1, k, s => by
    obtain ⟨s1, h1, h2⟩ := negated_next q k s
    obtain ⟨s2, h3, h4⟩ := negated_loop q n (k + 1) s1
    refine ⟨s2, ?_, h4.trans h2⟩
    simp only [Hu, h1]
    exact h3
theorem negated_len (q : List Zo) : List.length (Xq q) ≤ List.length q := by
  unfold Xq
  cases Q7 q with
  | false => exact Nat.zero_le _
  | true =>
    obtain ⟨s, h1, h2⟩ := negated_loop q (List.length q) 0 (List.replicate (Int.toNat (q.length : Int)) false)
    simp only [Bool.not_true, cond_false, h1, Out.on]
    rw [h2]
    simp
theorem negated_lenS (q : List Zo) : List.length (Yy q) ≤ List.length q := by rw [negated_eq]; exact negated_len q
end Go.Proofs.YtamghcfmhfknmaaGreat
namespace Go.Proofs.YtamghcfmhfknmaaGreat
open Go.RowKit Go.Sort
open GoE (enc)
structure OneC (α σ : Type) [GoE α] where
  to : α → σ
  of : σ → α
  cell : σ → Value
  pv : α → PV
  ok : α → Prop
  of_to : ∀ a, of (to a) = a
  to_of : ∀ s, to (of s) = s
  enc_eq : ∀ a, enc a = [pv a]
  flat : ∀ a, (pv a).flat
  vv : ∀ (X : Nat → Prop) (w : World) v a, VV X w v (pv a) ↔ v = cell (to a) ∧ ok a
def oneS : OneC ByteArray (List UInt8) where
  to b := b.data.toList
  of s := ⟨s.toArray⟩
  cell := encStr
  pv := .str
  ok b := b.size ≤ maxLen
  of_to b := by cases b; simp
  to_of s := by simp
  enc_eq _ := rfl
  flat _ := trivial
  vv X w v a := by
    have e : encStr a.data.toList = .string a := by cases a; simp [encStr]
    rw [e]
    exact ⟨fun h => by cases h with | str h => exact ⟨rfl, h⟩, fun ⟨h1, h2⟩ => by subst h1; exact .str h2⟩
section
variable {α σ : Type} [GoE α] (C : OneC α σ)
theorem one_vr {X : Nat → Prop} {w : World} : ∀ {l : List α} {cs : List Value}, VR X w 1 cs (eL l) → cs = (l.map C.to).map C.cell ∧ ∀ a, a ∈ l → C.ok a
  | [], cs, h => by
    generalize hr : eL ([] : List α) = r at h
    cases h with
    | nil => exact ⟨rfl, fun a ha => by simp at ha⟩
    | cons => cases hr
  | a :: l, cs, h => by
    generalize hr : eL (a :: l) = r at h
    cases h with
    | nil => cases hr
    | cons h1 h2 h3 =>
      rw [eL_cons, C.enc_eq] at hr
      obtain ⟨rfl, rfl⟩ : [C.pv a] = _ ∧ eL l = _ := by simpa using hr
      obtain ⟨e, hok⟩ := one_vr h3
      cases h1 with
      | cons h4 h5 =>
        cases h5
        obtain ⟨rfl, ha⟩ := (C.vv X w _ a).1 h4
        exact ⟨by rw [e]; rfl, fun b hb => (List.mem_cons.1 hb).elim (fun e => e ▸ ha) (hok b)⟩
theorem vr_one {X : Nat → Prop} {w : World} : ∀ {l : List α}, (∀ a, a ∈ l → C.ok a) → VR X w 1 ((l.map C.to).map C.cell) (eL l)
  | [], _ => .nil 1
  | a :: l, h => by
    rw [eL_cons, C.enc_eq]
    exact VR.cons (ce := [C.cell (C.to a)]) (.cons ((C.vv X w _ a).2 ⟨rfl, h a List.mem_cons_self⟩) .nil) rfl (vr_one fun b hb => h b (List.mem_cons_of_mem _ hb))
theorem eL_flat (l : List α) : (eL l).flatten = l.map C.pv := by
  induction l with
  | nil => rfl
  | cons a l ih => rw [eL_cons, C.enc_eq, List.flatten_cons, ih]; rfl
theorem eL_pv (l : List α) : eL l = (l.map C.pv).map fun c => [c] := by
  simp [eL, C.enc_eq, Function.comp_def]
theorem put_list (e : σ → Value) [Inhabited σ] (d : Array σ) (cur : Array Value) (h : d.size ≤ cur.size) : (Go.Sort.putCells e 0 d cur).toList = d.toList.map e ++ cur.toList.drop d.size := by
  apply List.ext_getElem?
  intro j
  unfold Go.Sort.putCells
  rw [Array.getElem?_toList, Array.getElem?_mapIdx]
  by_cases hj : j < d.size
  · rw [List.getElem?_append_left (by simpa using hj), Array.getElem?_eq_getElem (by omega : j < cur.size), List.getElem?_map, Array.getElem?_toList, Array.getElem?_eq_getElem hj]
    simp only [Option.map_some]
    rw [if_pos ⟨Nat.zero_le _, by omega⟩, Nat.sub_zero, getElem!_pos d j hj]
  · rw [List.getElem?_append_right (by simpa using Nat.le_of_not_lt hj), List.getElem?_drop]
    have e1 : d.size + (j - (d.toList.map e).length) = j := by simp; omega
    rw [e1, Array.getElem?_toList]
    cases cur[j]? with
    | none => rfl
    | some x => simp; omega
theorem putRow_heap {e : σ → Value} [Inhabited σ] {w : World} {g : Nat} {cur : Array Value} {ty : TypeId} (hg : w.heap[g]? = some (.cells cur ty (0, 0))) (q : Nat) (d : Array σ) (os : Array Obj) :
    (grow (putRow e (Sort.ahead w q) g 0 d) os).heap[g]? = some (.cells (Go.Sort.putCells e 0 d cur) ty (0, 0)) := by
  have hlt : g < w.heap.size := Xz hg
  unfold grow putRow mapBlock Sort.ahead
  simp only [Array.getElem?_append, Array.size_modify]
  rw [if_pos hlt, Array.getElem?_modify, if_pos rfl, hg]
  rfl
theorem putRow_other {e : σ → Value} [Inhabited σ] (w : World) (g q : Nat) (d : Array σ) (os : Array Obj) : (∀ b, b < w.heap.size → b ≠ g → (grow (putRow e (Sort.ahead w q) g 0 d) os).heap[b]? = w.heap[b]?) ∧ ∀ m, m ≤ g → m ≤ w.heap.size → Below m w (grow (putRow e (Sort.ahead w q) g 0 d) os) := by
  have h : ∀ b, b < w.heap.size → b ≠ g → (grow (putRow e (Sort.ahead w q) g 0 d) os).heap[b]? = w.heap[b]? := fun b hb hn => by
    unfold grow putRow mapBlock Sort.ahead
    simp only [Array.getElem?_append, Array.size_modify]
    rw [if_pos hb, Array.getElem?_modify, if_neg (fun e => hn e.symm)]
  refine ⟨h, fun m hm hs => ⟨rfl, rfl, rfl, ?_, fun b hb => h b (by omega) (by omega)⟩⟩
  unfold grow putRow mapBlock Sort.ahead
  simp
theorem holds_of {e : σ → Value} [Inhabited σ] {g : Nat} {w : World} {cur : Array Value} {ty : TypeId} {l : List σ} (hg : w.heap[g]? = some (.cells cur ty (0, 0))) (ht : cur.toList.take l.length = l.map e) : Holds e w g 0 l.toArray := by
  intro j hj
  have hjl : j < l.length := by simpa using hj
  have hc : cur[j]? = some (e l[j]) := by
    have h5 : (cur.toList.take l.length)[j]? = (l.map e)[j]? := by rw [ht]
    rw [List.getElem?_take, if_pos hjl, List.getElem?_map, List.getElem?_eq_getElem hjl, Array.getElem?_toList] at h5
    exact h5
  refine ⟨?_, ?_⟩
  · rw [Nat.zero_add]
    simp [World.cell?, hg, hc, getElem!_pos, hjl]
  · simp [World.frozen?, hg]
variable {P : Program} [Inhabited σ]
theorem tret_none (F : Nat → Prop) (L : List Nat) (w : World) (oa : Option Addr) : TRet F L w 1 true [] (.returned (.tuple #[])) w :=
  ⟨_, rfl, fun m _ _ => Below.refl _ _, fun _ _ _ => rfl, rfl, fun v2 l2 h => by simpa [setAll] using h⟩
theorem atake_turn {f : Nat} (hok : Jr P f) (srt : List σ → List σ) (hlen : ∀ l, (srt l).length = l.length) (hmem : ∀ l x, x ∈ srt l → x ∈ l)
    (h0 : ∀ oa cap w, Calls P f #[.slice oa 0 cap] w fun e w' => e = .returned (.tuple #[]) ∧ w' = w)
    (h1 : ∀ g cap (l : List σ) w, Holds C.cell w g 0 l.toArray → g < w.heap.size → l.length < 4611686018427387904 → Calls P f #[.slice (some ⟨g, 0, none⟩) l.length cap] w fun e w' => e = .returned (.tuple #[]) ∧ ∃ n os, w' = grow (putRow C.cell (Sort.ahead w n) g 0 (srt l).toArray) os)
    (l : List α) : ATake P f 1 (eL l) [] false true (eL ((srt (l.map C.to)).map C.of)) := by
  refine ⟨hok, fun w F G L v vals _ hFG _ hGs _ hLG hrow hargs => ?_⟩
  cases hargs
  rcases hrow with ⟨hl, oa, rfl⟩ | ⟨g, cap, cur, ty, rfl, rfl, hg, hs, hr, h5, h6⟩
  · obtain rfl : l = [] := by simpa [eL] using hl
    have hs0 : srt [] = [] := List.eq_nil_of_length_eq_zero (by rw [hlen]; rfl)
    refine (h0 oa 0 w).mono ?_
    rintro e w' ⟨rfl, rfl⟩
    rw [List.map_nil, hs0]
    exact tret_none F L w' oa
  · have hll : (eL l).length = l.length := by simp [eL]
    rw [hll] at hr h5 h6 ⊢
    rw [Nat.mul_one] at hr hs
    obtain ⟨hcs, hok'⟩ := one_vr C hr
    have hH : Holds C.cell w g 0 (l.map C.to).toArray := holds_of hg (by rw [List.length_map]; exact hcs)
    have hc := h1 g cap (l.map C.to) w hH (Xz hg) (by rw [List.length_map]; have := h6.2; omega)
    rw [List.length_map] at hc
    refine hc.mono ?_
    rintro e w' ⟨rfl, n, os, rfl⟩
    have hother := putRow_other (e := C.cell) w g n (srt (l.map C.to)).toArray os
    have hgl := Xz hg
    refine ⟨_, rfl, fun m hm hL => hother.2 m (hL g (by simp)) hm, fun b hb hn => hother.1 b hb (by simpa using hn), rfl, fun v2 l2 h2 => ?_⟩
    rcases h2 with ⟨rfl, oa, rfl⟩ | ⟨g2, cap2, cur2, ty2, hL2, rfl, hg2, hs2, hr2, h7, h8⟩
    · exact .inl ⟨by simp [setAll], oa, rfl⟩
    · obtain rfl : g = g2 := by simpa using hL2
      rw [hg] at hg2
      cases hg2
      rw [eL_flat C, setAll]
      have hd : (srt (l.map C.to)).toArray.size ≤ cur.size := by simp only [List.size_toArray, hlen, List.length_map]; omega
      have hlen2 : (List.map (fun c => [c]) (List.take l2.length (List.map C.pv (List.map C.of (srt (l.map C.to))))) ++ List.drop (List.map C.pv (List.map C.of (srt (l.map C.to)))).length l2).length = l2.length := by
        simp only [List.length_append, List.length_map, List.length_take, List.length_drop]
        omega
      refine .inr ⟨g, cap2, _, ty, rfl, by rw [hlen2], putRow_heap hg n _ os, ?_, ?_, by rw [hlen2]; exact h7, by rw [hlen2]; exact h8⟩
      · simp [Go.Sort.putCells, hs2]
      · rw [hlen2, Nat.mul_one, put_list C.cell _ cur hd, List.take_append]
        rw [Nat.mul_one] at hr2
        refine VR.append ?_ ?_
        · have hk : VR F (grow (putRow C.cell (Sort.ahead w n) g 0 (srt (l.map C.to)).toArray) os) 1 (cur.toList.take l2.length) l2 := by
            refine hr2.keep fun b hb => ⟨hb, hother.1 b (hGs b (hFG b hb)) fun e => (hLG g (by simp)).2 (hFG g (e ▸ hb))⟩
          have := VR.drop (srt (l.map C.to)).length hk
          rw [Nat.mul_one, List.drop_take] at this
          simpa using this
        · have hm : ∀ a, a ∈ (srt (l.map C.to)).map C.of → C.ok a := fun a ha => by
            obtain ⟨x, hx, rfl⟩ := List.mem_map.1 ha
            obtain ⟨b, hb, rfl⟩ := List.mem_map.1 (hmem _ _ hx)
            rw [C.of_to]; exact hok' b hb
          have := VR.take l2.length (vr_one C (X := F) (w := grow (putRow C.cell (Sort.ahead w n) g 0 (srt (l.map C.to)).toArray) os) hm)
          rw [Nat.mul_one, eL_pv C] at this
          simpa [List.map_take, Function.comp_def, C.to_of] using this
theorem atake_take {f : Nat} (hok : Jr P f) (cmp : List σ → List σ) (hlen : ∀ l, (cmp l).length ≤ l.length) (hmem : ∀ l x, x ∈ cmp l → x ∈ l)
    (h0 : ∀ oa cap w, Calls P f #[.slice oa 0 cap] w fun e w' => e = .returned (.slice oa 0 cap) ∧ w' = w)
    (h1 : ∀ g cap (l : List σ) w, Holds C.cell w g 0 l.toArray → l.length ≤ 9223372036854775807 → l.length ≤ cap → Calls P f #[.slice (some ⟨g, 0, none⟩) l.length cap] w fun e w' => e = .returned (.slice (some ⟨g, 0, none⟩) (cmp l).length cap) ∧ ∃ q pad, (cmp l ++ pad).length = l.length ∧ w' = putRow C.cell (Sort.ahead w q) g 0 (cmp l ++ pad).toArray)
    (l : List α) : ATake P f 1 (eL l) [] false false (eL ((cmp (l.map C.to)).map C.of)) := by
  refine ⟨hok, fun w F G L v vals _ hFG _ hGs _ hLG hrow hargs => ?_⟩
  cases hargs
  rcases hrow with ⟨hl, oa, rfl⟩ | ⟨g, cap, cur, ty, rfl, rfl, hg, hs, hr, h5, h6⟩
  · obtain rfl : l = [] := by simpa [eL] using hl
    have hs0 : cmp [] = [] := List.eq_nil_of_length_eq_zero (by have := hlen []; simpa using this)
    refine (h0 oa 0 w).mono ?_
    rintro e w' ⟨rfl, rfl⟩
    rw [List.map_nil, hs0]
    exact ⟨_, rfl, fun m _ _ => Below.refl _ _, fun _ _ _ => rfl, [], List.nodup_nil, fun b hb => (by simp at hb), .inl ⟨rfl, oa, rfl⟩⟩
  · have hll : (eL l).length = l.length := by simp [eL]
    rw [hll] at hr h5 h6 ⊢
    rw [Nat.mul_one] at hr hs
    obtain ⟨hcs, hok'⟩ := one_vr C hr
    have hH : Holds C.cell w g 0 (l.map C.to).toArray := holds_of hg (by rw [List.length_map]; exact hcs)
    have hc := h1 g cap (l.map C.to) w hH (by rw [List.length_map]; have := h6.2; omega) (by rw [List.length_map]; exact h5)
    rw [List.length_map] at hc
    refine hc.mono ?_
    rintro e w' ⟨rfl, q, pad, hpad, rfl⟩
    have hw : putRow C.cell (Sort.ahead w q) g 0 (cmp (l.map C.to) ++ pad).toArray = grow (putRow C.cell (Sort.ahead w q) g 0 (cmp (l.map C.to) ++ pad).toArray) #[] := (grow_empty _).symm
    rw [hw]
    have hother := putRow_other (e := C.cell) w g q (cmp (l.map C.to) ++ pad).toArray #[]
    have hgl := Xz hg
    have hd : (cmp (l.map C.to) ++ pad).toArray.size ≤ cur.size := by rw [List.size_toArray, hpad]; omega
    have hle := hlen (l.map C.to)
    rw [List.length_map] at hle
    have hel : (eL ((cmp (l.map C.to)).map C.of)).length = (cmp (l.map C.to)).length := by simp [eL]
    have hsz : g < (grow (putRow C.cell (Sort.ahead w q) g 0 (cmp (l.map C.to) ++ pad).toArray) #[]).heap.size := Xz (putRow_heap hg q _ #[])
    refine ⟨_, rfl, fun m hm hL => hother.2 m (hL g (by simp)) hm, fun b hb hn => hother.1 b hb (by simpa using hn), [g], by simp, fun b hb => ?_, .inr ⟨g, cap, _, ty, rfl, by rw [hel], putRow_heap hg q _ #[], ?_, ?_, by rw [hel]; omega, h6.1, by rw [hel]; have := h6.2; omega⟩⟩
    · obtain rfl := List.mem_singleton.1 hb
      exact ⟨hsz, .inr (by simp)⟩
    · simp [Go.Sort.putCells, hs]
    · rw [hel, Nat.mul_one, put_list C.cell _ cur hd]
      have hm : ∀ a, a ∈ (cmp (l.map C.to)).map C.of → C.ok a := fun a ha => by
        obtain ⟨x, hx, rfl⟩ := List.mem_map.1 ha
        obtain ⟨b, hb, rfl⟩ := List.mem_map.1 (hmem _ _ hx)
        rw [C.of_to]; exact hok' b hb
      have := vr_one C (X := F) (w := grow (putRow C.cell (Sort.ahead w q) g 0 (cmp (l.map C.to) ++ pad).toArray) #[]) hm
      have e1 : ((cmp (l.map C.to)).map C.of).map C.to = cmp (l.map C.to) := by simp [Function.comp_def, C.to_of]
      rw [e1] at this
      rw [List.map_append, List.append_assoc, List.take_left' (by simp)]
      exact VR.keep (fun b hb => ⟨.inl hb, rfl⟩) this
end
/-! ### the rows that Sort and Compact give, typed -/
def Qf0 (l : List ByteArray) : List ByteArray := ((l.map oneS.to).mergeSort fun x y => decide (x ≤ y)).map oneS.of
def compS (l : List ByteArray) : List ByteArray := (Lib.compact (l.map oneS.to)).map oneS.of
theorem comp_mem {σ : Type} [Inhabited σ] [DecidableEq σ] (l : List σ) (x : σ) (h : x ∈ Lib.compact l) : x ∈ l := by
  unfold Lib.compact Lib.compactUpTo at h
  simp only [List.mem_map, List.mem_filter, List.mem_range] at h
  obtain ⟨j, ⟨hj, _⟩, e⟩ := h
  have e1 : l.toArray[j]! = l[j] := by rw [getElem!_pos l.toArray j (by simpa using hj)]; simp
  rw [e1] at e
  exact e ▸ List.getElem_mem hj
theorem comp_len {σ : Type} [Inhabited σ] [DecidableEq σ] (l : List σ) : (Lib.compact l).length ≤ l.length := by
  unfold Lib.compact Lib.compactUpTo
  rw [List.length_map]
  exact Nat.le_trans (List.length_filter_le _ _) (by rw [List.length_range]; exact Nat.le_refl _)
theorem sortS_len (l : List ByteArray) : (Qf0 l).length = l.length := by simp [Qf0, List.length_mergeSort]
theorem compS_len (l : List ByteArray) : (compS l).length ≤ l.length := by
  have := comp_len (l.map oneS.to)
  rw [List.length_map] at this
  simpa [compS] using this
theorem putR_all {α : Type} [GoE α] {l k : List α} (h1 : ∀ a : α, (enc a).length = 1) (h : k.length = l.length) : putR (eL l) 0 4294967296 (eL k).flatten = eL k := by
  have hk : ∀ k : List α, ((eL k).flatten.map fun c => [c]) = eL k := fun k => by
    induction k with
    | nil => rfl
    | cons a k ih =>
      rw [eL_cons, List.flatten_cons, List.map_append, ih]
      have := h1 a
      match enc a, this with
      | [p], _ => rfl
  have hf : (eL k).flatten.length = k.length := by
    have := congrArg List.length (hk k)
    rw [List.length_map] at this
    rw [this]
    simp [eL]
  show setAll (eL l) (eL k).flatten = eL k
  unfold setAll
  have e1 : (eL l).length = l.length := by simp [eL]
  rw [e1, List.take_of_length_le (by omega), hk, List.drop_of_length_le (by omega), List.append_nil]
end Go.Proofs.YtamghcfmhfknmaaGreat
namespace Go.Proofs.YtamghcfmhfknmaaGreat
open Go.RowKit
section
variable {σ : Type} (lt : σ → σ → Prop)
theorem ascs_ext (irr : ∀ a, ¬ lt a a) (tr : ∀ a b c, lt a b → lt b c → lt a c) : ∀ (a b : List σ), a.Pairwise lt → b.Pairwise lt → (∀ x, x ∈ a ↔ x ∈ b) → a = b
  | [], [], _, _, _ => rfl
  | [], y :: b, _, _, h => by have := (h y).2 (by simp); simp at this
  | x :: a, [], _, _, h => by have := (h x).1 (by simp); simp at this
  | x :: a, y :: b, ha, hb, h => by
    rw [List.pairwise_cons] at ha hb
    have h1 : x = y := by
      have hx := (h x).1 (by simp)
      have hy := (h y).2 (by simp)
      simp only [List.mem_cons] at hx hy
      rcases hx with e | hx
      · exact e
      · rcases hy with e | hy
        · exact e.symm
        · exact (irr x (tr _ _ _ (ha.1 y hy) (hb.1 x hx))).elim
    subst h1
    congr 1
    refine ascs_ext irr tr a b ha.2 hb.2 fun z => ?_
    have hz := h z
    simp only [List.mem_cons] at hz
    constructor
    · intro hm
      have hlt := ha.1 z hm
      rcases hz.1 (.inr hm) with e | e
      · subst e; exact (irr z hlt).elim
      · exact e
    · intro hm
      have hlt := hb.1 z hm
      rcases hz.2 (.inr hm) with e | e
      · subst e; exact (irr z hlt).elim
      · exact e
theorem comp_asc [Inhabited σ] [DecidableEq σ] (d : Array σ) (tr : ∀ a b c, ¬ lt b a → lt b c → lt a c) (tri : ∀ a b, ¬ lt b a → a ≠ b → lt a b) (hs : ∀ i j, i ≤ j → j < d.size → ¬ lt d[j]! d[i]!) :
    ∀ m, m ≤ d.size → (Lib.compactUpTo d m).Pairwise lt ∧ ∀ x, x ∈ Lib.compactUpTo d m ↔ ∃ j, j < m ∧ d[j]! = x
  | 0, _ => by simp [Lib.compactUpTo]
  | m + 1, hm => by
    obtain ⟨h1, h2⟩ := comp_asc d tr tri hs m (by omega)
    rw [Lib.compactUpTo_succ]
    by_cases hk : Lib.keeps d m = true
    · rw [if_pos hk]
      refine ⟨?_, fun x => ?_⟩
      · rw [List.pairwise_append]
        refine ⟨h1, by simp, fun a ha b hb => ?_⟩
        obtain ⟨j, hj, rfl⟩ := (h2 a).1 ha
        obtain rfl : b = d[m]! := by simpa using hb
        have hle := hs j (m - 1) (by omega) (by omega)
        have hle2 := hs (m - 1) m (by omega) (by omega)
        have hne : d[m]! ≠ d[m - 1]! := by
          unfold Lib.keeps at hk
          simp only [Bool.or_eq_true, beq_iff_eq, bne_iff_ne, decide_eq_true_eq] at hk
          rcases hk with h | h
          · omega
          · exact h
        exact tr _ _ _ hle (tri _ _ hle2 fun e => hne e.symm)
      · rw [List.mem_append, h2 x]
        constructor
        · rintro (⟨j, hj, e⟩ | h)
          · exact ⟨j, by omega, e⟩
          · exact ⟨m, by omega, by simpa using (by simpa using h : x = d[m]!).symm⟩
        · rintro ⟨j, hj, e⟩
          by_cases hjm : j = m
          · subst hjm; exact .inr (by simp [e])
          · exact .inl ⟨j, by omega, e⟩
    · rw [if_neg hk, List.append_nil]
      refine ⟨h1, fun x => ?_⟩
      rw [h2 x]
      have hm0 : m ≠ 0 ∧ d[m]! = d[m - 1]! := by
        unfold Lib.keeps at hk
        simp only [Bool.or_eq_true, beq_iff_eq, bne_iff_ne, decide_eq_true_eq, not_or, Decidable.not_not] at hk
        exact hk
      constructor
      · rintro ⟨j, hj, e⟩; exact ⟨j, by omega, e⟩
      · rintro ⟨j, hj, e⟩
        by_cases hjm : j = m
        · subst hjm; exact ⟨j - 1, by omega, hm0.2 ▸ e⟩
        · exact ⟨j, by omega, e⟩
end
/-! ### texts -/
def bl (a b : ByteArray) : Bool := Op.bytesLess a.toList b.toList
theorem lt8_trans {a b c : List UInt8} (h : a < b) (h' : b < c) : a < c := List.lt_trans h h'
theorem lt8_irr (a : List UInt8) : ¬ a < a := List.lt_irrefl a
theorem lt8_tri {a b : List UInt8} (h : ¬ b < a) (hn : a ≠ b) : a < b := Classical.byContradiction fun h' => hn (List.le_antisymm h h')
theorem bl_iff (a b : ByteArray) : bl a b = true ↔ a.data.toList < b.data.toList := by
  unfold bl
  rw [bytesLess_eq, ByteArray.toList_eq, ByteArray.toList_eq, decide_eq_true_iff]
theorem bl_irr (a : ByteArray) : bl a a = false := by
  cases h : bl a a with
  | false => rfl
  | true => exact (lt8_irr _ ((bl_iff a a).1 h)).elim
theorem bl_trans {a b c : ByteArray} (h : bl a b = true) (h' : bl b c = true) : bl a c = true := (bl_iff _ _).2 (lt8_trans ((bl_iff _ _).1 h) ((bl_iff _ _).1 h'))
theorem bl_tri {a b : ByteArray} (h : bl b a = false) (hn : a ≠ b) : bl a b = true := (bl_iff _ _).2 (lt8_tri (fun hb => by rw [(bl_iff _ _).2 hb] at h; cases h) fun e => hn (by cases a; cases b; simp at e; rw [e]))
def putS : List ByteArray → ByteArray → List ByteArray
  | [], s => [s]
  | x :: l, s => if bl x s then x :: putS l s else if x = s then x :: l else s :: x :: l
def ascS (l : List ByteArray) : Prop := l.Pairwise fun a b => bl a b = true
theorem mem_putS (s x : ByteArray) : ∀ l, x ∈ putS l s ↔ x = s ∨ x ∈ l
  | [] => by simp [putS]
  | y :: l => by
    simp only [putS]
    split
    · rw [List.mem_cons, mem_putS s x l, List.mem_cons]
      constructor
      · rintro (h | h | h) <;> simp [h]
      · rintro (h | h | h) <;> simp [h]
    · split
      · rename_i e
        subst e
        simp
      · simp
theorem asc_putS (s : ByteArray) : ∀ l, ascS l → ascS (putS l s)
  | [], _ => by simp [ascS, putS]
  | y :: l, h => by
    have h := List.pairwise_cons.1 h
    simp only [putS]
    split
    · rename_i hl
      refine List.pairwise_cons.2 ⟨fun z hz => ?_, asc_putS s l h.2⟩
      rcases (mem_putS s z l).1 hz with e | hz
      · exact e ▸ hl
      · exact h.1 z hz
    · split
      · exact List.pairwise_cons.2 h
      · rename_i hl hn
        have hs : bl s y = true := bl_tri (by simpa using hl) fun e => hn e.symm
        refine List.pairwise_cons.2 ⟨fun z hz => ?_, List.pairwise_cons.2 h⟩
        rcases List.mem_cons.1 hz with rfl | hz
        · exact hs
        · exact bl_trans hs (h.1 z hz)
theorem len_putS (s : ByteArray) : ∀ l, (putS l s).length ≤ l.length + 1
  | [] => by simp [putS]
  | y :: l => by
    have := len_putS s l
    simp only [putS]
    split
    · simp only [List.length_cons]; omega
    · split <;> simp
def putAllS (l xs : List ByteArray) : List ByteArray := xs.foldl putS l
theorem mem_putAllS (x : ByteArray) : ∀ xs l, x ∈ putAllS l xs ↔ x ∈ xs ∨ x ∈ l
  | [], l => by simp [putAllS]
  | y :: xs, l => by
    show x ∈ putAllS (putS l y) xs ↔ _
    rw [mem_putAllS x xs, mem_putS, List.mem_cons]
    constructor
    · rintro (h | h | h) <;> simp [h]
    · rintro ((h | h) | h) <;> simp [h]
theorem asc_putAllS : ∀ xs l, ascS l → ascS (putAllS l xs)
  | [], _, h => h
  | y :: xs, l, h => asc_putAllS xs (putS l y) (asc_putS y l h)
theorem ascS_ext (a b : List ByteArray) (ha : ascS a) (hb : ascS b) (h : ∀ x, x ∈ a ↔ x ∈ b) : a = b :=
  ascs_ext (fun a b => bl a b = true) (fun a h => by rw [bl_irr] at h; cases h) (fun _ _ _ => bl_trans) a b ha hb h
theorem once_spec (l : List ByteArray) : ascS (compS (Qf0 l)) ∧ ∀ x, x ∈ compS (Qf0 l) ↔ x ∈ l := by
  have hto : (Qf0 l).map oneS.to = (l.map oneS.to).mergeSort fun x y => decide (x ≤ y) := by simp [Qf0, Function.comp_def, oneS.to_of]
  unfold compS
  rw [hto]
  generalize hm : l.map oneS.to = m
  have hp := List.mergeSort_perm m (fun x y => decide (x ≤ y))
  have hs := List.pairwise_mergeSort (le := fun (x y : List UInt8) => decide (x ≤ y)) (fun a b c h1 h2 => by
    simp only [decide_eq_true_eq] at h1 h2 ⊢; exact List.le_trans h1 h2) (fun a b => by
    have := List.le_total a b
    simpa using this) m
  generalize (m.mergeSort fun x y => decide (x ≤ y)) = s at hp hs
  have hget : ∀ j, j < s.length → s.toArray[j]! = s[j]! := fun j hj => by simp
  have hmono : ∀ i j, i ≤ j → j < s.toArray.size → ¬ s.toArray[j]! < s.toArray[i]! := fun i j hij hj => by
    have hj : j < s.length := by simpa using hj
    rw [hget i (by omega), hget j hj, getElem!_pos s i (by omega), getElem!_pos s j hj]
    by_cases e : i = j
    · subst e; exact lt8_irr _
    · have := List.pairwise_iff_getElem.1 hs i j (by omega) hj (by omega)
      simpa using this
  obtain ⟨h1, h2⟩ := comp_asc (fun a b : List UInt8 => a < b) s.toArray (fun a b c hab hbc => by
    by_cases e : a = b
    · exact e ▸ hbc
    · exact lt8_trans (lt8_tri hab e) hbc) (fun a b h hn => lt8_tri h hn) hmono s.length (by simp)
  refine ⟨?_, fun x => ?_⟩
  · refine List.pairwise_map.2 (h1.imp fun {a b} h => (bl_iff _ _).2 ?_)
    simpa [oneS] using h
  · have hmem : x ∈ l ↔ oneS.to x ∈ m := by
      rw [← hm, List.mem_map]
      refine ⟨fun h => ⟨x, h, rfl⟩, fun ⟨y, h, e⟩ => ?_⟩
      have := congrArg oneS.of e
      rw [oneS.of_to, oneS.of_to] at this
      exact this ▸ h
    rw [hmem, ← hp.mem_iff, List.mem_map]
    constructor
    · rintro ⟨y, hy, rfl⟩
      obtain ⟨j, hj, e⟩ := (h2 y).1 hy
      rw [hget j hj, getElem!_pos s j hj] at e
      rw [oneS.to_of]
      exact e ▸ List.getElem_mem hj
    · intro h
      obtain ⟨j, hj, e⟩ := List.getElem_of_mem h
      exact ⟨oneS.to x, (h2 _).2 ⟨j, hj, by rw [hget j hj, getElem!_pos s j hj]; exact e⟩, oneS.of_to x⟩
theorem once_put (l : List ByteArray) : compS (Qf0 l) = putAllS [] l :=
  ascS_ext _ _ (once_spec l).1 (asc_putAllS l [] List.Pairwise.nil) fun x => by rw [(once_spec l).2, mem_putAllS]; simp
end Go.Proofs.YtamghcfmhfknmaaGreat
namespace Go.Proofs.YtamghcfmhfknmaaGreat
abbrev V8 := List (Nat × Int)
def Qeo (E : V8) (L : List Int) : Int := E.foldl (fun m e => max m (nth L e.1 + e.2)) 0
theorem Qfp (L : List Int) (x : Int) : ∀ (E : V8) (m : Int), E.foldl (fun m e => max m (nth L e.1 + e.2)) m ≤ x ↔ m ≤ x ∧ ∀ e, e ∈ E → nth L e.1 + e.2 ≤ x
  | [], m => by simp
  | e :: E, m => by
    rw [List.foldl_cons, Qfp L x E]
    constructor
    · rintro ⟨h1, h2⟩
      refine ⟨by omega, fun e' he => ?_⟩
      rcases List.mem_cons.1 he with rfl | he
      · omega
      · exact h2 e' he
    · rintro ⟨h1, h2⟩
      have := h2 e List.mem_cons_self
      exact ⟨by omega, fun e' he => h2 e' (List.mem_cons_of_mem _ he)⟩
theorem Qb2 {E : V8} {L : List Int} {x : Int} : Qeo E L ≤ x ↔ 0 ≤ x ∧ ∀ e, e ∈ E → nth L e.1 + e.2 ≤ x := Qfp L x E 0
theorem need_nonneg (E : V8) (L : List Int) : 0 ≤ Qeo E L := (Qb2.1 (Int.le_refl _)).1
theorem need_mono {E : V8} {L M : List Int} (h : ∀ j, nth L j ≤ nth M j) : Qeo E L ≤ Qeo E M :=
  Qb2.2 ⟨need_nonneg E M, fun e he => by
    have := (Qb2.1 (Int.le_refl (Qeo E M))).2 e he
    have := h e.1
    omega⟩
theorem nth_set {L : List Int} {i : Nat} (x : Int) (j : Nat) (hi : i < L.length) : nth (L.set i x) j = if j = i then x else nth L j := by
  unfold nth
  by_cases h : j = i
  · subst h; simp [List.getD, hi]
  · rw [if_neg h]; simp [List.getD, List.getElem?_set, Ne.symm h]
theorem nth_out {L : List Int} {i : Nat} (h : L.length ≤ i) : nth L i = 0 := by
  unfold nth
  simp [List.getD, List.getElem?_eq_none h]
def Hg (E : Nat → V8) (L : List Int) (i : Nat) : List Int := if nth L i < Qeo (E i) L then L.set i (Qeo (E i) L) else L
theorem Qef (E : Nat → V8) (L : List Int) (i : Nat) : (Hg E L i).length = L.length := by unfold Hg; split <;> simp
theorem raise_ge (E : Nat → V8) (L : List Int) (i j : Nat) : nth L j ≤ nth (Hg E L i) j := by
  unfold Hg
  split
  · rename_i h
    by_cases hi : i < L.length
    · rw [nth_set _ _ hi]; split
      · rename_i e; subst e; omega
      · omega
    · rw [List.set_eq_of_length_le (by omega)]; omega
  · omega
def rounds (E : Nat → V8) (is : List Nat) (L : List Int) : List Int := is.foldl (Hg E) L
theorem rounds_len (E : Nat → V8) : ∀ (is : List Nat) (L : List Int), (rounds E is L).length = L.length
  | [], _ => rfl
  | i :: is, L => (rounds_len E is (Hg E L i)).trans (Qef E L i)
theorem rounds_ge (E : Nat → V8) (j : Nat) : ∀ (is : List Nat) (L : List Int), nth L j ≤ nth (rounds E is L) j
  | [], _ => Int.le_refl _
  | i :: is, L => Int.le_trans (raise_ge E L i j) (rounds_ge E j is (Hg E L i))
theorem ext_nth {L M : List Int} (hl : L.length = M.length) (h : ∀ j, nth L j = nth M j) : L = M := by
  apply List.ext_getElem hl
  intro i h1 h2
  have := h i
  simpa [nth, List.getD, h1, h2] using this
theorem rounds_fix (E : Nat → V8) : ∀ (is : List Nat) (L : List Int), rounds E is L = L → ∀ i, i ∈ is → Hg E L i = L
  | [], _, _, i, hi => by simp at hi
  | a :: is, L, h, i, hi => by
    have h1 : Hg E L a = L := ext_nth (Qef E L a) fun j => by
      have h2 := raise_ge E L a j
      have h3 := rounds_ge E j is (Hg E L a)
      have h4 : nth (rounds E is (Hg E L a)) j = nth L j := congrArg (nth · j) h
      omega
    rcases List.mem_cons.1 hi with rfl | hi
    · exact h1
    · refine rounds_fix E is L ?_ i hi
      have : rounds E is (Hg E L a) = L := h
      rwa [h1] at this
theorem raise_rest {E : Nat → V8} {L : List Int} {i : Nat} (hi : i < L.length) : Hg E L i = L ↔ Qeo (E i) L ≤ nth L i := by
  unfold Hg
  constructor
  · intro h
    split at h
    · rename_i hlt
      have h2 : nth (L.set i (Qeo (E i) L)) i = nth L i := by rw [h]
      rw [nth_set _ _ hi, if_pos rfl] at h2
      omega
    · omega
  · intro h
    rw [if_neg (by omega)]
def Sat (E : Nat → V8) (n : Nat) (g : List Int) : Prop := ∀ i, i < n → Qeo (E i) g ≤ nth g i
theorem raise_below {E : Nat → V8} {n : Nat} {L g : List Int} {i : Nat} (hi : i < n) (hn : L.length = n) (hs : Sat E n g) (h : ∀ j, nth L j ≤ nth g j) : ∀ j, nth (Hg E L i) j ≤ nth g j := by
  intro j
  unfold Hg
  split
  · rw [nth_set _ _ (by omega)]
    split
    · rename_i e; subst e
      exact Int.le_trans (need_mono h) (hs j hi)
    · exact h j
  · exact h j
theorem rounds_below {E : Nat → V8} {n : Nat} {g : List Int} (hs : Sat E n g) : ∀ (is : List Nat) (L : List Int), (∀ i, i ∈ is → i < n) → L.length = n → (∀ j, nth L j ≤ nth g j) → ∀ j, nth (rounds E is L) j ≤ nth g j
  | [], _, _, _, h => h
  | i :: is, L, hi, hn, h => rounds_below hs is (Hg E L i) (fun k hk => hi k (List.mem_cons_of_mem _ hk)) ((Qef E L i).trans hn) (raise_below (hi i List.mem_cons_self) hn hs h)
theorem pigeon : ∀ (m : Nat) (l : List Int), (∀ v : Nat, v < m → ((v : Nat) : Int) ∈ l) → m ≤ l.length
  | 0, _, _ => Nat.zero_le _
  | m + 1, l, h => by
    have hm := h m (by omega)
    have := pigeon m (l.erase (m : Int)) fun v hv => (List.mem_erase_of_ne (by omega)).2 (h v (by omega))
    rw [List.length_erase_of_mem hm] at this
    have : 0 < l.length := List.length_pos_of_mem hm
    omega
theorem nth_mem {L : List Int} {i : Nat} (h : i < L.length) : nth L i ∈ L := by
  have : nth L i = L[i] := by simp [nth, List.getD, h]
  rw [this]; exact List.getElem_mem h
theorem mem_nth {L : List Int} {x : Int} (h : x ∈ L) : ∃ i, i < L.length ∧ nth L i = x := by
  obtain ⟨i, hi, e⟩ := List.getElem_of_mem h
  exact ⟨i, hi, by rw [← e]; simp [nth, List.getD, hi]⟩
theorem nth_map {L : List Int} {f : Int → Int} {i : Nat} (h : i < L.length) : nth (L.map f) i = f (nth L i) := by simp [nth, List.getD, h]
theorem rest_small {E : Nat → V8} {n : Nat} {f : List Int} (hw : ∀ i e, e ∈ E i → e.2 ≤ 1 ∧ e.1 < n) (hlen : f.length = n) (hs : Sat E n f) (hleast : ∀ g : List Int, g.length = n → Sat E n g → (∀ j, 0 ≤ nth g j) → ∀ j, nth f j ≤ nth g j) (h0 : ∀ j, 0 ≤ nth f j) :
    ∀ i, i < n → nth f i < (n : Int) := by
  intro i hi
  have hall : ∀ v : Nat, (v : Int) ≤ nth f i → ((v : Nat) : Int) ∈ f := fun v hv => by
    refine Classical.byContradiction fun hno => ?_
    have hne : ∀ j, j < n → nth f j ≠ v := fun j hj e => hno (e ▸ nth_mem (by omega))
    have hvi : (v : Int) < nth f i := by have := hne i hi; omega
    let g := f.map fun x => if (v : Int) < x then x - 1 else x
    have hg : ∀ j, j < n → nth g j = if (v : Int) < nth f j then nth f j - 1 else nth f j := fun j hj => nth_map (by omega)
    have hg0 : ∀ j, ¬ j < n → nth g j = 0 := fun j hj => nth_out (by simp only [g, List.length_map]; omega)
    have hf0 : ∀ j, ¬ j < n → nth f j = 0 := fun j hj => nth_out (by omega)
    have hpos : ∀ j, 0 ≤ nth g j := fun j => by
      by_cases hj : j < n
      · rw [hg j hj]; have := h0 j; split <;> omega
      · rw [hg0 j hj]; omega
    have := hleast g (by simp only [g, List.length_map]; exact hlen) (fun k hk => Qb2.2 ⟨hpos k, fun e he => ?_⟩) hpos i
    · rw [hg i hi, if_pos hvi] at this; omega
    · have h1 := (Qb2.1 (hs k hk)).2 e he
      obtain ⟨h2, hj⟩ := hw k e he
      have h3 := hne k hk
      rw [hg k hk]
      have h4 := hne e.1 hj
      rw [hg e.1 hj]
      split <;> split <;> omega
  have hp := pigeon ((nth f i).toNat + 1) f fun v hv => hall v (by have := h0 i; omega)
  have := h0 i
  omega
/-! ### rounds until rest -/
theorem sum_set : ∀ (L : List Int) (i : Nat) (x : Int), i < L.length → (L.set i x).sum = L.sum + (x - nth L i)
  | [], i, x, h => by simp at h
  | a :: L, 0, x, _ => by simp [nth]; omega
  | a :: L, i + 1, x, h => by
    have := sum_set L i x (by simpa using h)
    have e : nth (a :: L) (i + 1) = nth L i := rfl
    rw [e, List.set_cons_succ, List.sum_cons, List.sum_cons, this]
    omega
theorem sum_le : ∀ (L : List Int) (N : Int), (∀ x, x ∈ L → x ≤ N) → L.sum ≤ (L.length : Int) * N
  | [], N, _ => by simp
  | a :: L, N, h => by
    have h1 := sum_le L N fun x hx => h x (List.mem_cons_of_mem _ hx)
    have h2 := h a List.mem_cons_self
    rw [List.sum_cons, List.length_cons, Int.natCast_add, Int.add_mul]
    omega
theorem raise_sum {E : Nat → V8} {L : List Int} {i : Nat} (hi : i < L.length) : L.sum ≤ (Hg E L i).sum ∧ (Hg E L i ≠ L → L.sum + 1 ≤ (Hg E L i).sum) := by
  unfold Hg
  split
  · rename_i h
    have := sum_set L i (Qeo (E i) L) hi
    omega
  · exact ⟨Int.le_refl _, fun h => (h rfl).elim⟩
theorem rounds_sum {E : Nat → V8} : ∀ (is : List Nat) (L : List Int), (∀ i, i ∈ is → i < L.length) → L.sum ≤ (rounds E is L).sum ∧ (rounds E is L ≠ L → L.sum + 1 ≤ (rounds E is L).sum)
  | [], L, _ => ⟨Int.le_refl _, fun h => (h rfl).elim⟩
  | i :: is, L, h => by
    obtain ⟨h1, h2⟩ := raise_sum (E := E) (h i List.mem_cons_self)
    obtain ⟨h3, h4⟩ := rounds_sum (E := E) is (Hg E L i) fun k hk => by rw [Qef]; exact h k (List.mem_cons_of_mem _ hk)
    show L.sum ≤ (rounds E is (Hg E L i)).sum ∧ (rounds E is (Hg E L i) ≠ L → L.sum + 1 ≤ (rounds E is (Hg E L i)).sum)
    refine ⟨by omega, fun hn => ?_⟩
    by_cases e : Hg E L i = L
    · have := h4 (by rw [e] at hn ⊢; exact hn)
      omega
    · have := h2 e
      omega
def Qc5 (E : Nat → V8) (N : Int) : List Nat → Bool × List Int → Option (Bool × List Int)
  | [], s => some s
  | i :: is, s => if N < Qeo (E i) s.2 then none else Qc5 E N is (if nth s.2 i < Qeo (E i) s.2 then (true, s.2.set i (Qeo (E i) s.2)) else s)
theorem Qdq {E : Nat → V8} {N : Int} : ∀ (is : List Nat) (c : Bool) (L : List Int) (s : Bool × List Int), (∀ i, i ∈ is → i < L.length) → Qc5 E N is (c, L) = some s → s.2 = rounds E is L ∧ (s.1 = true → c = true ∨ rounds E is L ≠ L) ∧ (s.1 = false → c = false ∧ rounds E is L = L) ∧ ((∀ j, nth L j ≤ N) → ∀ j, nth s.2 j ≤ N)
  | [], c, L, s, _, h => by
    obtain rfl := Option.some.inj h
    exact ⟨rfl, fun h => .inl h, fun h => ⟨h, rfl⟩, fun h => h⟩
  | i :: is, c, L, s, hi, h => by
    have hil := hi i List.mem_cons_self
    have hlen : ∀ k, k ∈ is → k < (Hg E L i).length := fun k hk => by rw [Qef]; exact hi k (List.mem_cons_of_mem _ hk)
    simp only [Qc5] at h
    split at h
    · cases h
    · rename_i hN
      split at h
      · rename_i hlt
        have er : Hg E L i = L.set i (Qeo (E i) L) := by unfold Hg; rw [if_pos hlt]
        rw [← er] at h
        obtain ⟨h1, h2, h3, h4⟩ := Qdq is true (Hg E L i) s hlen h
        have hne : rounds E (i :: is) L ≠ L := fun e => by
          have := (rounds_sum (E := E) is (Hg E L i) hlen).1
          have h5 := (raise_sum (E := E) hil).2 fun e' => by
            have := (raise_rest hil).1 e'
            omega
          have h6 : (rounds E is (Hg E L i)).sum = L.sum := congrArg List.sum e
          omega
        refine ⟨h1, fun _ => .inr hne, fun h => (by have := (h3 h).1; cases this), fun hb j => h4 (fun j => ?_) j⟩
        rw [er, nth_set _ _ hil]
        split
        · omega
        · exact hb j
      · rename_i hlt
        have er : Hg E L i = L := by unfold Hg; rw [if_neg hlt]
        have e2 : rounds E (i :: is) L = rounds E is L := by show rounds E is (Hg E L i) = _; rw [er]
        rw [e2]
        exact Qdq is c L s (fun k hk => hi k (List.mem_cons_of_mem _ hk)) h
theorem crounds_none {E : Nat → V8} {N : Int} : ∀ (is : List Nat) (c : Bool) (L : List Int), Qc5 E N is (c, L) = none → ∃ pre i, (∀ k, k ∈ pre → k ∈ is) ∧ i ∈ is ∧ N < Qeo (E i) (rounds E pre L)
  | [], c, L, h => by cases h
  | i :: is, c, L, h => by
    simp only [Qc5] at h
    split at h
    · rename_i hN
      exact ⟨[], i, fun k hk => by simp at hk, List.mem_cons_self, hN⟩
    · have key : ∀ c' L', L' = Hg E L i → Qc5 E N is (c', L') = none → ∃ pre k, (∀ x, x ∈ pre → x ∈ i :: is) ∧ k ∈ i :: is ∧ N < Qeo (E k) (rounds E pre L) := fun c' L' e h => by
        obtain ⟨pre, k, h1, h2, h3⟩ := crounds_none is c' L' h
        subst e
        refine ⟨i :: pre, k, fun x hx => ?_, List.mem_cons_of_mem _ h2, h3⟩
        rcases List.mem_cons.1 hx with rfl | hx
        · exact List.mem_cons_self
        · exact List.mem_cons_of_mem _ (h1 x hx)
      split at h
      · rename_i hlt
        exact key true _ (by unfold Hg; rw [if_pos hlt]) h
      · rename_i hlt
        exact key c _ (by unfold Hg; rw [if_neg hlt]) h
def climb (E : Nat → V8) (N : Int) (n : Nat) : Nat → Bool × List Int → Option (Option (List Int))
  | 0, _ => none
  | k + 1, s => match s.1 with
    | true => (match Qc5 E N (List.range n) (false, s.2) with
      | none => some none
      | some s' => climb E N n k s')
    | false => some (some s.2)
theorem Qbv {n i : Nat} (h : i ∈ List.range n) : i < n := List.mem_range.1 h
theorem climb_some {E : Nat → V8} {n : Nat} : ∀ (k : Nat) (c : Bool) (L : List Int), L.length = n → (∀ j, nth L j ≤ (n : Int)) → (n : Int) * (n : Int) - L.sum + 2 ≤ (k : Int) → (climb E n n k (c, L)).isSome = true
  | 0, c, L, hl, hb, hk => by
    have := sum_le L n fun x hx => by obtain ⟨i, _, e⟩ := mem_nth hx; exact e ▸ hb i
    rw [hl] at this
    omega
  | k + 1, false, L, hl, hb, hk => rfl
  | k + 1, true, L, hl, hb, hk => by
    simp only [climb]
    cases hc : Qc5 E n (List.range n) (false, L) with
    | none => rfl
    | some s =>
      obtain ⟨h1, h2, h3, h4⟩ := Qdq (List.range n) false L s (fun i hi => by rw [hl]; exact Qbv hi) hc
      obtain ⟨c', L'⟩ := s
      simp only at h1 h2 h3 h4 ⊢
      have hl' : L'.length = n := by rw [h1, rounds_len, hl]
      have hs := rounds_sum (E := E) (List.range n) L fun i hi => by rw [hl]; exact Qbv hi
      rw [← h1] at hs
      cases c' with
      | false =>
        cases k with
        | zero =>
          have := sum_le L n fun x hx => by obtain ⟨i, _, e⟩ := mem_nth hx; exact e ▸ hb i
          rw [hl] at this
          omega
        | succ k => rfl
      | true =>
        have hne : L' ≠ L := by
          rcases h2 rfl with h | h
          · cases h
          · rw [h1]; exact h
        have := hs.2 hne
        exact climb_some k true L' hl' (h4 hb) (by omega)
def after (E : Nat → V8) (n : Nat) : Nat → List Int
  | 0 => List.replicate n 0
  | k + 1 => rounds E (List.range n) (after E n k)
theorem W5 (E : Nat → V8) (n : Nat) : ∀ k, (after E n k).length = n
  | 0 => by simp [after]
  | k + 1 => by rw [after, rounds_len, W5 E n k]
def Rest (E : Nat → V8) (n : Nat) (L : List Int) : Prop := rounds E (List.range n) L = L
theorem nth_zero (n j : Nat) : nth (List.replicate n (0 : Int)) j = 0 := by
  by_cases h : j < n
  · simp [nth, List.getD, h]
  · exact nth_out (by simp; omega)
theorem Qat (E : Nat → V8) (n j : Nat) : ∀ k, 0 ≤ nth (after E n k) j
  | 0 => by rw [after, nth_zero]; omega
  | k + 1 => Int.le_trans (Qat E n j k) (rounds_ge E j _ _)
theorem rest_sat {E : Nat → V8} {n : Nat} {L : List Int} (hl : L.length = n) (h : Rest E n L) : Sat E n L := fun i hi => (raise_rest (by omega)).1 (rounds_fix E _ L h i (List.mem_range.2 hi))
theorem Qfq {E : Nat → V8} {n : Nat} {g : List Int} (hs : Sat E n g) (h0 : ∀ j, 0 ≤ nth g j) : ∀ k j, nth (after E n k) j ≤ nth g j
  | 0, j => by rw [after, nth_zero]; exact h0 j
  | k + 1, j => rounds_below hs _ _ (fun i hi => Qbv hi) (W5 E n k) (Qfq hs h0 k) j
theorem rest_stays {E : Nat → V8} {n k : Nat} (h : Rest E n (after E n k)) : ∀ d, after E n (k + d) = after E n k
  | 0 => rfl
  | d + 1 => by
    show rounds E (List.range n) (after E n (k + d)) = _
    rw [rest_stays h d]
    exact h
theorem rest_same {E : Nat → V8} {n k m : Nat} (hk : Rest E n (after E n k)) (hm : Rest E n (after E n m)) : after E n k = after E n m := by
  rcases Nat.le_total k m with h | h
  · have := rest_stays hk (m - k)
    rw [show k + (m - k) = m by omega] at this
    exact this.symm
  · have := rest_stays hm (k - m)
    rwa [show m + (k - m) = k by omega] at this
theorem no_rest_sum {E : Nat → V8} {n : Nat} : ∀ k, (∀ j, j < k → ¬ Rest E n (after E n j)) → (k : Int) ≤ (after E n k).sum
  | 0, _ => by
    have : ∀ n : Nat, (List.replicate n (0 : Int)).sum = 0 := fun n => by simp
    rw [after, this]; omega
  | k + 1, h => by
    have h1 := no_rest_sum k fun j hj => h j (by omega)
    have h2 := (rounds_sum (E := E) (List.range n) (after E n k) fun i hi => by rw [W5]; exact Qbv hi).2 (h k (by omega))
    show ((k + 1 : Nat) : Int) ≤ (rounds E (List.range n) (after E n k)).sum
    omega
variable {E : Nat → V8} {n : Nat} (hw : ∀ i e, e ∈ E i → e.2 ≤ 1 ∧ e.1 < n)
include hw in
theorem rest_lt {k : Nat} (h : Rest E n (after E n k)) : ∀ i, i < n → nth (after E n k) i < (n : Int) :=
  rest_small hw (W5 E n k) (rest_sat (W5 E n k) h) (fun _ _ hs h0 => Qfq hs h0 k) fun j => Qat E n j k
include hw in
theorem rest_soon {k : Nat} (h : Rest E n (after E n k)) : Rest E n (after E n (n * n + 2)) := by
  have hex : ∃ j, j ≤ n * n + 1 ∧ Rest E n (after E n j) := Classical.byContradiction fun hno => by
    have h1 := no_rest_sum (E := E) (n := n) (n * n + 2) fun j hj hr => hno ⟨j, by omega, hr⟩
    have h2 := sum_le (after E n (n * n + 2)) n fun x hx => by
      obtain ⟨i, hi, e⟩ := mem_nth hx
      rw [W5] at hi
      have h3 := Qfq (rest_sat (W5 E n k) h) (fun j => Qat E n j k) (n * n + 2) i
      have := rest_lt hw h i hi
      omega
    rw [W5] at h2
    have h3 : ((n * n + 2 : Nat) : Int) = (n : Int) * (n : Int) + 2 := by rw [Int.natCast_add, Int.natCast_mul]; rfl
    omega
  obtain ⟨j, hj, hr⟩ := hex
  have := rest_stays hr (n * n + 2 - j)
  rw [show j + (n * n + 2 - j) = n * n + 2 by omega] at this
  rw [this]; exact hr
include hw in
theorem climb_eq : ∀ (k m : Nat) (c : Bool) (r : Option (List Int)), (c = false → Rest E n (after E n m)) → climb E n n k (c, after E n m) = some r →
    (∀ L, r = some L → Rest E n (after E n (n * n + 2)) ∧ L = after E n (n * n + 2)) ∧ (r = none → ¬ Rest E n (after E n (n * n + 2)))
  | 0, m, c, r, _, h => by cases h
  | k + 1, m, false, r, hc, h => by
    obtain rfl := Option.some.inj h
    have hr := hc rfl
    have hs := rest_soon hw hr
    refine ⟨fun L e => ⟨hs, ?_⟩, fun e => by cases e⟩
    obtain rfl := Option.some.inj e
    exact rest_same hr hs
  | k + 1, m, true, r, _, h => by
    simp only [climb] at h
    have hlt : ∀ i, i ∈ List.range n → i < (after E n m).length := fun i hi => by rw [W5]; exact Qbv hi
    cases hcr : Qc5 E n (List.range n) (false, after E n m) with
    | none =>
      rw [hcr] at h
      obtain rfl := Option.some.inj h
      refine ⟨fun L e => (by cases e), fun _ hr => ?_⟩
      obtain ⟨pre, i, h1, h2, h3⟩ := crounds_none _ _ _ hcr
      have hsat := rest_sat (W5 E n _) hr
      have h4 := rounds_below hsat pre (after E n m) (fun i hi => Qbv (h1 i hi)) (W5 E n m) (Qfq hsat (fun j => Qat E n j _) m)
      have h5 := need_mono (E := E i) h4
      have h6 := hsat i (Qbv h2)
      have h7 := rest_lt hw hr i (Qbv h2)
      omega
    | some s =>
      rw [hcr] at h
      obtain ⟨h1, _, h3, _⟩ := Qdq _ _ _ s hlt hcr
      obtain ⟨c', L'⟩ := s
      simp only at h1 h3 h
      have e : L' = after E n (m + 1) := h1
      subst e
      refine climb_eq k (m + 1) c' r (fun hc => ?_) h
      have h5 := (h3 hc).2
      show rounds E (List.range n) (after E n (m + 1)) = after E n (m + 1)
      have e2 : after E n (m + 1) = after E n m := h5
      rw [e2]; exact h5
omit hw
/-! ### the other way to Hg: edge by edge -/
def bump (i : Nat) (L : List Int) (e : Nat × Int) : List Int := if nth L i < nth L e.1 + e.2 then L.set i (nth L e.1 + e.2) else L
def Qb3 (i : Nat) (E : V8) (L : List Int) : List Int := E.foldl (bump i) L
theorem Qfr (i : Nat) (L : List Int) (e : Nat × Int) : (bump i L e).length = L.length := by unfold bump; split <;> simp
theorem Qeg (i : Nat) : ∀ (E : V8) (L : List Int), (Qb3 i E L).length = L.length
  | [], _ => rfl
  | e :: E, L => (Qeg i E (bump i L e)).trans (Qfr i L e)
theorem bump_nth {i : Nat} {L : List Int} (e : Nat × Int) (hi : i < L.length) (j : Nat) : nth (bump i L e) j = if j = i then max (nth L i) (nth L e.1 + e.2) else nth L j := by
  unfold bump
  split
  · rw [nth_set _ _ hi]; split <;> omega
  · split
    · rename_i h; subst h; omega
    · rfl
theorem bumps_nth {i : Nat} : ∀ (E : V8) {L M : List Int}, i < M.length → (∀ j, j ≠ i → nth M j = nth L j) → nth L i ≤ nth M i → (∀ e, e ∈ E → e.1 = i → e.2 ≤ 0) → ∀ j, nth (Qb3 i E M) j = if j = i then E.foldl (fun m e => max m (nth L e.1 + e.2)) (nth M i) else nth L j
  | [], L, M, hi, hj, h0, hs, j => by
    show nth M j = _
    split
    · rename_i e; subst e; rfl
    · rename_i e; exact hj j e
  | e :: E, L, M, hi, hj, h0, hs, j => by
    show nth (Qb3 i E (bump i M e)) j = _
    have hb := bump_nth e hi
    have hmax : nth (bump i M e) i = max (nth M i) (nth L e.1 + e.2) := by
      rw [hb, if_pos rfl]
      by_cases he : e.1 = i
      · have := hs e List.mem_cons_self he
        rw [he]; omega
      · rw [hj e.1 he]
    rw [bumps_nth E (L := L) (M := bump i M e) (by rw [Qfr]; exact hi) (fun k hk => by rw [hb, if_neg hk]; exact hj k hk) (by rw [hmax]; omega) (fun e' he' => hs e' (List.mem_cons_of_mem _ he')) j, hmax, List.foldl_cons]
theorem fold_max (L : List Int) : ∀ (E : V8) (m : Int), 0 ≤ m → E.foldl (fun m e => max m (nth L e.1 + e.2)) m = max m (Qeo E L) := fun E m hm => by
  have h1 := Qfp L (E.foldl (fun m e => max m (nth L e.1 + e.2)) m) E m
  have h2 := h1.1 (Int.le_refl _)
  have h3 : Qeo E L ≤ E.foldl (fun m e => max m (nth L e.1 + e.2)) m := Qb2.2 ⟨by omega, h2.2⟩
  have h4 := (Qfp L (max m (Qeo E L)) E m).2 ⟨by omega, fun e he => by have := (Qb2.1 (Int.le_refl (Qeo E L))).2 e he; omega⟩
  omega
theorem bumps_eq {E : Nat → V8} {L : List Int} {i : Nat} (hi : i < L.length) (h0 : 0 ≤ nth L i) (hs : ∀ e, e ∈ E i → e.1 = i → e.2 ≤ 0) : Qb3 i (E i) L = Hg E L i :=
  ext_nth ((Qeg i (E i) L).trans (Qef E L i).symm) fun j => by
    rw [bumps_nth (E i) hi (fun _ _ => rfl) (Int.le_refl _) hs, fold_max _ _ _ h0]
    unfold Hg
    by_cases hlt : nth L i < Qeo (E i) L
    · rw [if_pos hlt, nth_set _ _ hi]; split <;> omega
    · rw [if_neg hlt]; split
      · rename_i e; subst e; omega
      · rfl
theorem bumps_ge {i : Nat} : ∀ (E : V8) {L : List Int}, i < L.length → ∀ j, nth L j ≤ nth (Qb3 i E L) j
  | [], _, _, _ => Int.le_refl _
  | e :: E, L, hi, j => by
    have h1 := bumps_ge E (L := bump i L e) (by rw [Qfr]; exact hi) j
    have h2 := bump_nth e hi j
    show _ ≤ nth (Qb3 i E (bump i L e)) j
    split at h2
    · rename_i h; subst h; omega
    · omega
theorem bumps_self {i : Nat} : ∀ (E : V8) {L : List Int}, i < L.length → (∃ e, e ∈ E ∧ e.1 = i ∧ 1 ≤ e.2) → nth L i + 1 ≤ nth (Qb3 i E L) i
  | [], _, _, ⟨e, he, _⟩ => by simp at he
  | e :: E, L, hi, ⟨e', he, h1, h2⟩ => by
    have h3 := bump_nth e hi i
    rw [if_pos rfl] at h3
    have hb := bumps_ge E (L := bump i L e) (by rw [Qfr]; exact hi) i
    show _ ≤ nth (Qb3 i E (bump i L e)) i
    rcases List.mem_cons.1 he with rfl | he
    · rw [h1] at h3; omega
    · have := bumps_self E (L := bump i L e) (by rw [Qfr]; exact hi) ⟨e', he, h1, h2⟩
      omega
def Qbk (E : Nat → V8) (is : List Nat) (L : List Int) : List Int := is.foldl (fun L i => Qb3 i (E i) L) L
theorem brounds_len (E : Nat → V8) : ∀ (is : List Nat) (L : List Int), (Qbk E is L).length = L.length
  | [], _ => rfl
  | i :: is, L => (brounds_len E is (Qb3 i (E i) L)).trans (Qeg i _ L)
theorem brounds_eq {E : Nat → V8} (hs : ∀ i e, e ∈ E i → e.1 = i → e.2 ≤ 0) : ∀ (is : List Nat) (L : List Int), (∀ i, i ∈ is → i < L.length) → (∀ j, 0 ≤ nth L j) → Qbk E is L = rounds E is L
  | [], _, _, _ => rfl
  | i :: is, L, hi, h0 => by
    have hil := hi i List.mem_cons_self
    show Qbk E is (Qb3 i (E i) L) = rounds E is (Hg E L i)
    rw [bumps_eq hil (h0 i) (hs i)]
    exact brounds_eq hs is _ (fun k hk => by rw [Qef]; exact hi k (List.mem_cons_of_mem _ hk)) fun j => Int.le_trans (h0 j) (raise_ge E L i j)
theorem brounds_ge {E : Nat → V8} : ∀ (is : List Nat) (L : List Int), (∀ i, i ∈ is → i < L.length) → ∀ j, nth L j ≤ nth (Qbk E is L) j
  | [], _, _, _ => Int.le_refl _
  | i :: is, L, hi, j => Int.le_trans (bumps_ge (E i) (hi i List.mem_cons_self) j) (brounds_ge is (Qb3 i (E i) L) (fun k hk => by rw [Qeg]; exact hi k (List.mem_cons_of_mem _ hk)) j)
theorem brounds_self {E : Nat → V8} {i : Nat} (he : ∃ e, e ∈ E i ∧ e.1 = i ∧ 1 ≤ e.2) : ∀ (is : List Nat) (L : List Int), (∀ i, i ∈ is → i < L.length) → i ∈ is → nth L i + 1 ≤ nth (Qbk E is L) i
  | [], _, _, h => by simp at h
  | k :: is, L, hi, h => by
    have hk := hi k List.mem_cons_self
    have hl : ∀ x, x ∈ is → x < (Qb3 k (E k) L).length := fun x hx => by rw [Qeg]; exact hi x (List.mem_cons_of_mem _ hx)
    show _ ≤ nth (Qbk E is (Qb3 k (E k) L)) i
    have h1 := bumps_ge (E k) hk i
    have h2 := brounds_ge (E := E) is (Qb3 k (E k) L) hl i
    rcases List.mem_cons.1 h with rfl | h
    · have := bumps_self (E i) hk he
      omega
    · have := brounds_self he is (Qb3 k (E k) L) hl h
      omega
def Qau (E : Nat → V8) (n : Nat) : Nat → List Int
  | 0 => List.replicate n 0
  | k + 1 => Qbk E (List.range n) (Qau E n k)
theorem bafter_len (E : Nat → V8) (n : Nat) : ∀ k, (Qau E n k).length = n
  | 0 => by simp [Qau]
  | k + 1 => by rw [Qau, brounds_len, bafter_len E n k]
theorem bafter_eq {E : Nat → V8} {n : Nat} (hs : ∀ i e, e ∈ E i → e.1 = i → e.2 ≤ 0) : ∀ k, Qau E n k = after E n k
  | 0 => rfl
  | k + 1 => by
    rw [Qau, after, bafter_eq hs k]
    exact brounds_eq hs _ _ (fun i hi => by rw [W5]; exact Qbv hi) fun j => Qat E n j k
theorem strata_eq {E : Nat → V8} {n : Nat} (hw : ∀ i e, e ∈ E i → e.2 ≤ 1 ∧ e.1 < n ∧ i < n) {k : Nat} {r : Option (List Int)} (h : climb E n n k (true, List.replicate n 0) = some r) :
    (Qbk E (List.range n) (Qau E n (n * n + 2)) = Qau E n (n * n + 2) → r = some (Qau E n (n * n + 2))) ∧ (Qbk E (List.range n) (Qau E n (n * n + 2)) ≠ Qau E n (n * n + 2) → r = none) := by
  have hw' : ∀ i e, e ∈ E i → e.2 ≤ 1 ∧ e.1 < n := fun i e he => ⟨(hw i e he).1, (hw i e he).2.1⟩
  obtain ⟨h1, h2⟩ := climb_eq hw' k 0 true r (fun e => by cases e) h
  by_cases hself : ∃ i, ∃ e, e ∈ E i ∧ e.1 = i ∧ 1 ≤ e.2
  · obtain ⟨i, e, he, hei, h3⟩ := hself
    have hi : i < n := (hw i e he).2.2
    have hne : Qbk E (List.range n) (Qau E n (n * n + 2)) ≠ Qau E n (n * n + 2) := fun heq => by
      have := brounds_self (E := E) ⟨e, he, hei, h3⟩ (List.range n) (Qau E n (n * n + 2)) (fun k hk => by rw [bafter_len]; exact Qbv hk) (List.mem_range.2 hi)
      rw [heq] at this; omega
    refine ⟨fun h => (hne h).elim, fun _ => ?_⟩
    cases r with
    | none => rfl
    | some L =>
      obtain ⟨hr, _⟩ := h1 L rfl
      have h4 := rest_sat (W5 E n _) hr i hi
      have h5 := (Qb2.1 h4).2 e he
      rw [hei] at h5
      omega
  · have hs : ∀ i e, e ∈ E i → e.1 = i → e.2 ≤ 0 := fun i e he hei => Classical.byContradiction fun hn => hself ⟨i, e, he, hei, by omega⟩
    rw [bafter_eq hs, brounds_eq hs _ _ (fun i hi => by rw [W5]; exact Qbv hi) fun j => Qat E n j _]
    refine ⟨fun hr => ?_, fun hr => ?_⟩
    · cases r with
      | none => exact (h2 rfl hr).elim
      | some L => rw [(h1 L rfl).2]
    · cases r with
      | none => rfl
      | some L => exact (hr (h1 L rfl).1).elim
end Go.Proofs.YtamghcfmhfknmaaGreat
namespace Go.Proofs.YtamghcfmhfknmaaGreat
open Go.Shelf
def Sh.lays190_ren : Go.Shelf.Ren := ⟨fun | 190 => 191 | 125 => 116 | 258 => 235 | 128 => 170 | 129 => 171 | 302 => 256 | 303 => 257 | 304 => 258 | 305 => 259 | 306 => 260 | 307 => 261 | 308 => 262 | 309 => 263 | 310 => 264 | 333 => 271 | 329 => 209 | 330 => 210 | 334 => 272 | 335 => 273 | 336 => 274 | 344 => 276 | n => n, fun | 31 => 136 | 9 => 9 | 3 => 3 | 46 => 169 | 0 => 0 | 51 => 209 | 53 => 211 | 4 => 4 | 183 => 201 | 182 => 200 | 131 => 206 | 5 => 5 | 218 => 236 | 222 => 240 | 228 => 255 | 229 => 256 | n => n, fun | n => n⟩
theorem Sh.lays190 : Go.Proofs.Lays.n190 Tryz.prog Sh.lays190_ren := {
  mixed := by kernel_rfl
  f125 := Tryz.func116.trans (congrArg some (by kernel_rfl))
  f128 := Tryz.func170.trans (congrArg some (by kernel_rfl))
  f129 := Tryz.func171.trans (congrArg some (by kernel_rfl))
  f190 := Tryz.func191.trans (congrArg some (by kernel_rfl))
  f258 := Tryz.func235.trans (congrArg some (by kernel_rfl))
  f302 := Tryz.func256.trans (congrArg some (by kernel_rfl))
  f303 := Tryz.func257.trans (congrArg some (by kernel_rfl))
  f304 := Tryz.func258.trans (congrArg some (by kernel_rfl))
  f305 := Tryz.func259.trans (congrArg some (by kernel_rfl))
  f306 := Tryz.func260.trans (congrArg some (by kernel_rfl))
  f307 := Tryz.func261.trans (congrArg some (by kernel_rfl))
  f308 := Tryz.func262.trans (congrArg some (by kernel_rfl))
  f309 := Tryz.func263.trans (congrArg some (by kernel_rfl))
  f310 := Tryz.func264.trans (congrArg some (by kernel_rfl))
  f329 := Tryz.func209.trans (congrArg some (by kernel_rfl))
  f330 := Tryz.func210.trans (congrArg some (by kernel_rfl))
  f333 := Tryz.func271.trans (congrArg some (by kernel_rfl))
  f334 := Tryz.func272.trans (congrArg some (by kernel_rfl))
  f335 := Tryz.func273.trans (congrArg some (by kernel_rfl))
  f336 := Tryz.func274.trans (congrArg some (by kernel_rfl))
  f344 := Tryz.func276.trans (congrArg some (by kernel_rfl))
  t0 := Tryz.underlying0
  a0 := Tryz.isAgg0
  z0 := Tryz.sizeOf0
  v0 := Tryz.zeroValue0
  t3 := Tryz.underlying3
  a3 := Tryz.isAgg3
  z3 := Tryz.sizeOf3
  v3 := Tryz.zeroValue3
  t4 := Tryz.underlying4
  a4 := Tryz.isAgg4
  z4 := Tryz.sizeOf4
  v4 := Tryz.zeroValue4
  t5 := Tryz.underlying5
  a5 := Tryz.isAgg5
  z5 := Tryz.sizeOf5
  v5 := Tryz.zeroValue5
  t9 := Tryz.underlying9
  a9 := Tryz.isAgg9
  z9 := Tryz.sizeOf9
  v9 := Tryz.zeroValue9
  t31 := Tryz.underlying136
  a31 := Tryz.isAgg136
  z31 := Tryz.sizeOf136
  v31 := Tryz.zeroValue136
  t46 := Tryz.underlying169
  a46 := Tryz.isAgg169
  z46 := Tryz.sizeOf169
  v46 := Tryz.zeroValue169
  t51 := Tryz.underlying209
  a51 := Tryz.isAgg209
  z51 := Tryz.sizeOf209
  v51 := Tryz.zeroValue209
  t53 := Tryz.underlying211
  a53 := Tryz.isAgg211
  z53 := Tryz.sizeOf211
  v53 := Tryz.zeroValue211
  t131 := Tryz.underlying206
  a131 := Tryz.isAgg206
  z131 := Tryz.sizeOf206
  v131 := Tryz.zeroValue206
  t182 := Tryz.underlying200
  a182 := Tryz.isAgg200
  z182 := Tryz.sizeOf200
  v182 := Tryz.zeroValue200
  t183 := Tryz.underlying201
  a183 := Tryz.isAgg201
  z183 := Tryz.sizeOf201
  v183 := Tryz.zeroValue201
  t218 := Tryz.underlying236
  a218 := Tryz.isAgg236
  z218 := Tryz.sizeOf236
  v218 := Tryz.zeroValue236
  t222 := Tryz.underlying240
  a222 := Tryz.isAgg240
  z222 := Tryz.sizeOf240
  v222 := Tryz.zeroValue240
  t228 := Tryz.underlying255
  a228 := Tryz.isAgg255
  z228 := Tryz.sizeOf255
  v228 := Tryz.zeroValue255
  t229 := Tryz.underlying256
  a229 := Tryz.isAgg256
  z229 := Tryz.sizeOf256
  v229 := Tryz.zeroValue256 }
open Go.Sort Go.RowKit in
theorem Sh.slices_Sort_string (blk off cap : Nat) (ss : List (List UInt8)) (w : World) (hH : Holds encStr w blk off ss.toArray) (hblk : blk < w.heap.size) (hsz : ss.length < 4611686018427387904) :
    Calls Tryz.prog 191 #[.slice (some ⟨blk, off, none⟩) ss.length cap] w fun e w' =>
      e = .returned (.tuple #[]) ∧ ∃ n os, w' = grow (putRow encStr (Sort.ahead w n) blk off (ss.mergeSort fun x y => decide (x ≤ y)).toArray) os := Any.slices_Sort_string Sh.lays190 blk off cap ss w hH hblk hsz
def Sh.lays194_ren : Go.Shelf.Ren := ⟨fun | 194 => 192 | n => n, fun | 31 => 136 | 9 => 9 | 3 => 3 | 4 => 4 | 0 => 0 | n => n, fun | n => n⟩
theorem Sh.lays194 : Go.Proofs.Lays.n194 Tryz.prog Sh.lays194_ren := {
  mixed := by kernel_rfl
  f194 := Tryz.func192.trans (congrArg some (by kernel_rfl))
  t0 := Tryz.underlying0
  a0 := Tryz.isAgg0
  z0 := Tryz.sizeOf0
  v0 := Tryz.zeroValue0
  t3 := Tryz.underlying3
  a3 := Tryz.isAgg3
  z3 := Tryz.sizeOf3
  v3 := Tryz.zeroValue3
  t4 := Tryz.underlying4
  a4 := Tryz.isAgg4
  z4 := Tryz.sizeOf4
  v4 := Tryz.zeroValue4
  t9 := Tryz.underlying9
  a9 := Tryz.isAgg9
  z9 := Tryz.sizeOf9
  v9 := Tryz.zeroValue9
  t31 := Tryz.underlying136
  a31 := Tryz.isAgg136
  z31 := Tryz.sizeOf136
  v31 := Tryz.zeroValue136 }
open Go.RowKit Go.Lib Go.Sort in
theorem Sh.slices_Compact_string (blk off cap : Nat) (zs : List (List UInt8)) (w : World) (hH : Holds encStr w blk off zs.toArray) (hsz : zs.length ≤ 9223372036854775807) (hcap : zs.length ≤ cap) :
    Calls Tryz.prog 192 #[.slice (some ⟨blk, off, none⟩) zs.length cap] w fun e w' => e = .returned (.slice (some ⟨blk, off, none⟩) (Lib.compact zs).length cap) ∧ ∃ q, w' = putRow encStr (Sort.ahead w q) blk off (Lib.compact zs ++ List.replicate (zs.length - (Lib.compact zs).length) []).toArray := Any.slices_Compact_string Sh.lays194 blk off cap zs w hH hsz hcap
open Go.RowKit Go.Lib Go.Sort in
theorem Sh.slices_Compact_string_empty (a : Option Addr) (cap : Nat) (w : World) :
    Calls Tryz.prog 192 #[.slice a 0 cap] w fun e w' => e = .returned (.slice a 0 cap) ∧ w' = w := Any.slices_Compact_string_empty Sh.lays194 a cap w
open Go.RowKit Go.Sort in
theorem Sh.slices_Sort_string_none (p : Option Addr) (cap : Nat) (w : World) :
    Calls Tryz.prog 191 #[.slice p 0 cap] w fun e w' => e = .returned (.tuple #[]) ∧ w' = w := Any.slices_Sort_string_none Sh.lays190 p cap w
end Go.Proofs.YtamghcfmhfknmaaGreat
namespace Go.Proofs.YtamghcfmhfknmaaGreat
open Go.RowKit
theorem sortS_a (l : List ByteArray) : ATake Tryz.prog 191 1 (eL l) [] false true (eL (Qf0 l)) := by
  have h := atake_turn oneS (P := Tryz.prog) (f := 191) (by unfold Jr; kernel_rfl) (fun l => l.mergeSort fun x y => decide (x ≤ y)) (fun l => List.length_mergeSort _) (fun l x h => (List.mergeSort_perm l _).mem_iff.1 h) (fun oa cap w => Sh.slices_Sort_string_none oa cap w) (fun g cap l w h h2 h3 => Sh.slices_Sort_string g 0 cap l w h h2 h3) l
  exact h
theorem compS_a (l : List ByteArray) : ATake Tryz.prog 192 1 (eL l) [] false false (eL (compS l)) := by
  have h := atake_take oneS (P := Tryz.prog) (f := 192) (by unfold Jr; kernel_rfl) Lib.compact comp_len comp_mem (fun oa cap w => Sh.slices_Compact_string_empty oa cap w) (fun g cap l w h h2 h3 => (Sh.slices_Compact_string g 0 cap l w h h2 h3).mono (by rintro e w' ⟨h4, q, h5⟩; exact ⟨h4, q, _, by have := comp_len l; simp; omega, h5⟩)) l
  exact h
open GoE (enc wide)
def Qa9 (s_ : ByteArray) (k0 : Nat) (a0 : ByteArray) (_ : Unit) : Rd ((List ByteArray)) (Unit) (Int) := (bif (Op.bytesLess a0.toList s_.toList) then (.next ()) else (.brk ((k0 : Nat) : Int)))
def Qba (k0 : Nat) (_ : Unit) : Int := ((k0 : Nat) : Int)
def Qaj (list : (List ByteArray)) (s_ : ByteArray) : (List ByteArray) := (Out.on (Xv (Qa9 s_) Qba list 0 ()) (fun y0 => (bif (decide (y0 < (list.length : Int)) && ((nth list (Int.toNat y0)).toList == s_.toList)) then list else List.take (Int.toNat y0) list ++ [s_] ++ (List.drop (Int.toNat y0) list))))
theorem specl04Put_a (list : (List ByteArray)) (s_ : ByteArray) (hp : list.length < 1073741824) : ACalls Tryz.prog 268 [.h list, .s s_] (.h (Qaj list s_)) := by
 refine Qt (tt := tt) Qb Tryz.func268 (fn := Tryz.f268) rfl (by unfold Jr; kernel_rfl) (Nat.le_of_ble_eq_true rfl) fun w0 F0 hG => ?_
 refine Qa ?_
 refine rk Qb [(4, .e 0)] [] [] [] [] (o0) ?_
 refine Qa ?_
 refine rk Qb [(5, .i 0)] [] [] [] [] (o0) ?_
 refine Qa ?_
 refine wdT 0 0 .sh list (fun hw1 => ?_)
 have hl2 : List.length list ≤ 1073741824 := Qx (hw1)
 refine blk (fun (k0 : Nat) (s0 : Unit) => [(5, .i ((k0 : Nat) : Int))]) [5] (fun k0 s0 => []) [] (fun (y0 : Int) => [(5, .i y0)]) [5] (fun y0 => []) [] (fun (k0 : Nat) (s0 : Unit) => (Xv (Qa9 s_) Qba list 0 ()) = Xv (Qa9 s_) Qba (List.drop k0 list) k0 s0) (fun (y0 : Int) => (Xv (Qa9 s_) Qba list 0 ()) = .brk y0 ∧ 0 ≤ y0 ∧ y0 ≤ (list.length : Int)) list.length () (Qd (by kernel_rfl)) rfl (fun k0 s0 hk0 hI0 => ?_) (fun k0 s0 hk0 hI0 => ?_) (fun y0 hD0 => ?_)
 ·
  obtain ⟨a0, hx0⟩ := Yl (l := list) (i := k0) hk0
  refine Qa ?_
  refine Qa ?_
  refine rk Qb [(18, .b (Op.bytesLess a0.toList s_.toList))] [] [] [] [(2, .val (.i (list.length : Int))), (3, .val (.b true)), (7, .row [.s a0])] (o2 (Qi (Xs list)) (o2 (Qi (Qh (decide_eq_true (p := ((k0 : Nat) : Int) < (list.length : Int)) (by omega)))) (o1 (Qy (X4 (i := ((k0 : Nat) : Int)) (by omega) rfl hx0))))) ?_
  refine ck (Op.bytesLess a0.toList s_.toList) (fun h3 => ?_) (fun h3 => ?_)
  ·
   refine Qr ?_
   refine Xf ?_
   refine rk Qb [(5, .i ((k0 + 1 : Nat) : Int))] [5, 18] [] [] [(1, .val (.i ((k0 + 1 : Nat) : Int)))] (o1 (Qi (Km (Q8 k0 (by omega))))) ?_
   exact Exists.intro () (And.intro (Qd (by kernel_rfl)) (Xe hx0 (X8 h3 (rfl)) hI0))
  ·
   refine Xt ?_
   exact Exists.intro ((k0 : Nat) : Int) (And.intro (Qd (by kernel_rfl)) ⟨forL_brk hx0 (Q6 h3 (rfl)) hI0, by first | omega | (simp only [List.length_set]; omega)⟩)
 ·
  refine Qa ?_
  refine Qa ?_
  refine rk Qb [(18, .b false)] [] [] [] [(2, .val (.i (list.length : Int))), (3, .val (.b false))] (o2 (Qi (Xs list)) (o1 (Qi (Qh (decide_eq_false (p := ((k0 : Nat) : Int) < (list.length : Int)) (by omega)))))) ?_
  refine ckF ?_
  refine Xt ?_
  exact Exists.intro ((k0 : Nat) : Int) (And.intro (Qd (by kernel_rfl)) ⟨Ym hk0 (rfl) hI0, by first | omega | (simp only [List.length_set]; omega)⟩)
 ·
  have hD0_0 := hD0.2
  refine Qa ?_
  refine Qa ?_
  refine jn [(32, .b (decide (y0 < (list.length : Int)) && ((nth list (Int.toNat y0)).toList == s_.toList)))] [] [] [] (decide (y0 < (list.length : Int))) (fun h4 => ?_) (fun h4 => ?_) ?_
  ·
   have h4d := of_decide_eq_true h4
   have hx5 : list[(Int.toNat y0)]? = some (nth list (Int.toNat y0)) := Yj (by omega)
   refine rk Qb [(32, .b ((nth list (Int.toNat y0)).toList == s_.toList))] [] [] [] [(2, .val (.i (list.length : Int))), (3, .val (.b true)), (7, .row [.s (nth list (Int.toNat y0))])] (o2 (Qi (Xs list)) (o2 (Qi (Qh h4)) (o1 (Qy (X4 (i := y0) (by omega) rfl hx5))))) ?_
   exact ⟨rfl, Qd (by rw [h4]; first | done | kernel_rfl)⟩
  ·
   refine rk Qb [(32, .b false)] [] [] [] [(2, .val (.i (list.length : Int))), (3, .val (.b false))] (o2 (Qi (Xs list)) (o1 (Qi (Qh h4)))) ?_
   exact ⟨rfl, Qd (by rw [h4]; first | done | kernel_rfl)⟩
  refine ck (decide (y0 < (list.length : Int)) && ((nth list (Int.toNat y0)).toList == s_.toList)) (fun h6 => ?_) (fun h6 => ?_)
  ·
   refine Qa ?_
   refine rk Qb [(4, .h list)] [4, 32] [] [] [] (o0) ?_
   refine Qq ?_
   exact Ze [] (congrArg (fun z => (.h z : AV)) (show Qaj list s_ = list from Hk hD0.1 (X8 h6 (rfl))).symm)
  ·
   refine Qr ?_
   refine Qa ?_
   have hl7 : List.length (List.take (Int.toNat y0) list) ≤ 1073741824 := Qx (wide_take (Int.toNat y0) (hw1))
   refine rk Qb [(6, .one (.slc (.own true 2624) 1 (([] ++ (eL (List.take (Int.toNat y0) list))) ++ [[.s s_]])))] [1, 32] [] [] [(3, .val (.h (List.take (Int.toNat y0) list))), (4, .flat)] (o2 (Qi (av_take .sh 1 (Int.toNat y0) y0 list rfl)) (o2 (ob_rng (lo := 0) (hi := y0) (n := (List.length (eL list))) (rng_of (by omega) (by omega) (by omega))) (o2 (V9 (n := (([] : List (List PV)).length + ((eL (List.take (Int.toNat y0) list)) : List (List PV)).length)) (Wi (rfl) (Xm (List.take (Int.toNat y0) list)) (by first | omega | (simp only [List.length_cons, List.length_nil]; omega) | (simp; omega) | simp))) (o2 (Qeb (Qdu (List.take (Int.toNat y0) list))) (o1 (V9 (n := ((([] ++ (eL (List.take (Int.toNat y0) list))) : List (List PV)).length + ([[.s s_]] : List (List PV)).length)) (by simp [Xm]; omega))))))) ?_
   refine eqn [(6, .o 2624 (List.take (Int.toNat y0) list ++ [s_]))] [6] [] [] (by rw [show (([] ++ (eL (List.take (Int.toNat y0) list))) ++ [[.s s_]]) = (eL (List.take (Int.toNat y0) list ++ [s_])) from Hj (rfl) (rfl)]; first | done | kernel_rfl) ?_
   refine Qa ?_
   refine wdT 6 0 (.own true 2624) (List.take (Int.toNat y0) list ++ [s_]) (fun hw8 => ?_)
   have hl9 : List.length (List.take (Int.toNat y0) list ++ [s_]) ≤ 1073741824 := Qx (hw8)
   have hl10 : List.length (List.drop (Int.toNat y0) list) ≤ 1073741824 := Qx (wide_drop (Int.toNat y0) (hw1))
   refine rk Qb [(4, .one (.slc (.own true 2944) 1 ((eL (List.take (Int.toNat y0) list ++ [s_])) ++ (eL (List.drop (Int.toNat y0) list)))))] [0, 4, 5, 6] [] [] [(3, .val (.h (List.drop (Int.toNat y0) list))), (4, .flat)] (o2 (Qi (av_drop .sh 1 (Int.toNat y0) y0 list rfl)) (o2 (ob_rng (lo := y0) (hi := (((eL list) : List (List PV)).length : Int)) (n := (List.length (eL list))) (rng_all (by omega) (by omega))) (o2 (V9 (Wi (Xm (List.take (Int.toNat y0) list ++ [s_])) (Xm (List.drop (Int.toNat y0) list)) (by first | omega | (simp only [List.length_cons, List.length_nil]; omega) | (simp; omega) | simp))) (o1 (Qeb (Qdu (List.drop (Int.toNat y0) list))))))) ?_
   refine eqn [(4, .o 2944 (List.take (Int.toNat y0) list ++ [s_] ++ (List.drop (Int.toNat y0) list)))] [4] [] [] (by rw [show ((eL (List.take (Int.toNat y0) list ++ [s_])) ++ (eL (List.drop (Int.toNat y0) list))) = (eL (List.take (Int.toNat y0) list ++ [s_] ++ (List.drop (Int.toNat y0) list))) from Hj (rfl) (rfl)]; first | done | kernel_rfl) ?_
   refine Qq ?_
   exact Ze [2944] (congrArg (fun z => (.h z : AV)) (show Qaj list s_ = List.take (Int.toNat y0) list ++ [s_] ++ (List.drop (Int.toNat y0) list) from Hk hD0.1 (Q6 h6 (rfl))).symm)
end Go.Proofs.YtamghcfmhfknmaaGreat
namespace Go.Proofs.YtamghcfmhfknmaaGreat
open Go.RowKit
theorem toList_inj {a b : ByteArray} : (a.toList == b.toList) = decide (a = b) := by
  rw [ByteArray.toList_eq, ByteArray.toList_eq, Bool.eq_iff_iff]
  simp only [beq_iff_eq, decide_eq_true_eq]
  exact ⟨fun h => ByteArray.ext (Array.ext' h), fun h => h ▸ rfl⟩
def Qcz (l : List ByteArray) (s : ByteArray) : Nat := (l.takeWhile fun x => bl x s).length
theorem placeS_cons (a : ByteArray) (l : List ByteArray) (s : ByteArray) : Qcz (a :: l) s = if bl a s = true then Qcz l s + 1 else 0 := by
  unfold Qcz
  rw [List.takeWhile_cons]
  cases bl a s <;> simp
theorem place_loop (s : ByteArray) : ∀ (l : List ByteArray) (k : Nat), Xv (Qa9 s) Qba l k () = .brk (((k + Qcz l s : Nat)) : Int)
  | [], k => by simp [Xv, Qba, Qcz]
  | a :: l, k => by
    rw [placeS_cons]
    simp only [Xv, Qa9]
    cases h : Op.bytesLess a.toList s.toList with
    | true =>
      have h' : bl a s = true := h
      simp only [cond_true, h', if_true]
      rw [place_loop s l (k + 1), show k + 1 + Qcz l s = k + (Qcz l s + 1) by omega]
    | false =>
      have h' : bl a s = false := h
      simp [h']
theorem putS_eq (s : ByteArray) : ∀ l : List ByteArray, putS l s = bif (decide (((Qcz l s : Nat) : Int) < (l.length : Int)) && ((nth l (Qcz l s)).toList == s.toList)) then l else List.take (Qcz l s) l ++ [s] ++ List.drop (Qcz l s) l
  | [] => by simp [putS, Qcz]
  | a :: l => by
    rw [placeS_cons, putS]
    cases h : bl a s with
    | true =>
      simp only [if_true]
      rw [putS_eq s l]
      have e : nth (a :: l) (Qcz l s + 1) = nth l (Qcz l s) := rfl
      rw [e, show decide ((((Qcz l s + 1 : Nat)) : Int) < ((a :: l).length : Int)) = decide (((Qcz l s : Nat) : Int) < (l.length : Int)) by
        rw [Bool.eq_iff_iff]; simp only [decide_eq_true_eq, List.length_cons]; omega]
      generalize (decide (((Qcz l s : Nat) : Int) < (l.length : Int)) && ((nth l (Qcz l s)).toList == s.toList)) = c
      cases c <;> simp
    | false =>
      have e : nth (a :: l) 0 = a := rfl
      simp only [Bool.false_eq_true, if_false]
      rw [e, toList_inj]
      by_cases hs : a = s
      · simp [hs]
      · simp [hs]
theorem l04Put_eq (l : List ByteArray) (s : ByteArray) : Qaj l s = putS l s := by
  unfold Qaj
  rw [place_loop, putS_eq]
  simp only [Out.on, Nat.zero_add, Int.toNat_natCast]
theorem put_len (l : List ByteArray) (s : ByteArray) : List.length (Qaj l s) ≤ List.length l + 1 := by rw [l04Put_eq]; exact len_putS s l
open GoE (enc wide)
def Jj (n : Zo) : Bool := ((n.1 == (8 : Int)) || (n.1 == (9 : Int)))
theorem Qey (n : Zo) : ACalls Tryz.prog 234 [.a [.i n.1, .i n.2.1, .i n.2.2.1, .s n.2.2.2.1, .i n.2.2.2.2.1, .i n.2.2.2.2.2.1, .s n.2.2.2.2.2.2]] (.b (Jj n)) := by
 refine Qt (tt := tt) Qb Tryz.func234 (fn := Tryz.f234) rfl (by unfold Jr; kernel_rfl) (Nat.le_of_ble_eq_true rfl) fun w0 F0 hG => ?_
 refine Qa ?_
 refine rk Qb [(1, .p 1 0), (2, .b false)] [0] [(1, [.i n.1, .i n.2.1, .i n.2.2.1, .s n.2.2.2.1, .i n.2.2.2.2.1, .i n.2.2.2.2.2.1, .s n.2.2.2.2.2.2])] [] [] (o0) ?_
 refine Qa ?_
 refine jn [(2, .b ((n.1 == (8 : Int)) || (n.1 == (9 : Int))))] [1, 2] [] [1] (n.1 == (8 : Int)) (fun h1 => ?_) (fun h1 => ?_) ?_
 ·
  refine rk Qb [(2, .b true)] [1, 2] [] [1] [(2, .val (.b true))] (o1 (Qi (Qh h1))) ?_
  exact ⟨rfl, Qd (by rw [h1]; first | done | kernel_rfl)⟩
 ·
  refine rk Qb [(2, .b (n.1 == (9 : Int)))] [1, 2] [] [1] [(2, .val (.b false))] (o1 (Qi (Qh h1))) ?_
  exact ⟨rfl, Qd (by rw [h1]; first | done | kernel_rfl)⟩
 refine Qq ?_
 exact Ze [] (congrArg (fun z => (.b z : AV)) (show Jj n = ((n.1 == (8 : Int)) || (n.1 == (9 : Int))) from rfl).symm)
def Zh (l : (List ByteArray)) : (List ByteArray) := compS (Qf0 l)
theorem H7 (l : (List ByteArray)) : ACalls Tryz.prog 144 [.h l] (.h (Zh l)) := by
 refine Qt (tt := tt) Qb Tryz.func144 (fn := Tryz.f144) rfl (by unfold Jr; kernel_rfl) (Nat.le_of_ble_eq_true rfl) fun w0 F0 hG => ?_
 refine Qa ?_
 refine rk Qb [(2, .e 0)] [] [] [] [] (o0) ?_
 refine Qa ?_
 refine rk Qb [(3, .o 320 l)] [0] [] [] [(1, .val (.o 0 l))] (o1 (Qg (cloneString_a l))) ?_
 refine Qa ?_
 refine Qed [320] rfl ?_
 refine rk Qb [(3, .one (.slc (.own false 320) 1 (putR (eL l) 0 4294967296 (List.flatten (eL (Qf0 l))))))] [3] [] [] [(1, .take false true (eL (Qf0 l)))] (o1 (ob_take (sortS_a l))) ?_
 refine eqn [(3, .q 320 (Qf0 l))] [3] [] [] (by rw [putR_all (fun _ => rfl) (sortS_len _)]; first | done | kernel_rfl) ?_
 refine Qa ?_
 refine rk Qb [(2, .q 576 (compS (Qf0 l)))] [2, 3] [] [] [(1, .take false false (eL (compS (Qf0 l))))] (o1 (ob_take (compS_a (Qf0 l)))) ?_
 refine Qq ?_
 exact Ze [576] (congrArg (fun z => (.h z : AV)) (show Zh l = compS (Qf0 l) from rfl).symm)
def Kn (q : (List Zo)) (negated : Bool) (k0 : Nat) (a0 : Bool) (s0 : (List ByteArray)) : Rd ((List ByteArray)) ((List ByteArray)) ((List ByteArray)) := (bif ((Jj (nth q k0)) && (a0 == negated)) then (.next (s0 ++ [(nth q k0).2.2.2.1])) else (.next s0))
def Vz (_ : Nat) (s0 : (List ByteArray)) : (List ByteArray) := s0
def J4 (q : (List Zo)) (negated : Bool) : (List ByteArray) := (Out.on (Xv (Kn q negated) Vz (Xq q) 0 []) (fun y0 => (Zh y0)))
theorem impldepsBelow_a (q : (List Zo)) (negated : Bool) : ACalls Tryz.prog 250 [.h q, .b negated] (.h (J4 q negated)) := by
 refine Qt (tt := tt) Qb Tryz.func250 (fn := Tryz.f250) rfl (by unfold Jr; kernel_rfl) (Nat.le_of_ble_eq_true rfl) fun w0 F0 hG => ?_
 have hnl := negated_len q
 refine Qa ?_
 refine rk Qb [(4, .e 0)] [] [] [] [] (o0) ?_
 refine Qa ?_
 refine rk Qb [(5, .one (.slc (.own true 512) 1 []))] [] [] [] [] (o0) ?_
 refine Qa ?_
 refine Qa ?_
 refine rk Qb [(10, .o 640 (Xq q)), (11, .i ((Xq q).length : Int)), (12, .i 0)] [] [] [] [(1, .val (.o 0 (Xq q))), (2, .val (.i ((Xq q).length : Int)))] (o2 (Qg (implNegatedNodes_a q)) (o1 (Qi (Xs (Xq q))))) ?_
 refine wdT 10 0 (.own true 640) (Xq q) (fun hw1 => ?_)
 have hl2 : List.length (Xq q) ≤ 1073741824 := Qx (hw1)
 refine blk (fun (k0 : Nat) (s0 : (List ByteArray)) => [(5, .o 147203 s0), (12, .i ((k0 : Nat) : Int))]) [5, 12] (fun k0 s0 => []) [] (fun (y0 : (List ByteArray)) => [(5, .o 147353 y0)]) [0, 1, 5, 10, 11, 12] (fun y0 => []) [] (fun (k0 : Nat) (s0 : (List ByteArray)) => (Xv (Kn q negated) Vz (Xq q) 0 []) = Xv (Kn q negated) Vz (List.drop k0 (Xq q)) k0 s0 ∧ List.length s0 ≤ k0) (fun (y0 : (List ByteArray)) => (Xv (Kn q negated) Vz (Xq q) 0 []) = .brk y0) ((Xq q).length) [] (Yt [(512, 147203)] (by kernel_rfl)) ⟨rfl, (by simp)⟩ (fun k0 s0 hk0 hI0 => ?_) (fun k0 s0 hk0 hI0 => ?_) (fun y0 hD0 => ?_)
 ·
  have hA0_0 := hI0.2
  obtain ⟨a0, hx0⟩ := Yl (l := Xq q) (i := k0) hk0
  refine Qa ?_
  refine rk Qb [(13, .b true)] [] [] [] [(0, .val (.b true))] (o1 (Qi (Qh (decide_eq_true (p := ((k0 : Nat) : Int) < ((Xq q).length : Int)) (by omega))))) ?_
  refine Qa ?_
  refine ckT ?_
  refine Qr ?_
  refine Qa ?_
  refine Xf ?_
  refine Qa ?_
  refine rk Qb [(6, .i ((k0 : Nat) : Int)), (7, .b a0)] [13] [] [] [(1, .rowE [.b a0])] (o1 (Qy (X4 (i := ((k0 : Nat) : Int)) (by omega) rfl hx0))) ?_
  refine Qa ?_
  refine jn [(26, .b ((Jj (nth q k0)) && (a0 == negated)))] [7] [] [] (Jj (nth q k0)) (fun h3 => ?_) (fun h3 => ?_) ?_
  ·
   refine wdT 0 0 .sh q (fun hw5 => ?_)
   have hl6 : List.length q ≤ 1073741824 := Qx (hw5)
   have hx4 : q[k0]? = some (nth q k0) := Yj (by omega)
   refine rk Qb [(26, .b (a0 == negated))] [7] [] [] [(2, .row [.i ((nth q k0).1), .i ((nth q k0).2.1), .i ((nth q k0).2.2.1), .s ((nth q k0).2.2.2.1), .i ((nth q k0).2.2.2.2.1), .i ((nth q k0).2.2.2.2.2.1), .s ((nth q k0).2.2.2.2.2.2)]), (4, .val (.b true))] (o2 (Qy (X4 (i := ((k0 : Nat) : Int)) (by omega) rfl hx4)) (o1 (Qg (cb h3 (Qey (nth q k0)))))) ?_
   exact ⟨rfl, Qd (by rw [h3]; first | done | kernel_rfl)⟩
  ·
   refine wdT 0 0 .sh q (fun hw8 => ?_)
   have hl9 : List.length q ≤ 1073741824 := Qx (hw8)
   have hx7 : q[k0]? = some (nth q k0) := Yj (by omega)
   refine rk Qb [(26, .b false)] [7] [] [] [(2, .row [.i ((nth q k0).1), .i ((nth q k0).2.1), .i ((nth q k0).2.2.1), .s ((nth q k0).2.2.2.1), .i ((nth q k0).2.2.2.2.1), .i ((nth q k0).2.2.2.2.2.1), .s ((nth q k0).2.2.2.2.2.2)]), (4, .val (.b false))] (o2 (Qy (X4 (i := ((k0 : Nat) : Int)) (by omega) rfl hx7)) (o1 (Qg (cb h3 (Qey (nth q k0)))))) ?_
   exact ⟨rfl, Qd (by rw [h3]; first | done | kernel_rfl)⟩
  refine ck ((Jj (nth q k0)) && (a0 == negated)) (fun h10 => ?_) (fun h10 => ?_)
  ·
   have h10r : ((a0 == negated)) = true := and_r h10
   have h10rd := eq_of_beq h10r
   refine wdT 0 0 .sh q (fun hw12 => ?_)
   have hl13 : List.length q ≤ 1073741824 := Qx (hw12)
   have hx11 : q[k0]? = some (nth q k0) := Yj (by omega)
   refine wdT 5 0 (.own true 147203) s0 (fun hw14 => ?_)
   have hl15 : List.length s0 ≤ 1073741824 := Qx (hw14)
   refine rk Qb [(5, .one (.slc (.own true 2176) 1 ((eL s0) ++ [[.s ((nth q k0).2.2.2.1)]])))] [5, 6, 26] [] [] [(3, .row [.i ((nth q k0).1), .i ((nth q k0).2.1), .i ((nth q k0).2.2.1), .s ((nth q k0).2.2.2.1), .i ((nth q k0).2.2.2.2.1), .i ((nth q k0).2.2.2.2.2.1), .s ((nth q k0).2.2.2.2.2.2)])] (o2 (Qy (X4 (i := ((k0 : Nat) : Int)) (by omega) rfl hx11)) (o1 (V9 (Wi (Xm s0) (Xm [(nth q k0).2.2.2.1]) (by first | omega | (simp only [List.length_cons, List.length_nil]; omega) | (simp; omega) | simp))))) ?_
   refine eqn [(5, .o 2176 (s0 ++ [(nth q k0).2.2.2.1]))] [5] [] [] (by rw [show ((eL s0) ++ [[.s ((nth q k0).2.2.2.1)]]) = (eL (s0 ++ [(nth q k0).2.2.2.1])) from Hj (rfl) (rfl)]; first | done | kernel_rfl) ?_
   refine rk Qb [(12, .i ((k0 + 1 : Nat) : Int))] [12] [] [] [(0, .val (.i ((k0 + 1 : Nat) : Int)))] (o1 (Qi (Km (Q8 k0 (by omega))))) ?_
   exact Exists.intro (s0 ++ [(nth q k0).2.2.2.1]) (And.intro (Yt [(2176, 147203)] (by kernel_rfl)) ⟨Xe hx0 (X8 h10 (rfl)) hI0.1, by first | omega | (simp; omega) | simp⟩)
  ·
   refine Qr ?_
   refine rk Qb [(12, .i ((k0 + 1 : Nat) : Int))] [6, 12, 26] [] [] [(0, .val (.i ((k0 + 1 : Nat) : Int)))] (o1 (Qi (Km (Q8 k0 (by omega))))) ?_
   exact Exists.intro s0 (And.intro (Qd (by kernel_rfl)) ⟨Xe hx0 (Q6 h10 (rfl)) hI0.1, by first | omega | (simp; omega) | simp⟩)
 ·
  have hA0_0 := hI0.2
  refine Qa ?_
  refine rk Qb [(13, .b false)] [] [] [] [(0, .val (.b false))] (o1 (Qi (Qh (decide_eq_false (p := ((k0 : Nat) : Int) < ((Xq q).length : Int)) (by omega))))) ?_
  refine Qa ?_
  refine ckF ?_
  refine Xt ?_
  exact Exists.intro s0 (And.intro (Yt [(147203, 147353)] (by kernel_rfl)) (Ym hk0 (rfl) hI0.1))
 ·
  refine Qa ?_
  refine rk Qb [(4, .h (Zh y0))] [4, 5] [] [] [(1, .val (.h (Zh y0)))] (o1 (Qg (H7 y0))) ?_
  refine Qq ?_
  exact Ze [] (congrArg (fun z => (.h z : AV)) (show J4 q negated = (Zh y0) from Hk hD0 (rfl)).symm)
def Yh (q : (List Zo)) : (List ByteArray) := (J4 q false)
theorem implPositiveDeps_a (q : (List Zo)) : ACalls Tryz.prog 221 [.h q] (.h (Yh q)) := by
 refine Qt (tt := tt) Qb Tryz.func221 (fn := Tryz.f221) rfl (by unfold Jr; kernel_rfl) (Nat.le_of_ble_eq_true rfl) fun w0 F0 hG => ?_
 refine Qa ?_
 refine rk Qb [(2, .e 0)] [] [] [] [] (o0) ?_
 refine Qa ?_
 refine rk Qb [(2, .h (J4 q false))] [0, 2] [] [] [(1, .val (.h (J4 q false)))] (o1 (Qg (impldepsBelow_a q false))) ?_
 refine Qq ?_
 exact Ze [] (congrArg (fun z => (.h z : AV)) (show Yh q = (J4 q false) from rfl).symm)
def X1 (q : (List Zo)) : (List ByteArray) := (J4 q true)
theorem implNegativeDeps_a (q : (List Zo)) : ACalls Tryz.prog 222 [.h q] (.h (X1 q)) := by
 refine Qt (tt := tt) Qb Tryz.func222 (fn := Tryz.f222) rfl (by unfold Jr; kernel_rfl) (Nat.le_of_ble_eq_true rfl) fun w0 F0 hG => ?_
 refine Qa ?_
 refine rk Qb [(2, .e 0)] [] [] [] [] (o0) ?_
 refine Qa ?_
 refine rk Qb [(2, .h (J4 q true))] [0, 2] [] [] [(1, .val (.h (J4 q true)))] (o1 (Qg (impldepsBelow_a q true))) ?_
 refine Qq ?_
 exact Ze [] (congrArg (fun z => (.h z : AV)) (show X1 q = (J4 q true) from rfl).symm)
def Hl (q : (List Zo)) (under : Bool) (k0 : Nat) (a0 : Bool) (s0 : (List ByteArray)) : Rd ((List ByteArray)) ((List ByteArray)) ((List ByteArray)) := (bif ((Xr ((nth q k0).1) 8 9) && (a0 == under)) then (.next (Qaj s0 ((nth q k0).2.2.2.1))) else (.next s0))
def Hm (_ : Nat) (s0 : (List ByteArray)) : (List ByteArray) := s0
def V0 (q : (List Zo)) (under : Bool) : (List ByteArray) := (Out.on (Xv (Hl q under) Hm (Yy q) 0 []) (fun y0 => y0))
theorem specl12Names_a (q : (List Zo)) (under : Bool) : ACalls Tryz.prog 249 [.h q, .b under] (.o 0 (V0 q under)) := by
 refine Qt (tt := tt) Qb Tryz.func249 (fn := Tryz.f249) rfl (by unfold Jr; kernel_rfl) (Nat.le_of_ble_eq_true rfl) fun w0 F0 hG => ?_
 have hnl := negated_lenS q
 refine Qa ?_
 refine rk Qb [(4, .e 0)] [] [] [] [] (o0) ?_
 refine Qa ?_
 refine rk Qb [(5, .one (.slc (.own true 512) 1 []))] [] [] [] [] (o0) ?_
 refine Qa ?_
 refine rk Qb [(6, .o 640 (Yy q))] [] [] [] [(1, .val (.o 0 (Yy q)))] (o1 (Qg (specNegatedNodes_a q))) ?_
 refine Qa ?_
 refine Qa ?_
 refine rk Qb [(7, .i 0)] [] [] [] [] (o0) ?_
 refine wdT 6 0 (.own true 640) (Yy q) (fun hw1 => ?_)
 have hl2 : List.length (Yy q) ≤ 1073741824 := Qx (hw1)
 refine blk (fun (k0 : Nat) (s0 : (List ByteArray)) => [(5, .h s0), (7, .i ((k0 : Nat) : Int))]) [5, 7] (fun k0 s0 => []) [] (fun (y0 : (List ByteArray)) => [(5, .h y0)]) [0, 1, 5, 6, 7] (fun y0 => []) [] (fun (k0 : Nat) (s0 : (List ByteArray)) => (Xv (Hl q under) Hm (Yy q) 0 []) = Xv (Hl q under) Hm (List.drop k0 (Yy q)) k0 s0 ∧ List.length s0 ≤ k0) (fun (y0 : (List ByteArray)) => (Xv (Hl q under) Hm (Yy q) 0 []) = .brk y0) ((Yy q).length) [] (weak_gf [] [512] [] [] (by kernel_rfl)) ⟨rfl, (by simp)⟩ (fun k0 s0 hk0 hI0 => ?_) (fun k0 s0 hk0 hI0 => ?_) (fun y0 hD0 => ?_)
 ·
  have hA0_0 := hI0.2
  obtain ⟨a0, hx0⟩ := Yl (l := Yy q) (i := k0) hk0
  refine Qa ?_
  refine Qa ?_
  refine rk Qb [(14, .b true)] [] [] [] [(2, .val (.i ((Yy q).length : Int))), (3, .val (.b true))] (o2 (Qi (Xs (Yy q))) (o1 (Qi (Qh (decide_eq_true (p := ((k0 : Nat) : Int) < ((Yy q).length : Int)) (by omega)))))) ?_
  refine ckT ?_
  refine Qr ?_
  refine Qa ?_
  refine Xf ?_
  refine Qa ?_
  refine jn [(30, .b ((Xr ((nth q k0).1) 8 9) && (a0 == under)))] [14] [] [] (Xr ((nth q k0).1) 8 9) (fun h3 => ?_) (fun h3 => ?_) ?_
  ·
   refine wdT 0 0 .sh q (fun hw5 => ?_)
   have hl6 : List.length q ≤ 1073741824 := Qx (hw5)
   have hx4 : q[k0]? = some (nth q k0) := Yj (by omega)
   refine rk Qb [(30, .b (a0 == under))] [14] [] [] [(2, .row [.i ((nth q k0).1), .i ((nth q k0).2.1), .i ((nth q k0).2.2.1), .s ((nth q k0).2.2.2.1), .i ((nth q k0).2.2.2.2.1), .i ((nth q k0).2.2.2.2.2.1), .s ((nth q k0).2.2.2.2.2.2)]), (5, .val (.b true)), (9, .rowE [.b a0])] (o2 (Qy (X4 (i := ((k0 : Nat) : Int)) (by omega) rfl hx4)) (o2 (Qg (cb h3 (Jz ((nth q k0).1) 8 9))) (o1 (Qy (X4 (i := ((k0 : Nat) : Int)) (by omega) rfl hx0))))) ?_
   exact ⟨rfl, Qd (by rw [h3]; first | done | kernel_rfl)⟩
  ·
   refine wdT 0 0 .sh q (fun hw8 => ?_)
   have hl9 : List.length q ≤ 1073741824 := Qx (hw8)
   have hx7 : q[k0]? = some (nth q k0) := Yj (by omega)
   refine rk Qb [(30, .b false)] [14] [] [] [(2, .row [.i ((nth q k0).1), .i ((nth q k0).2.1), .i ((nth q k0).2.2.1), .s ((nth q k0).2.2.2.1), .i ((nth q k0).2.2.2.2.1), .i ((nth q k0).2.2.2.2.2.1), .s ((nth q k0).2.2.2.2.2.2)]), (5, .val (.b false))] (o2 (Qy (X4 (i := ((k0 : Nat) : Int)) (by omega) rfl hx7)) (o1 (Qg (cb h3 (Jz ((nth q k0).1) 8 9))))) ?_
   exact ⟨rfl, Qd (by rw [h3]; first | done | kernel_rfl)⟩
  refine ck ((Xr ((nth q k0).1) 8 9) && (a0 == under)) (fun h10 => ?_) (fun h10 => ?_)
  ·
   have h10r : ((a0 == under)) = true := and_r h10
   have h10rd := eq_of_beq h10r
   refine wdT 0 0 .sh q (fun hw12 => ?_)
   have hl13 : List.length q ≤ 1073741824 := Qx (hw12)
   have hx11 : q[k0]? = some (nth q k0) := Yj (by omega)
   refine rk Qb [(5, .h (Qaj s0 ((nth q k0).2.2.2.1)))] [5, 30] [] [] [(3, .row [.i ((nth q k0).1), .i ((nth q k0).2.1), .i ((nth q k0).2.2.1), .s ((nth q k0).2.2.2.1), .i ((nth q k0).2.2.2.2.1), .i ((nth q k0).2.2.2.2.2.1), .s ((nth q k0).2.2.2.2.2.2)]), (6, .val (.h (Qaj s0 ((nth q k0).2.2.2.1))))] (o2 (Qy (X4 (i := ((k0 : Nat) : Int)) (by omega) rfl hx11)) (o1 (Qg (specl04Put_a s0 ((nth q k0).2.2.2.1) (by omega))))) ?_
   refine rk Qb [(7, .i ((k0 + 1 : Nat) : Int))] [7] [] [] [(1, .val (.i ((k0 + 1 : Nat) : Int)))] (o1 (Qi (Km (Q8 k0 (by omega))))) ?_
   exact Exists.intro (Qaj s0 ((nth q k0).2.2.2.1)) (And.intro (Qd (by kernel_rfl)) ⟨Xe hx0 (X8 h10 (rfl)) hI0.1, (by first | omega | (have hz := put_len s0 (nth q k0).2.2.2.1; omega))⟩)
  ·
   refine Qr ?_
   refine rk Qb [(7, .i ((k0 + 1 : Nat) : Int))] [7, 30] [] [] [(1, .val (.i ((k0 + 1 : Nat) : Int)))] (o1 (Qi (Km (Q8 k0 (by omega))))) ?_
   exact Exists.intro s0 (And.intro (Qd (by kernel_rfl)) ⟨Xe hx0 (Q6 h10 (rfl)) hI0.1, (by first | omega | (have hz := put_len s0 (nth q k0).2.2.2.1; omega))⟩)
 ·
  have hA0_0 := hI0.2
  refine Qa ?_
  refine Qa ?_
  refine rk Qb [(14, .b false)] [] [] [] [(2, .val (.i ((Yy q).length : Int))), (3, .val (.b false))] (o2 (Qi (Xs (Yy q))) (o1 (Qi (Qh (decide_eq_false (p := ((k0 : Nat) : Int) < ((Yy q).length : Int)) (by omega)))))) ?_
  refine ckF ?_
  refine Xt ?_
  exact Exists.intro s0 (And.intro (Qd (by kernel_rfl)) (Ym hk0 (rfl) hI0.1))
 ·
  refine Qa ?_
  refine wdT 5 0 .sh y0 (fun hw14 => ?_)
  have hl15 : List.length y0 ≤ 1073741824 := Qx (hw14)
  refine rk Qb [(4, .o 2560 y0)] [4, 5] [] [] [(2, .flat)] (o2 (V9 (n := (([] : List (List PV)).length + ((eL y0) : List (List PV)).length)) (Wi (rfl) (Xm y0) (by first | omega | (simp only [List.length_cons, List.length_nil]; omega) | (simp; omega) | simp))) (o1 (Qeb (Qdu y0)))) ?_
  refine Qq ?_
  exact Ze [] (congrArg (fun z => (.o 0 z : AV)) (show V0 q under = y0 from Hk hD0 (rfl)).symm)
def Y3 (q : (List Zo)) : (List ByteArray) := (V0 q false)
theorem specPositiveDeps_a (q : (List Zo)) : ACalls Tryz.prog 216 [.h q] (.o 0 (Y3 q)) := by
 refine Qt (tt := tt) Qb Tryz.func216 (fn := Tryz.f216) rfl (by unfold Jr; kernel_rfl) (Nat.le_of_ble_eq_true rfl) fun w0 F0 hG => ?_
 refine Qa ?_
 refine rk Qb [(2, .e 0)] [] [] [] [] (o0) ?_
 refine Qa ?_
 refine rk Qb [(2, .o 256 (V0 q false))] [0, 2] [] [] [(1, .val (.o 0 (V0 q false)))] (o1 (Qg (specl12Names_a q false))) ?_
 refine Qq ?_
 exact Ze [] (congrArg (fun z => (.o 0 z : AV)) (show Y3 q = (V0 q false) from rfl).symm)
def Y4 (q : (List Zo)) : (List ByteArray) := (V0 q true)
theorem specNegativeDeps_a (q : (List Zo)) : ACalls Tryz.prog 218 [.h q] (.o 0 (Y4 q)) := by
 refine Qt (tt := tt) Qb Tryz.func218 (fn := Tryz.f218) rfl (by unfold Jr; kernel_rfl) (Nat.le_of_ble_eq_true rfl) fun w0 F0 hG => ?_
 refine Qa ?_
 refine rk Qb [(2, .e 0)] [] [] [] [] (o0) ?_
 refine Qa ?_
 refine rk Qb [(2, .o 256 (V0 q true))] [0, 2] [] [] [(1, .val (.o 0 (V0 q true)))] (o1 (Qg (specl12Names_a q true))) ?_
 refine Qq ?_
 exact Ze [] (congrArg (fun z => (.o 0 z : AV)) (show Y4 q = (V0 q true) from rfl).symm)
end Go.Proofs.YtamghcfmhfknmaaGreat
namespace Go.Proofs.YtamghcfmhfknmaaGreat
open Go.RowKit
theorem namesDir_eq (n : Zo) : Xr n.1 8 9 = Jj n := by
  unfold Xr Jj
  rw [Bool.eq_iff_iff]
  simp
  omega
theorem deps_loop (q : List Zo) (b : Bool) : ∀ (l : List Bool) (k : Nat) (s : List ByteArray), ∃ m, Xv (Kn q b) Vz l k s = .brk (s ++ m) ∧ ∀ t, Xv (Hl q b) Hm l k t = .brk (putAllS t m)
  | [], k, s => ⟨[], by simp [Xv, Vz], fun t => by simp [Xv, Hm, putAllS]⟩
  | a :: l, k, s => by
    simp only [Xv, Kn, Hl, namesDir_eq]
    cases h : (Jj (nth q k) && (a == b)) with
    | true =>
      obtain ⟨m, h1, h2⟩ := deps_loop q b l (k + 1) (s ++ [(nth q k).2.2.2.1])
      refine ⟨(nth q k).2.2.2.1 :: m, ?_, fun t => ?_⟩
      · simp only [cond_true]; rw [h1, List.append_assoc]; rfl
      · simp only [cond_true]; rw [h2, l04Put_eq]; rfl
    | false =>
      obtain ⟨m, h1, h2⟩ := deps_loop q b l (k + 1) s
      exact ⟨m, by simp only [cond_false]; exact h1, fun t => by simp only [cond_false]; exact h2 t⟩
theorem deps_eq (q : List Zo) (b : Bool) : V0 q b = J4 q b := by
  unfold V0 J4
  obtain ⟨m, h1, h2⟩ := deps_loop q b (Xq q) 0 []
  rw [negated_eq, h1, h2]
  simp only [Out.on, List.nil_append]
  exact (once_put m).symm
theorem posdeps_eq (q : List Zo) : Y3 q = Yh q := deps_eq q false
theorem negdeps_eq (q : List Zo) : Y4 q = X1 q := deps_eq q true
open GoE (enc wide)
def Jv (d : (List Zt)) (k0 : Nat) (a0 : Zt) (_ : Unit) : Rd (Bool) (Unit) (Unit) := (bif ((!(X7 a0.1)) || (bif decide (((k0 : Nat) : Int) > (0 : Int)) then ((!(Op.bytesLess ((nth d (Int.toNat (((k0 : Nat) : Int) - 1))).1).toList a0.1.toList)) || (!(Q7 a0.2))) else (!(Q7 a0.2)))) then (.ret false) else (.next ()))
def Ks (_ : Nat) (_ : Unit) : Unit := ()
def Q2 (d : (List Zt)) : Bool := (Out.on (Xv (Jv d) Ks d 0 ()) (fun _ => decide ((d.length : Int) ≤ (5 : Int))))
theorem Jh (d : (List Zt)) : ACalls Tryz.prog 138 [.h d] (.b (Q2 d)) := by
 refine Qt (tt := tt) Qb Tryz.func138 (fn := Tryz.f138) rfl (by unfold Jr; kernel_rfl) (Nat.le_of_ble_eq_true rfl) fun w0 F0 hG => ?_
 refine Qa ?_
 refine rk Qb [(2, .b false)] [] [] [] [] (o0) ?_
 refine Qa ?_
 refine Qa ?_
 refine rk Qb [(5, .h d), (6, .i (d.length : Int)), (7, .i 0)] [] [] [] [(1, .val (.i (d.length : Int)))] (o1 (Qi (Xs d))) ?_
 refine wdT 0 0 .sh d (fun hw1 => ?_)
 have hl2 : List.length d ≤ 1073741824 := Qx (hw1)
 refine blk (fun (k0 : Nat) (s0 : Unit) => [(7, .i ((k0 : Nat) : Int))]) [7] (fun k0 s0 => []) [] (fun (y0 : Unit) => []) [5, 6, 7] (fun y0 => []) [] (fun (k0 : Nat) (s0 : Unit) => (Xv (Jv d) Ks d 0 ()) = Xv (Jv d) Ks (List.drop k0 d) k0 s0) (fun (y0 : Unit) => (Xv (Jv d) Ks d 0 ()) = .brk y0) d.length () (Qd (by kernel_rfl)) rfl (fun k0 s0 hk0 hI0 => ?_) (fun k0 s0 hk0 hI0 => ?_) (fun y0 hD0 => ?_)
 ·
  obtain ⟨a0, hx0⟩ := Yl (l := d) (i := k0) hk0
  refine Qa ?_
  refine rk Qb [(8, .b true)] [] [] [] [(0, .val (.b true))] (o1 (Qi (Qh (decide_eq_true (p := ((k0 : Nat) : Int) < (d.length : Int)) (by omega))))) ?_
  refine Qa ?_
  refine ckT ?_
  refine Qr ?_
  refine Qa ?_
  refine Xf ?_
  refine Qa ?_
  refine rk Qb [(3, .i ((k0 : Nat) : Int)), (4, .p 4 0)] [8] [(4, [.s a0.1, .h a0.2])] [] [(1, .row [.s a0.1, .h a0.2])] (o1 (Qy (X4 (i := ((k0 : Nat) : Int)) (by omega) rfl hx0))) ?_
  refine Qa ?_
  refine jn [(36, .b ((!(X7 a0.1)) || (bif decide (((k0 : Nat) : Int) > (0 : Int)) then ((!(Op.bytesLess ((nth d (Int.toNat (((k0 : Nat) : Int) - 1))).1).toList a0.1.toList)) || (!(Q7 a0.2))) else (!(Q7 a0.2)))))] [3, 4] [] [4] (!(X7 a0.1)) (fun h3 => ?_) (fun h3 => ?_) ?_
  ·
   have h3n : (X7 a0.1) = false := Ug h3
   refine rd' Qb Js [(36, .b true)] [3, 4] [] [4] [(2, .val (.b false)), (3, .val (.b true))] (o2 (Qg (cb h3n (Kf a0.1))) (o1 (Qi (show .b (!false) = .b true from rfl)))) ?_
   exact ⟨rfl, Qd (by rw [h3]; first | done | kernel_rfl)⟩
  ·
   have h3n : (X7 a0.1) = true := Jn h3
   refine X9 (decide (((k0 : Nat) : Int) > (0 : Int))) (fun h4 => ?_) (fun h4 => ?_)
   ·
    have h4d := of_decide_eq_true h4
    refine X9 (!(Op.bytesLess ((nth d (Int.toNat (((k0 : Nat) : Int) - 1))).1).toList a0.1.toList)) (fun h5 => ?_) (fun h5 => ?_)
    ·
     have hx6 : d[(Int.toNat (((k0 : Nat) : Int) - 1))]? = some (nth d (Int.toNat (((k0 : Nat) : Int) - 1))) := Yj (by omega)
     refine rd' Qb Js [(36, .b true)] [3, 4] [] [4] [(2, .val (.b true)), (3, .val (.b false)), (6, .val (.b true)), (10, .val (.i (((k0 : Nat) : Int) - 1))), (11, .row [.s ((nth d (Int.toNat (((k0 : Nat) : Int) - 1))).1), .h ((nth d (Int.toNat (((k0 : Nat) : Int) - 1))).2)]), (16, .val (.b true))] (o2 (Qg (cb h3n (Kf a0.1))) (o2 (Qi (show .b (!true) = .b false from rfl)) (o2 (Qi (Qh h4)) (o2 (Qi (Km (IntWalk.i64_in (((k0 : Nat) : Int) - 1) (by omega)))) (o2 (Qy (X4 (i := (((k0 : Nat) : Int) - 1)) (by omega) rfl hx6)) (o1 (Qi (Qh h5)))))))) ?_
     exact ⟨rfl, Qd (by rw [h3, h4, h5]; first | done | kernel_rfl)⟩
    ·
     have hx7 : d[(Int.toNat (((k0 : Nat) : Int) - 1))]? = some (nth d (Int.toNat (((k0 : Nat) : Int) - 1))) := Yj (by omega)
     refine rd' Qb Js [(36, .b (!(Q7 a0.2)))] [3, 4] [] [4] [(2, .val (.b true)), (3, .val (.b false)), (6, .val (.b true)), (10, .val (.i (((k0 : Nat) : Int) - 1))), (11, .row [.s ((nth d (Int.toNat (((k0 : Nat) : Int) - 1))).1), .h ((nth d (Int.toNat (((k0 : Nat) : Int) - 1))).2)]), (16, .val (.b false)), (22, .val (.b (Q7 a0.2)))] (o2 (Qg (cb h3n (Kf a0.1))) (o2 (Qi (show .b (!true) = .b false from rfl)) (o2 (Qi (Qh h4)) (o2 (Qi (Km (IntWalk.i64_in (((k0 : Nat) : Int) - 1) (by omega)))) (o2 (Qy (X4 (i := (((k0 : Nat) : Int) - 1)) (by omega) rfl hx7)) (o2 (Qi (Qh h5)) (o1 (Qg (U0 a0.2))))))))) ?_
     exact ⟨rfl, Qd (by rw [h3, h4, h5]; first | done | kernel_rfl)⟩
   ·
    refine rd' Qb Js [(36, .b (!(Q7 a0.2)))] [3, 4] [] [4] [(2, .val (.b true)), (3, .val (.b false)), (6, .val (.b false)), (22, .val (.b (Q7 a0.2)))] (o2 (Qg (cb h3n (Kf a0.1))) (o2 (Qi (show .b (!true) = .b false from rfl)) (o2 (Qi (Qh h4)) (o1 (Qg (U0 a0.2)))))) ?_
    exact ⟨rfl, Qd (by rw [h3, h4]; first | done | kernel_rfl)⟩
  refine ck ((!(X7 a0.1)) || (bif decide (((k0 : Nat) : Int) > (0 : Int)) then ((!(Op.bytesLess ((nth d (Int.toNat (((k0 : Nat) : Int) - 1))).1).toList a0.1.toList)) || (!(Q7 a0.2))) else (!(Q7 a0.2)))) (fun h8 => ?_) (fun h8 => ?_)
  ·
   refine Qa ?_
   refine rk Qb [] [36] [] [] [] (o0) ?_
   refine Qq ?_
   have hr9 : (Xv (Jv d) Ks d 0 ()) = .ret false := Jy hx0 (X8 h8 (rfl)) hI0
   exact Ze [] (congrArg (fun z => (.b z : AV)) (show Q2 d = false from on_r hr9).symm)
  ·
   refine Qr ?_
   refine rk Qb [(7, .i ((k0 + 1 : Nat) : Int))] [7, 36] [] [] [(0, .val (.i ((k0 + 1 : Nat) : Int)))] (o1 (Qi (Km (Q8 k0 (by omega))))) ?_
   exact Exists.intro () (And.intro (Qd (by kernel_rfl)) (Xe hx0 (Q6 h8 (rfl)) hI0))
 ·
  refine Qa ?_
  refine rk Qb [(8, .b false)] [] [] [] [(0, .val (.b false))] (o1 (Qi (Qh (decide_eq_false (p := ((k0 : Nat) : Int) < (d.length : Int)) (by omega))))) ?_
  refine Qa ?_
  refine ckF ?_
  refine Xt ?_
  exact Exists.intro () (And.intro (Qd (by kernel_rfl)) (Ym hk0 (rfl) hI0))
 ·
  refine Qa ?_
  refine rk Qb [(2, .b (decide ((d.length : Int) ≤ (5 : Int))))] [0, 2] [] [] [(1, .val (.i (d.length : Int)))] (o1 (Qi (Xs d))) ?_
  refine Qq ?_
  exact Ze [] (congrArg (fun z => (.b z : AV)) (show Q2 d = decide ((d.length : Int) ≤ (5 : Int)) from Hk hD0 (rfl)).symm)
def Vj (d : (List Zt)) (k0 : Nat) (a0 : Zt) (_ : Unit) : Rd (Bool) (Unit) (Unit) := (bif ((!(Yk a0.1)) || ((!(Yx a0.2)) || (decide (((k0 : Nat) : Int) > (0 : Int)) && (!(Op.bytesLess ((nth d (Int.toNat (((k0 : Nat) : Int) - 1))).1).toList a0.1.toList))))) then (.ret false) else (.next ()))
def Wk (_ : Nat) (_ : Unit) : Unit := ()
def Kg (d : (List Zt)) : Bool := (Out.on (Xv (Vj d) Wk d 0 ()) (fun _ => decide ((d.length : Int) ≤ (5 : Int))))
theorem specIsValidDirs_a (d : (List Zt)) : ACalls Tryz.prog 172 [.h d] (.b (Kg d)) := by
 refine Qt (tt := tt) Qb Tryz.func172 (fn := Tryz.f172) rfl (by unfold Jr; kernel_rfl) (Nat.le_of_ble_eq_true rfl) fun w0 F0 hG => ?_
 refine Qa ?_
 refine rk Qb [(2, .b false)] [] [] [] [] (o0) ?_
 refine Qa ?_
 refine Qa ?_
 refine rk Qb [(3, .i 0)] [] [] [] [] (o0) ?_
 refine wdT 0 0 .sh d (fun hw1 => ?_)
 have hl2 : List.length d ≤ 1073741824 := Qx (hw1)
 refine blk (fun (k0 : Nat) (s0 : Unit) => [(3, .i ((k0 : Nat) : Int))]) [3] (fun k0 s0 => []) [] (fun (y0 : Unit) => []) [3] (fun y0 => []) [] (fun (k0 : Nat) (s0 : Unit) => (Xv (Vj d) Wk d 0 ()) = Xv (Vj d) Wk (List.drop k0 d) k0 s0) (fun (y0 : Unit) => (Xv (Vj d) Wk d 0 ()) = .brk y0) d.length () (Qd (by kernel_rfl)) rfl (fun k0 s0 hk0 hI0 => ?_) (fun k0 s0 hk0 hI0 => ?_) (fun y0 hD0 => ?_)
 ·
  obtain ⟨a0, hx0⟩ := Yl (l := d) (i := k0) hk0
  refine Qa ?_
  refine Qa ?_
  refine rk Qb [(7, .b true)] [] [] [] [(2, .val (.i (d.length : Int))), (3, .val (.b true))] (o2 (Qi (Xs d)) (o1 (Qi (Qh (decide_eq_true (p := ((k0 : Nat) : Int) < (d.length : Int)) (by omega)))))) ?_
  refine ckT ?_
  refine Qr ?_
  refine Qa ?_
  refine Xf ?_
  refine Qa ?_
  refine jn [(43, .b ((!(Yk a0.1)) || ((!(Yx a0.2)) || (decide (((k0 : Nat) : Int) > (0 : Int)) && (!(Op.bytesLess ((nth d (Int.toNat (((k0 : Nat) : Int) - 1))).1).toList a0.1.toList))))))] [7] [] [] (!(Yk a0.1)) (fun h3 => ?_) (fun h3 => ?_) ?_
  ·
   have h3n : (Yk a0.1) = false := Ug h3
   refine rd' Qb Js [(43, .b true)] [7] [] [] [(2, .row [.s a0.1, .h a0.2]), (5, .val (.b false)), (6, .val (.b true))] (o2 (Qy (X4 (i := ((k0 : Nat) : Int)) (by omega) rfl hx0)) (o2 (Qg (cb h3n (Jo a0.1))) (o1 (Qi (show .b (!false) = .b true from rfl))))) ?_
   exact ⟨rfl, Qd (by rw [h3]; first | done | kernel_rfl)⟩
  ·
   have h3n : (Yk a0.1) = true := Jn h3
   refine X9 (!(Yx a0.2)) (fun h4 => ?_) (fun h4 => ?_)
   ·
    have h4n : (Yx a0.2) = false := Ug h4
    refine rd' Qb Js [(43, .b true)] [7] [] [] [(2, .row [.s a0.1, .h a0.2]), (5, .val (.b true)), (6, .val (.b false)), (10, .row [.s a0.1, .h a0.2]), (13, .val (.b false)), (14, .val (.b true))] (o2 (Qy (X4 (i := ((k0 : Nat) : Int)) (by omega) rfl hx0)) (o2 (Qg (cb h3n (Jo a0.1))) (o2 (Qi (show .b (!true) = .b false from rfl)) (o2 (Qy (X4 (i := ((k0 : Nat) : Int)) (by omega) rfl hx0)) (o2 (Qg (cb h4n (Wj a0.2))) (o1 (Qi (show .b (!false) = .b true from rfl)))))))) ?_
    exact ⟨rfl, Qd (by rw [h3, h4]; first | done | kernel_rfl)⟩
   ·
    have h4n : (Yx a0.2) = true := Jn h4
    refine X9 (decide (((k0 : Nat) : Int) > (0 : Int))) (fun h5 => ?_) (fun h5 => ?_)
    ·
     have h5d := of_decide_eq_true h5
     have hx6 : d[(Int.toNat (((k0 : Nat) : Int) - 1))]? = some (nth d (Int.toNat (((k0 : Nat) : Int) - 1))) := Yj (by omega)
     refine rd' Qb Js [(43, .b (!(Op.bytesLess ((nth d (Int.toNat (((k0 : Nat) : Int) - 1))).1).toList a0.1.toList)))] [7] [] [] [(2, .row [.s a0.1, .h a0.2]), (5, .val (.b true)), (6, .val (.b false)), (10, .row [.s a0.1, .h a0.2]), (13, .val (.b true)), (14, .val (.b false)), (18, .val (.b true)), (22, .val (.i (((k0 : Nat) : Int) - 1))), (23, .row [.s ((nth d (Int.toNat (((k0 : Nat) : Int) - 1))).1), .h ((nth d (Int.toNat (((k0 : Nat) : Int) - 1))).2)]), (28, .row [.s a0.1, .h a0.2])] (o2 (Qy (X4 (i := ((k0 : Nat) : Int)) (by omega) rfl hx0)) (o2 (Qg (cb h3n (Jo a0.1))) (o2 (Qi (show .b (!true) = .b false from rfl)) (o2 (Qy (X4 (i := ((k0 : Nat) : Int)) (by omega) rfl hx0)) (o2 (Qg (cb h4n (Wj a0.2))) (o2 (Qi (show .b (!true) = .b false from rfl)) (o2 (Qi (Qh h5)) (o2 (Qi (Km (IntWalk.i64_in (((k0 : Nat) : Int) - 1) (by omega)))) (o2 (Qy (X4 (i := (((k0 : Nat) : Int) - 1)) (by omega) rfl hx6)) (o1 (Qy (X4 (i := ((k0 : Nat) : Int)) (by omega) rfl hx0)))))))))))) ?_
     exact ⟨rfl, Qd (by rw [h3, h4, h5]; first | done | kernel_rfl)⟩
    ·
     have h5d := of_decide_eq_false h5
     refine rd' Qb Js [(43, .b false)] [7] [] [] [(2, .row [.s a0.1, .h a0.2]), (5, .val (.b true)), (6, .val (.b false)), (10, .row [.s a0.1, .h a0.2]), (13, .val (.b true)), (14, .val (.b false)), (18, .val (.b false))] (o2 (Qy (X4 (i := ((k0 : Nat) : Int)) (by omega) rfl hx0)) (o2 (Qg (cb h3n (Jo a0.1))) (o2 (Qi (show .b (!true) = .b false from rfl)) (o2 (Qy (X4 (i := ((k0 : Nat) : Int)) (by omega) rfl hx0)) (o2 (Qg (cb h4n (Wj a0.2))) (o2 (Qi (show .b (!true) = .b false from rfl)) (o1 (Qi (Qh h5))))))))) ?_
     exact ⟨rfl, Qd (by rw [h3, h4, h5]; first | done | kernel_rfl)⟩
  refine ck ((!(Yk a0.1)) || ((!(Yx a0.2)) || (decide (((k0 : Nat) : Int) > (0 : Int)) && (!(Op.bytesLess ((nth d (Int.toNat (((k0 : Nat) : Int) - 1))).1).toList a0.1.toList))))) (fun h7 => ?_) (fun h7 => ?_)
  ·
   refine Qa ?_
   refine rk Qb [] [43] [] [] [] (o0) ?_
   refine Qq ?_
   have hr8 : (Xv (Vj d) Wk d 0 ()) = .ret false := Jy hx0 (X8 h7 (rfl)) hI0
   exact Ze [] (congrArg (fun z => (.b z : AV)) (show Kg d = false from on_r hr8).symm)
  ·
   refine Qr ?_
   refine rk Qb [(3, .i ((k0 + 1 : Nat) : Int))] [3, 43] [] [] [(1, .val (.i ((k0 + 1 : Nat) : Int)))] (o1 (Qi (Km (Q8 k0 (by omega))))) ?_
   exact Exists.intro () (And.intro (Qd (by kernel_rfl)) (Xe hx0 (Q6 h7 (rfl)) hI0))
 ·
  refine Qa ?_
  refine Qa ?_
  refine rk Qb [(7, .b false)] [] [] [] [(2, .val (.i (d.length : Int))), (3, .val (.b false))] (o2 (Qi (Xs d)) (o1 (Qi (Qh (decide_eq_false (p := ((k0 : Nat) : Int) < (d.length : Int)) (by omega)))))) ?_
  refine ckF ?_
  refine Xt ?_
  exact Exists.intro () (And.intro (Qd (by kernel_rfl)) (Ym hk0 (rfl) hI0))
 ·
  refine Qa ?_
  refine rk Qb [(2, .b (decide ((d.length : Int) ≤ (5 : Int))))] [0, 2] [] [] [(1, .val (.i (d.length : Int)))] (o1 (Qi (Xs d))) ?_
  refine Qq ?_
  exact Ze [] (congrArg (fun z => (.b z : AV)) (show Kg d = decide ((d.length : Int) ≤ (5 : Int)) from Hk hD0 (rfl)).symm)
def Qav (x : Zt) (q0 : ByteArray) : Bool := (x.1.toList == q0.toList)
theorem impldirAt_1_a (x : Zt) (q0 : ByteArray) : ACalls Tryz.prog 187 [.a [.s x.1, .h x.2], .one (.rptr .sh [.s q0])] (.b (Qav x q0)) := by
 refine Qt (tt := tt) Qb Tryz.func187 (fn := Tryz.f187) rfl (by unfold Jr; kernel_rfl) (Nat.le_of_ble_eq_true rfl) fun w0 F0 hG => ?_
 refine Qa ?_
 refine rk Qb [(2, .p 2 0), (3, .b false)] [0] [(2, [.s x.1, .h x.2])] [] [] (o0) ?_
 refine Qa ?_
 refine rk Qb [(3, .b (x.1.toList == q0.toList))] [1, 2, 3] [] [2] [] (o0) ?_
 refine Qq ?_
 exact Ze [] (congrArg (fun z => (.b z : AV)) (show Qav x q0 = (x.1.toList == q0.toList) from rfl).symm)
def X2 (c0 : ByteArray) (k0 : Nat) (a0 : Zt) (_ : Unit) : Rd (Int) (Unit) (Unit) := (bif (Qav a0 c0) then (.ret ((k0 : Nat) : Int)) else (.next ()))
def Ys (_ : Nat) (_ : Unit) : Unit := ()
def Y1 (s_ : (List Zt)) (c0 : ByteArray) : Int := (Out.on (Xv (X2 c0) Ys s_ 0 ()) (fun _ => -1))
theorem Qcs (s_ : (List Zt)) (c0 : ByteArray) : ACalls Tryz.prog 184 [.h s_, .one (.fnr 187 [[.s c0]])] (.i (Y1 s_ c0)) := by
 refine Qt (tt := tt) Qb Tryz.func184 (fn := Tryz.f184) rfl (by unfold Jr; kernel_rfl) (Nat.le_of_ble_eq_true rfl) fun w0 F0 hG => ?_
 refine Qa ?_
 refine rk Qb [(4, .i 0)] [] [] [] [] (o0) ?_
 refine Qa ?_
 refine Qa ?_
 refine rk Qb [(7, .i (s_.length : Int)), (8, .i 0)] [] [] [] [(1, .val (.i (s_.length : Int)))] (o1 (Qi (Xs s_))) ?_
 refine wdT 0 0 .sh s_ (fun hw1 => ?_)
 have hl2 : List.length s_ ≤ 1073741824 := Qx (hw1)
 refine blk (fun (k0 : Nat) (s0 : Unit) => [(8, .i ((k0 : Nat) : Int))]) [8] (fun k0 s0 => []) [] (fun (y0 : Unit) => []) [0, 1, 7, 8] (fun y0 => []) [] (fun (k0 : Nat) (s0 : Unit) => (Xv (X2 c0) Ys s_ 0 ()) = Xv (X2 c0) Ys (List.drop k0 s_) k0 s0) (fun (y0 : Unit) => (Xv (X2 c0) Ys s_ 0 ()) = .brk y0) s_.length () (Qd (by kernel_rfl)) rfl (fun k0 s0 hk0 hI0 => ?_) (fun k0 s0 hk0 hI0 => ?_) (fun y0 hD0 => ?_)
 ·
  obtain ⟨a0, hx0⟩ := Yl (l := s_) (i := k0) hk0
  refine Qa ?_
  refine rk Qb [(9, .b true)] [] [] [] [(0, .val (.b true))] (o1 (Qi (Qh (decide_eq_true (p := ((k0 : Nat) : Int) < (s_.length : Int)) (by omega))))) ?_
  refine Qa ?_
  refine ckT ?_
  refine Qr ?_
  refine Qa ?_
  refine Xf ?_
  refine Qa ?_
  refine rk Qb [(5, .i ((k0 : Nat) : Int))] [9] [] [] [] (o0) ?_
  refine Qa ?_
  refine rk Qb [(16, .b (Qav a0 c0))] [] [] [] [(3, .row [.s a0.1, .h a0.2]), (5, .val (.b (Qav a0 c0)))] (o2 (Qy (X4 (i := ((k0 : Nat) : Int)) (by omega) rfl hx0)) (o1 (Qg (impldirAt_1_a a0 c0)))) ?_
  refine ck (Qav a0 c0) (fun h3 => ?_) (fun h3 => ?_)
  ·
   refine Qa ?_
   refine rk Qb [(4, .i ((k0 : Nat) : Int))] [4, 5, 16] [] [] [] (o0) ?_
   refine Qq ?_
   have hr4 : (Xv (X2 c0) Ys s_ 0 ()) = .ret ((k0 : Nat) : Int) := Jy hx0 (X8 h3 (rfl)) hI0
   exact Ze [] (congrArg (fun z => (.i z : AV)) (show Y1 s_ c0 = ((k0 : Nat) : Int) from on_r hr4).symm)
  ·
   refine Qr ?_
   refine rk Qb [(8, .i ((k0 + 1 : Nat) : Int))] [5, 8, 16] [] [] [(0, .val (.i ((k0 + 1 : Nat) : Int)))] (o1 (Qi (Km (Q8 k0 (by omega))))) ?_
   exact Exists.intro () (And.intro (Qd (by kernel_rfl)) (Xe hx0 (Q6 h3 (rfl)) hI0))
 ·
  refine Qa ?_
  refine rk Qb [(9, .b false)] [] [] [] [(0, .val (.b false))] (o1 (Qi (Qh (decide_eq_false (p := ((k0 : Nat) : Int) < (s_.length : Int)) (by omega))))) ?_
  refine Qa ?_
  refine ckF ?_
  refine Xt ?_
  exact Exists.intro () (And.intro (Qd (by kernel_rfl)) (Ym hk0 (rfl) hI0))
 ·
  refine Qa ?_
  refine rk Qb [(4, .i (-1))] [4] [] [] [] (o0) ?_
  refine Qq ?_
  exact Ze [] (congrArg (fun z => (.i z : AV)) (show Y1 s_ c0 = -1 from Hk hD0 (rfl)).symm)
def Xc (d : (List Zt)) (name : ByteArray) : Int := (Y1 d name)
theorem impldirAt_a (d : (List Zt)) (name : ByteArray) : ACalls Tryz.prog 137 [.h d, .s name] (.i (Xc d name)) := by
 refine Qt (tt := tt) Qb Tryz.func137 (fn := Tryz.f137) rfl (by unfold Jr; kernel_rfl) (Nat.le_of_ble_eq_true rfl) fun w0 F0 hG => ?_
 refine Qa ?_
 refine rk Qb [(3, .p 3 0), (4, .i 0)] [1] [(3, [.s name])] [] [] (o0) ?_
 refine Qa ?_
 refine rk Qb [(4, .i (Y1 d name))] [0, 3, 4] [] [3] [(2, .val (.i (Y1 d name)))] (o1 (Qg (Qcs d name))) ?_
 refine Qq ?_
 exact Ze [] (congrArg (fun z => (.i z : AV)) (show Xc d name = (Y1 d name) from rfl).symm)
def Qaw (name : ByteArray) (k0 : Nat) (a0 : Zt) (_ : Unit) : Rd (Int) (Unit) (Unit) := (bif (a0.1.toList == name.toList) then (.ret ((k0 : Nat) : Int)) else (.next ()))
def Qax (_ : Nat) (_ : Unit) : Unit := ()
def Xg (d : (List Zt)) (name : ByteArray) : Int := (Out.on (Xv (Qaw name) Qax d 0 ()) (fun _ => -1))
theorem specl11Place_a (d : (List Zt)) (name : ByteArray) : ACalls Tryz.prog 217 [.h d, .s name] (.i (Xg d name)) := by
 refine Qt (tt := tt) Qb Tryz.func217 (fn := Tryz.f217) rfl (by unfold Jr; kernel_rfl) (Nat.le_of_ble_eq_true rfl) fun w0 F0 hG => ?_
 refine Qa ?_
 refine rk Qb [(4, .i 0)] [] [] [] [] (o0) ?_
 refine Qa ?_
 refine Qa ?_
 refine rk Qb [(5, .i 0)] [] [] [] [] (o0) ?_
 refine wdT 0 0 .sh d (fun hw1 => ?_)
 have hl2 : List.length d ≤ 1073741824 := Qx (hw1)
 refine blk (fun (k0 : Nat) (s0 : Unit) => [(5, .i ((k0 : Nat) : Int))]) [5] (fun k0 s0 => []) [] (fun (y0 : Unit) => []) [0, 1, 5] (fun y0 => []) [] (fun (k0 : Nat) (s0 : Unit) => (Xv (Qaw name) Qax d 0 ()) = Xv (Qaw name) Qax (List.drop k0 d) k0 s0) (fun (y0 : Unit) => (Xv (Qaw name) Qax d 0 ()) = .brk y0) d.length () (Qd (by kernel_rfl)) rfl (fun k0 s0 hk0 hI0 => ?_) (fun k0 s0 hk0 hI0 => ?_) (fun y0 hD0 => ?_)
 ·
  obtain ⟨a0, hx0⟩ := Yl (l := d) (i := k0) hk0
  refine Qa ?_
  refine Qa ?_
  refine rk Qb [(9, .b true)] [] [] [] [(2, .val (.i (d.length : Int))), (3, .val (.b true))] (o2 (Qi (Xs d)) (o1 (Qi (Qh (decide_eq_true (p := ((k0 : Nat) : Int) < (d.length : Int)) (by omega)))))) ?_
  refine ckT ?_
  refine Qr ?_
  refine Qa ?_
  refine Xf ?_
  refine Qa ?_
  refine rk Qb [(18, .b (a0.1.toList == name.toList))] [9] [] [] [(2, .row [.s a0.1, .h a0.2])] (o1 (Qy (X4 (i := ((k0 : Nat) : Int)) (by omega) rfl hx0))) ?_
  refine ck (a0.1.toList == name.toList) (fun h3 => ?_) (fun h3 => ?_)
  ·
   refine Qa ?_
   refine rk Qb [(4, .i ((k0 : Nat) : Int))] [4, 18] [] [] [] (o0) ?_
   refine Qq ?_
   have hr4 : (Xv (Qaw name) Qax d 0 ()) = .ret ((k0 : Nat) : Int) := Jy hx0 (X8 h3 (rfl)) hI0
   exact Ze [] (congrArg (fun z => (.i z : AV)) (show Xg d name = ((k0 : Nat) : Int) from on_r hr4).symm)
  ·
   refine Qr ?_
   refine rk Qb [(5, .i ((k0 + 1 : Nat) : Int))] [5, 18] [] [] [(1, .val (.i ((k0 + 1 : Nat) : Int)))] (o1 (Qi (Km (Q8 k0 (by omega))))) ?_
   exact Exists.intro () (And.intro (Qd (by kernel_rfl)) (Xe hx0 (Q6 h3 (rfl)) hI0))
 ·
  refine Qa ?_
  refine Qa ?_
  refine rk Qb [(9, .b false)] [] [] [] [(2, .val (.i (d.length : Int))), (3, .val (.b false))] (o2 (Qi (Xs d)) (o1 (Qi (Qh (decide_eq_false (p := ((k0 : Nat) : Int) < (d.length : Int)) (by omega)))))) ?_
  refine ckF ?_
  refine Xt ?_
  exact Exists.intro () (And.intro (Qd (by kernel_rfl)) (Ym hk0 (rfl) hI0))
 ·
  refine Qa ?_
  refine rk Qb [(4, .i (-1))] [4] [] [] [] (o0) ?_
  refine Qq ?_
  exact Ze [] (congrArg (fun z => (.i z : AV)) (show Xg d name = -1 from Hk hD0 (rfl)).symm)
end Go.Proofs.YtamghcfmhfknmaaGreat
namespace Go.Proofs.YtamghcfmhfknmaaGreat
open Go.RowKit
theorem vdirs_eq (d : List Zt) : Q2 d = Kg d := by
  unfold Q2 Kg
  rw [forL_ext (f := Jv d) (g := Vj d) (e := Ks) (e' := Wk) (fun k a s => by
    unfold Jv Vj
    rw [vq_eq, vstr_eq]
    cases Yk a.1 <;> cases Yx a.2 <;> cases decide (((k : Nat) : Int) > (0 : Int)) <;> simp) (fun _ _ => rfl)]
theorem place_go (s : ByteArray) : ∀ (l : List Zt) (k : Nat), Xv (X2 s) Ys l k () = .brk () ∨ ∃ i : Nat, i < l.length ∧ Xv (X2 s) Ys l k () = .ret (((k + i : Nat)) : Int)
  | [], _ => .inl rfl
  | a :: l, k => by
    simp only [Xv, X2]
    unfold Qav
    cases (a.1.toList == s.toList) with
    | true => exact .inr ⟨0, by simp, rfl⟩
    | false =>
      simp only [cond_false]
      rcases place_go s l (k + 1) with h | ⟨i, hi, h⟩
      · exact .inl h
      · exact .inr ⟨i + 1, by simpa using hi, by rw [h, show k + 1 + i = k + (i + 1) by omega]⟩
theorem place_lt (d : List Zt) (s : ByteArray) : -1 ≤ Xc d s ∧ Xc d s < (List.length d : Int) := by
  unfold Xc Y1
  rcases place_go s d 0 with h | ⟨i, hi, h⟩
  · rw [h]; simp only [Out.on]; omega
  · rw [h]; simp only [Out.on]; omega
theorem place_ltS (d : List Zt) (s : ByteArray) : -1 ≤ Xg d s ∧ Xg d s < (List.length d : Int) := place_lt d s
end Go.Proofs.YtamghcfmhfknmaaGreat
