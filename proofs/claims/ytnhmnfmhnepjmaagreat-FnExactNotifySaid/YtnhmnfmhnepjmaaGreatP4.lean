/- Texts of this proof, put together by a program: Cka, Ckb, Nga, Ngb, Zd, Sh, Ts, Dpa, Dpb, Dpc, Dpd, Sta, Stb. -/
import Derived.Test.YtnhmnfmhnepjmaaGreatP3
import Derived.Test.YtnhmnfmhnepjmaaGreatProg
import Derived.KernelRfl
import Derived.Sort.EncStr
import Derived.Sort.Grow
import Derived.Lib.SlicesCompact
import Derived.Sort.Walk0
import Derived.Shelf.Small.Bits
import Derived.Shelf.Strconv.Itoa0
import Derived.Shelf.Sort.Plain
import Derived.Shelf.Slices.Turned
import Derived.Ground.Names2Prog
import Derived.Shelf.Slices.Clone
import Derived.Shelf.Slices.CompactI
import Derived.Shelf.Slices.CompactS
import Derived.Shelf.Slices.SearchI
import Derived.Shelf.Slices.Cells
import Derived.Shelf.Slices.In.SortNone
import Derived.Ground.SlgnProg
import Derived.Shelf.SlicesE.Equal
import Derived.Shelf.SlicesE.Compact
import Derived.Shelf.SlicesE.Clone
import Derived.Ground.SlgfProg
import Derived.Shelf.SlicesE.IndexFunc
import Derived.Shelf.SlicesE.DeleteFunc
set_option linter.unusedVariables false
set_option linter.unusedSimpArgs false
namespace Go.Proofs.YtnhmnfmhnepjmaaGreat
open Go.RowKit
open GoE (enc wide)
def tt : List (Nat × TI) := [(3, ⟨.int .i64, 1, [.i 0], []⟩),
 (4, ⟨.bool, 1, [.b false], []⟩),
 (5, ⟨.int .u8, 1, [.int .u8 0], []⟩),
 (9, ⟨.str, 1, [.s ⟨#[]⟩], []⟩),
 (25, ⟨.struct [(0, 1, false), (1, 1, false), (2, 1, false)], 3, [.e 2, .e 5, .i 0], []⟩),
 (29, ⟨.sli 3, 1, [.e 1], []⟩),
 (31, ⟨.sli 144, 1, [.e 2], []⟩),
 (32, ⟨.sli 148, 1, [.e 5], []⟩),
 (34, ⟨.struct [(0, 1, false), (1, 1, false), (2, 1, false)], 3, [.e 2, .e 5, .i 0], []⟩),
 (36, ⟨.sli 96, 1, [.e 2], []⟩),
 (45, ⟨.sli 116, 1, [.e 3], []⟩),
 (47, ⟨.struct [(0, 1, false), (1, 1, false), (2, 1, false), (3, 1, false)], 4, [.i 0, .s ⟨#[]⟩, .e 1, .e 3], []⟩),
 (54, ⟨.struct [(0, 1, false), (1, 1, false), (2, 1, false), (3, 1, false)], 4, [.i 0, .s ⟨#[]⟩, .e 1, .e 3], []⟩),
 (70, ⟨.sli 90, 1, [.e 2], []⟩),
 (90, ⟨.struct [(0, 1, false), (1, 1, false)], 2, [.s ⟨#[]⟩, .e 1], []⟩),
 (94, ⟨.sli 163, 1, [.e 7], []⟩),
 (96, ⟨.struct [(0, 1, false), (1, 1, false)], 2, [.s ⟨#[]⟩, .e 7], []⟩),
 (116, ⟨.struct [(0, 1, false), (1, 1, false), (2, 1, false)], 3, [.i 0, .e 1, .e 1], []⟩),
 (144, ⟨.struct [(0, 1, false), (1, 1, false)], 2, [.s ⟨#[]⟩, .i 0], []⟩),
 (146, ⟨.sli 221, 1, [.e 4], []⟩),
 (148, ⟨.struct [(0, 1, false), (1, 1, false), (2, 1, false), (3, 1, false), (4, 1, false)], 5, [.i 0, .i 0, .b false, .i 0, .e 4], []⟩),
 (161, ⟨.struct [(0, 1, false), (1, 1, false), (2, 1, false)], 3, [.i 0, .i 0, .s ⟨#[]⟩], [.int, .int, .str]⟩),
 (163, ⟨.struct [(0, 1, false), (1, 1, false), (2, 1, false), (3, 1, false), (4, 3, true)], 7, [.i 0, .i 0, .i 0, .s ⟨#[]⟩, .i 0, .i 0, .s ⟨#[]⟩], [.int, .int, .int, .str, .int, .int, .str]⟩),
 (202, ⟨.sli 9, 1, [.e 1], []⟩),
 (221, ⟨.struct [(0, 1, false), (1, 3, true)], 4, [.s ⟨#[]⟩, .i 0, .i 0, .s ⟨#[]⟩], []⟩),
 (224, ⟨.struct [(0, 1, false), (1, 1, false), (2, 1, false)], 3, [.s ⟨#[]⟩, .e 1, .e 1], []⟩),
 (280, ⟨.sli 4, 1, [.e 1], []⟩)]
theorem Qb : Qjf Tryz.prog tt = true := by kernel_rfl
theorem Zv : Tryz.prog.follows .mixedOrders = true := by kernel_rfl
def Xs (s_ : ByteArray) : Bool := (((ByteArray.size s_ : Int) == (1 : Int)) && (decide (U0 s_ 0 ≥ (97 : Int)) && decide (U0 s_ 0 ≤ (122 : Int))))
theorem Yo (s_ : ByteArray) : ACalls Tryz.prog 174 [.s s_] (.b (Xs s_)) := by
 refine Qn (tt := tt) Qb Tryz.func174 (fn := Tryz.f174) rfl (by unfold Z7; kernel_rfl) (Nat.le_of_ble_eq_true rfl) fun w0 F0 => ?_
 refine Qa ?_
 refine rk Qb [(2, .b false)] [] [] [] [] (o0) ?_
 refine Qa ?_
 refine jn [(2, .b (((ByteArray.size s_ : Int) == (1 : Int)) && (decide (U0 s_ 0 ≥ (97 : Int)) && decide (U0 s_ 0 ≤ (122 : Int)))))] [0, 2] [] [] ((ByteArray.size s_ : Int) == (1 : Int)) (fun h1 => ?_) (fun h1 => ?_) ?_
 ·
  have h1d := eq_of_beq h1
  refine X4 (decide (U0 s_ 0 ≥ (97 : Int))) (fun h2 => ?_) (fun h2 => ?_)
  ·
   have h2d := of_decide_eq_true h2
   refine rk Qb [(2, .b (decide (U0 s_ 0 ≤ (122 : Int))))] [0, 2] [] [] [(2, .val (.b true)), (6, .val (.b true))] (o2 (Qf (Qg h1)) (o2 (Qgg (i := 0) (n := (ByteArray.size s_)) (by omega)) (o2 (Qf (Qg h2)) (o1 (Qgg (i := 0) (n := (ByteArray.size s_)) (by omega)))))) ?_
   exact ⟨rfl, Qc (by rw [h1, h2]; first | done | kernel_rfl)⟩
  ·
   have h2d := of_decide_eq_false h2
   refine rk Qb [] [0] [] [] [(2, .val (.b true)), (6, .val (.b false))] (o2 (Qf (Qg h1)) (o2 (Qgg (i := 0) (n := (ByteArray.size s_)) (by omega)) (o1 (Qf (Qg h2))))) ?_
   exact ⟨rfl, Qc (by rw [h1, h2]; first | done | kernel_rfl)⟩
 ·
  refine rk Qb [] [0] [] [] [(2, .val (.b false))] (o1 (Qf (Qg h1))) ?_
  exact ⟨rfl, Qc (by rw [h1]; first | done | kernel_rfl)⟩
 refine Qi ?_
 exact Zb [] (congrArg (fun z => (.b z : AV)) (show Xs s_ = (((ByteArray.size s_ : Int) == (1 : Int)) && (decide (U0 s_ 0 ≥ (97 : Int)) && decide (U0 s_ 0 ≤ (122 : Int)))) from rfl).symm)
def Xd (n : Int) (low : Int) (high_ : Int) : Bool := (decide (low ≤ n) && decide (n ≤ high_))
theorem Z0 (n : Int) (low : Int) (high_ : Int) : ACalls Tryz.prog 119 [.i n, .i low, .i high_] (.b (Xd n low high_)) := by
 refine Qn (tt := tt) Qb Tryz.func119 (fn := Tryz.f119) rfl (by unfold Z7; kernel_rfl) (Nat.le_of_ble_eq_true rfl) fun w0 F0 => ?_
 refine Qa ?_
 refine rk Qb [(6, .b false)] [] [] [] [] (o0) ?_
 refine Qa ?_
 refine jn [(6, .b (decide (low ≤ n) && decide (n ≤ high_)))] [0, 1, 2, 6] [] [] (decide (low ≤ n)) (fun h1 => ?_) (fun h1 => ?_) ?_
 ·
  refine rk Qb [(6, .b (decide (n ≤ high_)))] [0, 1, 2, 6] [] [] [(2, .val (.b true))] (o1 (Qf (Qg h1))) ?_
  exact ⟨rfl, Qc (by rw [h1]; first | done | kernel_rfl)⟩
 ·
  refine rk Qb [] [0, 1, 2] [] [] [(2, .val (.b false))] (o1 (Qf (Qg h1))) ?_
  exact ⟨rfl, Qc (by rw [h1]; first | done | kernel_rfl)⟩
 refine Qi ?_
 exact Zb [] (congrArg (fun z => (.b z : AV)) (show Xd n low high_ = (decide (low ≤ n) && decide (n ≤ high_)) from rfl).symm)
def V1 (s_ : ByteArray) (k0 : Nat) (_ : Unit) : Rd (Bool) (Unit) (Unit) := (bif (decide (U0 s_ ((k0 : Nat) : Int) < (97 : Int)) || decide (U0 s_ ((k0 : Nat) : Int) > (122 : Int))) then (.ret false) else (.next ()))
def V2 (_ : Nat) (_ : Unit) : Unit := ()
def Xn (s_ : ByteArray) : Bool := (Out.on (U5 (V1 s_) V2 (Int.toNat (ByteArray.size s_ : Int)) 0 ()) (fun _ => (Xd (ByteArray.size s_ : Int) 1 6)))
theorem Z8 (s_ : ByteArray) : ACalls Tryz.prog 214 [.s s_] (.b (Xn s_)) := by
 refine Qn (tt := tt) Qb Tryz.func214 (fn := Tryz.f214) rfl (by unfold Z7; kernel_rfl) (Nat.le_of_ble_eq_true rfl) fun w0 F0 => ?_
 refine Qa ?_
 refine rk Qb [(2, .b false)] [] [] [] [] (o0) ?_
 refine Qa ?_
 refine Qa ?_
 refine rk Qb [(5, .i (ByteArray.size s_ : Int)), (6, .i 0)] [] [] [] [] (o0) ?_
 refine stT 0 0 s_ (fun hs1 => ?_)
 refine blk (fun (k0 : Nat) (s0 : Unit) => [(6, .i ((k0 : Nat) : Int))]) [6] (fun k0 s0 => []) [] (fun (y0 : Unit) => []) [5, 6] (fun y0 => []) [] (fun (k0 : Nat) (s0 : Unit) => (U5 (V1 s_) V2 (Int.toNat (ByteArray.size s_ : Int)) 0 ()) = U5 (V1 s_) V2 ((Int.toNat (ByteArray.size s_ : Int)) - k0) k0 s0) (fun (y0 : Unit) => (U5 (V1 s_) V2 (Int.toNat (ByteArray.size s_ : Int)) 0 ()) = .brk y0) (Int.toNat (ByteArray.size s_ : Int)) () (Qc (by kernel_rfl)) rfl (fun k0 s0 hk0 hI0 => ?_) (fun k0 s0 hk0 hI0 => ?_) (fun y0 hD0 => ?_)
 ·
  refine Qa ?_
  refine rk Qb [(7, .b true)] [] [] [] [(0, .val (.b true))] (o1 (Qf (Qg (decide_eq_true (p := ((k0 : Nat) : Int) < (ByteArray.size s_ : Int)) (by omega))))) ?_
  refine Qa ?_
  refine ckT ?_
  refine Qh ?_
  refine Qa ?_
  refine Q4 ?_
  refine Qa ?_
  refine rk Qb [(3, .i ((k0 : Nat) : Int))] [7] [] [] [] (o0) ?_
  refine Qa ?_
  refine jn [(18, .b (decide (U0 s_ ((k0 : Nat) : Int) < (97 : Int)) || decide (U0 s_ ((k0 : Nat) : Int) > (122 : Int))))] [3] [] [] (decide (U0 s_ ((k0 : Nat) : Int) < (97 : Int))) (fun h2 => ?_) (fun h2 => ?_) ?_
  ·
   have h2d := of_decide_eq_true h2
   refine rk Qb [(18, .b true)] [3] [] [] [(3, .val (.b true))] (o2 (Qgg (i := ((k0 : Nat) : Int)) (n := (ByteArray.size s_)) (by omega)) (o1 (Qf (Qg h2)))) ?_
   exact ⟨rfl, Qc (by rw [h2]; first | done | kernel_rfl)⟩
  ·
   have h2d := of_decide_eq_false h2
   refine rk Qb [(18, .b (decide (U0 s_ ((k0 : Nat) : Int) > (122 : Int))))] [3] [] [] [(3, .val (.b false))] (o2 (Qgg (i := ((k0 : Nat) : Int)) (n := (ByteArray.size s_)) (by omega)) (o2 (Qf (Qg h2)) (o1 (Qgg (i := ((k0 : Nat) : Int)) (n := (ByteArray.size s_)) (by omega))))) ?_
   exact ⟨rfl, Qc (by rw [h2]; first | done | kernel_rfl)⟩
  refine ck (decide (U0 s_ ((k0 : Nat) : Int) < (97 : Int)) || decide (U0 s_ ((k0 : Nat) : Int) > (122 : Int))) (fun h3 => ?_) (fun h3 => ?_)
  ·
   refine Qa ?_
   refine rk Qb [] [18] [] [] [] (o0) ?_
   refine Qi ?_
   have hr4 : (U5 (V1 s_) V2 (Int.toNat (ByteArray.size s_ : Int)) 0 ()) = .ret false := Qs3 hk0 (Yf h3 (rfl)) hI0
   exact Zb [] (congrArg (fun z => (.b z : AV)) (show Xn s_ = false from Qgl hr4).symm)
  ·
   have h3l : (decide (U0 s_ ((k0 : Nat) : Int) < (97 : Int))) = false := Qra h3
   have h3ld := of_decide_eq_false h3l
   have h3r : (decide (U0 s_ ((k0 : Nat) : Int) > (122 : Int))) = false := Qul h3
   have h3rd := of_decide_eq_false h3r
   refine Qh ?_
   refine rk Qb [(6, .i ((k0 + 1 : Nat) : Int))] [6, 18] [] [] [(0, .val (.i ((k0 + 1 : Nat) : Int)))] (o1 (Qf (Kw (Qs k0 (by omega))))) ?_
   exact Exists.intro () (And.intro (Qc (by kernel_rfl)) (V0 hk0 (Qv h3 (rfl)) hI0))
 ·
  refine Qa ?_
  refine rk Qb [(7, .b false)] [] [] [] [(0, .val (.b false))] (o1 (Qf (Qg (decide_eq_false (p := ((k0 : Nat) : Int) < (ByteArray.size s_ : Int)) (by omega))))) ?_
  refine Qa ?_
  refine ckF ?_
  refine Xj ?_
  exact Exists.intro () (And.intro (Qc (by kernel_rfl)) (Qb8 hk0 (rfl) hI0))
 ·
  refine Qa ?_
  refine rk Qb [(2, .b (Xd (ByteArray.size s_ : Int) 1 6))] [0, 2] [] [] [(2, .val (.b (Xd (ByteArray.size s_ : Int) 1 6)))] (o1 (Qe (Z0 (ByteArray.size s_ : Int) 1 6))) ?_
  refine Qi ?_
  exact Zb [] (congrArg (fun z => (.b z : AV)) (show Xn s_ = (Xd (ByteArray.size s_ : Int) 1 6) from Hk hD0 (rfl)).symm)
def Za (v : H5) : Bool := (bif (v.1 == (0 : Int)) then ((v.1 == 0) && ((v.2.1 == 0) && ((v.2.2.toList == (⟨#[]⟩ : ByteArray).toList) && true))) else (bif (v.1 == (1 : Int)) then ((Xd v.2.1 0 999) && (v.2.2.toList == (⟨#[]⟩ : ByteArray).toList)) else (bif (v.1 == (2 : Int)) then ((Xn v.2.2) && (v.2.1 == (0 : Int))) else false)))
theorem Kl (v : H5) : ACalls Tryz.prog 198 [.a [.i v.1, .i v.2.1, .s v.2.2]] (.b (Za v)) := by
 refine Qn (tt := tt) Qb Tryz.func198 (fn := Tryz.f198) rfl (by unfold Z7; kernel_rfl) (Nat.le_of_ble_eq_true rfl) fun w0 F0 => ?_
 refine Qa ?_
 refine rk Qb [(1, .p 1 0), (2, .b false)] [0] [(1, [.i v.1, .i v.2.1, .s v.2.2])] [] [] (o0) ?_
 refine Qa ?_
 refine Qa ?_
 refine rk Qb [(4, .i v.1)] [] [] [] [] (o0) ?_
 refine Q4 ?_
 refine Qa ?_
 refine rk Qb [(5, .b (v.1 == (0 : Int)))] [] [] [] [] (o0) ?_
 refine ck (v.1 == (0 : Int)) (fun h1 => ?_) (fun h1 => ?_)
 ·
  refine Qa ?_
  refine rk Qb [(2, .b ((v.1 == 0) && ((v.2.1 == 0) && ((v.2.2.toList == (⟨#[]⟩ : ByteArray).toList) && true))))] [1, 2, 4, 5] [] [1] [] (o0) ?_
  refine Qi ?_
  exact Zb [] (congrArg (fun z => (.b z : AV)) (show Za v = ((v.1 == 0) && ((v.2.1 == 0) && ((v.2.2.toList == (⟨#[]⟩ : ByteArray).toList) && true))) from Yf h1 (rfl)).symm)
 ·
  refine Qa ?_
  refine rk Qb [(10, .b (v.1 == (1 : Int)))] [5] [] [] [] (o0) ?_
  refine ck (v.1 == (1 : Int)) (fun h2 => ?_) (fun h2 => ?_)
  ·
   refine Qa ?_
   refine jn [(2, .b ((Xd v.2.1 0 999) && (v.2.2.toList == (⟨#[]⟩ : ByteArray).toList)))] [1, 2, 4, 10] [] [1] (Xd v.2.1 0 999) (fun h3 => ?_) (fun h3 => ?_) ?_
   ·
    refine rk Qb [(2, .b (v.2.2.toList == (⟨#[]⟩ : ByteArray).toList))] [1, 2, 4, 10] [] [1] [(2, .val (.b true))] (o1 (Qe (cb h3 (Z0 v.2.1 0 999)))) ?_
    exact ⟨rfl, Qc (by rw [h3]; first | done | kernel_rfl)⟩
   ·
    refine rk Qb [] [1, 4, 10] [] [1] [(2, .val (.b false))] (o1 (Qe (cb h3 (Z0 v.2.1 0 999)))) ?_
    exact ⟨rfl, Qc (by rw [h3]; first | done | kernel_rfl)⟩
   refine Qi ?_
   exact Zb [] (congrArg (fun z => (.b z : AV)) (show Za v = ((Xd v.2.1 0 999) && (v.2.2.toList == (⟨#[]⟩ : ByteArray).toList)) from Qv h1 (Yf h2 (rfl))).symm)
  ·
   refine Qa ?_
   refine rk Qb [(20, .b (v.1 == (2 : Int)))] [4, 10] [] [] [] (o0) ?_
   refine ck (v.1 == (2 : Int)) (fun h4 => ?_) (fun h4 => ?_)
   ·
    refine Qa ?_
    refine jn [(2, .b ((Xn v.2.2) && (v.2.1 == (0 : Int))))] [1, 2, 20] [] [1] (Xn v.2.2) (fun h5 => ?_) (fun h5 => ?_) ?_
    ·
     refine rk Qb [(2, .b (v.2.1 == (0 : Int)))] [1, 2, 20] [] [1] [(2, .val (.b true))] (o1 (Qe (cb h5 (Z8 v.2.2)))) ?_
     exact ⟨rfl, Qc (by rw [h5]; first | done | kernel_rfl)⟩
    ·
     refine rk Qb [] [1, 20] [] [1] [(2, .val (.b false))] (o1 (Qe (cb h5 (Z8 v.2.2)))) ?_
     exact ⟨rfl, Qc (by rw [h5]; first | done | kernel_rfl)⟩
    refine Qi ?_
    exact Zb [] (congrArg (fun z => (.b z : AV)) (show Za v = ((Xn v.2.2) && (v.2.1 == (0 : Int))) from Qv h1 (Qv h2 (Yf h4 (rfl)))).symm)
   ·
    refine Qh ?_
    refine Qa ?_
    refine rk Qb [] [1, 20] [] [1] [] (o0) ?_
    refine Qi ?_
    exact Zb [] (congrArg (fun z => (.b z : AV)) (show Za v = false from Qv h1 (Qv h2 (Qv h4 (rfl)))).symm)
def X5 (n : Yq) (at_ : Int) : Bool := (bif (n.1 == (1 : Int)) then ((n.1 == n.1) && ((n.2.1 == 0) && ((n.2.2.1 == 0) && ((n.2.2.2.1.toList == (⟨#[]⟩ : ByteArray).toList) && ((n.2.2.2.2.1 == 0) && ((n.2.2.2.2.2.1 == 0) && ((n.2.2.2.2.2.2.toList == (⟨#[]⟩ : ByteArray).toList) && true))))))) else (bif (n.1 == (2 : Int)) then (((n.1 == n.1) && ((n.2.1 == 0) && ((n.2.2.1 == 0) && ((n.2.2.2.1.toList == n.2.2.2.1.toList) && ((n.2.2.2.2.1 == 0) && ((n.2.2.2.2.2.1 == 0) && ((n.2.2.2.2.2.2.toList == (⟨#[]⟩ : ByteArray).toList) && true))))))) && (Xs n.2.2.2.1)) else (bif (bif (n.1 == (3 : Int)) then (n.1 == (3 : Int)) else (n.1 == (4 : Int))) then (((n.1 == n.1) && ((n.2.1 == 0) && ((n.2.2.1 == 0) && ((n.2.2.2.1.toList == n.2.2.2.1.toList) && ((n.2.2.2.2.1 == n.2.2.2.2.1) && ((n.2.2.2.2.2.1 == n.2.2.2.2.2.1) && ((n.2.2.2.2.2.2.toList == n.2.2.2.2.2.2.toList) && true))))))) && ((Xs n.2.2.2.1) && ((Za n.2.2.2.2) && ((n.2.2.2.2.1 != (0 : Int)) && ((n.1 == (3 : Int)) || (n.2.2.2.2.1 == (1 : Int))))))) else (bif (n.1 == (5 : Int)) then (((n.1 == n.1) && ((n.2.1 == n.2.1) && ((n.2.2.1 == 0) && ((n.2.2.2.1.toList == (⟨#[]⟩ : ByteArray).toList) && ((n.2.2.2.2.1 == 0) && ((n.2.2.2.2.2.1 == 0) && ((n.2.2.2.2.2.2.toList == (⟨#[]⟩ : ByteArray).toList) && true))))))) && (decide (at_ > (0 : Int)) && (Xd n.2.1 0 (IntKind.i64.wrap (at_ - 1))))) else (bif (bif (n.1 == (6 : Int)) then (n.1 == (6 : Int)) else (n.1 == (7 : Int))) then (((n.1 == n.1) && ((n.2.1 == n.2.1) && ((n.2.2.1 == n.2.2.1) && ((n.2.2.2.1.toList == (⟨#[]⟩ : ByteArray).toList) && ((n.2.2.2.2.1 == 0) && ((n.2.2.2.2.2.1 == 0) && ((n.2.2.2.2.2.2.toList == (⟨#[]⟩ : ByteArray).toList) && true))))))) && (decide (at_ > (0 : Int)) && ((Xd n.2.1 0 (IntKind.i64.wrap (at_ - 1))) && (Xd n.2.2.1 0 (IntKind.i64.wrap (at_ - 1)))))) else (bif (n.1 == (8 : Int)) then (((n.1 == n.1) && ((n.2.1 == 0) && ((n.2.2.1 == 0) && ((n.2.2.2.1.toList == n.2.2.2.1.toList) && ((n.2.2.2.2.1 == 0) && ((n.2.2.2.2.2.1 == 0) && ((n.2.2.2.2.2.2.toList == (⟨#[]⟩ : ByteArray).toList) && true))))))) && (Xn n.2.2.2.1)) else (bif (n.1 == (9 : Int)) then (((n.1 == n.1) && ((n.2.1 == 0) && ((n.2.2.1 == 0) && ((n.2.2.2.1.toList == n.2.2.2.1.toList) && ((n.2.2.2.2.1 == 0) && ((n.2.2.2.2.2.1 == 0) && ((n.2.2.2.2.2.2.toList == (⟨#[]⟩ : ByteArray).toList) && true))))))) && (Xn n.2.2.2.1)) else false)))))))
theorem Qbe (n : Yq) (at_ : Int) : ACalls Tryz.prog 223 [.a [.i n.1, .i n.2.1, .i n.2.2.1, .s n.2.2.2.1, .i n.2.2.2.2.1, .i n.2.2.2.2.2.1, .s n.2.2.2.2.2.2], .i at_] (.b (X5 n at_)) := by
 refine Qn (tt := tt) Qb Tryz.func223 (fn := Tryz.f223) rfl (by unfold Z7; kernel_rfl) (Nat.le_of_ble_eq_true rfl) fun w0 F0 => ?_
 refine Qa ?_
 refine rk Qb [(2, .p 2 0), (4, .b false)] [0] [(2, [.i n.1, .i n.2.1, .i n.2.2.1, .s n.2.2.2.1, .i n.2.2.2.2.1, .i n.2.2.2.2.2.1, .s n.2.2.2.2.2.2])] [] [] (o0) ?_
 refine Qa ?_
 refine rk Qb [(5, .p 5 0)] [] [(5, [.i n.1, .i 0, .i 0, .s ⟨#[]⟩, .i 0, .i 0, .s ⟨#[]⟩])] [] [] (o0) ?_
 refine Qa ?_
 refine Qa ?_
 refine rk Qb [(10, .i n.1)] [] [] [] [] (o0) ?_
 refine Q4 ?_
 refine Qa ?_
 refine rk Qb [(11, .b (n.1 == (1 : Int)))] [] [] [] [] (o0) ?_
 refine ck (n.1 == (1 : Int)) (fun h1 => ?_) (fun h1 => ?_)
 ·
  refine Qh ?_
  refine Qa ?_
  refine rk Qb [(4, .b ((n.1 == n.1) && ((n.2.1 == 0) && ((n.2.2.1 == 0) && ((n.2.2.2.1.toList == (⟨#[]⟩ : ByteArray).toList) && ((n.2.2.2.2.1 == 0) && ((n.2.2.2.2.2.1 == 0) && ((n.2.2.2.2.2.2.toList == (⟨#[]⟩ : ByteArray).toList) && true))))))))] [1, 2, 4, 5, 10, 11] [] [2, 5] [] (o0) ?_
  refine Qi ?_
  exact Zb [] (congrArg (fun z => (.b z : AV)) (show X5 n at_ = ((n.1 == n.1) && ((n.2.1 == 0) && ((n.2.2.1 == 0) && ((n.2.2.2.1.toList == (⟨#[]⟩ : ByteArray).toList) && ((n.2.2.2.2.1 == 0) && ((n.2.2.2.2.2.1 == 0) && ((n.2.2.2.2.2.2.toList == (⟨#[]⟩ : ByteArray).toList) && true))))))) from Yf h1 (rfl)).symm)
 ·
  refine Qa ?_
  refine rk Qb [(13, .b (n.1 == (2 : Int)))] [11] [] [] [] (o0) ?_
  refine ck (n.1 == (2 : Int)) (fun h2 => ?_) (fun h2 => ?_)
  ·
   refine Qa ?_
   refine rk Qb [] [1, 10, 13] [(5, [.i n.1, .i 0, .i 0, .s n.2.2.2.1, .i 0, .i 0, .s ⟨#[]⟩])] [5] [] (o0) ?_
   refine Qa ?_
   refine jn [(4, .b (((n.1 == n.1) && ((n.2.1 == 0) && ((n.2.2.1 == 0) && ((n.2.2.2.1.toList == n.2.2.2.1.toList) && ((n.2.2.2.2.1 == 0) && ((n.2.2.2.2.2.1 == 0) && ((n.2.2.2.2.2.2.toList == (⟨#[]⟩ : ByteArray).toList) && true))))))) && (Xs n.2.2.2.1)))] [4] [] [] ((n.1 == n.1) && ((n.2.1 == 0) && ((n.2.2.1 == 0) && ((n.2.2.2.1.toList == n.2.2.2.1.toList) && ((n.2.2.2.2.1 == 0) && ((n.2.2.2.2.2.1 == 0) && ((n.2.2.2.2.2.2.toList == (⟨#[]⟩ : ByteArray).toList) && true))))))) (fun h3 => ?_) (fun h3 => ?_) ?_
   ·
    refine rk Qb [(4, .b (Xs n.2.2.2.1))] [4] [] [] [(2, .val (.b true)), (6, .val (.b (Xs n.2.2.2.1)))] (o2 (Qf (Qg h3)) (o1 (Qe (Yo n.2.2.2.1)))) ?_
    exact ⟨rfl, Qc (by rw [h3]; first | done | kernel_rfl)⟩
   ·
    refine rk Qb [] [] [] [] [(2, .val (.b false))] (o1 (Qf (Qg h3))) ?_
    exact ⟨rfl, Qc (by rw [h3]; first | done | kernel_rfl)⟩
   refine Qi ?_
   exact Zb [] (congrArg (fun z => (.b z : AV)) (show X5 n at_ = (((n.1 == n.1) && ((n.2.1 == 0) && ((n.2.2.1 == 0) && ((n.2.2.2.1.toList == n.2.2.2.1.toList) && ((n.2.2.2.2.1 == 0) && ((n.2.2.2.2.2.1 == 0) && ((n.2.2.2.2.2.2.toList == (⟨#[]⟩ : ByteArray).toList) && true))))))) && (Xs n.2.2.2.1)) from Qv h1 (Yf h2 (rfl))).symm)
  ·
   refine Qa ?_
   refine Qa ?_
   refine rk Qb [(26, .b (n.1 == (3 : Int)))] [13] [] [] [] (o0) ?_
   refine jn [(26, .b (bif (n.1 == (3 : Int)) then (n.1 == (3 : Int)) else (n.1 == (4 : Int))))] [26] [] [] (n.1 == (3 : Int)) (fun h4 => ?_) (fun h4 => ?_) ?_
   ·
    refine ckt h4 ?_
    refine Qh ?_
    exact ⟨rfl, Qc (by rw [h4]; first | done | kernel_rfl)⟩
   ·
    refine ckf h4 ?_
    refine rk Qb [(26, .b (n.1 == (4 : Int)))] [26] [] [] [] (o0) ?_
    exact ⟨rfl, Qc (by rw [h4]; first | done | kernel_rfl)⟩
   refine ck (bif (n.1 == (3 : Int)) then (n.1 == (3 : Int)) else (n.1 == (4 : Int))) (fun h5 => ?_) (fun h5 => ?_)
   ·
    refine Qa ?_
    refine rd' Qb Zv [] [1, 10, 26] [(5, [.i n.1, .i 0, .i 0, .s n.2.2.2.1, .i n.2.2.2.2.1, .i n.2.2.2.2.2.1, .s n.2.2.2.2.2.2])] [5] [] (o0) ?_
    refine Qa ?_
    refine jn [(4, .b (((n.1 == n.1) && ((n.2.1 == 0) && ((n.2.2.1 == 0) && ((n.2.2.2.1.toList == n.2.2.2.1.toList) && ((n.2.2.2.2.1 == n.2.2.2.2.1) && ((n.2.2.2.2.2.1 == n.2.2.2.2.2.1) && ((n.2.2.2.2.2.2.toList == n.2.2.2.2.2.2.toList) && true))))))) && ((Xs n.2.2.2.1) && ((Za n.2.2.2.2) && ((n.2.2.2.2.1 != (0 : Int)) && ((n.1 == (3 : Int)) || (n.2.2.2.2.1 == (1 : Int))))))))] [4] [] [] ((n.1 == n.1) && ((n.2.1 == 0) && ((n.2.2.1 == 0) && ((n.2.2.2.1.toList == n.2.2.2.1.toList) && ((n.2.2.2.2.1 == n.2.2.2.2.1) && ((n.2.2.2.2.2.1 == n.2.2.2.2.2.1) && ((n.2.2.2.2.2.2.toList == n.2.2.2.2.2.2.toList) && true))))))) (fun h6 => ?_) (fun h6 => ?_) ?_
    ·
     refine X4 (Xs n.2.2.2.1) (fun h7 => ?_) (fun h7 => ?_)
     ·
      refine X4 (Za n.2.2.2.2) (fun h8 => ?_) (fun h8 => ?_)
      ·
       refine X4 (n.2.2.2.2.1 != (0 : Int)) (fun h9 => ?_) (fun h9 => ?_)
       ·
        refine X4 (n.1 == (3 : Int)) (fun h10 => ?_) (fun h10 => ?_)
        ·
         refine rk Qb [(4, .b true)] [4] [] [] [(2, .val (.b true)), (6, .val (.b true)), (11, .val (.b true)), (17, .val (.b true)), (22, .val (.b true))] (o2 (Qf (Qg h6)) (o2 (Qe (cb h7 (Yo n.2.2.2.1))) (o2 (Qe (cb h8 (Kl n.2.2.2.2))) (o2 (Qf (Qg h9)) (o1 (Qf (Qg h10))))))) ?_
         exact ⟨rfl, Qc (by rw [h6, h7, h8, h9, h10]; first | done | kernel_rfl)⟩
        ·
         refine rk Qb [(4, .b (n.2.2.2.2.1 == (1 : Int)))] [4] [] [] [(2, .val (.b true)), (6, .val (.b true)), (11, .val (.b true)), (17, .val (.b true)), (22, .val (.b false))] (o2 (Qf (Qg h6)) (o2 (Qe (cb h7 (Yo n.2.2.2.1))) (o2 (Qe (cb h8 (Kl n.2.2.2.2))) (o2 (Qf (Qg h9)) (o1 (Qf (Qg h10))))))) ?_
         exact ⟨rfl, Qc (by rw [h6, h7, h8, h9, h10]; first | done | kernel_rfl)⟩
       ·
        refine rk Qb [] [] [] [] [(2, .val (.b true)), (6, .val (.b true)), (11, .val (.b true)), (17, .val (.b false))] (o2 (Qf (Qg h6)) (o2 (Qe (cb h7 (Yo n.2.2.2.1))) (o2 (Qe (cb h8 (Kl n.2.2.2.2))) (o1 (Qf (Qg h9)))))) ?_
        exact ⟨rfl, Qc (by rw [h6, h7, h8, h9]; first | done | kernel_rfl)⟩
      ·
       refine rk Qb [] [] [] [] [(2, .val (.b true)), (6, .val (.b true)), (11, .val (.b false))] (o2 (Qf (Qg h6)) (o2 (Qe (cb h7 (Yo n.2.2.2.1))) (o1 (Qe (cb h8 (Kl n.2.2.2.2)))))) ?_
       exact ⟨rfl, Qc (by rw [h6, h7, h8]; first | done | kernel_rfl)⟩
     ·
      refine rk Qb [] [] [] [] [(2, .val (.b true)), (6, .val (.b false))] (o2 (Qf (Qg h6)) (o1 (Qe (cb h7 (Yo n.2.2.2.1))))) ?_
      exact ⟨rfl, Qc (by rw [h6, h7]; first | done | kernel_rfl)⟩
    ·
     refine rk Qb [] [] [] [] [(2, .val (.b false))] (o1 (Qf (Qg h6))) ?_
     exact ⟨rfl, Qc (by rw [h6]; first | done | kernel_rfl)⟩
    refine Qi ?_
    exact Zb [] (congrArg (fun z => (.b z : AV)) (show X5 n at_ = (((n.1 == n.1) && ((n.2.1 == 0) && ((n.2.2.1 == 0) && ((n.2.2.2.1.toList == n.2.2.2.1.toList) && ((n.2.2.2.2.1 == n.2.2.2.2.1) && ((n.2.2.2.2.2.1 == n.2.2.2.2.2.1) && ((n.2.2.2.2.2.2.toList == n.2.2.2.2.2.2.toList) && true))))))) && ((Xs n.2.2.2.1) && ((Za n.2.2.2.2) && ((n.2.2.2.2.1 != (0 : Int)) && ((n.1 == (3 : Int)) || (n.2.2.2.2.1 == (1 : Int))))))) from Qv h1 (Qv h2 (Yf h5 (rfl)))).symm)
   ·
    refine Qa ?_
    refine rk Qb [(65, .b (n.1 == (5 : Int)))] [26] [] [] [] (o0) ?_
    refine ck (n.1 == (5 : Int)) (fun h11 => ?_) (fun h11 => ?_)
    ·
     refine Qa ?_
     refine rk Qb [] [10, 65] [(5, [.i n.1, .i n.2.1, .i 0, .s ⟨#[]⟩, .i 0, .i 0, .s ⟨#[]⟩])] [5] [] (o0) ?_
     refine Qa ?_
     refine jn [(4, .b (((n.1 == n.1) && ((n.2.1 == n.2.1) && ((n.2.2.1 == 0) && ((n.2.2.2.1.toList == (⟨#[]⟩ : ByteArray).toList) && ((n.2.2.2.2.1 == 0) && ((n.2.2.2.2.2.1 == 0) && ((n.2.2.2.2.2.2.toList == (⟨#[]⟩ : ByteArray).toList) && true))))))) && (decide (at_ > (0 : Int)) && (Xd n.2.1 0 (IntKind.i64.wrap (at_ - 1))))))] [1, 4] [] [] ((n.1 == n.1) && ((n.2.1 == n.2.1) && ((n.2.2.1 == 0) && ((n.2.2.2.1.toList == (⟨#[]⟩ : ByteArray).toList) && ((n.2.2.2.2.1 == 0) && ((n.2.2.2.2.2.1 == 0) && ((n.2.2.2.2.2.2.toList == (⟨#[]⟩ : ByteArray).toList) && true))))))) (fun h12 => ?_) (fun h12 => ?_) ?_
     ·
      refine X4 (decide (at_ > (0 : Int))) (fun h13 => ?_) (fun h13 => ?_)
      ·
       refine rk Qb [(4, .b (Xd n.2.1 0 (IntKind.i64.wrap (at_ - 1))))] [1, 4] [] [] [(2, .val (.b true)), (5, .val (.b true)), (12, .val (.b (Xd n.2.1 0 (IntKind.i64.wrap (at_ - 1)))))] (o2 (Qf (Qg h12)) (o2 (Qf (Qg h13)) (o1 (Qe (Z0 n.2.1 0 (IntKind.i64.wrap (at_ - 1))))))) ?_
       exact ⟨rfl, Qc (by rw [h12, h13]; first | done | kernel_rfl)⟩
      ·
       refine rk Qb [] [1] [] [] [(2, .val (.b true)), (5, .val (.b false))] (o2 (Qf (Qg h12)) (o1 (Qf (Qg h13)))) ?_
       exact ⟨rfl, Qc (by rw [h12, h13]; first | done | kernel_rfl)⟩
     ·
      refine rk Qb [] [1] [] [] [(2, .val (.b false))] (o1 (Qf (Qg h12))) ?_
      exact ⟨rfl, Qc (by rw [h12]; first | done | kernel_rfl)⟩
     refine Qi ?_
     exact Zb [] (congrArg (fun z => (.b z : AV)) (show X5 n at_ = (((n.1 == n.1) && ((n.2.1 == n.2.1) && ((n.2.2.1 == 0) && ((n.2.2.2.1.toList == (⟨#[]⟩ : ByteArray).toList) && ((n.2.2.2.2.1 == 0) && ((n.2.2.2.2.2.1 == 0) && ((n.2.2.2.2.2.2.toList == (⟨#[]⟩ : ByteArray).toList) && true))))))) && (decide (at_ > (0 : Int)) && (Xd n.2.1 0 (IntKind.i64.wrap (at_ - 1))))) from Qv h1 (Qv h2 (Qv h5 (Yf h11 (rfl))))).symm)
    ·
     refine Qa ?_
     refine Qa ?_
     refine rk Qb [(84, .b (n.1 == (6 : Int)))] [65] [] [] [] (o0) ?_
     refine jn [(84, .b (bif (n.1 == (6 : Int)) then (n.1 == (6 : Int)) else (n.1 == (7 : Int))))] [84] [] [] (n.1 == (6 : Int)) (fun h14 => ?_) (fun h14 => ?_) ?_
     ·
      refine ckt h14 ?_
      refine Qh ?_
      exact ⟨rfl, Qc (by rw [h14]; first | done | kernel_rfl)⟩
     ·
      refine ckf h14 ?_
      refine rk Qb [(84, .b (n.1 == (7 : Int)))] [84] [] [] [] (o0) ?_
      exact ⟨rfl, Qc (by rw [h14]; first | done | kernel_rfl)⟩
     refine ck (bif (n.1 == (6 : Int)) then (n.1 == (6 : Int)) else (n.1 == (7 : Int))) (fun h15 => ?_) (fun h15 => ?_)
     ·
      refine Qa ?_
      refine rd' Qb Zv [] [10, 84] [(5, [.i n.1, .i n.2.1, .i n.2.2.1, .s ⟨#[]⟩, .i 0, .i 0, .s ⟨#[]⟩])] [5] [] (o0) ?_
      refine Qa ?_
      refine jn [(4, .b (((n.1 == n.1) && ((n.2.1 == n.2.1) && ((n.2.2.1 == n.2.2.1) && ((n.2.2.2.1.toList == (⟨#[]⟩ : ByteArray).toList) && ((n.2.2.2.2.1 == 0) && ((n.2.2.2.2.2.1 == 0) && ((n.2.2.2.2.2.2.toList == (⟨#[]⟩ : ByteArray).toList) && true))))))) && (decide (at_ > (0 : Int)) && ((Xd n.2.1 0 (IntKind.i64.wrap (at_ - 1))) && (Xd n.2.2.1 0 (IntKind.i64.wrap (at_ - 1)))))))] [1, 4] [] [] ((n.1 == n.1) && ((n.2.1 == n.2.1) && ((n.2.2.1 == n.2.2.1) && ((n.2.2.2.1.toList == (⟨#[]⟩ : ByteArray).toList) && ((n.2.2.2.2.1 == 0) && ((n.2.2.2.2.2.1 == 0) && ((n.2.2.2.2.2.2.toList == (⟨#[]⟩ : ByteArray).toList) && true))))))) (fun h16 => ?_) (fun h16 => ?_) ?_
      ·
       refine X4 (decide (at_ > (0 : Int))) (fun h17 => ?_) (fun h17 => ?_)
       ·
        refine X4 (Xd n.2.1 0 (IntKind.i64.wrap (at_ - 1))) (fun h18 => ?_) (fun h18 => ?_)
        ·
         refine rk Qb [(4, .b (Xd n.2.2.1 0 (IntKind.i64.wrap (at_ - 1))))] [1, 4] [] [] [(2, .val (.b true)), (5, .val (.b true)), (12, .val (.b true)), (19, .val (.b (Xd n.2.2.1 0 (IntKind.i64.wrap (at_ - 1)))))] (o2 (Qf (Qg h16)) (o2 (Qf (Qg h17)) (o2 (Qe (cb h18 (Z0 n.2.1 0 (IntKind.i64.wrap (at_ - 1))))) (o1 (Qe (Z0 n.2.2.1 0 (IntKind.i64.wrap (at_ - 1)))))))) ?_
         exact ⟨rfl, Qc (by rw [h16, h17, h18]; first | done | kernel_rfl)⟩
        ·
         refine rk Qb [] [1] [] [] [(2, .val (.b true)), (5, .val (.b true)), (12, .val (.b false))] (o2 (Qf (Qg h16)) (o2 (Qf (Qg h17)) (o1 (Qe (cb h18 (Z0 n.2.1 0 (IntKind.i64.wrap (at_ - 1)))))))) ?_
         exact ⟨rfl, Qc (by rw [h16, h17, h18]; first | done | kernel_rfl)⟩
       ·
        refine rk Qb [] [1] [] [] [(2, .val (.b true)), (5, .val (.b false))] (o2 (Qf (Qg h16)) (o1 (Qf (Qg h17)))) ?_
        exact ⟨rfl, Qc (by rw [h16, h17]; first | done | kernel_rfl)⟩
      ·
       refine rk Qb [] [1] [] [] [(2, .val (.b false))] (o1 (Qf (Qg h16))) ?_
       exact ⟨rfl, Qc (by rw [h16]; first | done | kernel_rfl)⟩
      refine Qi ?_
      exact Zb [] (congrArg (fun z => (.b z : AV)) (show X5 n at_ = (((n.1 == n.1) && ((n.2.1 == n.2.1) && ((n.2.2.1 == n.2.2.1) && ((n.2.2.2.1.toList == (⟨#[]⟩ : ByteArray).toList) && ((n.2.2.2.2.1 == 0) && ((n.2.2.2.2.2.1 == 0) && ((n.2.2.2.2.2.2.toList == (⟨#[]⟩ : ByteArray).toList) && true))))))) && (decide (at_ > (0 : Int)) && ((Xd n.2.1 0 (IntKind.i64.wrap (at_ - 1))) && (Xd n.2.2.1 0 (IntKind.i64.wrap (at_ - 1)))))) from Qv h1 (Qv h2 (Qv h5 (Qv h11 (Yf h15 (rfl)))))).symm)
     ·
      refine Qa ?_
      refine Qa ?_
      refine rk Qb [(114, .b (n.1 == (8 : Int)))] [1, 84] [] [] [] (o0) ?_
      refine ck (n.1 == (8 : Int)) (fun h19 => ?_) (fun h19 => ?_)
      ·
       refine Qh ?_
       refine ckt h19 ?_
       refine Qa ?_
       refine rk Qb [] [10, 114] [(5, [.i n.1, .i 0, .i 0, .s n.2.2.2.1, .i 0, .i 0, .s ⟨#[]⟩])] [5] [] (o0) ?_
       refine Qa ?_
       refine jn [(4, .b (((n.1 == n.1) && ((n.2.1 == 0) && ((n.2.2.1 == 0) && ((n.2.2.2.1.toList == n.2.2.2.1.toList) && ((n.2.2.2.2.1 == 0) && ((n.2.2.2.2.2.1 == 0) && ((n.2.2.2.2.2.2.toList == (⟨#[]⟩ : ByteArray).toList) && true))))))) && (Xn n.2.2.2.1)))] [4] [] [] ((n.1 == n.1) && ((n.2.1 == 0) && ((n.2.2.1 == 0) && ((n.2.2.2.1.toList == n.2.2.2.1.toList) && ((n.2.2.2.2.1 == 0) && ((n.2.2.2.2.2.1 == 0) && ((n.2.2.2.2.2.2.toList == (⟨#[]⟩ : ByteArray).toList) && true))))))) (fun h20 => ?_) (fun h20 => ?_) ?_
       ·
        refine rk Qb [(4, .b (Xn n.2.2.2.1))] [4] [] [] [(2, .val (.b true)), (6, .val (.b (Xn n.2.2.2.1)))] (o2 (Qf (Qg h20)) (o1 (Qe (Z8 n.2.2.2.1)))) ?_
        exact ⟨rfl, Qc (by rw [h20]; first | done | kernel_rfl)⟩
       ·
        refine rk Qb [] [] [] [] [(2, .val (.b false))] (o1 (Qf (Qg h20))) ?_
        exact ⟨rfl, Qc (by rw [h20]; first | done | kernel_rfl)⟩
       refine Qi ?_
       exact Zb [] (congrArg (fun z => (.b z : AV)) (show X5 n at_ = (((n.1 == n.1) && ((n.2.1 == 0) && ((n.2.2.1 == 0) && ((n.2.2.2.1.toList == n.2.2.2.1.toList) && ((n.2.2.2.2.1 == 0) && ((n.2.2.2.2.2.1 == 0) && ((n.2.2.2.2.2.2.toList == (⟨#[]⟩ : ByteArray).toList) && true))))))) && (Xn n.2.2.2.1)) from Qv h1 (Qv h2 (Qv h5 (Qv h11 (Qv h15 (Yf h19 (rfl))))))).symm)
      ·
       refine rk Qb [(114, .b (n.1 == (9 : Int)))] [10, 114] [] [] [] (o0) ?_
       refine ck (n.1 == (9 : Int)) (fun h21 => ?_) (fun h21 => ?_)
       ·
        refine Qa ?_
        refine rk Qb [] [114] [(5, [.i n.1, .i 0, .i 0, .s n.2.2.2.1, .i 0, .i 0, .s ⟨#[]⟩])] [5] [] (o0) ?_
        refine Qa ?_
        refine jn [(4, .b (((n.1 == n.1) && ((n.2.1 == 0) && ((n.2.2.1 == 0) && ((n.2.2.2.1.toList == n.2.2.2.1.toList) && ((n.2.2.2.2.1 == 0) && ((n.2.2.2.2.2.1 == 0) && ((n.2.2.2.2.2.2.toList == (⟨#[]⟩ : ByteArray).toList) && true))))))) && (Xn n.2.2.2.1)))] [4] [] [] ((n.1 == n.1) && ((n.2.1 == 0) && ((n.2.2.1 == 0) && ((n.2.2.2.1.toList == n.2.2.2.1.toList) && ((n.2.2.2.2.1 == 0) && ((n.2.2.2.2.2.1 == 0) && ((n.2.2.2.2.2.2.toList == (⟨#[]⟩ : ByteArray).toList) && true))))))) (fun h22 => ?_) (fun h22 => ?_) ?_
        ·
         refine rk Qb [(4, .b (Xn n.2.2.2.1))] [4] [] [] [(2, .val (.b true)), (6, .val (.b (Xn n.2.2.2.1)))] (o2 (Qf (Qg h22)) (o1 (Qe (Z8 n.2.2.2.1)))) ?_
         exact ⟨rfl, Qc (by rw [h22]; first | done | kernel_rfl)⟩
        ·
         refine rk Qb [] [] [] [] [(2, .val (.b false))] (o1 (Qf (Qg h22))) ?_
         exact ⟨rfl, Qc (by rw [h22]; first | done | kernel_rfl)⟩
        refine Qi ?_
        exact Zb [] (congrArg (fun z => (.b z : AV)) (show X5 n at_ = (((n.1 == n.1) && ((n.2.1 == 0) && ((n.2.2.1 == 0) && ((n.2.2.2.1.toList == n.2.2.2.1.toList) && ((n.2.2.2.2.1 == 0) && ((n.2.2.2.2.2.1 == 0) && ((n.2.2.2.2.2.2.toList == (⟨#[]⟩ : ByteArray).toList) && true))))))) && (Xn n.2.2.2.1)) from Qv h1 (Qv h2 (Qv h5 (Qv h11 (Qv h15 (Qv h19 (Yf h21 (rfl)))))))).symm)
       ·
        refine Qa ?_
        refine rk Qb [] [114] [] [] [] (o0) ?_
        refine Qi ?_
        exact Zb [] (congrArg (fun z => (.b z : AV)) (show X5 n at_ = false from Qv h1 (Qv h2 (Qv h5 (Qv h11 (Qv h15 (Qv h19 (Qv h21 (rfl)))))))).symm)
def Zc (at_ : Int) (_ : Nat) (a0 : Yq) (s0 : Int) : Rd (Int) (Int) (Int) := (bif ((a0.2.1 == at_) && (((a0.1 == (6 : Int)) || (a0.1 == (7 : Int))) || (a0.1 == (5 : Int)))) then (bif ((a0.2.2.1 == at_) && ((a0.1 == (6 : Int)) || (a0.1 == (7 : Int)))) then (.next (IntKind.i64.wrap (IntKind.i64.wrap (s0 + 1) + 1))) else (.next (IntKind.i64.wrap (s0 + 1)))) else (bif ((a0.2.2.1 == at_) && ((a0.1 == (6 : Int)) || (a0.1 == (7 : Int)))) then (.next (IntKind.i64.wrap (s0 + 1))) else (.next s0)))
def Jw (_ : Nat) (s0 : Int) : Int := s0
def Y3 (q : (List Yq)) (at_ : Int) : Int := (Out.on (Xk (Zc at_) Jw q 0 0) (fun y0 => y0))
theorem Qen (q : (List Yq)) (at_ : Int) : ACalls Tryz.prog 224 [.h q, .i at_] (.i (Y3 q at_)) := by
 refine Qn (tt := tt) Qb Tryz.func224 (fn := Tryz.f224) rfl (by unfold Z7; kernel_rfl) (Nat.le_of_ble_eq_true rfl) fun w0 F0 => ?_
 refine Qa ?_
 refine rk Qb [(4, .i 0)] [] [] [] [] (o0) ?_
 refine Qa ?_
 refine rk Qb [(5, .i 0)] [] [] [] [] (o0) ?_
 refine Qa ?_
 refine Qa ?_
 refine rk Qb [(9, .h q), (10, .i (q.length : Int)), (11, .i 0)] [0] [] [] [(1, .val (.i (q.length : Int)))] (o1 (Qf (Xc q))) ?_
 refine wdT 9 0 .sh q (fun hw1 => ?_)
 have hl2 : List.length q ≤ 1073741824 := Qp (hw1)
 refine blk (fun (k0 : Nat) (s0 : Int) => [(5, .i s0), (11, .i ((k0 : Nat) : Int))]) [5, 11] (fun k0 s0 => []) [] (fun (y0 : Int) => [(5, .i y0)]) [1, 5, 9, 10, 11] (fun y0 => []) [] (fun (k0 : Nat) (s0 : Int) => (Xk (Zc at_) Jw q 0 0) = Xk (Zc at_) Jw (List.drop k0 q) k0 s0) (fun (y0 : Int) => (Xk (Zc at_) Jw q 0 0) = .brk y0) q.length 0 (Qc (by kernel_rfl)) rfl (fun k0 s0 hk0 hI0 => ?_) (fun k0 s0 hk0 hI0 => ?_) (fun y0 hD0 => ?_)
 ·
  obtain ⟨a0, hx0⟩ := X8 (l := q) (i := k0) hk0
  refine Qa ?_
  refine rk Qb [(12, .b true)] [] [] [] [(0, .val (.b true))] (o1 (Qf (Qg (decide_eq_true (p := ((k0 : Nat) : Int) < (q.length : Int)) (by omega))))) ?_
  refine Qa ?_
  refine ckT ?_
  refine Qh ?_
  refine Qa ?_
  refine Q4 ?_
  refine Qa ?_
  refine rk Qb [(7, .p 7 0)] [12] [(7, [.i a0.1, .i a0.2.1, .i a0.2.2.1, .s a0.2.2.2.1, .i a0.2.2.2.2.1, .i a0.2.2.2.2.2.1, .s a0.2.2.2.2.2.2])] [] [(0, .row [.i a0.1, .i a0.2.1, .i a0.2.2.1, .s a0.2.2.2.1, .i a0.2.2.2.2.1, .i a0.2.2.2.2.2.1, .s a0.2.2.2.2.2.2])] (o1 (Ql (Xl (i := ((k0 : Nat) : Int)) (by omega) rfl hx0))) ?_
  refine Qa ?_
  refine jn [(8, .b ((a0.1 == (6 : Int)) || (a0.1 == (7 : Int))))] [] [] [] (a0.1 == (6 : Int)) (fun h3 => ?_) (fun h3 => ?_) ?_
  ·
   refine rk Qb [(8, .b true)] [] [] [] [(2, .val (.b true))] (o1 (Qf (Qg h3))) ?_
   exact ⟨rfl, Qc (by rw [h3]; first | done | kernel_rfl)⟩
  ·
   refine rk Qb [(8, .b (a0.1 == (7 : Int)))] [] [] [] [(2, .val (.b false))] (o1 (Qf (Qg h3))) ?_
   exact ⟨rfl, Qc (by rw [h3]; first | done | kernel_rfl)⟩
  refine Qa ?_
  refine Qa ?_
  refine jn [(34, .b ((a0.2.1 == at_) && (((a0.1 == (6 : Int)) || (a0.1 == (7 : Int))) || (a0.1 == (5 : Int)))))] [] [] [] (a0.2.1 == at_) (fun h4 => ?_) (fun h4 => ?_) ?_
  ·
   refine X4 ((a0.1 == (6 : Int)) || (a0.1 == (7 : Int))) (fun h5 => ?_) (fun h5 => ?_)
   ·
    refine rk Qb [(34, .b true)] [] [] [] [(3, .val (.b true)), (5, .val (.b true))] (o2 (Qf (Qg h4)) (o1 (Qf (Qg h5)))) ?_
    exact ⟨rfl, Qc (by rw [h4, h5]; first | done | kernel_rfl)⟩
   ·
    refine rk Qb [(34, .b (a0.1 == (5 : Int)))] [] [] [] [(3, .val (.b true)), (5, .val (.b false))] (o2 (Qf (Qg h4)) (o1 (Qf (Qg h5)))) ?_
    exact ⟨rfl, Qc (by rw [h4, h5]; first | done | kernel_rfl)⟩
  ·
   refine rk Qb [(34, .b false)] [] [] [] [(3, .val (.b false))] (o1 (Qf (Qg h4))) ?_
   exact ⟨rfl, Qc (by rw [h4]; first | done | kernel_rfl)⟩
  refine ck ((a0.2.1 == at_) && (((a0.1 == (6 : Int)) || (a0.1 == (7 : Int))) || (a0.1 == (5 : Int)))) (fun h6 => ?_) (fun h6 => ?_)
  ·
   have h6l : ((a0.2.1 == at_)) = true := and_l h6
   have h6ld := eq_of_beq h6l
   refine rk Qb [(5, .i (IntKind.i64.wrap (s0 + 1)))] [5, 34] [] [] [] (o0) ?_
   refine Qa ?_
   refine jn [(43, .b ((a0.2.2.1 == at_) && ((a0.1 == (6 : Int)) || (a0.1 == (7 : Int)))))] [7, 8] [] [7] (a0.2.2.1 == at_) (fun h7 => ?_) (fun h7 => ?_) ?_
   ·
    refine rk Qb [(43, .b ((a0.1 == (6 : Int)) || (a0.1 == (7 : Int))))] [7, 8] [] [7] [(3, .val (.b true))] (o1 (Qf (Qg h7))) ?_
    exact ⟨rfl, Qc (by rw [h7]; first | done | kernel_rfl)⟩
   ·
    refine rk Qb [(43, .b false)] [7, 8] [] [7] [(3, .val (.b false))] (o1 (Qf (Qg h7))) ?_
    exact ⟨rfl, Qc (by rw [h7]; first | done | kernel_rfl)⟩
   refine ck ((a0.2.2.1 == at_) && ((a0.1 == (6 : Int)) || (a0.1 == (7 : Int)))) (fun h8 => ?_) (fun h8 => ?_)
   ·
    have h8l : ((a0.2.2.1 == at_)) = true := and_l h8
    have h8ld := eq_of_beq h8l
    refine rk Qb [(5, .i (IntKind.i64.wrap (IntKind.i64.wrap (s0 + 1) + 1)))] [5, 43] [] [] [] (o0) ?_
    refine rk Qb [(11, .i ((k0 + 1 : Nat) : Int))] [11] [] [] [(0, .val (.i ((k0 + 1 : Nat) : Int)))] (o1 (Qf (Kw (Qs k0 (by omega))))) ?_
    exact Exists.intro (IntKind.i64.wrap (IntKind.i64.wrap (s0 + 1) + 1)) (And.intro (Qc (by kernel_rfl)) (Qw hx0 (Yf h6 (Yf h8 (rfl))) hI0))
   ·
    refine Qh ?_
    refine rk Qb [(11, .i ((k0 + 1 : Nat) : Int))] [11, 43] [] [] [(0, .val (.i ((k0 + 1 : Nat) : Int)))] (o1 (Qf (Kw (Qs k0 (by omega))))) ?_
    exact Exists.intro (IntKind.i64.wrap (s0 + 1)) (And.intro (Qc (by kernel_rfl)) (Qw hx0 (Yf h6 (Qv h8 (rfl))) hI0))
  ·
   refine Qh ?_
   refine Qa ?_
   refine jn [(43, .b ((a0.2.2.1 == at_) && ((a0.1 == (6 : Int)) || (a0.1 == (7 : Int)))))] [7, 8, 34] [] [7] (a0.2.2.1 == at_) (fun h9 => ?_) (fun h9 => ?_) ?_
   ·
    refine rk Qb [(43, .b ((a0.1 == (6 : Int)) || (a0.1 == (7 : Int))))] [7, 8, 34] [] [7] [(3, .val (.b true))] (o1 (Qf (Qg h9))) ?_
    exact ⟨rfl, Qc (by rw [h9]; first | done | kernel_rfl)⟩
   ·
    refine rk Qb [(43, .b false)] [7, 8, 34] [] [7] [(3, .val (.b false))] (o1 (Qf (Qg h9))) ?_
    exact ⟨rfl, Qc (by rw [h9]; first | done | kernel_rfl)⟩
   refine ck ((a0.2.2.1 == at_) && ((a0.1 == (6 : Int)) || (a0.1 == (7 : Int)))) (fun h10 => ?_) (fun h10 => ?_)
   ·
    have h10l : ((a0.2.2.1 == at_)) = true := and_l h10
    have h10ld := eq_of_beq h10l
    refine rk Qb [(5, .i (IntKind.i64.wrap (s0 + 1)))] [5, 43] [] [] [] (o0) ?_
    refine rk Qb [(11, .i ((k0 + 1 : Nat) : Int))] [11] [] [] [(0, .val (.i ((k0 + 1 : Nat) : Int)))] (o1 (Qf (Kw (Qs k0 (by omega))))) ?_
    exact Exists.intro (IntKind.i64.wrap (s0 + 1)) (And.intro (Qc (by kernel_rfl)) (Qw hx0 (Qv h6 (Yf h10 (rfl))) hI0))
   ·
    refine Qh ?_
    refine rk Qb [(11, .i ((k0 + 1 : Nat) : Int))] [11, 43] [] [] [(0, .val (.i ((k0 + 1 : Nat) : Int)))] (o1 (Qf (Kw (Qs k0 (by omega))))) ?_
    exact Exists.intro s0 (And.intro (Qc (by kernel_rfl)) (Qw hx0 (Qv h6 (Qv h10 (rfl))) hI0))
 ·
  refine Qa ?_
  refine rk Qb [(12, .b false)] [] [] [] [(0, .val (.b false))] (o1 (Qf (Qg (decide_eq_false (p := ((k0 : Nat) : Int) < (q.length : Int)) (by omega))))) ?_
  refine Qa ?_
  refine ckF ?_
  refine Xj ?_
  exact Exists.intro s0 (And.intro (Qc (by kernel_rfl)) (X9 hk0 (rfl) hI0))
 ·
  refine Qa ?_
  refine rk Qb [(4, .i y0)] [4, 5] [] [] [] (o0) ?_
  refine Qi ?_
  exact Zb [] (congrArg (fun z => (.i z : AV)) (show Y3 q at_ = y0 from Hk hD0 (rfl)).symm)
def Yg (q : (List Yq)) (k0 : Nat) (a0 : Yq) (_ : Unit) : Rd (Bool) (Unit) (Unit) := (bif ((!(X5 a0 ((k0 : Nat) : Int))) || (decide (((k0 : Nat) : Int) < ((q.length : Int) - 1)) && ((Y3 q ((k0 : Nat) : Int)) != (1 : Int)))) then (.ret false) else (.next ()))
def Zs (_ : Nat) (_ : Unit) : Unit := ()
def Qm (q : (List Yq)) : Bool := (Out.on (Xk (Yg q) Zs q 0 ()) (fun _ => (Xd (q.length : Int) 1 9)))
theorem Wz (q : (List Yq)) : ACalls Tryz.prog 215 [.h q] (.b (Qm q)) := by
 refine Qn (tt := tt) Qb Tryz.func215 (fn := Tryz.f215) rfl (by unfold Z7; kernel_rfl) (Nat.le_of_ble_eq_true rfl) fun w0 F0 => ?_
 refine Qa ?_
 refine rk Qb [(2, .b false)] [] [] [] [] (o0) ?_
 refine Qa ?_
 refine Qa ?_
 refine rk Qb [(5, .h q), (6, .i (q.length : Int)), (7, .i 0)] [] [] [] [(1, .val (.i (q.length : Int)))] (o1 (Qf (Xc q))) ?_
 refine wdT 0 0 .sh q (fun hw1 => ?_)
 have hl2 : List.length q ≤ 1073741824 := Qp (hw1)
 refine blk (fun (k0 : Nat) (s0 : Unit) => [(7, .i ((k0 : Nat) : Int))]) [7] (fun k0 s0 => []) [] (fun (y0 : Unit) => []) [5, 6, 7] (fun y0 => []) [] (fun (k0 : Nat) (s0 : Unit) => (Xk (Yg q) Zs q 0 ()) = Xk (Yg q) Zs (List.drop k0 q) k0 s0) (fun (y0 : Unit) => (Xk (Yg q) Zs q 0 ()) = .brk y0) q.length () (Qc (by kernel_rfl)) rfl (fun k0 s0 hk0 hI0 => ?_) (fun k0 s0 hk0 hI0 => ?_) (fun y0 hD0 => ?_)
 ·
  obtain ⟨a0, hx0⟩ := X8 (l := q) (i := k0) hk0
  refine Qa ?_
  refine rk Qb [(8, .b true)] [] [] [] [(0, .val (.b true))] (o1 (Qf (Qg (decide_eq_true (p := ((k0 : Nat) : Int) < (q.length : Int)) (by omega))))) ?_
  refine Qa ?_
  refine ckT ?_
  refine Qh ?_
  refine Qa ?_
  refine Q4 ?_
  refine Qa ?_
  refine rk Qb [(3, .i ((k0 : Nat) : Int)), (4, .p 4 0)] [8] [(4, [.i a0.1, .i a0.2.1, .i a0.2.2.1, .s a0.2.2.2.1, .i a0.2.2.2.2.1, .i a0.2.2.2.2.2.1, .s a0.2.2.2.2.2.2])] [] [(1, .row [.i a0.1, .i a0.2.1, .i a0.2.2.1, .s a0.2.2.2.1, .i a0.2.2.2.2.1, .i a0.2.2.2.2.2.1, .s a0.2.2.2.2.2.2])] (o1 (Ql (Xl (i := ((k0 : Nat) : Int)) (by omega) rfl hx0))) ?_
  refine Qa ?_
  refine jn [(28, .b ((!(X5 a0 ((k0 : Nat) : Int))) || (decide (((k0 : Nat) : Int) < ((q.length : Int) - 1)) && ((Y3 q ((k0 : Nat) : Int)) != (1 : Int)))))] [3, 4] [] [4] (!(X5 a0 ((k0 : Nat) : Int))) (fun h3 => ?_) (fun h3 => ?_) ?_
  ·
   have h3n : (X5 a0 ((k0 : Nat) : Int)) = false := Qa3 h3
   refine rk Qb [(28, .b true)] [3, 4] [] [4] [(2, .val (.b false)), (3, .val (.b true))] (o2 (Qe (cb h3n (Qbe a0 ((k0 : Nat) : Int)))) (o1 (Qf (show .b (!false) = .b true from rfl)))) ?_
   exact ⟨rfl, Qc (by rw [h3]; first | done | kernel_rfl)⟩
  ·
   have h3n : (X5 a0 ((k0 : Nat) : Int)) = true := Vo h3
   refine X4 (decide (((k0 : Nat) : Int) < ((q.length : Int) - 1))) (fun h4 => ?_) (fun h4 => ?_)
   ·
    have h4d := of_decide_eq_true h4
    refine rk Qb [(28, .b ((Y3 q ((k0 : Nat) : Int)) != (1 : Int)))] [3, 4] [] [4] [(2, .val (.b true)), (3, .val (.b false)), (7, .val (.i (q.length : Int))), (8, .val (.i ((q.length : Int) - 1))), (9, .val (.b true)), (13, .val (.i (Y3 q ((k0 : Nat) : Int))))] (o2 (Qe (cb h3n (Qbe a0 ((k0 : Nat) : Int)))) (o2 (Qf (show .b (!true) = .b false from rfl)) (o2 (Qf (Xc q)) (o2 (Qf (Kw (IntWalk.i64_in ((q.length : Int) - 1) (by omega)))) (o2 (Qf (Qg h4)) (o1 (Qe (Qen q ((k0 : Nat) : Int))))))))) ?_
    exact ⟨rfl, Qc (by rw [h3, h4]; first | done | kernel_rfl)⟩
   ·
    have h4d := of_decide_eq_false h4
    refine rk Qb [(28, .b false)] [3, 4] [] [4] [(2, .val (.b true)), (3, .val (.b false)), (7, .val (.i (q.length : Int))), (8, .val (.i ((q.length : Int) - 1))), (9, .val (.b false))] (o2 (Qe (cb h3n (Qbe a0 ((k0 : Nat) : Int)))) (o2 (Qf (show .b (!true) = .b false from rfl)) (o2 (Qf (Xc q)) (o2 (Qf (Kw (IntWalk.i64_in ((q.length : Int) - 1) (by omega)))) (o1 (Qf (Qg h4))))))) ?_
    exact ⟨rfl, Qc (by rw [h3, h4]; first | done | kernel_rfl)⟩
  refine ck ((!(X5 a0 ((k0 : Nat) : Int))) || (decide (((k0 : Nat) : Int) < ((q.length : Int) - 1)) && ((Y3 q ((k0 : Nat) : Int)) != (1 : Int)))) (fun h5 => ?_) (fun h5 => ?_)
  ·
   refine Qa ?_
   refine rk Qb [] [28] [] [] [] (o0) ?_
   refine Qi ?_
   have hr6 : (Xk (Yg q) Zs q 0 ()) = .ret false := Jq hx0 (Yf h5 (rfl)) hI0
   exact Zb [] (congrArg (fun z => (.b z : AV)) (show Qm q = false from Qgl hr6).symm)
  ·
   refine Qh ?_
   refine rk Qb [(7, .i ((k0 + 1 : Nat) : Int))] [7, 28] [] [] [(0, .val (.i ((k0 + 1 : Nat) : Int)))] (o1 (Qf (Kw (Qs k0 (by omega))))) ?_
   exact Exists.intro () (And.intro (Qc (by kernel_rfl)) (Qw hx0 (Qv h5 (rfl)) hI0))
 ·
  refine Qa ?_
  refine rk Qb [(8, .b false)] [] [] [] [(0, .val (.b false))] (o1 (Qf (Qg (decide_eq_false (p := ((k0 : Nat) : Int) < (q.length : Int)) (by omega))))) ?_
  refine Qa ?_
  refine ckF ?_
  refine Xj ?_
  exact Exists.intro () (And.intro (Qc (by kernel_rfl)) (X9 hk0 (rfl) hI0))
 ·
  refine Qa ?_
  refine rk Qb [(2, .b (Xd (q.length : Int) 1 9))] [0, 2] [] [] [(1, .val (.i (q.length : Int))), (2, .val (.b (Xd (q.length : Int) 1 9)))] (o2 (Qf (Xc q)) (o1 (Qe (Z0 (q.length : Int) 1 9)))) ?_
  refine Qi ?_
  exact Zb [] (congrArg (fun z => (.b z : AV)) (show Qm q = (Xd (q.length : Int) 1 9) from Hk hD0 (rfl)).symm)
def Qt (x : Int) (least : Int) (most : Int) : Bool := (decide (x ≥ least) && decide (x ≤ most))
theorem Y5 (x : Int) (least : Int) (most : Int) : ACalls Tryz.prog 86 [.i x, .i least, .i most] (.b (Qt x least most)) := by
 refine Qn (tt := tt) Qb Tryz.func86 (fn := Tryz.f86) rfl (by unfold Z7; kernel_rfl) (Nat.le_of_ble_eq_true rfl) fun w0 F0 => ?_
 refine Qa ?_
 refine rk Qb [(6, .b false)] [] [] [] [] (o0) ?_
 refine Qa ?_
 refine jn [(6, .b (decide (x ≥ least) && decide (x ≤ most)))] [0, 1, 2, 6] [] [] (decide (x ≥ least)) (fun h1 => ?_) (fun h1 => ?_) ?_
 ·
  refine rk Qb [(6, .b (decide (x ≤ most)))] [0, 1, 2, 6] [] [] [(2, .val (.b true))] (o1 (Qf (Qg h1))) ?_
  exact ⟨rfl, Qc (by rw [h1]; first | done | kernel_rfl)⟩
 ·
  refine rk Qb [] [0, 1, 2] [] [] [(2, .val (.b false))] (o1 (Qf (Qg h1))) ?_
  exact ⟨rfl, Qc (by rw [h1]; first | done | kernel_rfl)⟩
 refine Qi ?_
 exact Zb [] (congrArg (fun z => (.b z : AV)) (show Qt x least most = (decide (x ≥ least) && decide (x ≤ most)) from rfl).symm)
def K9 (s_ : ByteArray) (k0 : Nat) (_ : Unit) : Rd (Bool) (Unit) (Unit) := (bif (decide (U0 s_ ((k0 : Nat) : Int) < (97 : Int)) || decide (U0 s_ ((k0 : Nat) : Int) > (122 : Int))) then (.ret false) else (.next ()))
def Wa (_ : Nat) (_ : Unit) : Unit := ()
def Vy (s_ : ByteArray) (most : Int) : Bool := (Out.on (U5 (K9 s_) Wa (Int.toNat (ByteArray.size s_ : Int)) 0 ()) (fun _ => (Qt (ByteArray.size s_ : Int) 1 most)))
theorem Qgq (s_ : ByteArray) (most : Int) : ACalls Tryz.prog 194 [.s s_, .i most] (.b (Vy s_ most)) := by
 refine Qn (tt := tt) Qb Tryz.func194 (fn := Tryz.f194) rfl (by unfold Z7; kernel_rfl) (Nat.le_of_ble_eq_true rfl) fun w0 F0 => ?_
 refine Qa ?_
 refine rk Qb [(4, .b false)] [] [] [] [] (o0) ?_
 refine Qa ?_
 refine Qa ?_
 refine rk Qb [(5, .i 0)] [] [] [] [] (o0) ?_
 refine stT 0 0 s_ (fun hs1 => ?_)
 refine blk (fun (k0 : Nat) (s0 : Unit) => [(5, .i ((k0 : Nat) : Int))]) [5] (fun k0 s0 => []) [] (fun (y0 : Unit) => []) [5] (fun y0 => []) [] (fun (k0 : Nat) (s0 : Unit) => (U5 (K9 s_) Wa (Int.toNat (ByteArray.size s_ : Int)) 0 ()) = U5 (K9 s_) Wa ((Int.toNat (ByteArray.size s_ : Int)) - k0) k0 s0) (fun (y0 : Unit) => (U5 (K9 s_) Wa (Int.toNat (ByteArray.size s_ : Int)) 0 ()) = .brk y0) (Int.toNat (ByteArray.size s_ : Int)) () (Qc (by kernel_rfl)) rfl (fun k0 s0 hk0 hI0 => ?_) (fun k0 s0 hk0 hI0 => ?_) (fun y0 hD0 => ?_)
 ·
  refine Qa ?_
  refine Qa ?_
  refine rk Qb [(9, .b true)] [] [] [] [(3, .val (.b true))] (o1 (Qf (Qg (decide_eq_true (p := ((k0 : Nat) : Int) < (ByteArray.size s_ : Int)) (by omega))))) ?_
  refine ckT ?_
  refine Qh ?_
  refine Qa ?_
  refine Q4 ?_
  refine Qa ?_
  refine jn [(21, .b (decide (U0 s_ ((k0 : Nat) : Int) < (97 : Int)) || decide (U0 s_ ((k0 : Nat) : Int) > (122 : Int))))] [9] [] [] (decide (U0 s_ ((k0 : Nat) : Int) < (97 : Int))) (fun h2 => ?_) (fun h2 => ?_) ?_
  ·
   have h2d := of_decide_eq_true h2
   refine rk Qb [(21, .b true)] [9] [] [] [(3, .val (.b true))] (o2 (Qgg (i := ((k0 : Nat) : Int)) (n := (ByteArray.size s_)) (by omega)) (o1 (Qf (Qg h2)))) ?_
   exact ⟨rfl, Qc (by rw [h2]; first | done | kernel_rfl)⟩
  ·
   have h2d := of_decide_eq_false h2
   refine rk Qb [(21, .b (decide (U0 s_ ((k0 : Nat) : Int) > (122 : Int))))] [9] [] [] [(3, .val (.b false))] (o2 (Qgg (i := ((k0 : Nat) : Int)) (n := (ByteArray.size s_)) (by omega)) (o2 (Qf (Qg h2)) (o1 (Qgg (i := ((k0 : Nat) : Int)) (n := (ByteArray.size s_)) (by omega))))) ?_
   exact ⟨rfl, Qc (by rw [h2]; first | done | kernel_rfl)⟩
  refine ck (decide (U0 s_ ((k0 : Nat) : Int) < (97 : Int)) || decide (U0 s_ ((k0 : Nat) : Int) > (122 : Int))) (fun h3 => ?_) (fun h3 => ?_)
  ·
   refine Qa ?_
   refine rk Qb [] [21] [] [] [] (o0) ?_
   refine Qi ?_
   have hr4 : (U5 (K9 s_) Wa (Int.toNat (ByteArray.size s_ : Int)) 0 ()) = .ret false := Qs3 hk0 (Yf h3 (rfl)) hI0
   exact Zb [] (congrArg (fun z => (.b z : AV)) (show Vy s_ most = false from Qgl hr4).symm)
  ·
   have h3l : (decide (U0 s_ ((k0 : Nat) : Int) < (97 : Int))) = false := Qra h3
   have h3ld := of_decide_eq_false h3l
   have h3r : (decide (U0 s_ ((k0 : Nat) : Int) > (122 : Int))) = false := Qul h3
   have h3rd := of_decide_eq_false h3r
   refine Qh ?_
   refine rk Qb [(5, .i ((k0 + 1 : Nat) : Int))] [5, 21] [] [] [(1, .val (.i ((k0 + 1 : Nat) : Int)))] (o1 (Qf (Kw (Qs k0 (by omega))))) ?_
   exact Exists.intro () (And.intro (Qc (by kernel_rfl)) (V0 hk0 (Qv h3 (rfl)) hI0))
 ·
  refine Qa ?_
  refine Qa ?_
  refine rk Qb [(9, .b false)] [] [] [] [(3, .val (.b false))] (o1 (Qf (Qg (decide_eq_false (p := ((k0 : Nat) : Int) < (ByteArray.size s_ : Int)) (by omega))))) ?_
  refine ckF ?_
  refine Xj ?_
  exact Exists.intro () (And.intro (Qc (by kernel_rfl)) (Qb8 hk0 (rfl) hI0))
 ·
  refine Qa ?_
  refine rk Qb [(4, .b (Qt (ByteArray.size s_ : Int) 1 most))] [0, 1, 4] [] [] [(3, .val (.b (Qt (ByteArray.size s_ : Int) 1 most)))] (o1 (Qe (Y5 (ByteArray.size s_ : Int) 1 most))) ?_
  refine Qi ?_
  exact Zb [] (congrArg (fun z => (.b z : AV)) (show Vy s_ most = (Qt (ByteArray.size s_ : Int) 1 most) from Hk hD0 (rfl)).symm)
def Xf (s_ : ByteArray) : Bool := (Vy s_ 1)
theorem Xv (s_ : ByteArray) : ACalls Tryz.prog 167 [.s s_] (.b (Xf s_)) := by
 refine Qn (tt := tt) Qb Tryz.func167 (fn := Tryz.f167) rfl (by unfold Z7; kernel_rfl) (Nat.le_of_ble_eq_true rfl) fun w0 F0 => ?_
 refine Qa ?_
 refine rk Qb [(2, .b false)] [] [] [] [] (o0) ?_
 refine Qa ?_
 refine rk Qb [(2, .b (Vy s_ 1))] [0, 2] [] [] [(1, .val (.b (Vy s_ 1)))] (o1 (Qe (Qgq s_ 1))) ?_
 refine Qi ?_
 exact Zb [] (congrArg (fun z => (.b z : AV)) (show Xf s_ = (Vy s_ 1) from rfl).symm)
def Xr (s_ : ByteArray) : Bool := (Vy s_ 6)
theorem Zl (s_ : ByteArray) : ACalls Tryz.prog 208 [.s s_] (.b (Xr s_)) := by
 refine Qn (tt := tt) Qb Tryz.func208 (fn := Tryz.f208) rfl (by unfold Z7; kernel_rfl) (Nat.le_of_ble_eq_true rfl) fun w0 F0 => ?_
 refine Qa ?_
 refine rk Qb [(2, .b false)] [] [] [] [] (o0) ?_
 refine Qa ?_
 refine rk Qb [(2, .b (Vy s_ 6))] [0, 2] [] [] [(1, .val (.b (Vy s_ 6)))] (o1 (Qe (Qgq s_ 6))) ?_
 refine Qi ?_
 exact Zb [] (congrArg (fun z => (.b z : AV)) (show Xr s_ = (Vy s_ 6) from rfl).symm)
def Yi (v : H5) : Bool := (bif (v.1 == (0 : Int)) then ((v.1 == 0) && ((v.2.1 == 0) && ((v.2.2.toList == (⟨#[]⟩ : ByteArray).toList) && true))) else (bif (v.1 == (1 : Int)) then ((Qt v.2.1 0 999) && (v.2.2.toList == (⟨#[]⟩ : ByteArray).toList)) else (bif (v.1 == (2 : Int)) then ((Xr v.2.2) && (v.2.1 == (0 : Int))) else false)))
theorem Zj (v : H5) : ACalls Tryz.prog 192 [.a [.i v.1, .i v.2.1, .s v.2.2]] (.b (Yi v)) := by
 refine Qn (tt := tt) Qb Tryz.func192 (fn := Tryz.f192) rfl (by unfold Z7; kernel_rfl) (Nat.le_of_ble_eq_true rfl) fun w0 F0 => ?_
 refine Qa ?_
 refine rk Qb [(1, .p 1 0), (2, .b false)] [0] [(1, [.i v.1, .i v.2.1, .s v.2.2])] [] [] (o0) ?_
 refine Qa ?_
 refine Qa ?_
 refine rk Qb [(4, .i v.1)] [] [] [] [] (o0) ?_
 refine Q4 ?_
 refine Qa ?_
 refine rk Qb [(5, .b (v.1 == (0 : Int)))] [] [] [] [] (o0) ?_
 refine ck (v.1 == (0 : Int)) (fun h1 => ?_) (fun h1 => ?_)
 ·
  refine Qa ?_
  refine rk Qb [(2, .b ((v.1 == 0) && ((v.2.1 == 0) && ((v.2.2.toList == (⟨#[]⟩ : ByteArray).toList) && true))))] [1, 2, 4, 5] [] [1] [] (o0) ?_
  refine Qi ?_
  exact Zb [] (congrArg (fun z => (.b z : AV)) (show Yi v = ((v.1 == 0) && ((v.2.1 == 0) && ((v.2.2.toList == (⟨#[]⟩ : ByteArray).toList) && true))) from Yf h1 (rfl)).symm)
 ·
  refine Qa ?_
  refine rk Qb [(10, .b (v.1 == (1 : Int)))] [5] [] [] [] (o0) ?_
  refine ck (v.1 == (1 : Int)) (fun h2 => ?_) (fun h2 => ?_)
  ·
   refine Qa ?_
   refine jn [(2, .b ((Qt v.2.1 0 999) && (v.2.2.toList == (⟨#[]⟩ : ByteArray).toList)))] [1, 2, 4, 10] [] [1] (Qt v.2.1 0 999) (fun h3 => ?_) (fun h3 => ?_) ?_
   ·
    refine rk Qb [(2, .b (v.2.2.toList == (⟨#[]⟩ : ByteArray).toList))] [1, 2, 4, 10] [] [1] [(2, .val (.b true))] (o1 (Qe (cb h3 (Y5 v.2.1 0 999)))) ?_
    exact ⟨rfl, Qc (by rw [h3]; first | done | kernel_rfl)⟩
   ·
    refine rk Qb [] [1, 4, 10] [] [1] [(2, .val (.b false))] (o1 (Qe (cb h3 (Y5 v.2.1 0 999)))) ?_
    exact ⟨rfl, Qc (by rw [h3]; first | done | kernel_rfl)⟩
   refine Qi ?_
   exact Zb [] (congrArg (fun z => (.b z : AV)) (show Yi v = ((Qt v.2.1 0 999) && (v.2.2.toList == (⟨#[]⟩ : ByteArray).toList)) from Qv h1 (Yf h2 (rfl))).symm)
  ·
   refine Qa ?_
   refine rk Qb [(20, .b (v.1 == (2 : Int)))] [4, 10] [] [] [] (o0) ?_
   refine ck (v.1 == (2 : Int)) (fun h4 => ?_) (fun h4 => ?_)
   ·
    refine Qa ?_
    refine jn [(2, .b ((Xr v.2.2) && (v.2.1 == (0 : Int))))] [1, 2, 20] [] [1] (Xr v.2.2) (fun h5 => ?_) (fun h5 => ?_) ?_
    ·
     refine rk Qb [(2, .b (v.2.1 == (0 : Int)))] [1, 2, 20] [] [1] [(2, .val (.b true))] (o1 (Qe (cb h5 (Zl v.2.2)))) ?_
     exact ⟨rfl, Qc (by rw [h5]; first | done | kernel_rfl)⟩
    ·
     refine rk Qb [] [1, 20] [] [1] [(2, .val (.b false))] (o1 (Qe (cb h5 (Zl v.2.2)))) ?_
     exact ⟨rfl, Qc (by rw [h5]; first | done | kernel_rfl)⟩
    refine Qi ?_
    exact Zb [] (congrArg (fun z => (.b z : AV)) (show Yi v = ((Xr v.2.2) && (v.2.1 == (0 : Int))) from Qv h1 (Qv h2 (Yf h4 (rfl)))).symm)
   ·
    refine Qh ?_
    refine Qa ?_
    refine rk Qb [] [1, 20] [] [1] [] (o0) ?_
    refine Qi ?_
    exact Zb [] (congrArg (fun z => (.b z : AV)) (show Yi v = false from Qv h1 (Qv h2 (Qv h4 (rfl)))).symm)
def Yr (n : Yq) (at_ : Int) : Bool := (bif (n.1 == (1 : Int)) then ((n.1 == 1) && ((n.2.1 == 0) && ((n.2.2.1 == 0) && ((n.2.2.2.1.toList == (⟨#[]⟩ : ByteArray).toList) && ((n.2.2.2.2.1 == 0) && ((n.2.2.2.2.2.1 == 0) && ((n.2.2.2.2.2.2.toList == (⟨#[]⟩ : ByteArray).toList) && true))))))) else (bif (n.1 == (2 : Int)) then ((Xf n.2.2.2.1) && ((n.1 == n.1) && ((n.2.1 == 0) && ((n.2.2.1 == 0) && ((n.2.2.2.1.toList == n.2.2.2.1.toList) && ((n.2.2.2.2.1 == 0) && ((n.2.2.2.2.2.1 == 0) && ((n.2.2.2.2.2.2.toList == (⟨#[]⟩ : ByteArray).toList) && true)))))))) else (bif (n.1 == (3 : Int)) then ((Xf n.2.2.2.1) && ((Yi n.2.2.2.2) && ((n.2.2.2.2.1 != (0 : Int)) && ((n.2.1 == (0 : Int)) && (n.2.2.1 == (0 : Int)))))) else (bif (n.1 == (4 : Int)) then ((Xf n.2.2.2.1) && ((Yi n.2.2.2.2) && ((n.2.2.2.2.1 == (1 : Int)) && ((n.2.1 == (0 : Int)) && (n.2.2.1 == (0 : Int)))))) else (bif (n.1 == (5 : Int)) then (((Qt n.2.1 0 (IntKind.i64.wrap (at_ - 1))) && decide (at_ > (0 : Int))) && ((n.2.2.1 == (0 : Int)) && ((n.2.2.2.1.toList == (⟨#[]⟩ : ByteArray).toList) && ((n.2.2.2.2.1 == 0) && ((n.2.2.2.2.2.1 == 0) && ((n.2.2.2.2.2.2.toList == (⟨#[]⟩ : ByteArray).toList) && true)))))) else (bif (bif (n.1 == (6 : Int)) then (n.1 == (6 : Int)) else (n.1 == (7 : Int))) then ((((Qt n.2.1 0 (IntKind.i64.wrap (at_ - 1))) && decide (at_ > (0 : Int))) && (Qt n.2.2.1 0 (IntKind.i64.wrap (at_ - 1)))) && ((n.2.2.2.1.toList == (⟨#[]⟩ : ByteArray).toList) && ((n.2.2.2.2.1 == 0) && ((n.2.2.2.2.2.1 == 0) && ((n.2.2.2.2.2.2.toList == (⟨#[]⟩ : ByteArray).toList) && true))))) else (bif (n.1 == (8 : Int)) then ((Xr n.2.2.2.1) && ((n.1 == n.1) && ((n.2.1 == 0) && ((n.2.2.1 == 0) && ((n.2.2.2.1.toList == n.2.2.2.1.toList) && ((n.2.2.2.2.1 == 0) && ((n.2.2.2.2.2.1 == 0) && ((n.2.2.2.2.2.2.toList == (⟨#[]⟩ : ByteArray).toList) && true)))))))) else (bif (n.1 == (9 : Int)) then ((Xr n.2.2.2.1) && ((n.1 == n.1) && ((n.2.1 == 0) && ((n.2.2.1 == 0) && ((n.2.2.2.1.toList == n.2.2.2.1.toList) && ((n.2.2.2.2.1 == 0) && ((n.2.2.2.2.2.1 == 0) && ((n.2.2.2.2.2.2.toList == (⟨#[]⟩ : ByteArray).toList) && true)))))))) else false))))))))
theorem Qbf (n : Yq) (at_ : Int) : ACalls Tryz.prog 219 [.a [.i n.1, .i n.2.1, .i n.2.2.1, .s n.2.2.2.1, .i n.2.2.2.2.1, .i n.2.2.2.2.2.1, .s n.2.2.2.2.2.2], .i at_] (.b (Yr n at_)) := by
 refine Qn (tt := tt) Qb Tryz.func219 (fn := Tryz.f219) rfl (by unfold Z7; kernel_rfl) (Nat.le_of_ble_eq_true rfl) fun w0 F0 => ?_
 refine Qa ?_
 refine rk Qb [(2, .p 2 0), (4, .b false)] [0] [(2, [.i n.1, .i n.2.1, .i n.2.2.1, .s n.2.2.2.1, .i n.2.2.2.2.1, .i n.2.2.2.2.2.1, .s n.2.2.2.2.2.2])] [] [] (o0) ?_
 refine Qa ?_
 refine jn [(5, .b ((Qt n.2.1 0 (IntKind.i64.wrap (at_ - 1))) && decide (at_ > (0 : Int))))] [] [] [] (Qt n.2.1 0 (IntKind.i64.wrap (at_ - 1))) (fun h1 => ?_) (fun h1 => ?_) ?_
 ·
  refine rk Qb [(5, .b (decide (at_ > (0 : Int))))] [] [] [] [(4, .val (.b true))] (o1 (Qe (cb h1 (Y5 n.2.1 0 (IntKind.i64.wrap (at_ - 1)))))) ?_
  exact ⟨rfl, Qc (by rw [h1]; first | done | kernel_rfl)⟩
 ·
  refine rk Qb [(5, .b false)] [] [] [] [(4, .val (.b false))] (o1 (Qe (cb h1 (Y5 n.2.1 0 (IntKind.i64.wrap (at_ - 1)))))) ?_
  exact ⟨rfl, Qc (by rw [h1]; first | done | kernel_rfl)⟩
 refine Qa ?_
 refine jn [(6, .b (((Qt n.2.1 0 (IntKind.i64.wrap (at_ - 1))) && decide (at_ > (0 : Int))) && (Qt n.2.2.1 0 (IntKind.i64.wrap (at_ - 1)))))] [1] [] [] ((Qt n.2.1 0 (IntKind.i64.wrap (at_ - 1))) && decide (at_ > (0 : Int))) (fun h2 => ?_) (fun h2 => ?_) ?_
 ·
  refine rk Qb [(6, .b (Qt n.2.2.1 0 (IntKind.i64.wrap (at_ - 1))))] [1] [] [] [(0, .val (.b true)), (6, .val (.b (Qt n.2.2.1 0 (IntKind.i64.wrap (at_ - 1)))))] (o2 (Qf (Qg h2)) (o1 (Qe (Y5 n.2.2.1 0 (IntKind.i64.wrap (at_ - 1)))))) ?_
  exact ⟨rfl, Qc (by rw [h2]; first | done | kernel_rfl)⟩
 ·
  refine rk Qb [(6, .b false)] [1] [] [] [(0, .val (.b false))] (o1 (Qf (Qg h2))) ?_
  exact ⟨rfl, Qc (by rw [h2]; first | done | kernel_rfl)⟩
 refine Qa ?_
 refine Qa ?_
 refine rk Qb [(25, .i n.1)] [] [] [] [] (o0) ?_
 refine Q4 ?_
 refine Qa ?_
 refine rk Qb [(26, .b (n.1 == (1 : Int)))] [] [] [] [] (o0) ?_
 refine ck (n.1 == (1 : Int)) (fun h3 => ?_) (fun h3 => ?_)
 ·
  refine Qa ?_
  refine rk Qb [(4, .b ((n.1 == 1) && ((n.2.1 == 0) && ((n.2.2.1 == 0) && ((n.2.2.2.1.toList == (⟨#[]⟩ : ByteArray).toList) && ((n.2.2.2.2.1 == 0) && ((n.2.2.2.2.2.1 == 0) && ((n.2.2.2.2.2.2.toList == (⟨#[]⟩ : ByteArray).toList) && true))))))))] [2, 4, 5, 6, 25, 26] [] [2] [] (o0) ?_
  refine Qi ?_
  exact Zb [] (congrArg (fun z => (.b z : AV)) (show Yr n at_ = ((n.1 == 1) && ((n.2.1 == 0) && ((n.2.2.1 == 0) && ((n.2.2.2.1.toList == (⟨#[]⟩ : ByteArray).toList) && ((n.2.2.2.2.1 == 0) && ((n.2.2.2.2.2.1 == 0) && ((n.2.2.2.2.2.2.toList == (⟨#[]⟩ : ByteArray).toList) && true))))))) from Yf h3 (rfl)).symm)
 ·
  refine Qa ?_
  refine rk Qb [(31, .b (n.1 == (2 : Int)))] [26] [] [] [] (o0) ?_
  refine ck (n.1 == (2 : Int)) (fun h4 => ?_) (fun h4 => ?_)
  ·
   refine Qa ?_
   refine jn [(4, .b ((Xf n.2.2.2.1) && ((n.1 == n.1) && ((n.2.1 == 0) && ((n.2.2.1 == 0) && ((n.2.2.2.1.toList == n.2.2.2.1.toList) && ((n.2.2.2.2.1 == 0) && ((n.2.2.2.2.2.1 == 0) && ((n.2.2.2.2.2.2.toList == (⟨#[]⟩ : ByteArray).toList) && true)))))))))] [2, 4, 5, 6, 25, 31] [] [2] (Xf n.2.2.2.1) (fun h5 => ?_) (fun h5 => ?_) ?_
   ·
    refine rk Qb [(4, .b ((n.1 == n.1) && ((n.2.1 == 0) && ((n.2.2.1 == 0) && ((n.2.2.2.1.toList == n.2.2.2.1.toList) && ((n.2.2.2.2.1 == 0) && ((n.2.2.2.2.2.1 == 0) && ((n.2.2.2.2.2.2.toList == (⟨#[]⟩ : ByteArray).toList) && true))))))))] [2, 4, 5, 6, 25, 31] [] [2] [(2, .val (.b true))] (o1 (Qe (cb h5 (Xv n.2.2.2.1)))) ?_
    exact ⟨rfl, Qc (by rw [h5]; first | done | kernel_rfl)⟩
   ·
    refine rk Qb [] [2, 5, 6, 25, 31] [] [2] [(2, .val (.b false))] (o1 (Qe (cb h5 (Xv n.2.2.2.1)))) ?_
    exact ⟨rfl, Qc (by rw [h5]; first | done | kernel_rfl)⟩
   refine Qi ?_
   exact Zb [] (congrArg (fun z => (.b z : AV)) (show Yr n at_ = ((Xf n.2.2.2.1) && ((n.1 == n.1) && ((n.2.1 == 0) && ((n.2.2.1 == 0) && ((n.2.2.2.1.toList == n.2.2.2.1.toList) && ((n.2.2.2.2.1 == 0) && ((n.2.2.2.2.2.1 == 0) && ((n.2.2.2.2.2.2.toList == (⟨#[]⟩ : ByteArray).toList) && true)))))))) from Qv h3 (Yf h4 (rfl))).symm)
  ·
   refine Qa ?_
   refine rk Qb [(45, .b (n.1 == (3 : Int)))] [31] [] [] [] (o0) ?_
   refine ck (n.1 == (3 : Int)) (fun h6 => ?_) (fun h6 => ?_)
   ·
    refine Qa ?_
    refine jn [(4, .b ((Xf n.2.2.2.1) && ((Yi n.2.2.2.2) && ((n.2.2.2.2.1 != (0 : Int)) && ((n.2.1 == (0 : Int)) && (n.2.2.1 == (0 : Int)))))))] [2, 4, 5, 6, 25, 45] [] [2] (Xf n.2.2.2.1) (fun h7 => ?_) (fun h7 => ?_) ?_
    ·
     refine X4 (Yi n.2.2.2.2) (fun h8 => ?_) (fun h8 => ?_)
     ·
      refine X4 (n.2.2.2.2.1 != (0 : Int)) (fun h9 => ?_) (fun h9 => ?_)
      ·
       refine X4 (n.2.1 == (0 : Int)) (fun h10 => ?_) (fun h10 => ?_)
       ·
        refine rk Qb [(4, .b (n.2.2.1 == (0 : Int)))] [2, 4, 5, 6, 25, 45] [] [2] [(2, .val (.b true)), (6, .val (.b true)), (12, .val (.b true)), (17, .val (.b true))] (o2 (Qe (cb h7 (Xv n.2.2.2.1))) (o2 (Qe (cb h8 (Zj n.2.2.2.2))) (o2 (Qf (Qg h9)) (o1 (Qf (Qg h10)))))) ?_
        exact ⟨rfl, Qc (by rw [h7, h8, h9, h10]; first | done | kernel_rfl)⟩
       ·
        refine rk Qb [] [2, 5, 6, 25, 45] [] [2] [(2, .val (.b true)), (6, .val (.b true)), (12, .val (.b true)), (17, .val (.b false))] (o2 (Qe (cb h7 (Xv n.2.2.2.1))) (o2 (Qe (cb h8 (Zj n.2.2.2.2))) (o2 (Qf (Qg h9)) (o1 (Qf (Qg h10)))))) ?_
        exact ⟨rfl, Qc (by rw [h7, h8, h9, h10]; first | done | kernel_rfl)⟩
      ·
       refine rk Qb [] [2, 5, 6, 25, 45] [] [2] [(2, .val (.b true)), (6, .val (.b true)), (12, .val (.b false))] (o2 (Qe (cb h7 (Xv n.2.2.2.1))) (o2 (Qe (cb h8 (Zj n.2.2.2.2))) (o1 (Qf (Qg h9))))) ?_
       exact ⟨rfl, Qc (by rw [h7, h8, h9]; first | done | kernel_rfl)⟩
     ·
      refine rk Qb [] [2, 5, 6, 25, 45] [] [2] [(2, .val (.b true)), (6, .val (.b false))] (o2 (Qe (cb h7 (Xv n.2.2.2.1))) (o1 (Qe (cb h8 (Zj n.2.2.2.2))))) ?_
      exact ⟨rfl, Qc (by rw [h7, h8]; first | done | kernel_rfl)⟩
    ·
     refine rk Qb [] [2, 5, 6, 25, 45] [] [2] [(2, .val (.b false))] (o1 (Qe (cb h7 (Xv n.2.2.2.1)))) ?_
     exact ⟨rfl, Qc (by rw [h7]; first | done | kernel_rfl)⟩
    refine Qi ?_
    exact Zb [] (congrArg (fun z => (.b z : AV)) (show Yr n at_ = ((Xf n.2.2.2.1) && ((Yi n.2.2.2.2) && ((n.2.2.2.2.1 != (0 : Int)) && ((n.2.1 == (0 : Int)) && (n.2.2.1 == (0 : Int)))))) from Qv h3 (Qv h4 (Yf h6 (rfl)))).symm)
   ·
    refine Qa ?_
    refine rk Qb [(71, .b (n.1 == (4 : Int)))] [45] [] [] [] (o0) ?_
    refine ck (n.1 == (4 : Int)) (fun h11 => ?_) (fun h11 => ?_)
    ·
     refine Qa ?_
     refine jn [(4, .b ((Xf n.2.2.2.1) && ((Yi n.2.2.2.2) && ((n.2.2.2.2.1 == (1 : Int)) && ((n.2.1 == (0 : Int)) && (n.2.2.1 == (0 : Int)))))))] [2, 4, 5, 6, 25, 71] [] [2] (Xf n.2.2.2.1) (fun h12 => ?_) (fun h12 => ?_) ?_
     ·
      refine X4 (Yi n.2.2.2.2) (fun h13 => ?_) (fun h13 => ?_)
      ·
       refine X4 (n.2.2.2.2.1 == (1 : Int)) (fun h14 => ?_) (fun h14 => ?_)
       ·
        refine X4 (n.2.1 == (0 : Int)) (fun h15 => ?_) (fun h15 => ?_)
        ·
         refine rk Qb [(4, .b (n.2.2.1 == (0 : Int)))] [2, 4, 5, 6, 25, 71] [] [2] [(2, .val (.b true)), (6, .val (.b true)), (12, .val (.b true)), (17, .val (.b true))] (o2 (Qe (cb h12 (Xv n.2.2.2.1))) (o2 (Qe (cb h13 (Zj n.2.2.2.2))) (o2 (Qf (Qg h14)) (o1 (Qf (Qg h15)))))) ?_
         exact ⟨rfl, Qc (by rw [h12, h13, h14, h15]; first | done | kernel_rfl)⟩
        ·
         refine rk Qb [] [2, 5, 6, 25, 71] [] [2] [(2, .val (.b true)), (6, .val (.b true)), (12, .val (.b true)), (17, .val (.b false))] (o2 (Qe (cb h12 (Xv n.2.2.2.1))) (o2 (Qe (cb h13 (Zj n.2.2.2.2))) (o2 (Qf (Qg h14)) (o1 (Qf (Qg h15)))))) ?_
         exact ⟨rfl, Qc (by rw [h12, h13, h14, h15]; first | done | kernel_rfl)⟩
       ·
        refine rk Qb [] [2, 5, 6, 25, 71] [] [2] [(2, .val (.b true)), (6, .val (.b true)), (12, .val (.b false))] (o2 (Qe (cb h12 (Xv n.2.2.2.1))) (o2 (Qe (cb h13 (Zj n.2.2.2.2))) (o1 (Qf (Qg h14))))) ?_
        exact ⟨rfl, Qc (by rw [h12, h13, h14]; first | done | kernel_rfl)⟩
      ·
       refine rk Qb [] [2, 5, 6, 25, 71] [] [2] [(2, .val (.b true)), (6, .val (.b false))] (o2 (Qe (cb h12 (Xv n.2.2.2.1))) (o1 (Qe (cb h13 (Zj n.2.2.2.2))))) ?_
       exact ⟨rfl, Qc (by rw [h12, h13]; first | done | kernel_rfl)⟩
     ·
      refine rk Qb [] [2, 5, 6, 25, 71] [] [2] [(2, .val (.b false))] (o1 (Qe (cb h12 (Xv n.2.2.2.1)))) ?_
      exact ⟨rfl, Qc (by rw [h12]; first | done | kernel_rfl)⟩
     refine Qi ?_
     exact Zb [] (congrArg (fun z => (.b z : AV)) (show Yr n at_ = ((Xf n.2.2.2.1) && ((Yi n.2.2.2.2) && ((n.2.2.2.2.1 == (1 : Int)) && ((n.2.1 == (0 : Int)) && (n.2.2.1 == (0 : Int)))))) from Qv h3 (Qv h4 (Qv h6 (Yf h11 (rfl))))).symm)
    ·
     refine Qa ?_
     refine rk Qb [(97, .b (n.1 == (5 : Int)))] [71] [] [] [] (o0) ?_
     refine ck (n.1 == (5 : Int)) (fun h16 => ?_) (fun h16 => ?_)
     ·
      refine Qa ?_
      refine jn [(4, .b (((Qt n.2.1 0 (IntKind.i64.wrap (at_ - 1))) && decide (at_ > (0 : Int))) && ((n.2.2.1 == (0 : Int)) && ((n.2.2.2.1.toList == (⟨#[]⟩ : ByteArray).toList) && ((n.2.2.2.2.1 == 0) && ((n.2.2.2.2.2.1 == 0) && ((n.2.2.2.2.2.2.toList == (⟨#[]⟩ : ByteArray).toList) && true)))))))] [2, 4, 5, 6, 25, 97] [] [2] ((Qt n.2.1 0 (IntKind.i64.wrap (at_ - 1))) && decide (at_ > (0 : Int))) (fun h17 => ?_) (fun h17 => ?_) ?_
      ·
       refine X4 (n.2.2.1 == (0 : Int)) (fun h18 => ?_) (fun h18 => ?_)
       ·
        refine X4 (n.2.2.2.1.toList == (⟨#[]⟩ : ByteArray).toList) (fun h19 => ?_) (fun h19 => ?_)
        ·
         refine rk Qb [(4, .b ((n.2.2.2.2.1 == 0) && ((n.2.2.2.2.2.1 == 0) && ((n.2.2.2.2.2.2.toList == (⟨#[]⟩ : ByteArray).toList) && true))))] [2, 4, 5, 6, 25, 97] [] [2] [(0, .val (.b true)), (4, .val (.b true)), (9, .val (.b true))] (o2 (Qf (Qg h17)) (o2 (Qf (Qg h18)) (o1 (Qf (Qg h19))))) ?_
         exact ⟨rfl, Qc (by rw [h17, h18, h19]; first | done | kernel_rfl)⟩
        ·
         refine rk Qb [] [2, 5, 6, 25, 97] [] [2] [(0, .val (.b true)), (4, .val (.b true)), (9, .val (.b false))] (o2 (Qf (Qg h17)) (o2 (Qf (Qg h18)) (o1 (Qf (Qg h19))))) ?_
         exact ⟨rfl, Qc (by rw [h17, h18, h19]; first | done | kernel_rfl)⟩
       ·
        refine rk Qb [] [2, 5, 6, 25, 97] [] [2] [(0, .val (.b true)), (4, .val (.b false))] (o2 (Qf (Qg h17)) (o1 (Qf (Qg h18)))) ?_
        exact ⟨rfl, Qc (by rw [h17, h18]; first | done | kernel_rfl)⟩
      ·
       refine rk Qb [] [2, 5, 6, 25, 97] [] [2] [(0, .val (.b false))] (o1 (Qf (Qg h17))) ?_
       exact ⟨rfl, Qc (by rw [h17]; first | done | kernel_rfl)⟩
      refine Qi ?_
      exact Zb [] (congrArg (fun z => (.b z : AV)) (show Yr n at_ = (((Qt n.2.1 0 (IntKind.i64.wrap (at_ - 1))) && decide (at_ > (0 : Int))) && ((n.2.2.1 == (0 : Int)) && ((n.2.2.2.1.toList == (⟨#[]⟩ : ByteArray).toList) && ((n.2.2.2.2.1 == 0) && ((n.2.2.2.2.2.1 == 0) && ((n.2.2.2.2.2.2.toList == (⟨#[]⟩ : ByteArray).toList) && true)))))) from Qv h3 (Qv h4 (Qv h6 (Qv h11 (Yf h16 (rfl)))))).symm)
     ·
      refine Qa ?_
      refine Qa ?_
      refine rk Qb [(116, .b (n.1 == (6 : Int)))] [5, 97] [] [] [] (o0) ?_
      refine jn [(116, .b (bif (n.1 == (6 : Int)) then (n.1 == (6 : Int)) else (n.1 == (7 : Int))))] [116] [] [] (n.1 == (6 : Int)) (fun h20 => ?_) (fun h20 => ?_) ?_
      ·
       refine ckt h20 ?_
       refine Qh ?_
       exact ⟨rfl, Qc (by rw [h20]; first | done | kernel_rfl)⟩
      ·
       refine ckf h20 ?_
       refine rk Qb [(116, .b (n.1 == (7 : Int)))] [116] [] [] [] (o0) ?_
       exact ⟨rfl, Qc (by rw [h20]; first | done | kernel_rfl)⟩
      refine ck (bif (n.1 == (6 : Int)) then (n.1 == (6 : Int)) else (n.1 == (7 : Int))) (fun h21 => ?_) (fun h21 => ?_)
      ·
       refine Qa ?_
       refine jn [(4, .b ((((Qt n.2.1 0 (IntKind.i64.wrap (at_ - 1))) && decide (at_ > (0 : Int))) && (Qt n.2.2.1 0 (IntKind.i64.wrap (at_ - 1)))) && ((n.2.2.2.1.toList == (⟨#[]⟩ : ByteArray).toList) && ((n.2.2.2.2.1 == 0) && ((n.2.2.2.2.2.1 == 0) && ((n.2.2.2.2.2.2.toList == (⟨#[]⟩ : ByteArray).toList) && true))))))] [2, 4, 6, 25, 116] [] [2] (((Qt n.2.1 0 (IntKind.i64.wrap (at_ - 1))) && decide (at_ > (0 : Int))) && (Qt n.2.2.1 0 (IntKind.i64.wrap (at_ - 1)))) (fun h22 => ?_) (fun h22 => ?_) ?_
       ·
        refine X4 (n.2.2.2.1.toList == (⟨#[]⟩ : ByteArray).toList) (fun h23 => ?_) (fun h23 => ?_)
        ·
         refine rk Qb [(4, .b ((n.2.2.2.2.1 == 0) && ((n.2.2.2.2.2.1 == 0) && ((n.2.2.2.2.2.2.toList == (⟨#[]⟩ : ByteArray).toList) && true))))] [2, 4, 6, 25, 116] [] [2] [(0, .val (.b true)), (4, .val (.b true))] (o2 (Qf (Qg h22)) (o1 (Qf (Qg h23)))) ?_
         exact ⟨rfl, Qc (by rw [h22, h23]; first | done | kernel_rfl)⟩
        ·
         refine rk Qb [] [2, 6, 25, 116] [] [2] [(0, .val (.b true)), (4, .val (.b false))] (o2 (Qf (Qg h22)) (o1 (Qf (Qg h23)))) ?_
         exact ⟨rfl, Qc (by rw [h22, h23]; first | done | kernel_rfl)⟩
       ·
        refine rk Qb [] [2, 6, 25, 116] [] [2] [(0, .val (.b false))] (o1 (Qf (Qg h22))) ?_
        exact ⟨rfl, Qc (by rw [h22]; first | done | kernel_rfl)⟩
       refine Qi ?_
       exact Zb [] (congrArg (fun z => (.b z : AV)) (show Yr n at_ = ((((Qt n.2.1 0 (IntKind.i64.wrap (at_ - 1))) && decide (at_ > (0 : Int))) && (Qt n.2.2.1 0 (IntKind.i64.wrap (at_ - 1)))) && ((n.2.2.2.1.toList == (⟨#[]⟩ : ByteArray).toList) && ((n.2.2.2.2.1 == 0) && ((n.2.2.2.2.2.1 == 0) && ((n.2.2.2.2.2.2.toList == (⟨#[]⟩ : ByteArray).toList) && true))))) from Qv h3 (Qv h4 (Qv h6 (Qv h11 (Qv h16 (Yf h21 (rfl))))))).symm)
      ·
       refine Qa ?_
       refine Qa ?_
       refine rk Qb [(131, .b (n.1 == (8 : Int)))] [6, 116] [] [] [] (o0) ?_
       refine ck (n.1 == (8 : Int)) (fun h24 => ?_) (fun h24 => ?_)
       ·
        refine Qh ?_
        refine ckt h24 ?_
        refine Qa ?_
        refine jn [(4, .b ((Xr n.2.2.2.1) && ((n.1 == n.1) && ((n.2.1 == 0) && ((n.2.2.1 == 0) && ((n.2.2.2.1.toList == n.2.2.2.1.toList) && ((n.2.2.2.2.1 == 0) && ((n.2.2.2.2.2.1 == 0) && ((n.2.2.2.2.2.2.toList == (⟨#[]⟩ : ByteArray).toList) && true)))))))))] [2, 4, 25, 131] [] [2] (Xr n.2.2.2.1) (fun h25 => ?_) (fun h25 => ?_) ?_
        ·
         refine rk Qb [(4, .b ((n.1 == n.1) && ((n.2.1 == 0) && ((n.2.2.1 == 0) && ((n.2.2.2.1.toList == n.2.2.2.1.toList) && ((n.2.2.2.2.1 == 0) && ((n.2.2.2.2.2.1 == 0) && ((n.2.2.2.2.2.2.toList == (⟨#[]⟩ : ByteArray).toList) && true))))))))] [2, 4, 25, 131] [] [2] [(2, .val (.b true))] (o1 (Qe (cb h25 (Zl n.2.2.2.1)))) ?_
         exact ⟨rfl, Qc (by rw [h25]; first | done | kernel_rfl)⟩
        ·
         refine rk Qb [] [2, 25, 131] [] [2] [(2, .val (.b false))] (o1 (Qe (cb h25 (Zl n.2.2.2.1)))) ?_
         exact ⟨rfl, Qc (by rw [h25]; first | done | kernel_rfl)⟩
        refine Qi ?_
        exact Zb [] (congrArg (fun z => (.b z : AV)) (show Yr n at_ = ((Xr n.2.2.2.1) && ((n.1 == n.1) && ((n.2.1 == 0) && ((n.2.2.1 == 0) && ((n.2.2.2.1.toList == n.2.2.2.1.toList) && ((n.2.2.2.2.1 == 0) && ((n.2.2.2.2.2.1 == 0) && ((n.2.2.2.2.2.2.toList == (⟨#[]⟩ : ByteArray).toList) && true)))))))) from Qv h3 (Qv h4 (Qv h6 (Qv h11 (Qv h16 (Qv h21 (Yf h24 (rfl)))))))).symm)
       ·
        refine rk Qb [(131, .b (n.1 == (9 : Int)))] [25, 131] [] [] [] (o0) ?_
        refine ck (n.1 == (9 : Int)) (fun h26 => ?_) (fun h26 => ?_)
        ·
         refine Qa ?_
         refine jn [(4, .b ((Xr n.2.2.2.1) && ((n.1 == n.1) && ((n.2.1 == 0) && ((n.2.2.1 == 0) && ((n.2.2.2.1.toList == n.2.2.2.1.toList) && ((n.2.2.2.2.1 == 0) && ((n.2.2.2.2.2.1 == 0) && ((n.2.2.2.2.2.2.toList == (⟨#[]⟩ : ByteArray).toList) && true)))))))))] [2, 4, 131] [] [2] (Xr n.2.2.2.1) (fun h27 => ?_) (fun h27 => ?_) ?_
         ·
          refine rk Qb [(4, .b ((n.1 == n.1) && ((n.2.1 == 0) && ((n.2.2.1 == 0) && ((n.2.2.2.1.toList == n.2.2.2.1.toList) && ((n.2.2.2.2.1 == 0) && ((n.2.2.2.2.2.1 == 0) && ((n.2.2.2.2.2.2.toList == (⟨#[]⟩ : ByteArray).toList) && true))))))))] [2, 4, 131] [] [2] [(2, .val (.b true))] (o1 (Qe (cb h27 (Zl n.2.2.2.1)))) ?_
          exact ⟨rfl, Qc (by rw [h27]; first | done | kernel_rfl)⟩
         ·
          refine rk Qb [] [2, 131] [] [2] [(2, .val (.b false))] (o1 (Qe (cb h27 (Zl n.2.2.2.1)))) ?_
          exact ⟨rfl, Qc (by rw [h27]; first | done | kernel_rfl)⟩
         refine Qi ?_
         exact Zb [] (congrArg (fun z => (.b z : AV)) (show Yr n at_ = ((Xr n.2.2.2.1) && ((n.1 == n.1) && ((n.2.1 == 0) && ((n.2.2.1 == 0) && ((n.2.2.2.1.toList == n.2.2.2.1.toList) && ((n.2.2.2.2.1 == 0) && ((n.2.2.2.2.2.1 == 0) && ((n.2.2.2.2.2.2.toList == (⟨#[]⟩ : ByteArray).toList) && true)))))))) from Qv h3 (Qv h4 (Qv h6 (Qv h11 (Qv h16 (Qv h21 (Qv h24 (Yf h26 (rfl))))))))).symm)
        ·
         refine Qh ?_
         refine Qa ?_
         refine rk Qb [] [2, 131] [] [2] [] (o0) ?_
         refine Qi ?_
         exact Zb [] (congrArg (fun z => (.b z : AV)) (show Yr n at_ = false from Qv h3 (Qv h4 (Qv h6 (Qv h11 (Qv h16 (Qv h21 (Qv h24 (Qv h26 (rfl))))))))).symm)
def Jx (at_ : Int) (_ : Nat) (a0 : Yq) (s0 : Int) : Rd (Int) (Int) (Int) := (bif (bif ((a0.1 == (6 : Int)) || (a0.1 == (7 : Int))) then (a0.2.1 == at_) else ((a0.1 == (5 : Int)) && (a0.2.1 == at_))) then (bif (((a0.1 == (6 : Int)) || (a0.1 == (7 : Int))) && (a0.2.2.1 == at_)) then (.next (IntKind.i64.wrap (IntKind.i64.wrap (s0 + 1) + 1))) else (.next (IntKind.i64.wrap (s0 + 1)))) else (bif (((a0.1 == (6 : Int)) || (a0.1 == (7 : Int))) && (a0.2.2.1 == at_)) then (.next (IntKind.i64.wrap (s0 + 1))) else (.next s0)))
def K2 (_ : Nat) (s0 : Int) : Int := s0
def Zt (q : (List Yq)) (at_ : Int) : Int := (Out.on (Xk (Jx at_) K2 q 0 0) (fun y0 => y0))
theorem Qeo (q : (List Yq)) (at_ : Int) : ACalls Tryz.prog 220 [.h q, .i at_] (.i (Zt q at_)) := by
 refine Qn (tt := tt) Qb Tryz.func220 (fn := Tryz.f220) rfl (by unfold Z7; kernel_rfl) (Nat.le_of_ble_eq_true rfl) fun w0 F0 => ?_
 refine Qa ?_
 refine rk Qb [(4, .i 0)] [] [] [] [] (o0) ?_
 refine Qa ?_
 refine rk Qb [(5, .i 0)] [] [] [] [] (o0) ?_
 refine Qa ?_
 refine Qa ?_
 refine rk Qb [(6, .i 0)] [] [] [] [] (o0) ?_
 refine wdT 0 0 .sh q (fun hw1 => ?_)
 have hl2 : List.length q ≤ 1073741824 := Qp (hw1)
 refine blk (fun (k0 : Nat) (s0 : Int) => [(5, .i s0), (6, .i ((k0 : Nat) : Int))]) [5, 6] (fun k0 s0 => []) [] (fun (y0 : Int) => [(5, .i y0)]) [0, 1, 5, 6] (fun y0 => []) [] (fun (k0 : Nat) (s0 : Int) => (Xk (Jx at_) K2 q 0 0) = Xk (Jx at_) K2 (List.drop k0 q) k0 s0) (fun (y0 : Int) => (Xk (Jx at_) K2 q 0 0) = .brk y0) q.length 0 (Qc (by kernel_rfl)) rfl (fun k0 s0 hk0 hI0 => ?_) (fun k0 s0 hk0 hI0 => ?_) (fun y0 hD0 => ?_)
 ·
  obtain ⟨a0, hx0⟩ := X8 (l := q) (i := k0) hk0
  refine Qa ?_
  refine Qa ?_
  refine rk Qb [(11, .b true)] [] [] [] [(2, .val (.i (q.length : Int))), (3, .val (.b true))] (o2 (Qf (Xc q)) (o1 (Qf (Qg (decide_eq_true (p := ((k0 : Nat) : Int) < (q.length : Int)) (by omega)))))) ?_
  refine ckT ?_
  refine Qh ?_
  refine Qa ?_
  refine Q4 ?_
  refine Qa ?_
  refine jn [(7, .b ((a0.1 == (6 : Int)) || (a0.1 == (7 : Int))))] [11] [] [] (a0.1 == (6 : Int)) (fun h3 => ?_) (fun h3 => ?_) ?_
  ·
   have h3d := eq_of_beq h3
   refine rk Qb [(7, .b true)] [11] [] [] [(2, .row [.i a0.1, .i a0.2.1, .i a0.2.2.1, .s a0.2.2.2.1, .i a0.2.2.2.2.1, .i a0.2.2.2.2.2.1, .s a0.2.2.2.2.2.2]), (5, .val (.b true))] (o2 (Ql (Xl (i := ((k0 : Nat) : Int)) (by omega) rfl hx0)) (o1 (Qf (Qg h3)))) ?_
   exact ⟨rfl, Qc (by rw [h3]; first | done | kernel_rfl)⟩
  ·
   have h3d := Zp h3
   refine rk Qb [(7, .b (a0.1 == (7 : Int)))] [11] [] [] [(2, .row [.i a0.1, .i a0.2.1, .i a0.2.2.1, .s a0.2.2.2.1, .i a0.2.2.2.2.1, .i a0.2.2.2.2.2.1, .s a0.2.2.2.2.2.2]), (5, .val (.b false)), (9, .row [.i a0.1, .i a0.2.1, .i a0.2.2.1, .s a0.2.2.2.1, .i a0.2.2.2.2.1, .i a0.2.2.2.2.2.1, .s a0.2.2.2.2.2.2])] (o2 (Ql (Xl (i := ((k0 : Nat) : Int)) (by omega) rfl hx0)) (o2 (Qf (Qg h3)) (o1 (Ql (Xl (i := ((k0 : Nat) : Int)) (by omega) rfl hx0))))) ?_
   exact ⟨rfl, Qc (by rw [h3]; first | done | kernel_rfl)⟩
  refine Qa ?_
  refine Qa ?_
  refine jn [(45, .b (bif ((a0.1 == (6 : Int)) || (a0.1 == (7 : Int))) then (a0.2.1 == at_) else ((a0.1 == (5 : Int)) && (a0.2.1 == at_))))] [] [] [] ((a0.1 == (6 : Int)) || (a0.1 == (7 : Int))) (fun h4 => ?_) (fun h4 => ?_) ?_
  ·
   refine rk Qb [(45, .b (a0.2.1 == at_))] [] [] [] [(0, .val (.b true)), (12, .row [.i a0.1, .i a0.2.1, .i a0.2.2.1, .s a0.2.2.2.1, .i a0.2.2.2.2.1, .i a0.2.2.2.2.2.1, .s a0.2.2.2.2.2.2])] (o2 (Qf (Qg h4)) (o1 (Ql (Xl (i := ((k0 : Nat) : Int)) (by omega) rfl hx0)))) ?_
   exact ⟨rfl, Qc (by rw [h4]; first | done | kernel_rfl)⟩
  ·
   have h4l : ((a0.1 == (6 : Int))) = false := Qra h4
   have h4ld := Zp h4l
   have h4r : ((a0.1 == (7 : Int))) = false := Qul h4
   have h4rd := Zp h4r
   refine X4 (a0.1 == (5 : Int)) (fun h5 => ?_) (fun h5 => ?_)
   ·
    have h5d := eq_of_beq h5
    refine rk Qb [(45, .b (a0.2.1 == at_))] [] [] [] [(0, .val (.b false)), (4, .row [.i a0.1, .i a0.2.1, .i a0.2.2.1, .s a0.2.2.2.1, .i a0.2.2.2.2.1, .i a0.2.2.2.2.2.1, .s a0.2.2.2.2.2.2]), (7, .val (.b true)), (12, .row [.i a0.1, .i a0.2.1, .i a0.2.2.1, .s a0.2.2.2.1, .i a0.2.2.2.2.1, .i a0.2.2.2.2.2.1, .s a0.2.2.2.2.2.2])] (o2 (Qf (Qg h4)) (o2 (Ql (Xl (i := ((k0 : Nat) : Int)) (by omega) rfl hx0)) (o2 (Qf (Qg h5)) (o1 (Ql (Xl (i := ((k0 : Nat) : Int)) (by omega) rfl hx0)))))) ?_
    exact ⟨rfl, Qc (by rw [h4, h5]; first | done | kernel_rfl)⟩
   ·
    have h5d := Zp h5
    refine rk Qb [(45, .b false)] [] [] [] [(0, .val (.b false)), (4, .row [.i a0.1, .i a0.2.1, .i a0.2.2.1, .s a0.2.2.2.1, .i a0.2.2.2.2.1, .i a0.2.2.2.2.2.1, .s a0.2.2.2.2.2.2]), (7, .val (.b false))] (o2 (Qf (Qg h4)) (o2 (Ql (Xl (i := ((k0 : Nat) : Int)) (by omega) rfl hx0)) (o1 (Qf (Qg h5))))) ?_
    exact ⟨rfl, Qc (by rw [h4, h5]; first | done | kernel_rfl)⟩
  refine ck (bif ((a0.1 == (6 : Int)) || (a0.1 == (7 : Int))) then (a0.2.1 == at_) else ((a0.1 == (5 : Int)) && (a0.2.1 == at_))) (fun h6 => ?_) (fun h6 => ?_)
  ·
   refine rk Qb [(5, .i (IntKind.i64.wrap (s0 + 1)))] [5, 45] [] [] [] (o0) ?_
   refine Qa ?_
   refine jn [(57, .b (((a0.1 == (6 : Int)) || (a0.1 == (7 : Int))) && (a0.2.2.1 == at_)))] [7] [] [] ((a0.1 == (6 : Int)) || (a0.1 == (7 : Int))) (fun h7 => ?_) (fun h7 => ?_) ?_
   ·
    refine rk Qb [(57, .b (a0.2.2.1 == at_))] [7] [] [] [(0, .val (.b true)), (4, .row [.i a0.1, .i a0.2.1, .i a0.2.2.1, .s a0.2.2.2.1, .i a0.2.2.2.2.1, .i a0.2.2.2.2.2.1, .s a0.2.2.2.2.2.2])] (o2 (Qf (Qg h7)) (o1 (Ql (Xl (i := ((k0 : Nat) : Int)) (by omega) rfl hx0)))) ?_
    exact ⟨rfl, Qc (by rw [h7]; first | done | kernel_rfl)⟩
   ·
    refine rk Qb [(57, .b false)] [7] [] [] [(0, .val (.b false))] (o1 (Qf (Qg h7))) ?_
    exact ⟨rfl, Qc (by rw [h7]; first | done | kernel_rfl)⟩
   refine ck (((a0.1 == (6 : Int)) || (a0.1 == (7 : Int))) && (a0.2.2.1 == at_)) (fun h8 => ?_) (fun h8 => ?_)
   ·
    have h8r : ((a0.2.2.1 == at_)) = true := Quk h8
    have h8rd := eq_of_beq h8r
    refine rk Qb [(5, .i (IntKind.i64.wrap (IntKind.i64.wrap (s0 + 1) + 1)))] [5, 57] [] [] [] (o0) ?_
    refine rk Qb [(6, .i ((k0 + 1 : Nat) : Int))] [6] [] [] [(1, .val (.i ((k0 + 1 : Nat) : Int)))] (o1 (Qf (Kw (Qs k0 (by omega))))) ?_
    exact Exists.intro (IntKind.i64.wrap (IntKind.i64.wrap (s0 + 1) + 1)) (And.intro (Qc (by kernel_rfl)) (Qw hx0 (Yf h6 (Yf h8 (rfl))) hI0))
   ·
    refine Qh ?_
    refine rk Qb [(6, .i ((k0 + 1 : Nat) : Int))] [6, 57] [] [] [(1, .val (.i ((k0 + 1 : Nat) : Int)))] (o1 (Qf (Kw (Qs k0 (by omega))))) ?_
    exact Exists.intro (IntKind.i64.wrap (s0 + 1)) (And.intro (Qc (by kernel_rfl)) (Qw hx0 (Yf h6 (Qv h8 (rfl))) hI0))
  ·
   refine Qh ?_
   refine Qa ?_
   refine jn [(57, .b (((a0.1 == (6 : Int)) || (a0.1 == (7 : Int))) && (a0.2.2.1 == at_)))] [7, 45] [] [] ((a0.1 == (6 : Int)) || (a0.1 == (7 : Int))) (fun h9 => ?_) (fun h9 => ?_) ?_
   ·
    refine rk Qb [(57, .b (a0.2.2.1 == at_))] [7, 45] [] [] [(0, .val (.b true)), (4, .row [.i a0.1, .i a0.2.1, .i a0.2.2.1, .s a0.2.2.2.1, .i a0.2.2.2.2.1, .i a0.2.2.2.2.2.1, .s a0.2.2.2.2.2.2])] (o2 (Qf (Qg h9)) (o1 (Ql (Xl (i := ((k0 : Nat) : Int)) (by omega) rfl hx0)))) ?_
    exact ⟨rfl, Qc (by rw [h9]; first | done | kernel_rfl)⟩
   ·
    refine rk Qb [(57, .b false)] [7, 45] [] [] [(0, .val (.b false))] (o1 (Qf (Qg h9))) ?_
    exact ⟨rfl, Qc (by rw [h9]; first | done | kernel_rfl)⟩
   refine ck (((a0.1 == (6 : Int)) || (a0.1 == (7 : Int))) && (a0.2.2.1 == at_)) (fun h10 => ?_) (fun h10 => ?_)
   ·
    have h10r : ((a0.2.2.1 == at_)) = true := Quk h10
    have h10rd := eq_of_beq h10r
    refine rk Qb [(5, .i (IntKind.i64.wrap (s0 + 1)))] [5, 57] [] [] [] (o0) ?_
    refine rk Qb [(6, .i ((k0 + 1 : Nat) : Int))] [6] [] [] [(1, .val (.i ((k0 + 1 : Nat) : Int)))] (o1 (Qf (Kw (Qs k0 (by omega))))) ?_
    exact Exists.intro (IntKind.i64.wrap (s0 + 1)) (And.intro (Qc (by kernel_rfl)) (Qw hx0 (Qv h6 (Yf h10 (rfl))) hI0))
   ·
    refine Qh ?_
    refine rk Qb [(6, .i ((k0 + 1 : Nat) : Int))] [6, 57] [] [] [(1, .val (.i ((k0 + 1 : Nat) : Int)))] (o1 (Qf (Kw (Qs k0 (by omega))))) ?_
    exact Exists.intro s0 (And.intro (Qc (by kernel_rfl)) (Qw hx0 (Qv h6 (Qv h10 (rfl))) hI0))
 ·
  refine Qa ?_
  refine Qa ?_
  refine rk Qb [(11, .b false)] [] [] [] [(2, .val (.i (q.length : Int))), (3, .val (.b false))] (o2 (Qf (Xc q)) (o1 (Qf (Qg (decide_eq_false (p := ((k0 : Nat) : Int) < (q.length : Int)) (by omega)))))) ?_
  refine ckF ?_
  refine Xj ?_
  exact Exists.intro s0 (And.intro (Qc (by kernel_rfl)) (X9 hk0 (rfl) hI0))
 ·
  refine Qa ?_
  refine rk Qb [(4, .i y0)] [4, 5] [] [] [] (o0) ?_
  refine Qi ?_
  exact Zb [] (congrArg (fun z => (.i z : AV)) (show Zt q at_ = y0 from Hk hD0 (rfl)).symm)
def J6 (q : (List Yq)) (k0 : Nat) (a0 : Yq) (_ : Unit) : Rd (Bool) (Unit) (Unit) := (bif ((!(Yr a0 ((k0 : Nat) : Int))) || (decide (((k0 : Nat) : Int) < ((q.length : Int) - 1)) && ((Zt q ((k0 : Nat) : Int)) != (1 : Int)))) then (.ret false) else (.next ()))
def K3 (_ : Nat) (_ : Unit) : Unit := ()
def Xz (q : (List Yq)) : Bool := (Out.on (Xk (J6 q) K3 q 0 ()) (fun _ => (Qt (q.length : Int) 1 9)))
theorem Vp (q : (List Yq)) : ACalls Tryz.prog 209 [.h q] (.b (Xz q)) := by
 refine Qn (tt := tt) Qb Tryz.func209 (fn := Tryz.f209) rfl (by unfold Z7; kernel_rfl) (Nat.le_of_ble_eq_true rfl) fun w0 F0 => ?_
 refine Qa ?_
 refine rk Qb [(2, .b false)] [] [] [] [] (o0) ?_
 refine Qa ?_
 refine Qa ?_
 refine rk Qb [(3, .i 0)] [] [] [] [] (o0) ?_
 refine wdT 0 0 .sh q (fun hw1 => ?_)
 have hl2 : List.length q ≤ 1073741824 := Qp (hw1)
 refine blk (fun (k0 : Nat) (s0 : Unit) => [(3, .i ((k0 : Nat) : Int))]) [3] (fun k0 s0 => []) [] (fun (y0 : Unit) => []) [3] (fun y0 => []) [] (fun (k0 : Nat) (s0 : Unit) => (Xk (J6 q) K3 q 0 ()) = Xk (J6 q) K3 (List.drop k0 q) k0 s0) (fun (y0 : Unit) => (Xk (J6 q) K3 q 0 ()) = .brk y0) q.length () (Qc (by kernel_rfl)) rfl (fun k0 s0 hk0 hI0 => ?_) (fun k0 s0 hk0 hI0 => ?_) (fun y0 hD0 => ?_)
 ·
  obtain ⟨a0, hx0⟩ := X8 (l := q) (i := k0) hk0
  refine Qa ?_
  refine Qa ?_
  refine rk Qb [(7, .b true)] [] [] [] [(2, .val (.i (q.length : Int))), (3, .val (.b true))] (o2 (Qf (Xc q)) (o1 (Qf (Qg (decide_eq_true (p := ((k0 : Nat) : Int) < (q.length : Int)) (by omega)))))) ?_
  refine ckT ?_
  refine Qh ?_
  refine Qa ?_
  refine Q4 ?_
  refine Qa ?_
  refine jn [(29, .b ((!(Yr a0 ((k0 : Nat) : Int))) || (decide (((k0 : Nat) : Int) < ((q.length : Int) - 1)) && ((Zt q ((k0 : Nat) : Int)) != (1 : Int)))))] [7] [] [] (!(Yr a0 ((k0 : Nat) : Int))) (fun h3 => ?_) (fun h3 => ?_) ?_
  ·
   have h3n : (Yr a0 ((k0 : Nat) : Int)) = false := Qa3 h3
   refine rk Qb [(29, .b true)] [7] [] [] [(2, .row [.i a0.1, .i a0.2.1, .i a0.2.2.1, .s a0.2.2.2.1, .i a0.2.2.2.2.1, .i a0.2.2.2.2.2.1, .s a0.2.2.2.2.2.2]), (5, .val (.b false)), (6, .val (.b true))] (o2 (Ql (Xl (i := ((k0 : Nat) : Int)) (by omega) rfl hx0)) (o2 (Qe (cb h3n (Qbf a0 ((k0 : Nat) : Int)))) (o1 (Qf (show .b (!false) = .b true from rfl))))) ?_
   exact ⟨rfl, Qc (by rw [h3]; first | done | kernel_rfl)⟩
  ·
   have h3n : (Yr a0 ((k0 : Nat) : Int)) = true := Vo h3
   refine X4 (decide (((k0 : Nat) : Int) < ((q.length : Int) - 1))) (fun h4 => ?_) (fun h4 => ?_)
   ·
    have h4d := of_decide_eq_true h4
    refine rk Qb [(29, .b ((Zt q ((k0 : Nat) : Int)) != (1 : Int)))] [7] [] [] [(2, .row [.i a0.1, .i a0.2.1, .i a0.2.2.1, .s a0.2.2.2.1, .i a0.2.2.2.2.1, .i a0.2.2.2.2.2.1, .s a0.2.2.2.2.2.2]), (5, .val (.b true)), (6, .val (.b false)), (10, .val (.i (q.length : Int))), (11, .val (.i ((q.length : Int) - 1))), (12, .val (.b true)), (16, .val (.i (Zt q ((k0 : Nat) : Int))))] (o2 (Ql (Xl (i := ((k0 : Nat) : Int)) (by omega) rfl hx0)) (o2 (Qe (cb h3n (Qbf a0 ((k0 : Nat) : Int)))) (o2 (Qf (show .b (!true) = .b false from rfl)) (o2 (Qf (Xc q)) (o2 (Qf (Kw (IntWalk.i64_in ((q.length : Int) - 1) (by omega)))) (o2 (Qf (Qg h4)) (o1 (Qe (Qeo q ((k0 : Nat) : Int)))))))))) ?_
    exact ⟨rfl, Qc (by rw [h3, h4]; first | done | kernel_rfl)⟩
   ·
    have h4d := of_decide_eq_false h4
    refine rk Qb [(29, .b false)] [7] [] [] [(2, .row [.i a0.1, .i a0.2.1, .i a0.2.2.1, .s a0.2.2.2.1, .i a0.2.2.2.2.1, .i a0.2.2.2.2.2.1, .s a0.2.2.2.2.2.2]), (5, .val (.b true)), (6, .val (.b false)), (10, .val (.i (q.length : Int))), (11, .val (.i ((q.length : Int) - 1))), (12, .val (.b false))] (o2 (Ql (Xl (i := ((k0 : Nat) : Int)) (by omega) rfl hx0)) (o2 (Qe (cb h3n (Qbf a0 ((k0 : Nat) : Int)))) (o2 (Qf (show .b (!true) = .b false from rfl)) (o2 (Qf (Xc q)) (o2 (Qf (Kw (IntWalk.i64_in ((q.length : Int) - 1) (by omega)))) (o1 (Qf (Qg h4)))))))) ?_
    exact ⟨rfl, Qc (by rw [h3, h4]; first | done | kernel_rfl)⟩
  refine ck ((!(Yr a0 ((k0 : Nat) : Int))) || (decide (((k0 : Nat) : Int) < ((q.length : Int) - 1)) && ((Zt q ((k0 : Nat) : Int)) != (1 : Int)))) (fun h5 => ?_) (fun h5 => ?_)
  ·
   refine Qa ?_
   refine rk Qb [] [29] [] [] [] (o0) ?_
   refine Qi ?_
   have hr6 : (Xk (J6 q) K3 q 0 ()) = .ret false := Jq hx0 (Yf h5 (rfl)) hI0
   exact Zb [] (congrArg (fun z => (.b z : AV)) (show Xz q = false from Qgl hr6).symm)
  ·
   refine Qh ?_
   refine rk Qb [(3, .i ((k0 + 1 : Nat) : Int))] [3, 29] [] [] [(1, .val (.i ((k0 + 1 : Nat) : Int)))] (o1 (Qf (Kw (Qs k0 (by omega))))) ?_
   exact Exists.intro () (And.intro (Qc (by kernel_rfl)) (Qw hx0 (Qv h5 (rfl)) hI0))
 ·
  refine Qa ?_
  refine Qa ?_
  refine rk Qb [(7, .b false)] [] [] [] [(2, .val (.i (q.length : Int))), (3, .val (.b false))] (o2 (Qf (Xc q)) (o1 (Qf (Qg (decide_eq_false (p := ((k0 : Nat) : Int) < (q.length : Int)) (by omega)))))) ?_
  refine ckF ?_
  refine Xj ?_
  exact Exists.intro () (And.intro (Qc (by kernel_rfl)) (X9 hk0 (rfl) hI0))
 ·
  refine Qa ?_
  refine rk Qb [(2, .b (Qt (q.length : Int) 1 9))] [0, 2] [] [] [(1, .val (.i (q.length : Int))), (2, .val (.b (Qt (q.length : Int) 1 9)))] (o2 (Qf (Xc q)) (o1 (Qe (Y5 (q.length : Int) 1 9)))) ?_
  refine Qi ?_
  exact Zb [] (congrArg (fun z => (.b z : AV)) (show Xz q = (Qt (q.length : Int) 1 9) from Hk hD0 (rfl)).symm)
end Go.Proofs.YtnhmnfmhnepjmaaGreat
namespace Go.Proofs.YtnhmnfmhnepjmaaGreat
open Go.RowKit
theorem Qpe (a b c : Int) : Xd a b c = Qt a b c := rfl
theorem Qhv {a b c : Int} : Xd a b c = true ↔ b ≤ a ∧ a ≤ c := by simp [Xd]
theorem Qcp {a b c : Int} : Qt a b c = true ↔ b ≤ a ∧ a ≤ c := by simp [Qt]
theorem vstr_eq (s : ByteArray) : Xn s = Xr s := rfl
theorem Qs5 (s : ByteArray) : Xs s = Xf s := by
  unfold Xs Xf Vy
  by_cases h : s.size = 1
  · simp only [h, Int.toNat_natCast, U5, K9]
    by_cases h1 : U0 s 0 < 97 <;> by_cases h2 : U0 s 0 > 122 <;> simp [h1, h2, Out.on, Qt, Wa] <;> omega
  · have h1 : ((s.size : Int) == 1) = false := by simpa using fun e : (s.size : Int) = 1 => h (by omega)
    have h2 : Qt (s.size : Int) 1 1 = false := by simp [Qt]; omega
    rw [h1, h2, Bool.false_and]
    cases hf : U5 (K9 s) Wa (Int.toNat (s.size : Int)) 0 () with
    | brk t => rfl
    | ret r =>
      have key : ∀ n k, ∀ r, U5 (K9 s) Wa n k () = .ret r → r = false := by
        intro n
        induction n with
        | zero => intro k r h; simp [U5] at h
        | succ n ih =>
          intro k r h
          simp only [U5, K9] at h
          cases hc : (decide (U0 s ((k : Nat) : Int) < (97 : Int)) || decide (U0 s ((k : Nat) : Int) > (122 : Int))) with
          | true => rw [hc] at h; simp only [cond_true] at h; cases h; rfl
          | false => rw [hc] at h; exact ih _ _ h
      exact (key _ _ _ hf).symm
theorem vval_eq (v : H5) : Za v = Yi v := rfl
theorem vnode_eq (n : Yq) (k : Int) : X5 n k = Yr n k := by
  unfold X5 Yr
  rw [Qs5, vval_eq, vstr_eq]
  simp only [Qpe]
  by_cases h1 : n.1 = 1
  · simp [h1]
  by_cases h2 : n.1 = 2
  · simp [h1, h2, Bool.and_comm]
  by_cases h3 : n.1 = 3
  · simp [h1, h2, h3]; ac_rfl
  by_cases h4 : n.1 = 4
  · simp [h1, h2, h3, h4]; cases h : (n.2.2.2.2.1 == 1) <;> simp_all <;> ac_rfl
  by_cases h5 : n.1 = 5
  · simp [h1, h2, h3, h4, h5]; ac_rfl
  by_cases h6 : n.1 = 6
  · simp [h1, h2, h3, h4, h5, h6]; ac_rfl
  by_cases h7 : n.1 = 7
  · simp [h1, h2, h3, h4, h5, h6, h7]; ac_rfl
  by_cases h8 : n.1 = 8
  · simp [h1, h2, h3, h4, h5, h6, h7, h8, Bool.and_comm]
  by_cases h9 : n.1 = 9
  · simp [h1, h2, h3, h4, h5, h6, h7, h8, h9, Bool.and_comm]
  simp only [beq_eq_false_iff_ne.2 h1, beq_eq_false_iff_ne.2 h2, beq_eq_false_iff_ne.2 h3, beq_eq_false_iff_ne.2 h4, beq_eq_false_iff_ne.2 h5, beq_eq_false_iff_ne.2 h6, beq_eq_false_iff_ne.2 h7, beq_eq_false_iff_ne.2 h8, beq_eq_false_iff_ne.2 h9, cond_false]
theorem refs_eq (q : List Yq) (k : Int) : Y3 q k = Zt q k := by
  unfold Y3 Zt
  rw [Qdr (f := Zc k) (g := Jx k) (e := Jw) (e' := K2) (fun i a s => by
    unfold Zc Jx
    cases (a.2.1 == k) <;> cases (a.2.2.1 == k) <;> cases (a.1 == 6) <;> cases (a.1 == 7) <;> cases (a.1 == 5) <;> rfl) (fun _ _ => rfl)]
theorem vq_eq (q : List Yq) : Qm q = Xz q := by
  unfold Qm Xz
  rw [Qdr (f := Yg q) (g := J6 q) (e := Zs) (e' := K3) (fun i a s => by
    unfold Yg J6
    rw [vnode_eq, refs_eq]) (fun _ _ => rfl)]
  rfl
theorem Qfw {q : List Yq} (h : Xz q = true) : Qm q = true := (vq_eq q).trans h
theorem vq_run {q : List Yq} (h : Qm q = true) : (∃ t, Xk (Yg q) Zs q 0 () = .brk t) ∧ Xd (q.length : Int) 1 9 = true := by
  unfold Qm at h
  cases hf : Xk (Yg q) Zs q 0 () with
  | brk t => rw [hf] at h; exact ⟨⟨t, rfl⟩, h⟩
  | ret r =>
    rw [hf] at h
    obtain rfl : r = true := h
    exfalso
    have key : ∀ (l : List Yq) k, Xk (Yg q) Zs l k () ≠ .ret true := by
      intro l
      induction l with
      | nil => intro k h; simp [Xk] at h
      | cons a l ih =>
        intro k h
        simp only [Xk] at h
        unfold Yg at h
        split at h
        · rename_i hf; exact ih _ h
        · cases h
        · rename_i r hf; cases h; revert hf; generalize (_ || _ : Bool) = c; cases c <;> simp
    exact key _ _ hf
theorem Qj6 {q : List Yq} (h : Qm q = true) : 1 ≤ q.length ∧ q.length ≤ 9 := by
  have := Qhv.1 (vq_run h).2
  omega
theorem Qrj {q : List Yq} (h : Qm q = true) {i : Nat} {n : Yq} (hi : q[i]? = some n) : X5 n (i : Int) = true := by
  obtain ⟨⟨t, ht⟩, _⟩ := vq_run h
  have := Qna (fun k a t => by unfold Yg; generalize (_ || _ : Bool) = c; cases c <;> simp) ht i n hi
  unfold Yg at this
  rw [Nat.zero_add] at this
  cases hn : X5 n (i : Int) with
  | true => rfl
  | false => rw [hn] at this; simp at this
theorem vn_kids {n : Yq} {k : Int} (h : X5 n k = true) (hk : 0 ≤ k ∧ k < 4611686018427387904) : (n.1 = 5 ∨ n.1 = 6 ∨ n.1 = 7 → 0 ≤ n.2.1 ∧ n.2.1 < k) ∧ (n.1 = 6 ∨ n.1 = 7 → 0 ≤ n.2.2.1 ∧ n.2.2.1 < k) := by
  have hw : IntKind.i64.wrap (k - 1) = k - 1 := IntWalk.i64_in _ (by omega)
  unfold X5 at h
  rw [hw] at h
  refine ⟨fun h5 => ?_, fun h5 => ?_⟩
  · rcases h5 with h5 | h5 | h5 <;> (simp [h5, Xd] at h; omega)
  · rcases h5 with h5 | h5 <;> (simp [h5, Xd] at h; omega)
theorem Qb1 {q : List Yq} (h : Qm q = true) {k : Int} (ha : 0 ≤ k) (hb : k < (q.length : Int)) :
    ((nth q (Int.toNat k)).1 = 5 ∨ (nth q (Int.toNat k)).1 = 6 ∨ (nth q (Int.toNat k)).1 = 7 → 0 ≤ (nth q (Int.toNat k)).2.1 ∧ (nth q (Int.toNat k)).2.1 < k) ∧ ((nth q (Int.toNat k)).1 = 6 ∨ (nth q (Int.toNat k)).1 = 7 → 0 ≤ (nth q (Int.toNat k)).2.2.1 ∧ (nth q (Int.toNat k)).2.2.1 < k) := by
  have hi : q[Int.toNat k]? = some (nth q (Int.toNat k)) := X3 (by omega)
  have := Qrj h hi
  rw [Int.toNat_of_nonneg ha] at this
  exact vn_kids this ⟨ha, by have := (Qj6 h).2; omega⟩
section
variable {q : List Yq} {k : Int} (h : Qm q = true) (ha : 0 ≤ k) (hb : k < (q.length : Int))
include h ha hb
theorem ql_a (h5 : ((nth q (Int.toNat k)).1 == (5 : Int)) = true) : 0 ≤ (nth q (Int.toNat k)).2.1 ∧ (nth q (Int.toNat k)).2.1 < k := (Qb1 h ha hb).1 (.inl (eq_of_beq h5))
theorem Qs6 (h5 : ((nth q (Int.toNat k)).1 == (6 : Int)) = true) : 0 ≤ (nth q (Int.toNat k)).2.1 ∧ (nth q (Int.toNat k)).2.1 < k := (Qb1 h ha hb).1 (.inr (.inl (eq_of_beq h5)))
theorem Qut (h5 : ((nth q (Int.toNat k)).1 == (7 : Int)) = true) : 0 ≤ (nth q (Int.toNat k)).2.1 ∧ (nth q (Int.toNat k)).2.1 < k := (Qb1 h ha hb).1 (.inr (.inr (eq_of_beq h5)))
theorem qr_b (h5 : ((nth q (Int.toNat k)).1 == (6 : Int)) = true) : 0 ≤ (nth q (Int.toNat k)).2.2.1 ∧ (nth q (Int.toNat k)).2.2.1 < k := (Qb1 h ha hb).2 (.inl (eq_of_beq h5))
theorem qr_c (h5 : ((nth q (Int.toNat k)).1 == (7 : Int)) = true) : 0 ≤ (nth q (Int.toNat k)).2.2.1 ∧ (nth q (Int.toNat k)).2.2.1 < k := (Qb1 h ha hb).2 (.inr (eq_of_beq h5))
theorem qlr_bc (h5 : (((nth q (Int.toNat k)).1 == (6 : Int)) || ((nth q (Int.toNat k)).1 == (7 : Int))) = true) : (0 ≤ (nth q (Int.toNat k)).2.1 ∧ (nth q (Int.toNat k)).2.1 < k) ∧ (0 ≤ (nth q (Int.toNat k)).2.2.1 ∧ (nth q (Int.toNat k)).2.2.1 < k) := by
  have h6 : (nth q (Int.toNat k)).1 = 6 ∨ (nth q (Int.toNat k)).1 = 7 := by simpa using h5
  exact ⟨(Qb1 h ha hb).1 (.inr h6), (Qb1 h ha hb).2 h6⟩
end
open GoE (enc wide)
def Yl (q : (List Yq)) (k0 : Nat) (s0 : (List Bool)) : Rd ((List Bool)) ((List Bool)) ((List Bool)) := (bif ((nth q (Int.toNat (dn ((q.length : Int) - 1) k0))).1 == (5 : Int)) then (.next (List.set s0 (Int.toNat ((nth q (Int.toNat (dn ((q.length : Int) - 1) k0))).2.1)) ((nth s0 (Int.toNat (dn ((q.length : Int) - 1) k0))) || ((nth q (Int.toNat (dn ((q.length : Int) - 1) k0))).1 == (5 : Int))))) else (bif ((nth q (Int.toNat (dn ((q.length : Int) - 1) k0))).1 == (6 : Int)) then (.next (List.set (List.set s0 (Int.toNat ((nth q (Int.toNat (dn ((q.length : Int) - 1) k0))).2.1)) ((nth s0 (Int.toNat (dn ((q.length : Int) - 1) k0))) || ((nth q (Int.toNat (dn ((q.length : Int) - 1) k0))).1 == (5 : Int)))) (Int.toNat ((nth q (Int.toNat (dn ((q.length : Int) - 1) k0))).2.2.1)) ((nth s0 (Int.toNat (dn ((q.length : Int) - 1) k0))) || ((nth q (Int.toNat (dn ((q.length : Int) - 1) k0))).1 == (5 : Int))))) else (bif ((nth q (Int.toNat (dn ((q.length : Int) - 1) k0))).1 == (7 : Int)) then (.next (List.set (List.set s0 (Int.toNat ((nth q (Int.toNat (dn ((q.length : Int) - 1) k0))).2.1)) ((nth s0 (Int.toNat (dn ((q.length : Int) - 1) k0))) || ((nth q (Int.toNat (dn ((q.length : Int) - 1) k0))).1 == (5 : Int)))) (Int.toNat ((nth q (Int.toNat (dn ((q.length : Int) - 1) k0))).2.2.1)) ((nth s0 (Int.toNat (dn ((q.length : Int) - 1) k0))) || ((nth q (Int.toNat (dn ((q.length : Int) - 1) k0))).1 == (5 : Int))))) else (.next s0))))
def J7 (_ : Nat) (s0 : (List Bool)) : (List Bool) := s0
def Q7 (q : (List Yq)) : (List Bool) := (bif (!(Qm q)) then [] else (Out.on (U5 (Yl q) J7 (List.length q) 0 (List.replicate (Int.toNat (q.length : Int)) false)) (fun y0 => y0)))
theorem Qgr (q : (List Yq)) : ACalls Tryz.prog 227 [.h q] (.o 0 (Q7 q)) := by
 refine Qn (tt := tt) Qb Tryz.func227 (fn := Tryz.f227) rfl (by unfold Z7; kernel_rfl) (Nat.le_of_ble_eq_true rfl) fun w0 F0 => ?_
 refine Qa ?_
 refine rk Qb [(2, .e 0)] [] [] [] [] (o0) ?_
 refine Qa ?_
 refine Qa ?_
 refine rk Qb [(8, .b (!(Qm q)))] [] [] [] [(1, .val (.b (Qm q)))] (o1 (Qe (Wz q))) ?_
 refine ck (!(Qm q)) (fun h1 => ?_) (fun h1 => ?_)
 ·
  refine Qa ?_
  refine rk Qb [] [8] [] [] [] (o0) ?_
  refine opn [(false, 2, 0, true, 384000, 1)] ?_
  refine Qi ?_
  exact Zb [] (congrArg (fun z => (.o 0 z : AV)) (show Q7 q = [] from Yf h1 (rfl)).symm)
 ·
  have h1n : (Qm q) = true := Vo h1
  refine Qh ?_
  refine Qa ?_
  refine wdT 0 0 .sh q (fun hw2 => ?_)
  have hl3 : List.length q ≤ 1073741824 := Qp (hw2)
  refine rk Qb [(3, .one (.slc (.own true 704) 1 (List.replicate (Int.toNat (q.length : Int)) [.b false])))] [8] [] [] [(1, .val (.i (q.length : Int)))] (o2 (Qf (Xc q)) (o1 (Qid (lo := 0) (hi := (q.length : Int)) (n := 1073741824) (⟨by omega, by omega, by omega⟩)))) ?_
  refine eqn [(3, .o 704 (List.replicate (Int.toNat (q.length : Int)) false))] [3] [] [] (by rw [show (List.replicate (Int.toNat (q.length : Int)) [.b false]) = (eL (List.replicate (Int.toNat (q.length : Int)) false)) from mk_eL _ false]; first | done | kernel_rfl) ?_
  refine Qa ?_
  refine Qa ?_
  refine rk Qb [(4, .i ((q.length : Int) - 1))] [] [] [] [(1, .val (.i (q.length : Int))), (2, .val (.i ((q.length : Int) - 1)))] (o2 (Qf (Xc q)) (o1 (Qf (Kw (IntWalk.i64_in ((q.length : Int) - 1) (by omega)))))) ?_
  refine blk (fun (k0 : Nat) (s0 : (List Bool)) => [(3, .o 704 s0), (4, .i (dn ((q.length : Int) - 1) k0))]) [3, 4] (fun k0 s0 => []) [] (fun (y0 : (List Bool)) => [(3, .o 704 y0)]) [0, 3, 4] (fun y0 => []) [] (fun (k0 : Nat) (s0 : (List Bool)) => (U5 (Yl q) J7 (List.length q) 0 (List.replicate (Int.toNat (q.length : Int)) false)) = U5 (Yl q) J7 ((List.length q) - k0) k0 s0 ∧ List.length s0 = (Int.toNat (q.length : Int))) (fun (y0 : (List Bool)) => (U5 (Yl q) J7 (List.length q) 0 (List.replicate (Int.toNat (q.length : Int)) false)) = .brk y0 ∧ List.length y0 = (Int.toNat (q.length : Int))) (List.length q) (List.replicate (Int.toNat (q.length : Int)) false) (Qc (by kernel_rfl)) ⟨rfl, (by simp)⟩ (fun k0 s0 hk0 hI0 => ?_) (fun k0 s0 hk0 hI0 => ?_) (fun y0 hD0 => ?_)
  ·
   have hA0_0 := hI0.2
   have hdn0 := Qq8 ((q.length : Int) - 1) k0
   refine Qa ?_
   refine Qa ?_
   refine rk Qb [(16, .b true)] [] [] [] [(1, .val (.b true))] (o1 (Qf (Qg (decide_eq_true (p := (dn ((q.length : Int) - 1) k0) ≥ (0 : Int)) (by omega))))) ?_
   refine ckT ?_
   refine Qh ?_
   refine Qa ?_
   refine Q4 ?_
   refine Qa ?_
   refine jn [(5, .b ((nth s0 (Int.toNat (dn ((q.length : Int) - 1) k0))) || ((nth q (Int.toNat (dn ((q.length : Int) - 1) k0))).1 == (5 : Int))))] [16] [] [] (nth s0 (Int.toNat (dn ((q.length : Int) - 1) k0))) (fun h4 => ?_) (fun h4 => ?_) ?_
   ·
    refine wdT 3 0 (.own true 704) s0 (fun hw6 => ?_)
    have hl7 : List.length s0 ≤ 1073741824 := Qp (hw6)
    have hx5 : s0[(Int.toNat (dn ((q.length : Int) - 1) k0))]? = some (nth s0 (Int.toNat (dn ((q.length : Int) - 1) k0))) := X3 (by omega)
    refine rk Qb [(5, .b true)] [16] [] [] [(2, .rowE [.b (nth s0 (Int.toNat (dn ((q.length : Int) - 1) k0)))]), (3, .val (.b true))] (o2 (Ql (Xl (i := (dn ((q.length : Int) - 1) k0)) (by omega) rfl hx5)) (o1 (Qf (Qg h4)))) ?_
    exact ⟨rfl, Qc (by rw [h4]; first | done | kernel_rfl)⟩
   ·
    refine wdT 3 0 (.own true 704) s0 (fun hw9 => ?_)
    have hl10 : List.length s0 ≤ 1073741824 := Qp (hw9)
    have hx8 : s0[(Int.toNat (dn ((q.length : Int) - 1) k0))]? = some (nth s0 (Int.toNat (dn ((q.length : Int) - 1) k0))) := X3 (by omega)
    have hx11 : q[(Int.toNat (dn ((q.length : Int) - 1) k0))]? = some (nth q (Int.toNat (dn ((q.length : Int) - 1) k0))) := X3 (by omega)
    refine rk Qb [(5, .b ((nth q (Int.toNat (dn ((q.length : Int) - 1) k0))).1 == (5 : Int)))] [16] [] [] [(2, .rowE [.b (nth s0 (Int.toNat (dn ((q.length : Int) - 1) k0)))]), (3, .val (.b false)), (7, .row [.i ((nth q (Int.toNat (dn ((q.length : Int) - 1) k0))).1), .i ((nth q (Int.toNat (dn ((q.length : Int) - 1) k0))).2.1), .i ((nth q (Int.toNat (dn ((q.length : Int) - 1) k0))).2.2.1), .s ((nth q (Int.toNat (dn ((q.length : Int) - 1) k0))).2.2.2.1), .i ((nth q (Int.toNat (dn ((q.length : Int) - 1) k0))).2.2.2.2.1), .i ((nth q (Int.toNat (dn ((q.length : Int) - 1) k0))).2.2.2.2.2.1), .s ((nth q (Int.toNat (dn ((q.length : Int) - 1) k0))).2.2.2.2.2.2)])] (o2 (Ql (Xl (i := (dn ((q.length : Int) - 1) k0)) (by omega) rfl hx8)) (o2 (Qf (Qg h4)) (o1 (Ql (Xl (i := (dn ((q.length : Int) - 1) k0)) (by omega) rfl hx11))))) ?_
    exact ⟨rfl, Qc (by rw [h4]; first | done | kernel_rfl)⟩
   refine Qa ?_
   have hx12 : q[(Int.toNat (dn ((q.length : Int) - 1) k0))]? = some (nth q (Int.toNat (dn ((q.length : Int) - 1) k0))) := X3 (by omega)
   refine rk Qb [(35, .i ((nth q (Int.toNat (dn ((q.length : Int) - 1) k0))).1))] [] [] [] [(2, .row [.i ((nth q (Int.toNat (dn ((q.length : Int) - 1) k0))).1), .i ((nth q (Int.toNat (dn ((q.length : Int) - 1) k0))).2.1), .i ((nth q (Int.toNat (dn ((q.length : Int) - 1) k0))).2.2.1), .s ((nth q (Int.toNat (dn ((q.length : Int) - 1) k0))).2.2.2.1), .i ((nth q (Int.toNat (dn ((q.length : Int) - 1) k0))).2.2.2.2.1), .i ((nth q (Int.toNat (dn ((q.length : Int) - 1) k0))).2.2.2.2.2.1), .s ((nth q (Int.toNat (dn ((q.length : Int) - 1) k0))).2.2.2.2.2.2)])] (o1 (Ql (Xl (i := (dn ((q.length : Int) - 1) k0)) (by omega) rfl hx12))) ?_
   refine Q4 ?_
   refine Qa ?_
   refine rk Qb [(36, .b ((nth q (Int.toNat (dn ((q.length : Int) - 1) k0))).1 == (5 : Int)))] [] [] [] [] (o0) ?_
   refine ck ((nth q (Int.toNat (dn ((q.length : Int) - 1) k0))).1 == (5 : Int)) (fun h13 => ?_) (fun h13 => ?_)
   ·
    have h13k := ql_a h1n (by omega) (by omega) h13
    have h13d := eq_of_beq h13
    refine wdT 3 0 (.own true 704) s0 (fun hw15 => ?_)
    have hl16 : List.length s0 ≤ 1073741824 := Qp (hw15)
    have hx14 : s0[(Int.toNat ((nth q (Int.toNat (dn ((q.length : Int) - 1) k0))).2.1))]? = some (nth s0 (Int.toNat ((nth q (Int.toNat (dn ((q.length : Int) - 1) k0))).2.1))) := X3 (by omega)
    refine rk Qb [(3, .one (.slc (.own true 704) 1 (setRow (eL s0) (Int.toNat ((nth q (Int.toNat (dn ((q.length : Int) - 1) k0))).2.1)) 0 [.b ((nth s0 (Int.toNat (dn ((q.length : Int) - 1) k0))) || ((nth q (Int.toNat (dn ((q.length : Int) - 1) k0))).1 == (5 : Int)))])))] [3, 5, 35, 36] [] [] [(3, .row [.i ((nth q (Int.toNat (dn ((q.length : Int) - 1) k0))).1), .i ((nth q (Int.toNat (dn ((q.length : Int) - 1) k0))).2.1), .i ((nth q (Int.toNat (dn ((q.length : Int) - 1) k0))).2.2.1), .s ((nth q (Int.toNat (dn ((q.length : Int) - 1) k0))).2.2.2.1), .i ((nth q (Int.toNat (dn ((q.length : Int) - 1) k0))).2.2.2.2.1), .i ((nth q (Int.toNat (dn ((q.length : Int) - 1) k0))).2.2.2.2.2.1), .s ((nth q (Int.toNat (dn ((q.length : Int) - 1) k0))).2.2.2.2.2.2)]), (7, .rowE [.b (nth s0 (Int.toNat ((nth q (Int.toNat (dn ((q.length : Int) - 1) k0))).2.1)))])] (o2 (Ql (Xl (i := (dn ((q.length : Int) - 1) k0)) (by omega) rfl hx12)) (o1 (Ql (Xl (i := (nth q (Int.toNat (dn ((q.length : Int) - 1) k0))).2.1) (by omega) rfl hx14)))) ?_
    refine eqn [(3, .o 704 (List.set s0 (Int.toNat ((nth q (Int.toNat (dn ((q.length : Int) - 1) k0))).2.1)) ((nth s0 (Int.toNat (dn ((q.length : Int) - 1) k0))) || ((nth q (Int.toNat (dn ((q.length : Int) - 1) k0))).1 == (5 : Int)))))] [3] [] [] (by rw [Kd (y := ((nth s0 (Int.toNat (dn ((q.length : Int) - 1) k0))) || ((nth q (Int.toNat (dn ((q.length : Int) - 1) k0))).1 == (5 : Int)))) hx14 rfl]; first | done | kernel_rfl) ?_
    refine rk Qb [(4, .i (dn ((q.length : Int) - 1) (k0 + 1)))] [4] [] [] [(1, .val (.i (dn ((q.length : Int) - 1) (k0 + 1))))] (o1 (Qf (show .i (IntKind.i64.wrap ((dn ((q.length : Int) - 1) k0) - 1)) = .i (dn ((q.length : Int) - 1) (k0 + 1)) from Kw (show IntKind.i64.wrap ((dn ((q.length : Int) - 1) k0) - 1) = (dn ((q.length : Int) - 1) (k0 + 1)) from IntWalk.i64_in ((dn ((q.length : Int) - 1) k0) - 1) (by omega))))) ?_
    exact Exists.intro (List.set s0 (Int.toNat ((nth q (Int.toNat (dn ((q.length : Int) - 1) k0))).2.1)) ((nth s0 (Int.toNat (dn ((q.length : Int) - 1) k0))) || ((nth q (Int.toNat (dn ((q.length : Int) - 1) k0))).1 == (5 : Int)))) (And.intro (Qc (by kernel_rfl)) ⟨V0 hk0 (Yf h13 (rfl)) hI0.1, (by first | omega | (simp only [List.length_set]; omega))⟩)
   ·
    have h13d := Zp h13
    refine Qa ?_
    refine Qa ?_
    refine rk Qb [(46, .b ((nth q (Int.toNat (dn ((q.length : Int) - 1) k0))).1 == (6 : Int)))] [36] [] [] [] (o0) ?_
    refine ck ((nth q (Int.toNat (dn ((q.length : Int) - 1) k0))).1 == (6 : Int)) (fun h17 => ?_) (fun h17 => ?_)
    ·
     have h17k := Qs6 h1n (by omega) (by omega) h17; have h17m := qr_b h1n (by omega) (by omega) h17
     have h17d := eq_of_beq h17
     refine Qh ?_
     refine ckt h17 ?_
     refine wdT 3 0 (.own true 704) s0 (fun hw19 => ?_)
     have hl20 : List.length s0 ≤ 1073741824 := Qp (hw19)
     have hx18 : s0[(Int.toNat ((nth q (Int.toNat (dn ((q.length : Int) - 1) k0))).2.1))]? = some (nth s0 (Int.toNat ((nth q (Int.toNat (dn ((q.length : Int) - 1) k0))).2.1))) := X3 (by omega)
     have hx21 : (List.set s0 (Int.toNat ((nth q (Int.toNat (dn ((q.length : Int) - 1) k0))).2.1)) ((nth s0 (Int.toNat (dn ((q.length : Int) - 1) k0))) || ((nth q (Int.toNat (dn ((q.length : Int) - 1) k0))).1 == (5 : Int))))[(Int.toNat ((nth q (Int.toNat (dn ((q.length : Int) - 1) k0))).2.2.1))]? = some (nth (List.set s0 (Int.toNat ((nth q (Int.toNat (dn ((q.length : Int) - 1) k0))).2.1)) ((nth s0 (Int.toNat (dn ((q.length : Int) - 1) k0))) || ((nth q (Int.toNat (dn ((q.length : Int) - 1) k0))).1 == (5 : Int)))) (Int.toNat ((nth q (Int.toNat (dn ((q.length : Int) - 1) k0))).2.2.1))) := X3 (by first | omega | (simp only [List.length_set]; omega))
     refine rd' Qb Zv [(3, .one (.slc (.own true 704) 1 (setRow (setRow (eL s0) (Int.toNat ((nth q (Int.toNat (dn ((q.length : Int) - 1) k0))).2.1)) 0 [.b ((nth s0 (Int.toNat (dn ((q.length : Int) - 1) k0))) || ((nth q (Int.toNat (dn ((q.length : Int) - 1) k0))).1 == (5 : Int)))]) (Int.toNat ((nth q (Int.toNat (dn ((q.length : Int) - 1) k0))).2.2.1)) 0 [.b ((nth s0 (Int.toNat (dn ((q.length : Int) - 1) k0))) || ((nth q (Int.toNat (dn ((q.length : Int) - 1) k0))).1 == (5 : Int)))])))] [3, 5, 35, 46] [] [] [(3, .row [.i ((nth q (Int.toNat (dn ((q.length : Int) - 1) k0))).1), .i ((nth q (Int.toNat (dn ((q.length : Int) - 1) k0))).2.1), .i ((nth q (Int.toNat (dn ((q.length : Int) - 1) k0))).2.2.1), .s ((nth q (Int.toNat (dn ((q.length : Int) - 1) k0))).2.2.2.1), .i ((nth q (Int.toNat (dn ((q.length : Int) - 1) k0))).2.2.2.2.1), .i ((nth q (Int.toNat (dn ((q.length : Int) - 1) k0))).2.2.2.2.2.1), .s ((nth q (Int.toNat (dn ((q.length : Int) - 1) k0))).2.2.2.2.2.2)]), (9, .row [.i ((nth q (Int.toNat (dn ((q.length : Int) - 1) k0))).1), .i ((nth q (Int.toNat (dn ((q.length : Int) - 1) k0))).2.1), .i ((nth q (Int.toNat (dn ((q.length : Int) - 1) k0))).2.2.1), .s ((nth q (Int.toNat (dn ((q.length : Int) - 1) k0))).2.2.2.1), .i ((nth q (Int.toNat (dn ((q.length : Int) - 1) k0))).2.2.2.2.1), .i ((nth q (Int.toNat (dn ((q.length : Int) - 1) k0))).2.2.2.2.2.1), .s ((nth q (Int.toNat (dn ((q.length : Int) - 1) k0))).2.2.2.2.2.2)]), (14, .rowE [.b (nth s0 (Int.toNat ((nth q (Int.toNat (dn ((q.length : Int) - 1) k0))).2.1)))]), (16, .rowE [.b (nth (List.set s0 (Int.toNat ((nth q (Int.toNat (dn ((q.length : Int) - 1) k0))).2.1)) ((nth s0 (Int.toNat (dn ((q.length : Int) - 1) k0))) || ((nth q (Int.toNat (dn ((q.length : Int) - 1) k0))).1 == (5 : Int)))) (Int.toNat ((nth q (Int.toNat (dn ((q.length : Int) - 1) k0))).2.2.1)))])] (o2 (Ql (Xl (i := (dn ((q.length : Int) - 1) k0)) (by omega) rfl hx12)) (o2 (Ql (Xl (i := (dn ((q.length : Int) - 1) k0)) (by omega) rfl hx12)) (o2 (Ql (Xl (i := (nth q (Int.toNat (dn ((q.length : Int) - 1) k0))).2.1) (by omega) rfl hx18)) (o1 (Ql (l := (setRow (eL s0) (Int.toNat ((nth q (Int.toNat (dn ((q.length : Int) - 1) k0))).2.1)) 0 [.b ((nth s0 (Int.toNat (dn ((q.length : Int) - 1) k0))) || ((nth q (Int.toNat (dn ((q.length : Int) - 1) k0))).1 == (5 : Int)))])) (i := ((nth q (Int.toNat (dn ((q.length : Int) - 1) k0))).2.2.1)) (r := [.b (nth (List.set s0 (Int.toNat ((nth q (Int.toNat (dn ((q.length : Int) - 1) k0))).2.1)) ((nth s0 (Int.toNat (dn ((q.length : Int) - 1) k0))) || ((nth q (Int.toNat (dn ((q.length : Int) - 1) k0))).1 == (5 : Int)))) (Int.toNat ((nth q (Int.toNat (dn ((q.length : Int) - 1) k0))).2.2.1)))]) (by rw [Kd (y := ((nth s0 (Int.toNat (dn ((q.length : Int) - 1) k0))) || ((nth q (Int.toNat (dn ((q.length : Int) - 1) k0))).1 == (5 : Int)))) hx18 rfl]; exact Xl (by omega) rfl hx21)))))) ?_
     refine eqn [(3, .o 704 (List.set (List.set s0 (Int.toNat ((nth q (Int.toNat (dn ((q.length : Int) - 1) k0))).2.1)) ((nth s0 (Int.toNat (dn ((q.length : Int) - 1) k0))) || ((nth q (Int.toNat (dn ((q.length : Int) - 1) k0))).1 == (5 : Int)))) (Int.toNat ((nth q (Int.toNat (dn ((q.length : Int) - 1) k0))).2.2.1)) ((nth s0 (Int.toNat (dn ((q.length : Int) - 1) k0))) || ((nth q (Int.toNat (dn ((q.length : Int) - 1) k0))).1 == (5 : Int)))))] [3] [] [] (by rw [Kd (y := ((nth s0 (Int.toNat (dn ((q.length : Int) - 1) k0))) || ((nth q (Int.toNat (dn ((q.length : Int) - 1) k0))).1 == (5 : Int)))) hx18 rfl, Kd (y := ((nth s0 (Int.toNat (dn ((q.length : Int) - 1) k0))) || ((nth q (Int.toNat (dn ((q.length : Int) - 1) k0))).1 == (5 : Int)))) hx21 rfl]; first | done | kernel_rfl) ?_
     refine rk Qb [(4, .i (dn ((q.length : Int) - 1) (k0 + 1)))] [4] [] [] [(1, .val (.i (dn ((q.length : Int) - 1) (k0 + 1))))] (o1 (Qf (show .i (IntKind.i64.wrap ((dn ((q.length : Int) - 1) k0) - 1)) = .i (dn ((q.length : Int) - 1) (k0 + 1)) from Kw (show IntKind.i64.wrap ((dn ((q.length : Int) - 1) k0) - 1) = (dn ((q.length : Int) - 1) (k0 + 1)) from IntWalk.i64_in ((dn ((q.length : Int) - 1) k0) - 1) (by omega))))) ?_
     exact Exists.intro (List.set (List.set s0 (Int.toNat ((nth q (Int.toNat (dn ((q.length : Int) - 1) k0))).2.1)) ((nth s0 (Int.toNat (dn ((q.length : Int) - 1) k0))) || ((nth q (Int.toNat (dn ((q.length : Int) - 1) k0))).1 == (5 : Int)))) (Int.toNat ((nth q (Int.toNat (dn ((q.length : Int) - 1) k0))).2.2.1)) ((nth s0 (Int.toNat (dn ((q.length : Int) - 1) k0))) || ((nth q (Int.toNat (dn ((q.length : Int) - 1) k0))).1 == (5 : Int)))) (And.intro (Qc (by kernel_rfl)) ⟨V0 hk0 (Qv h13 (Yf h17 (rfl))) hI0.1, (by first | omega | (simp only [List.length_set]; omega))⟩)
    ·
     have h17d := Zp h17
     refine rk Qb [(46, .b ((nth q (Int.toNat (dn ((q.length : Int) - 1) k0))).1 == (7 : Int)))] [35, 46] [] [] [] (o0) ?_
     refine ck ((nth q (Int.toNat (dn ((q.length : Int) - 1) k0))).1 == (7 : Int)) (fun h22 => ?_) (fun h22 => ?_)
     ·
      have h22k := Qut h1n (by omega) (by omega) h22; have h22m := qr_c h1n (by omega) (by omega) h22
      have h22d := eq_of_beq h22
      refine wdT 3 0 (.own true 704) s0 (fun hw24 => ?_)
      have hl25 : List.length s0 ≤ 1073741824 := Qp (hw24)
      have hx23 : s0[(Int.toNat ((nth q (Int.toNat (dn ((q.length : Int) - 1) k0))).2.1))]? = some (nth s0 (Int.toNat ((nth q (Int.toNat (dn ((q.length : Int) - 1) k0))).2.1))) := X3 (by omega)
      have hx26 : (List.set s0 (Int.toNat ((nth q (Int.toNat (dn ((q.length : Int) - 1) k0))).2.1)) ((nth s0 (Int.toNat (dn ((q.length : Int) - 1) k0))) || ((nth q (Int.toNat (dn ((q.length : Int) - 1) k0))).1 == (5 : Int))))[(Int.toNat ((nth q (Int.toNat (dn ((q.length : Int) - 1) k0))).2.2.1))]? = some (nth (List.set s0 (Int.toNat ((nth q (Int.toNat (dn ((q.length : Int) - 1) k0))).2.1)) ((nth s0 (Int.toNat (dn ((q.length : Int) - 1) k0))) || ((nth q (Int.toNat (dn ((q.length : Int) - 1) k0))).1 == (5 : Int)))) (Int.toNat ((nth q (Int.toNat (dn ((q.length : Int) - 1) k0))).2.2.1))) := X3 (by first | omega | (simp only [List.length_set]; omega))
      refine rd' Qb Zv [(3, .one (.slc (.own true 704) 1 (setRow (setRow (eL s0) (Int.toNat ((nth q (Int.toNat (dn ((q.length : Int) - 1) k0))).2.1)) 0 [.b ((nth s0 (Int.toNat (dn ((q.length : Int) - 1) k0))) || ((nth q (Int.toNat (dn ((q.length : Int) - 1) k0))).1 == (5 : Int)))]) (Int.toNat ((nth q (Int.toNat (dn ((q.length : Int) - 1) k0))).2.2.1)) 0 [.b ((nth s0 (Int.toNat (dn ((q.length : Int) - 1) k0))) || ((nth q (Int.toNat (dn ((q.length : Int) - 1) k0))).1 == (5 : Int)))])))] [3, 5, 46] [] [] [(3, .row [.i ((nth q (Int.toNat (dn ((q.length : Int) - 1) k0))).1), .i ((nth q (Int.toNat (dn ((q.length : Int) - 1) k0))).2.1), .i ((nth q (Int.toNat (dn ((q.length : Int) - 1) k0))).2.2.1), .s ((nth q (Int.toNat (dn ((q.length : Int) - 1) k0))).2.2.2.1), .i ((nth q (Int.toNat (dn ((q.length : Int) - 1) k0))).2.2.2.2.1), .i ((nth q (Int.toNat (dn ((q.length : Int) - 1) k0))).2.2.2.2.2.1), .s ((nth q (Int.toNat (dn ((q.length : Int) - 1) k0))).2.2.2.2.2.2)]), (9, .row [.i ((nth q (Int.toNat (dn ((q.length : Int) - 1) k0))).1), .i ((nth q (Int.toNat (dn ((q.length : Int) - 1) k0))).2.1), .i ((nth q (Int.toNat (dn ((q.length : Int) - 1) k0))).2.2.1), .s ((nth q (Int.toNat (dn ((q.length : Int) - 1) k0))).2.2.2.1), .i ((nth q (Int.toNat (dn ((q.length : Int) - 1) k0))).2.2.2.2.1), .i ((nth q (Int.toNat (dn ((q.length : Int) - 1) k0))).2.2.2.2.2.1), .s ((nth q (Int.toNat (dn ((q.length : Int) - 1) k0))).2.2.2.2.2.2)]), (14, .rowE [.b (nth s0 (Int.toNat ((nth q (Int.toNat (dn ((q.length : Int) - 1) k0))).2.1)))]), (16, .rowE [.b (nth (List.set s0 (Int.toNat ((nth q (Int.toNat (dn ((q.length : Int) - 1) k0))).2.1)) ((nth s0 (Int.toNat (dn ((q.length : Int) - 1) k0))) || ((nth q (Int.toNat (dn ((q.length : Int) - 1) k0))).1 == (5 : Int)))) (Int.toNat ((nth q (Int.toNat (dn ((q.length : Int) - 1) k0))).2.2.1)))])] (o2 (Ql (Xl (i := (dn ((q.length : Int) - 1) k0)) (by omega) rfl hx12)) (o2 (Ql (Xl (i := (dn ((q.length : Int) - 1) k0)) (by omega) rfl hx12)) (o2 (Ql (Xl (i := (nth q (Int.toNat (dn ((q.length : Int) - 1) k0))).2.1) (by omega) rfl hx23)) (o1 (Ql (l := (setRow (eL s0) (Int.toNat ((nth q (Int.toNat (dn ((q.length : Int) - 1) k0))).2.1)) 0 [.b ((nth s0 (Int.toNat (dn ((q.length : Int) - 1) k0))) || ((nth q (Int.toNat (dn ((q.length : Int) - 1) k0))).1 == (5 : Int)))])) (i := ((nth q (Int.toNat (dn ((q.length : Int) - 1) k0))).2.2.1)) (r := [.b (nth (List.set s0 (Int.toNat ((nth q (Int.toNat (dn ((q.length : Int) - 1) k0))).2.1)) ((nth s0 (Int.toNat (dn ((q.length : Int) - 1) k0))) || ((nth q (Int.toNat (dn ((q.length : Int) - 1) k0))).1 == (5 : Int)))) (Int.toNat ((nth q (Int.toNat (dn ((q.length : Int) - 1) k0))).2.2.1)))]) (by rw [Kd (y := ((nth s0 (Int.toNat (dn ((q.length : Int) - 1) k0))) || ((nth q (Int.toNat (dn ((q.length : Int) - 1) k0))).1 == (5 : Int)))) hx23 rfl]; exact Xl (by omega) rfl hx26)))))) ?_
      refine eqn [(3, .o 704 (List.set (List.set s0 (Int.toNat ((nth q (Int.toNat (dn ((q.length : Int) - 1) k0))).2.1)) ((nth s0 (Int.toNat (dn ((q.length : Int) - 1) k0))) || ((nth q (Int.toNat (dn ((q.length : Int) - 1) k0))).1 == (5 : Int)))) (Int.toNat ((nth q (Int.toNat (dn ((q.length : Int) - 1) k0))).2.2.1)) ((nth s0 (Int.toNat (dn ((q.length : Int) - 1) k0))) || ((nth q (Int.toNat (dn ((q.length : Int) - 1) k0))).1 == (5 : Int)))))] [3] [] [] (by rw [Kd (y := ((nth s0 (Int.toNat (dn ((q.length : Int) - 1) k0))) || ((nth q (Int.toNat (dn ((q.length : Int) - 1) k0))).1 == (5 : Int)))) hx23 rfl, Kd (y := ((nth s0 (Int.toNat (dn ((q.length : Int) - 1) k0))) || ((nth q (Int.toNat (dn ((q.length : Int) - 1) k0))).1 == (5 : Int)))) hx26 rfl]; first | done | kernel_rfl) ?_
      refine rk Qb [(4, .i (dn ((q.length : Int) - 1) (k0 + 1)))] [4] [] [] [(1, .val (.i (dn ((q.length : Int) - 1) (k0 + 1))))] (o1 (Qf (show .i (IntKind.i64.wrap ((dn ((q.length : Int) - 1) k0) - 1)) = .i (dn ((q.length : Int) - 1) (k0 + 1)) from Kw (show IntKind.i64.wrap ((dn ((q.length : Int) - 1) k0) - 1) = (dn ((q.length : Int) - 1) (k0 + 1)) from IntWalk.i64_in ((dn ((q.length : Int) - 1) k0) - 1) (by omega))))) ?_
      exact Exists.intro (List.set (List.set s0 (Int.toNat ((nth q (Int.toNat (dn ((q.length : Int) - 1) k0))).2.1)) ((nth s0 (Int.toNat (dn ((q.length : Int) - 1) k0))) || ((nth q (Int.toNat (dn ((q.length : Int) - 1) k0))).1 == (5 : Int)))) (Int.toNat ((nth q (Int.toNat (dn ((q.length : Int) - 1) k0))).2.2.1)) ((nth s0 (Int.toNat (dn ((q.length : Int) - 1) k0))) || ((nth q (Int.toNat (dn ((q.length : Int) - 1) k0))).1 == (5 : Int)))) (And.intro (Qc (by kernel_rfl)) ⟨V0 hk0 (Qv h13 (Qv h17 (Yf h22 (rfl)))) hI0.1, (by first | omega | (simp only [List.length_set]; omega))⟩)
     ·
      have h22d := Zp h22
      refine Qh ?_
      refine rk Qb [(4, .i (dn ((q.length : Int) - 1) (k0 + 1)))] [4, 5, 46] [] [] [(1, .val (.i (dn ((q.length : Int) - 1) (k0 + 1))))] (o1 (Qf (show .i (IntKind.i64.wrap ((dn ((q.length : Int) - 1) k0) - 1)) = .i (dn ((q.length : Int) - 1) (k0 + 1)) from Kw (show IntKind.i64.wrap ((dn ((q.length : Int) - 1) k0) - 1) = (dn ((q.length : Int) - 1) (k0 + 1)) from IntWalk.i64_in ((dn ((q.length : Int) - 1) k0) - 1) (by omega))))) ?_
      exact Exists.intro s0 (And.intro (Qc (by kernel_rfl)) ⟨V0 hk0 (Qv h13 (Qv h17 (Qv h22 (rfl)))) hI0.1, (by first | omega | (simp only [List.length_set]; omega))⟩)
  ·
   have hA0_0 := hI0.2
   have hdn0 := Qq8 ((q.length : Int) - 1) k0
   refine Qa ?_
   refine Qa ?_
   refine rk Qb [(16, .b false)] [] [] [] [(1, .val (.b false))] (o1 (Qf (Qg (decide_eq_false (p := (dn ((q.length : Int) - 1) k0) ≥ (0 : Int)) (by omega))))) ?_
   refine ckF ?_
   refine Xj ?_
   exact Exists.intro s0 (And.intro (Qc (by kernel_rfl)) ⟨Qb8 hk0 (rfl) hI0.1, by first | omega | (simp only [List.length_set]; omega)⟩)
  ·
   have hD0_0 := hD0.2
   refine Qa ?_
   refine rk Qb [(2, .o 704 y0)] [2, 3] [] [] [] (o0) ?_
   refine Qi ?_
   exact Zb [] (congrArg (fun z => (.o 0 z : AV)) (show Q7 q = y0 from Qv h1 (Hk hD0.1 (rfl))).symm)
def J8 (q : (List Yq)) (k0 : Nat) (s0 : (List Bool)) : Rd ((List Bool)) ((List Bool)) ((List Bool)) := (bif ((nth q (Int.toNat (dn ((q.length : Int) - 1) k0))).1 == (5 : Int)) then (bif (((nth q (Int.toNat (dn ((q.length : Int) - 1) k0))).1 == (6 : Int)) || ((nth q (Int.toNat (dn ((q.length : Int) - 1) k0))).1 == (7 : Int))) then (.next (List.set (List.set (List.set s0 (Int.toNat ((nth q (Int.toNat (dn ((q.length : Int) - 1) k0))).2.1)) true) (Int.toNat ((nth q (Int.toNat (dn ((q.length : Int) - 1) k0))).2.1)) (nth (List.set s0 (Int.toNat ((nth q (Int.toNat (dn ((q.length : Int) - 1) k0))).2.1)) true) (Int.toNat (dn ((q.length : Int) - 1) k0)))) (Int.toNat ((nth q (Int.toNat (dn ((q.length : Int) - 1) k0))).2.2.1)) (nth (List.set (List.set s0 (Int.toNat ((nth q (Int.toNat (dn ((q.length : Int) - 1) k0))).2.1)) true) (Int.toNat ((nth q (Int.toNat (dn ((q.length : Int) - 1) k0))).2.1)) (nth (List.set s0 (Int.toNat ((nth q (Int.toNat (dn ((q.length : Int) - 1) k0))).2.1)) true) (Int.toNat (dn ((q.length : Int) - 1) k0)))) (Int.toNat (dn ((q.length : Int) - 1) k0))))) else (.next (List.set s0 (Int.toNat ((nth q (Int.toNat (dn ((q.length : Int) - 1) k0))).2.1)) true))) else (bif (((nth q (Int.toNat (dn ((q.length : Int) - 1) k0))).1 == (6 : Int)) || ((nth q (Int.toNat (dn ((q.length : Int) - 1) k0))).1 == (7 : Int))) then (.next (List.set (List.set s0 (Int.toNat ((nth q (Int.toNat (dn ((q.length : Int) - 1) k0))).2.1)) (nth s0 (Int.toNat (dn ((q.length : Int) - 1) k0)))) (Int.toNat ((nth q (Int.toNat (dn ((q.length : Int) - 1) k0))).2.2.1)) (nth (List.set s0 (Int.toNat ((nth q (Int.toNat (dn ((q.length : Int) - 1) k0))).2.1)) (nth s0 (Int.toNat (dn ((q.length : Int) - 1) k0)))) (Int.toNat (dn ((q.length : Int) - 1) k0))))) else (.next s0)))
def Wf (_ : Nat) (s0 : (List Bool)) : (List Bool) := s0
def X0 (q : (List Yq)) : (List Bool) := (bif (!(Xz q)) then [] else (Out.on (U5 (J8 q) Wf (List.length q) 0 (List.replicate (Int.toNat (q.length : Int)) false)) (fun y0 => y0)))
theorem Qgs (q : (List Yq)) : ACalls Tryz.prog 233 [.h q] (.o 0 (X0 q)) := by
 refine Qn (tt := tt) Qb Tryz.func233 (fn := Tryz.f233) rfl (by unfold Z7; kernel_rfl) (Nat.le_of_ble_eq_true rfl) fun w0 F0 => ?_
 refine Qa ?_
 refine rk Qb [(2, .e 0)] [] [] [] [] (o0) ?_
 refine Qa ?_
 refine Qa ?_
 refine rk Qb [(9, .b (!(Xz q)))] [] [] [] [(1, .val (.b (Xz q)))] (o1 (Qe (Vp q))) ?_
 refine ck (!(Xz q)) (fun h1 => ?_) (fun h1 => ?_)
 ·
  refine Qa ?_
  refine rk Qb [(2, .one (.slc (.own true 640) 1 []))] [2, 9] [] [] [] (o0) ?_
  refine Qi ?_
  exact Zb [] (congrArg (fun z => (.o 0 z : AV)) (show X0 q = [] from Yf h1 (rfl)).symm)
 ·
  have h1n : (Xz q) = true := Vo h1
  refine Qh ?_
  refine Qa ?_
  refine wdT 0 0 .sh q (fun hw2 => ?_)
  have hl3 : List.length q ≤ 1073741824 := Qp (hw2)
  refine rk Qb [(3, .one (.slc (.own true 832) 1 (List.replicate (Int.toNat (q.length : Int)) [.b false])))] [9] [] [] [(1, .val (.i (q.length : Int)))] (o2 (Qf (Xc q)) (o1 (Qid (lo := 0) (hi := (q.length : Int)) (n := 1073741824) (⟨by omega, by omega, by omega⟩)))) ?_
  refine eqn [(3, .o 832 (List.replicate (Int.toNat (q.length : Int)) false))] [3] [] [] (by rw [show (List.replicate (Int.toNat (q.length : Int)) [.b false]) = (eL (List.replicate (Int.toNat (q.length : Int)) false)) from mk_eL _ false]; first | done | kernel_rfl) ?_
  refine Qa ?_
  refine Qa ?_
  refine rk Qb [(4, .i ((q.length : Int) - 1))] [] [] [] [(1, .val (.i (q.length : Int))), (2, .val (.i ((q.length : Int) - 1)))] (o2 (Qf (Xc q)) (o1 (Qf (Kw (IntWalk.i64_in ((q.length : Int) - 1) (by omega)))))) ?_
  refine blk (fun (k0 : Nat) (s0 : (List Bool)) => [(3, .o 832 s0), (4, .i (dn ((q.length : Int) - 1) k0))]) [3, 4] (fun k0 s0 => []) [] (fun (y0 : (List Bool)) => [(3, .o 832 y0)]) [0, 3, 4] (fun y0 => []) [] (fun (k0 : Nat) (s0 : (List Bool)) => (U5 (J8 q) Wf (List.length q) 0 (List.replicate (Int.toNat (q.length : Int)) false)) = U5 (J8 q) Wf ((List.length q) - k0) k0 s0 ∧ List.length s0 = (Int.toNat (q.length : Int))) (fun (y0 : (List Bool)) => (U5 (J8 q) Wf (List.length q) 0 (List.replicate (Int.toNat (q.length : Int)) false)) = .brk y0 ∧ List.length y0 = (Int.toNat (q.length : Int))) (List.length q) (List.replicate (Int.toNat (q.length : Int)) false) (Qc (by kernel_rfl)) ⟨rfl, (by simp)⟩ (fun k0 s0 hk0 hI0 => ?_) (fun k0 s0 hk0 hI0 => ?_) (fun y0 hD0 => ?_)
  ·
   have hA0_0 := hI0.2
   have hdn0 := Qq8 ((q.length : Int) - 1) k0
   refine Qa ?_
   refine Qa ?_
   refine rk Qb [(18, .b true)] [] [] [] [(1, .val (.b true))] (o1 (Qf (Qg (decide_eq_true (p := (dn ((q.length : Int) - 1) k0) ≥ (0 : Int)) (by omega))))) ?_
   refine ckT ?_
   refine Qh ?_
   refine Qa ?_
   refine Q4 ?_
   refine Qa ?_
   have hx4 : q[(Int.toNat (dn ((q.length : Int) - 1) k0))]? = some (nth q (Int.toNat (dn ((q.length : Int) - 1) k0))) := X3 (by omega)
   refine rk Qb [(5, .p 5 0)] [18] [(5, [.i ((nth q (Int.toNat (dn ((q.length : Int) - 1) k0))).1), .i ((nth q (Int.toNat (dn ((q.length : Int) - 1) k0))).2.1), .i ((nth q (Int.toNat (dn ((q.length : Int) - 1) k0))).2.2.1), .s ((nth q (Int.toNat (dn ((q.length : Int) - 1) k0))).2.2.2.1), .i ((nth q (Int.toNat (dn ((q.length : Int) - 1) k0))).2.2.2.2.1), .i ((nth q (Int.toNat (dn ((q.length : Int) - 1) k0))).2.2.2.2.2.1), .s ((nth q (Int.toNat (dn ((q.length : Int) - 1) k0))).2.2.2.2.2.2)])] [] [(2, .row [.i ((nth q (Int.toNat (dn ((q.length : Int) - 1) k0))).1), .i ((nth q (Int.toNat (dn ((q.length : Int) - 1) k0))).2.1), .i ((nth q (Int.toNat (dn ((q.length : Int) - 1) k0))).2.2.1), .s ((nth q (Int.toNat (dn ((q.length : Int) - 1) k0))).2.2.2.1), .i ((nth q (Int.toNat (dn ((q.length : Int) - 1) k0))).2.2.2.2.1), .i ((nth q (Int.toNat (dn ((q.length : Int) - 1) k0))).2.2.2.2.2.1), .s ((nth q (Int.toNat (dn ((q.length : Int) - 1) k0))).2.2.2.2.2.2)])] (o1 (Ql (Xl (i := (dn ((q.length : Int) - 1) k0)) (by omega) rfl hx4))) ?_
   refine Qa ?_
   refine jn [(6, .b (((nth q (Int.toNat (dn ((q.length : Int) - 1) k0))).1 == (6 : Int)) || ((nth q (Int.toNat (dn ((q.length : Int) - 1) k0))).1 == (7 : Int))))] [] [] [] ((nth q (Int.toNat (dn ((q.length : Int) - 1) k0))).1 == (6 : Int)) (fun h5 => ?_) (fun h5 => ?_) ?_
   ·
    have h5k := Qs6 (Qfw h1n) (by omega) (by omega) h5; have h5m := qr_b (Qfw h1n) (by omega) (by omega) h5
    refine rk Qb [(6, .b true)] [] [] [] [(2, .val (.b true))] (o1 (Qf (Qg h5))) ?_
    exact ⟨rfl, Qc (by rw [h5]; first | done | kernel_rfl)⟩
   ·
    refine rk Qb [(6, .b ((nth q (Int.toNat (dn ((q.length : Int) - 1) k0))).1 == (7 : Int)))] [] [] [] [(2, .val (.b false))] (o1 (Qf (Qg h5))) ?_
    exact ⟨rfl, Qc (by rw [h5]; first | done | kernel_rfl)⟩
   refine Qa ?_
   refine Qa ?_
   refine rk Qb [(35, .b ((nth q (Int.toNat (dn ((q.length : Int) - 1) k0))).1 == (5 : Int)))] [] [] [] [] (o0) ?_
   refine ck ((nth q (Int.toNat (dn ((q.length : Int) - 1) k0))).1 == (5 : Int)) (fun h6 => ?_) (fun h6 => ?_)
   ·
    have h6k := ql_a (Qfw h1n) (by omega) (by omega) h6
    have h6d := eq_of_beq h6
    refine wdT 3 0 (.own true 832) s0 (fun hw8 => ?_)
    have hl9 : List.length s0 ≤ 1073741824 := Qp (hw8)
    have hx7 : s0[(Int.toNat ((nth q (Int.toNat (dn ((q.length : Int) - 1) k0))).2.1))]? = some (nth s0 (Int.toNat ((nth q (Int.toNat (dn ((q.length : Int) - 1) k0))).2.1))) := X3 (by omega)
    refine rk Qb [(3, .one (.slc (.own true 832) 1 (setRow (eL s0) (Int.toNat ((nth q (Int.toNat (dn ((q.length : Int) - 1) k0))).2.1)) 0 [.b true])))] [3, 35] [] [] [(3, .rowE [.b (nth s0 (Int.toNat ((nth q (Int.toNat (dn ((q.length : Int) - 1) k0))).2.1)))])] (o1 (Ql (Xl (i := (nth q (Int.toNat (dn ((q.length : Int) - 1) k0))).2.1) (by omega) rfl hx7))) ?_
    refine eqn [(3, .o 832 (List.set s0 (Int.toNat ((nth q (Int.toNat (dn ((q.length : Int) - 1) k0))).2.1)) true))] [3] [] [] (by rw [Kd (y := true) hx7 rfl]; first | done | kernel_rfl) ?_
    refine Qa ?_
    refine rk Qb [(40, .b (((nth q (Int.toNat (dn ((q.length : Int) - 1) k0))).1 == (6 : Int)) || ((nth q (Int.toNat (dn ((q.length : Int) - 1) k0))).1 == (7 : Int))))] [6] [] [] [] (o0) ?_
    refine ck (((nth q (Int.toNat (dn ((q.length : Int) - 1) k0))).1 == (6 : Int)) || ((nth q (Int.toNat (dn ((q.length : Int) - 1) k0))).1 == (7 : Int))) (fun h10 => ?_) (fun h10 => ?_)
    ·
     have h10k := qlr_bc (Qfw h1n) (by omega) (by omega) h10
     refine Qa ?_
     refine wdT 3 0 (.own true 832) (List.set s0 (Int.toNat ((nth q (Int.toNat (dn ((q.length : Int) - 1) k0))).2.1)) true) (fun hw12 => ?_)
     have hl13 : List.length (List.set s0 (Int.toNat ((nth q (Int.toNat (dn ((q.length : Int) - 1) k0))).2.1)) true) ≤ 1073741824 := Qp (hw12)
     have hx11 : (List.set s0 (Int.toNat ((nth q (Int.toNat (dn ((q.length : Int) - 1) k0))).2.1)) true)[(Int.toNat (dn ((q.length : Int) - 1) k0))]? = some (nth (List.set s0 (Int.toNat ((nth q (Int.toNat (dn ((q.length : Int) - 1) k0))).2.1)) true) (Int.toNat (dn ((q.length : Int) - 1) k0))) := X3 (by first | omega | (simp only [List.length_set]; omega))
     have hx14 : (List.set s0 (Int.toNat ((nth q (Int.toNat (dn ((q.length : Int) - 1) k0))).2.1)) true)[(Int.toNat ((nth q (Int.toNat (dn ((q.length : Int) - 1) k0))).2.1))]? = some (nth (List.set s0 (Int.toNat ((nth q (Int.toNat (dn ((q.length : Int) - 1) k0))).2.1)) true) (Int.toNat ((nth q (Int.toNat (dn ((q.length : Int) - 1) k0))).2.1))) := X3 (by first | omega | (simp only [List.length_set]; omega))
     refine rd' Qb Zv [(3, .one (.slc (.own true 832) 1 (setRow (eL (List.set s0 (Int.toNat ((nth q (Int.toNat (dn ((q.length : Int) - 1) k0))).2.1)) true)) (Int.toNat ((nth q (Int.toNat (dn ((q.length : Int) - 1) k0))).2.1)) 0 [.b (nth (List.set s0 (Int.toNat ((nth q (Int.toNat (dn ((q.length : Int) - 1) k0))).2.1)) true) (Int.toNat (dn ((q.length : Int) - 1) k0)))])))] [3, 40] [] [] [(5, .rowE [.b (nth (List.set s0 (Int.toNat ((nth q (Int.toNat (dn ((q.length : Int) - 1) k0))).2.1)) true) (Int.toNat (dn ((q.length : Int) - 1) k0)))]), (7, .rowE [.b (nth (List.set s0 (Int.toNat ((nth q (Int.toNat (dn ((q.length : Int) - 1) k0))).2.1)) true) (Int.toNat ((nth q (Int.toNat (dn ((q.length : Int) - 1) k0))).2.1)))])] (o2 (Ql (Xl (i := (dn ((q.length : Int) - 1) k0)) (by omega) rfl hx11)) (o1 (Ql (Xl (i := (nth q (Int.toNat (dn ((q.length : Int) - 1) k0))).2.1) (by omega) rfl hx14)))) ?_
     refine eqn [(3, .o 832 (List.set (List.set s0 (Int.toNat ((nth q (Int.toNat (dn ((q.length : Int) - 1) k0))).2.1)) true) (Int.toNat ((nth q (Int.toNat (dn ((q.length : Int) - 1) k0))).2.1)) (nth (List.set s0 (Int.toNat ((nth q (Int.toNat (dn ((q.length : Int) - 1) k0))).2.1)) true) (Int.toNat (dn ((q.length : Int) - 1) k0)))))] [3] [] [] (by rw [Kd (y := (nth (List.set s0 (Int.toNat ((nth q (Int.toNat (dn ((q.length : Int) - 1) k0))).2.1)) true) (Int.toNat (dn ((q.length : Int) - 1) k0)))) hx14 rfl]; first | done | kernel_rfl) ?_
     refine wdT 3 0 (.own true 832) (List.set (List.set s0 (Int.toNat ((nth q (Int.toNat (dn ((q.length : Int) - 1) k0))).2.1)) true) (Int.toNat ((nth q (Int.toNat (dn ((q.length : Int) - 1) k0))).2.1)) (nth (List.set s0 (Int.toNat ((nth q (Int.toNat (dn ((q.length : Int) - 1) k0))).2.1)) true) (Int.toNat (dn ((q.length : Int) - 1) k0)))) (fun hw16 => ?_)
     have hl17 : List.length (List.set (List.set s0 (Int.toNat ((nth q (Int.toNat (dn ((q.length : Int) - 1) k0))).2.1)) true) (Int.toNat ((nth q (Int.toNat (dn ((q.length : Int) - 1) k0))).2.1)) (nth (List.set s0 (Int.toNat ((nth q (Int.toNat (dn ((q.length : Int) - 1) k0))).2.1)) true) (Int.toNat (dn ((q.length : Int) - 1) k0)))) ≤ 1073741824 := Qp (hw16)
     have hx15 : (List.set (List.set s0 (Int.toNat ((nth q (Int.toNat (dn ((q.length : Int) - 1) k0))).2.1)) true) (Int.toNat ((nth q (Int.toNat (dn ((q.length : Int) - 1) k0))).2.1)) (nth (List.set s0 (Int.toNat ((nth q (Int.toNat (dn ((q.length : Int) - 1) k0))).2.1)) true) (Int.toNat (dn ((q.length : Int) - 1) k0))))[(Int.toNat (dn ((q.length : Int) - 1) k0))]? = some (nth (List.set (List.set s0 (Int.toNat ((nth q (Int.toNat (dn ((q.length : Int) - 1) k0))).2.1)) true) (Int.toNat ((nth q (Int.toNat (dn ((q.length : Int) - 1) k0))).2.1)) (nth (List.set s0 (Int.toNat ((nth q (Int.toNat (dn ((q.length : Int) - 1) k0))).2.1)) true) (Int.toNat (dn ((q.length : Int) - 1) k0)))) (Int.toNat (dn ((q.length : Int) - 1) k0))) := X3 (by first | omega | (simp only [List.length_set]; omega))
     have hx18 : (List.set (List.set s0 (Int.toNat ((nth q (Int.toNat (dn ((q.length : Int) - 1) k0))).2.1)) true) (Int.toNat ((nth q (Int.toNat (dn ((q.length : Int) - 1) k0))).2.1)) (nth (List.set s0 (Int.toNat ((nth q (Int.toNat (dn ((q.length : Int) - 1) k0))).2.1)) true) (Int.toNat (dn ((q.length : Int) - 1) k0))))[(Int.toNat ((nth q (Int.toNat (dn ((q.length : Int) - 1) k0))).2.2.1))]? = some (nth (List.set (List.set s0 (Int.toNat ((nth q (Int.toNat (dn ((q.length : Int) - 1) k0))).2.1)) true) (Int.toNat ((nth q (Int.toNat (dn ((q.length : Int) - 1) k0))).2.1)) (nth (List.set s0 (Int.toNat ((nth q (Int.toNat (dn ((q.length : Int) - 1) k0))).2.1)) true) (Int.toNat (dn ((q.length : Int) - 1) k0)))) (Int.toNat ((nth q (Int.toNat (dn ((q.length : Int) - 1) k0))).2.2.1))) := X3 (by first | omega | (simp only [List.length_set]; omega))
     refine rd' Qb Zv [(3, .one (.slc (.own true 832) 1 (setRow (eL (List.set (List.set s0 (Int.toNat ((nth q (Int.toNat (dn ((q.length : Int) - 1) k0))).2.1)) true) (Int.toNat ((nth q (Int.toNat (dn ((q.length : Int) - 1) k0))).2.1)) (nth (List.set s0 (Int.toNat ((nth q (Int.toNat (dn ((q.length : Int) - 1) k0))).2.1)) true) (Int.toNat (dn ((q.length : Int) - 1) k0))))) (Int.toNat ((nth q (Int.toNat (dn ((q.length : Int) - 1) k0))).2.2.1)) 0 [.b (nth (List.set (List.set s0 (Int.toNat ((nth q (Int.toNat (dn ((q.length : Int) - 1) k0))).2.1)) true) (Int.toNat ((nth q (Int.toNat (dn ((q.length : Int) - 1) k0))).2.1)) (nth (List.set s0 (Int.toNat ((nth q (Int.toNat (dn ((q.length : Int) - 1) k0))).2.1)) true) (Int.toNat (dn ((q.length : Int) - 1) k0)))) (Int.toNat (dn ((q.length : Int) - 1) k0)))])))] [3, 5] [] [5] [(5, .rowE [.b (nth (List.set (List.set s0 (Int.toNat ((nth q (Int.toNat (dn ((q.length : Int) - 1) k0))).2.1)) true) (Int.toNat ((nth q (Int.toNat (dn ((q.length : Int) - 1) k0))).2.1)) (nth (List.set s0 (Int.toNat ((nth q (Int.toNat (dn ((q.length : Int) - 1) k0))).2.1)) true) (Int.toNat (dn ((q.length : Int) - 1) k0)))) (Int.toNat (dn ((q.length : Int) - 1) k0)))]), (7, .rowE [.b (nth (List.set (List.set s0 (Int.toNat ((nth q (Int.toNat (dn ((q.length : Int) - 1) k0))).2.1)) true) (Int.toNat ((nth q (Int.toNat (dn ((q.length : Int) - 1) k0))).2.1)) (nth (List.set s0 (Int.toNat ((nth q (Int.toNat (dn ((q.length : Int) - 1) k0))).2.1)) true) (Int.toNat (dn ((q.length : Int) - 1) k0)))) (Int.toNat ((nth q (Int.toNat (dn ((q.length : Int) - 1) k0))).2.2.1)))])] (o2 (Ql (Xl (i := (dn ((q.length : Int) - 1) k0)) (by omega) rfl hx15)) (o1 (Ql (Xl (i := (nth q (Int.toNat (dn ((q.length : Int) - 1) k0))).2.2.1) (by omega) rfl hx18)))) ?_
     refine eqn [(3, .o 832 (List.set (List.set (List.set s0 (Int.toNat ((nth q (Int.toNat (dn ((q.length : Int) - 1) k0))).2.1)) true) (Int.toNat ((nth q (Int.toNat (dn ((q.length : Int) - 1) k0))).2.1)) (nth (List.set s0 (Int.toNat ((nth q (Int.toNat (dn ((q.length : Int) - 1) k0))).2.1)) true) (Int.toNat (dn ((q.length : Int) - 1) k0)))) (Int.toNat ((nth q (Int.toNat (dn ((q.length : Int) - 1) k0))).2.2.1)) (nth (List.set (List.set s0 (Int.toNat ((nth q (Int.toNat (dn ((q.length : Int) - 1) k0))).2.1)) true) (Int.toNat ((nth q (Int.toNat (dn ((q.length : Int) - 1) k0))).2.1)) (nth (List.set s0 (Int.toNat ((nth q (Int.toNat (dn ((q.length : Int) - 1) k0))).2.1)) true) (Int.toNat (dn ((q.length : Int) - 1) k0)))) (Int.toNat (dn ((q.length : Int) - 1) k0)))))] [3] [] [] (by rw [Kd (y := (nth (List.set (List.set s0 (Int.toNat ((nth q (Int.toNat (dn ((q.length : Int) - 1) k0))).2.1)) true) (Int.toNat ((nth q (Int.toNat (dn ((q.length : Int) - 1) k0))).2.1)) (nth (List.set s0 (Int.toNat ((nth q (Int.toNat (dn ((q.length : Int) - 1) k0))).2.1)) true) (Int.toNat (dn ((q.length : Int) - 1) k0)))) (Int.toNat (dn ((q.length : Int) - 1) k0)))) hx18 rfl]; first | done | kernel_rfl) ?_
     refine rk Qb [(4, .i (dn ((q.length : Int) - 1) (k0 + 1)))] [4] [] [] [(1, .val (.i (dn ((q.length : Int) - 1) (k0 + 1))))] (o1 (Qf (show .i (IntKind.i64.wrap ((dn ((q.length : Int) - 1) k0) - 1)) = .i (dn ((q.length : Int) - 1) (k0 + 1)) from Kw (show IntKind.i64.wrap ((dn ((q.length : Int) - 1) k0) - 1) = (dn ((q.length : Int) - 1) (k0 + 1)) from IntWalk.i64_in ((dn ((q.length : Int) - 1) k0) - 1) (by omega))))) ?_
     exact Exists.intro (List.set (List.set (List.set s0 (Int.toNat ((nth q (Int.toNat (dn ((q.length : Int) - 1) k0))).2.1)) true) (Int.toNat ((nth q (Int.toNat (dn ((q.length : Int) - 1) k0))).2.1)) (nth (List.set s0 (Int.toNat ((nth q (Int.toNat (dn ((q.length : Int) - 1) k0))).2.1)) true) (Int.toNat (dn ((q.length : Int) - 1) k0)))) (Int.toNat ((nth q (Int.toNat (dn ((q.length : Int) - 1) k0))).2.2.1)) (nth (List.set (List.set s0 (Int.toNat ((nth q (Int.toNat (dn ((q.length : Int) - 1) k0))).2.1)) true) (Int.toNat ((nth q (Int.toNat (dn ((q.length : Int) - 1) k0))).2.1)) (nth (List.set s0 (Int.toNat ((nth q (Int.toNat (dn ((q.length : Int) - 1) k0))).2.1)) true) (Int.toNat (dn ((q.length : Int) - 1) k0)))) (Int.toNat (dn ((q.length : Int) - 1) k0)))) (And.intro (Qc (by kernel_rfl)) ⟨V0 hk0 (Yf h6 (Yf h10 (rfl))) hI0.1, (by first | omega | (simp only [List.length_set]; omega))⟩)
    ·
     have h10l : (((nth q (Int.toNat (dn ((q.length : Int) - 1) k0))).1 == (6 : Int))) = false := Qra h10
     have h10ld := Zp h10l
     have h10r : (((nth q (Int.toNat (dn ((q.length : Int) - 1) k0))).1 == (7 : Int))) = false := Qul h10
     have h10rd := Zp h10r
     refine Qh ?_
     refine rk Qb [(4, .i (dn ((q.length : Int) - 1) (k0 + 1)))] [4, 5, 40] [] [5] [(1, .val (.i (dn ((q.length : Int) - 1) (k0 + 1))))] (o1 (Qf (show .i (IntKind.i64.wrap ((dn ((q.length : Int) - 1) k0) - 1)) = .i (dn ((q.length : Int) - 1) (k0 + 1)) from Kw (show IntKind.i64.wrap ((dn ((q.length : Int) - 1) k0) - 1) = (dn ((q.length : Int) - 1) (k0 + 1)) from IntWalk.i64_in ((dn ((q.length : Int) - 1) k0) - 1) (by omega))))) ?_
     exact Exists.intro (List.set s0 (Int.toNat ((nth q (Int.toNat (dn ((q.length : Int) - 1) k0))).2.1)) true) (And.intro (Qc (by kernel_rfl)) ⟨V0 hk0 (Yf h6 (Qv h10 (rfl))) hI0.1, (by first | omega | (simp only [List.length_set]; omega))⟩)
   ·
    have h6d := Zp h6
    refine Qh ?_
    refine Qa ?_
    refine rk Qb [(40, .b (((nth q (Int.toNat (dn ((q.length : Int) - 1) k0))).1 == (6 : Int)) || ((nth q (Int.toNat (dn ((q.length : Int) - 1) k0))).1 == (7 : Int))))] [6, 35] [] [] [] (o0) ?_
    refine ck (((nth q (Int.toNat (dn ((q.length : Int) - 1) k0))).1 == (6 : Int)) || ((nth q (Int.toNat (dn ((q.length : Int) - 1) k0))).1 == (7 : Int))) (fun h19 => ?_) (fun h19 => ?_)
    ·
     have h19k := qlr_bc (Qfw h1n) (by omega) (by omega) h19
     refine Qa ?_
     refine wdT 3 0 (.own true 832) s0 (fun hw21 => ?_)
     have hl22 : List.length s0 ≤ 1073741824 := Qp (hw21)
     have hx20 : s0[(Int.toNat (dn ((q.length : Int) - 1) k0))]? = some (nth s0 (Int.toNat (dn ((q.length : Int) - 1) k0))) := X3 (by omega)
     have hx23 : s0[(Int.toNat ((nth q (Int.toNat (dn ((q.length : Int) - 1) k0))).2.1))]? = some (nth s0 (Int.toNat ((nth q (Int.toNat (dn ((q.length : Int) - 1) k0))).2.1))) := X3 (by omega)
     refine rd' Qb Zv [(3, .one (.slc (.own true 832) 1 (setRow (eL s0) (Int.toNat ((nth q (Int.toNat (dn ((q.length : Int) - 1) k0))).2.1)) 0 [.b (nth s0 (Int.toNat (dn ((q.length : Int) - 1) k0)))])))] [3, 40] [] [] [(5, .rowE [.b (nth s0 (Int.toNat (dn ((q.length : Int) - 1) k0)))]), (7, .rowE [.b (nth s0 (Int.toNat ((nth q (Int.toNat (dn ((q.length : Int) - 1) k0))).2.1)))])] (o2 (Ql (Xl (i := (dn ((q.length : Int) - 1) k0)) (by omega) rfl hx20)) (o1 (Ql (Xl (i := (nth q (Int.toNat (dn ((q.length : Int) - 1) k0))).2.1) (by omega) rfl hx23)))) ?_
     refine eqn [(3, .o 832 (List.set s0 (Int.toNat ((nth q (Int.toNat (dn ((q.length : Int) - 1) k0))).2.1)) (nth s0 (Int.toNat (dn ((q.length : Int) - 1) k0)))))] [3] [] [] (by rw [Kd (y := (nth s0 (Int.toNat (dn ((q.length : Int) - 1) k0)))) hx23 rfl]; first | done | kernel_rfl) ?_
     refine wdT 3 0 (.own true 832) (List.set s0 (Int.toNat ((nth q (Int.toNat (dn ((q.length : Int) - 1) k0))).2.1)) (nth s0 (Int.toNat (dn ((q.length : Int) - 1) k0)))) (fun hw25 => ?_)
     have hl26 : List.length (List.set s0 (Int.toNat ((nth q (Int.toNat (dn ((q.length : Int) - 1) k0))).2.1)) (nth s0 (Int.toNat (dn ((q.length : Int) - 1) k0)))) ≤ 1073741824 := Qp (hw25)
     have hx24 : (List.set s0 (Int.toNat ((nth q (Int.toNat (dn ((q.length : Int) - 1) k0))).2.1)) (nth s0 (Int.toNat (dn ((q.length : Int) - 1) k0))))[(Int.toNat (dn ((q.length : Int) - 1) k0))]? = some (nth (List.set s0 (Int.toNat ((nth q (Int.toNat (dn ((q.length : Int) - 1) k0))).2.1)) (nth s0 (Int.toNat (dn ((q.length : Int) - 1) k0)))) (Int.toNat (dn ((q.length : Int) - 1) k0))) := X3 (by first | omega | (simp only [List.length_set]; omega))
     have hx27 : (List.set s0 (Int.toNat ((nth q (Int.toNat (dn ((q.length : Int) - 1) k0))).2.1)) (nth s0 (Int.toNat (dn ((q.length : Int) - 1) k0))))[(Int.toNat ((nth q (Int.toNat (dn ((q.length : Int) - 1) k0))).2.2.1))]? = some (nth (List.set s0 (Int.toNat ((nth q (Int.toNat (dn ((q.length : Int) - 1) k0))).2.1)) (nth s0 (Int.toNat (dn ((q.length : Int) - 1) k0)))) (Int.toNat ((nth q (Int.toNat (dn ((q.length : Int) - 1) k0))).2.2.1))) := X3 (by first | omega | (simp only [List.length_set]; omega))
     refine rd' Qb Zv [(3, .one (.slc (.own true 832) 1 (setRow (eL (List.set s0 (Int.toNat ((nth q (Int.toNat (dn ((q.length : Int) - 1) k0))).2.1)) (nth s0 (Int.toNat (dn ((q.length : Int) - 1) k0))))) (Int.toNat ((nth q (Int.toNat (dn ((q.length : Int) - 1) k0))).2.2.1)) 0 [.b (nth (List.set s0 (Int.toNat ((nth q (Int.toNat (dn ((q.length : Int) - 1) k0))).2.1)) (nth s0 (Int.toNat (dn ((q.length : Int) - 1) k0)))) (Int.toNat (dn ((q.length : Int) - 1) k0)))])))] [3, 5] [] [5] [(5, .rowE [.b (nth (List.set s0 (Int.toNat ((nth q (Int.toNat (dn ((q.length : Int) - 1) k0))).2.1)) (nth s0 (Int.toNat (dn ((q.length : Int) - 1) k0)))) (Int.toNat (dn ((q.length : Int) - 1) k0)))]), (7, .rowE [.b (nth (List.set s0 (Int.toNat ((nth q (Int.toNat (dn ((q.length : Int) - 1) k0))).2.1)) (nth s0 (Int.toNat (dn ((q.length : Int) - 1) k0)))) (Int.toNat ((nth q (Int.toNat (dn ((q.length : Int) - 1) k0))).2.2.1)))])] (o2 (Ql (Xl (i := (dn ((q.length : Int) - 1) k0)) (by omega) rfl hx24)) (o1 (Ql (Xl (i := (nth q (Int.toNat (dn ((q.length : Int) - 1) k0))).2.2.1) (by omega) rfl hx27)))) ?_
     refine eqn [(3, .o 832 (List.set (List.set s0 (Int.toNat ((nth q (Int.toNat (dn ((q.length : Int) - 1) k0))).2.1)) (nth s0 (Int.toNat (dn ((q.length : Int) - 1) k0)))) (Int.toNat ((nth q (Int.toNat (dn ((q.length : Int) - 1) k0))).2.2.1)) (nth (List.set s0 (Int.toNat ((nth q (Int.toNat (dn ((q.length : Int) - 1) k0))).2.1)) (nth s0 (Int.toNat (dn ((q.length : Int) - 1) k0)))) (Int.toNat (dn ((q.length : Int) - 1) k0)))))] [3] [] [] (by rw [Kd (y := (nth (List.set s0 (Int.toNat ((nth q (Int.toNat (dn ((q.length : Int) - 1) k0))).2.1)) (nth s0 (Int.toNat (dn ((q.length : Int) - 1) k0)))) (Int.toNat (dn ((q.length : Int) - 1) k0)))) hx27 rfl]; first | done | kernel_rfl) ?_
     refine rk Qb [(4, .i (dn ((q.length : Int) - 1) (k0 + 1)))] [4] [] [] [(1, .val (.i (dn ((q.length : Int) - 1) (k0 + 1))))] (o1 (Qf (show .i (IntKind.i64.wrap ((dn ((q.length : Int) - 1) k0) - 1)) = .i (dn ((q.length : Int) - 1) (k0 + 1)) from Kw (show IntKind.i64.wrap ((dn ((q.length : Int) - 1) k0) - 1) = (dn ((q.length : Int) - 1) (k0 + 1)) from IntWalk.i64_in ((dn ((q.length : Int) - 1) k0) - 1) (by omega))))) ?_
     exact Exists.intro (List.set (List.set s0 (Int.toNat ((nth q (Int.toNat (dn ((q.length : Int) - 1) k0))).2.1)) (nth s0 (Int.toNat (dn ((q.length : Int) - 1) k0)))) (Int.toNat ((nth q (Int.toNat (dn ((q.length : Int) - 1) k0))).2.2.1)) (nth (List.set s0 (Int.toNat ((nth q (Int.toNat (dn ((q.length : Int) - 1) k0))).2.1)) (nth s0 (Int.toNat (dn ((q.length : Int) - 1) k0)))) (Int.toNat (dn ((q.length : Int) - 1) k0)))) (And.intro (Qc (by kernel_rfl)) ⟨V0 hk0 (Qv h6 (Yf h19 (rfl))) hI0.1, (by first | omega | (simp only [List.length_set]; omega))⟩)
    ·
     have h19l : (((nth q (Int.toNat (dn ((q.length : Int) - 1) k0))).1 == (6 : Int))) = false := Qra h19
     have h19ld := Zp h19l
     have h19r : (((nth q (Int.toNat (dn ((q.length : Int) - 1) k0))).1 == (7 : Int))) = false := Qul h19
     have h19rd := Zp h19r
     refine Qh ?_
     refine rk Qb [(4, .i (dn ((q.length : Int) - 1) (k0 + 1)))] [4, 5, 40] [] [5] [(1, .val (.i (dn ((q.length : Int) - 1) (k0 + 1))))] (o1 (Qf (show .i (IntKind.i64.wrap ((dn ((q.length : Int) - 1) k0) - 1)) = .i (dn ((q.length : Int) - 1) (k0 + 1)) from Kw (show IntKind.i64.wrap ((dn ((q.length : Int) - 1) k0) - 1) = (dn ((q.length : Int) - 1) (k0 + 1)) from IntWalk.i64_in ((dn ((q.length : Int) - 1) k0) - 1) (by omega))))) ?_
     exact Exists.intro s0 (And.intro (Qc (by kernel_rfl)) ⟨V0 hk0 (Qv h6 (Qv h19 (rfl))) hI0.1, (by first | omega | (simp only [List.length_set]; omega))⟩)
  ·
   have hA0_0 := hI0.2
   have hdn0 := Qq8 ((q.length : Int) - 1) k0
   refine Qa ?_
   refine Qa ?_
   refine rk Qb [(18, .b false)] [] [] [] [(1, .val (.b false))] (o1 (Qf (Qg (decide_eq_false (p := (dn ((q.length : Int) - 1) k0) ≥ (0 : Int)) (by omega))))) ?_
   refine ckF ?_
   refine Xj ?_
   exact Exists.intro s0 (And.intro (Qc (by kernel_rfl)) ⟨Qb8 hk0 (rfl) hI0.1, by first | omega | (simp only [List.length_set]; omega)⟩)
  ·
   have hD0_0 := hD0.2
   refine Qa ?_
   refine rk Qb [(2, .o 832 y0)] [2, 3] [] [] [] (o0) ?_
   refine Qi ?_
   exact Zb [] (congrArg (fun z => (.o 0 z : AV)) (show X0 q = y0 from Qv h1 (Hk hD0.1 (rfl))).symm)
end Go.Proofs.YtnhmnfmhnepjmaaGreat
namespace Go.Proofs.YtnhmnfmhnepjmaaGreat
open Go.RowKit
theorem Qdf {α : Type} [Inhabited α] {l : List α} {i j : Nat} (x : α) (h : j ≠ i) : nth (l.set j x) i = nth l i := by
  simp [nth, List.getD, List.getElem?_set_ne h]
theorem negated_f {q : List Yq} (hv : Qm q = true) {k : Nat} (hk : k < q.length) (s : List Bool) : Yl q k s = J8 q k s := by
  have hdn := Qq8 ((q.length : Int) - 1) k
  obtain ⟨hl, hr⟩ := Qb1 hv (k := dn ((q.length : Int) - 1) k) (by omega) (by omega)
  unfold Yl J8
  generalize hi : dn ((q.length : Int) - 1) k = i at hl hr ⊢
  generalize nth q (Int.toNat i) = n at hl hr ⊢
  by_cases h5 : n.1 = 5
  · simp [h5]
  by_cases h6 : n.1 = 6
  · have := hl (.inr (.inl h6))
    simp [h6]
    rw [Qdf _ (by omega)]
  by_cases h7 : n.1 = 7
  · have := hl (.inr (.inr h7))
    simp [h7]
    rw [Qdf _ (by omega)]
  simp only [beq_eq_false_iff_ne.2 h5, beq_eq_false_iff_ne.2 h6, beq_eq_false_iff_ne.2 h7, Bool.or_false, cond_false]
theorem Ql3 (q : List Yq) : X0 q = Q7 q := by
  unfold X0 Q7
  rw [← vq_eq]
  cases hv : Qm q with
  | false => rfl
  | true =>
    simp only [Bool.not_true, cond_false]
    rw [Ql2 (f := J8 q) (g := Yl q) (e := Wf) (e' := J7) (fun _ _ => rfl) _ _ _ fun i s _ hi => (negated_f hv (by omega) s).symm]
theorem Qpf (q : List Yq) (k : Nat) (s : List Bool) : ∃ s', Yl q k s = .next s' ∧ s'.length = s.length := by
  unfold Yl
  generalize ((nth q (Int.toNat (dn ((q.length : Int) - 1) k))).1 == (5 : Int)) = a
  generalize ((nth q (Int.toNat (dn ((q.length : Int) - 1) k))).1 == (6 : Int)) = b
  generalize ((nth q (Int.toNat (dn ((q.length : Int) - 1) k))).1 == (7 : Int)) = c
  cases a <;> cases b <;> cases c <;> exact ⟨_, rfl, by simp⟩
theorem Qig (q : List Yq) : ∀ (n k : Nat) (s : List Bool), ∃ s', U5 (Yl q) J7 n k s = .brk s' ∧ s'.length = s.length
  | 0, k, s => ⟨s, rfl, rfl⟩
  | n + 1, k, s => by
    obtain ⟨s1, h1, h2⟩ := Qpf q k s
    obtain ⟨s2, h3, h4⟩ := Qig q n (k + 1) s1
    refine ⟨s2, ?_, h4.trans h2⟩
    simp only [U5, h1]
    exact h3
theorem Qfx (q : List Yq) : List.length (Q7 q) ≤ List.length q := by
  unfold Q7
  cases Qm q with
  | false => exact Nat.zero_le _
  | true =>
    obtain ⟨s, h1, h2⟩ := Qig q (List.length q) 0 (List.replicate (Int.toNat (q.length : Int)) false)
    simp only [Bool.not_true, cond_false, h1, Out.on]
    rw [h2]
    simp
theorem Qpg (q : List Yq) : List.length (X0 q) ≤ List.length q := by rw [Ql3]; exact Qfx q
end Go.Proofs.YtnhmnfmhnepjmaaGreat
namespace Go.Proofs.YtnhmnfmhnepjmaaGreat
open Go.RowKit Go.Sort
open GoE (enc)
structure OneC (α σ : Type) [GoE α] where
  to : α → σ
  of : σ → α
  cell : σ → Value
  pv : α → PV
  ok : α → Prop
  of_to : ∀ a, of (to a) = a
  to_of : ∀ s, to (of s) = s
  enc_eq : ∀ a, enc a = [pv a]
  flat : ∀ a, (pv a).flat
  vv : ∀ (X : Nat → Prop) (w : World) v a, VV X w v (pv a) ↔ v = cell (to a) ∧ ok a
def oneI : OneC Int Int where
  to := id
  of := id
  cell := .int .i64
  pv := .int .i64
  ok := InR .i64
  of_to _ := rfl
  to_of _ := rfl
  enc_eq _ := rfl
  flat _ := trivial
  vv X w v a := ⟨fun h => by cases h with | int h => exact ⟨rfl, h⟩, fun ⟨h1, h2⟩ => by subst h1; exact .int h2⟩
def oneS : OneC ByteArray (List UInt8) where
  to b := b.data.toList
  of s := ⟨s.toArray⟩
  cell := encStr
  pv := .str
  ok b := b.size ≤ maxLen
  of_to b := by cases b; simp
  to_of s := by simp
  enc_eq _ := rfl
  flat _ := trivial
  vv X w v a := by
    have e : encStr a.data.toList = .string a := by cases a; simp [encStr]
    rw [e]
    exact ⟨fun h => by cases h with | str h => exact ⟨rfl, h⟩, fun ⟨h1, h2⟩ => by subst h1; exact .str h2⟩
section
variable {α σ : Type} [GoE α] (C : OneC α σ)
theorem one_vr {X : Nat → Prop} {w : World} : ∀ {l : List α} {cs : List Value}, VR X w 1 cs (eL l) → cs = (l.map C.to).map C.cell ∧ ∀ a, a ∈ l → C.ok a
  | [], cs, h => by
    generalize hr : eL ([] : List α) = r at h
    cases h with
    | nil => exact ⟨rfl, fun a ha => by simp at ha⟩
    | cons => cases hr
  | a :: l, cs, h => by
    generalize hr : eL (a :: l) = r at h
    cases h with
    | nil => cases hr
    | cons h1 h2 h3 =>
      rw [Qmz, C.enc_eq] at hr
      obtain ⟨rfl, rfl⟩ : [C.pv a] = _ ∧ eL l = _ := by simpa using hr
      obtain ⟨e, hok⟩ := one_vr h3
      cases h1 with
      | cons h4 h5 =>
        cases h5
        obtain ⟨rfl, ha⟩ := (C.vv X w _ a).1 h4
        exact ⟨by rw [e]; rfl, fun b hb => (List.mem_cons.1 hb).elim (fun e => e ▸ ha) (hok b)⟩
theorem vr_one {X : Nat → Prop} {w : World} : ∀ {l : List α}, (∀ a, a ∈ l → C.ok a) → VR X w 1 ((l.map C.to).map C.cell) (eL l)
  | [], _ => .nil 1
  | a :: l, h => by
    rw [Qmz, C.enc_eq]
    exact VR.cons (ce := [C.cell (C.to a)]) (.cons ((C.vv X w _ a).2 ⟨rfl, h a List.mem_cons_self⟩) .nil) rfl (vr_one fun b hb => h b (List.mem_cons_of_mem _ hb))
theorem eL_flat (l : List α) : (eL l).flatten = l.map C.pv := by
  induction l with
  | nil => rfl
  | cons a l ih => rw [Qmz, C.enc_eq, List.flatten_cons, ih]; rfl
theorem eL_pv (l : List α) : eL l = (l.map C.pv).map fun c => [c] := by
  simp [eL, C.enc_eq, Function.comp_def]
theorem Qs7 (e : σ → Value) [Inhabited σ] (d : Array σ) (cur : Array Value) (h : d.size ≤ cur.size) : (Go.Sort.putCells e 0 d cur).toList = d.toList.map e ++ cur.toList.drop d.size := by
  apply List.ext_getElem?
  intro j
  unfold Go.Sort.putCells
  rw [Array.getElem?_toList, Array.getElem?_mapIdx]
  by_cases hj : j < d.size
  · rw [List.getElem?_append_left (by simpa using hj), Array.getElem?_eq_getElem (by omega : j < cur.size), List.getElem?_map, Array.getElem?_toList, Array.getElem?_eq_getElem hj]
    simp only [Option.map_some]
    rw [if_pos ⟨Nat.zero_le _, by omega⟩, Nat.sub_zero, getElem!_pos d j hj]
  · rw [List.getElem?_append_right (by simpa using Nat.le_of_not_lt hj), List.getElem?_drop]
    have e1 : d.size + (j - (d.toList.map e).length) = j := by simp; omega
    rw [e1, Array.getElem?_toList]
    cases cur[j]? with
    | none => rfl
    | some x => simp; omega
theorem Qfy {e : σ → Value} [Inhabited σ] {w : World} {g : Nat} {cur : Array Value} {ty : TypeId} (hg : w.heap[g]? = some (.cells cur ty (0, 0))) (q : Nat) (d : Array σ) (os : Array Obj) :
    (grow (putRow e (Sort.ahead w q) g 0 d) os).heap[g]? = some (.cells (Go.Sort.putCells e 0 d cur) ty (0, 0)) := by
  have hlt : g < w.heap.size := Q5 hg
  unfold grow putRow mapBlock Sort.ahead
  simp only [Array.getElem?_append, Array.size_modify]
  rw [if_pos hlt, Array.getElem?_modify, if_pos rfl, hg]
  rfl
theorem Qih {e : σ → Value} [Inhabited σ] (w : World) (g q : Nat) (d : Array σ) (os : Array Obj) : (∀ b, b < w.heap.size → b ≠ g → (grow (putRow e (Sort.ahead w q) g 0 d) os).heap[b]? = w.heap[b]?) ∧ ∀ m, m ≤ g → m ≤ w.heap.size → Below m w (grow (putRow e (Sort.ahead w q) g 0 d) os) := by
  have h : ∀ b, b < w.heap.size → b ≠ g → (grow (putRow e (Sort.ahead w q) g 0 d) os).heap[b]? = w.heap[b]? := fun b hb hn => by
    unfold grow putRow mapBlock Sort.ahead
    simp only [Array.getElem?_append, Array.size_modify]
    rw [if_pos hb, Array.getElem?_modify, if_neg (fun e => hn e.symm)]
  refine ⟨h, fun m hm hs => ⟨rfl, rfl, rfl, ?_, fun b hb => h b (by omega) (by omega)⟩⟩
  unfold grow putRow mapBlock Sort.ahead
  simp
theorem Qs8 {e : σ → Value} [Inhabited σ] {g : Nat} {w : World} {cur : Array Value} {ty : TypeId} {l : List σ} (hg : w.heap[g]? = some (.cells cur ty (0, 0))) (ht : cur.toList.take l.length = l.map e) : Holds e w g 0 l.toArray := by
  intro j hj
  have hjl : j < l.length := by simpa using hj
  have hc : cur[j]? = some (e l[j]) := by
    have h5 : (cur.toList.take l.length)[j]? = (l.map e)[j]? := by rw [ht]
    rw [List.getElem?_take, if_pos hjl, List.getElem?_map, List.getElem?_eq_getElem hjl, Array.getElem?_toList] at h5
    exact h5
  refine ⟨?_, ?_⟩
  · rw [Nat.zero_add]
    simp [World.cell?, hg, hc, getElem!_pos, hjl]
  · simp [World.frozen?, hg]
variable {P : Program} [Inhabited σ]
theorem tret_none (F : Nat → Prop) (L : List Nat) (w : World) (oa : Option Addr) : TRet F L w 1 true [] (.returned (.tuple #[])) w :=
  ⟨_, rfl, fun m _ _ => Below.refl _ _, fun _ _ _ => rfl, rfl, fun v2 l2 h => by simpa [Qjb] using h⟩
theorem Ql4 {f : Nat} (hok : Z7 P f) (srt : List σ → List σ) (hlen : ∀ l, (srt l).length = l.length) (hmem : ∀ l x, x ∈ srt l → x ∈ l)
    (h0 : ∀ oa cap w, Calls P f #[.slice oa 0 cap] w fun e w' => e = .returned (.tuple #[]) ∧ w' = w)
    (h1 : ∀ g cap (l : List σ) w, Holds C.cell w g 0 l.toArray → g < w.heap.size → l.length < 4611686018427387904 → Calls P f #[.slice (some ⟨g, 0, none⟩) l.length cap] w fun e w' => e = .returned (.tuple #[]) ∧ ∃ n os, w' = grow (putRow C.cell (Sort.ahead w n) g 0 (srt l).toArray) os)
    (l : List α) : Qcn P f 1 (eL l) [] false true (eL ((srt (l.map C.to)).map C.of)) := by
  refine ⟨hok, fun w F G L v vals hFG _ hGs _ hLG hrow hargs => ?_⟩
  cases hargs
  rcases hrow with ⟨hl, oa, rfl⟩ | ⟨g, cap, cur, ty, rfl, rfl, hg, hs, hr, h5, h6⟩
  · obtain rfl : l = [] := by simpa [eL] using hl
    have hs0 : srt [] = [] := List.eq_nil_of_length_eq_zero (by rw [hlen]; rfl)
    refine (h0 oa 0 w).mono ?_
    rintro e w' ⟨rfl, rfl⟩
    rw [List.map_nil, hs0]
    exact tret_none F L w' oa
  · have hll : (eL l).length = l.length := by simp [eL]
    rw [hll] at hr h5 h6 ⊢
    rw [Nat.mul_one] at hr hs
    obtain ⟨hcs, hok'⟩ := one_vr C hr
    have hH : Holds C.cell w g 0 (l.map C.to).toArray := Qs8 hg (by rw [List.length_map]; exact hcs)
    have hc := h1 g cap (l.map C.to) w hH (Q5 hg) (by rw [List.length_map]; have := h6.2; omega)
    rw [List.length_map] at hc
    refine hc.mono ?_
    rintro e w' ⟨rfl, n, os, rfl⟩
    have hother := Qih (e := C.cell) w g n (srt (l.map C.to)).toArray os
    have hgl := Q5 hg
    refine ⟨_, rfl, fun m hm hL => hother.2 m (hL g (by simp)) hm, fun b hb hn => hother.1 b hb (by simpa using hn), rfl, fun v2 l2 h2 => ?_⟩
    rcases h2 with ⟨rfl, oa, rfl⟩ | ⟨g2, cap2, cur2, ty2, hL2, rfl, hg2, hs2, hr2, h7, h8⟩
    · exact .inl ⟨by simp [Qjb], oa, rfl⟩
    · obtain rfl : g = g2 := by simpa using hL2
      rw [hg] at hg2
      cases hg2
      rw [eL_flat C, Qjb]
      have hd : (srt (l.map C.to)).toArray.size ≤ cur.size := by simp only [List.size_toArray, hlen, List.length_map]; omega
      have hlen2 : (List.map (fun c => [c]) (List.take l2.length (List.map C.pv (List.map C.of (srt (l.map C.to))))) ++ List.drop (List.map C.pv (List.map C.of (srt (l.map C.to)))).length l2).length = l2.length := by
        simp only [List.length_append, List.length_map, List.length_take, List.length_drop]
        omega
      refine .inr ⟨g, cap2, _, ty, rfl, by rw [hlen2], Qfy hg n _ os, ?_, ?_, by rw [hlen2]; exact h7, by rw [hlen2]; exact h8⟩
      · simp [Go.Sort.putCells, hs2]
      · rw [hlen2, Nat.mul_one, Qs7 C.cell _ cur hd, List.take_append]
        rw [Nat.mul_one] at hr2
        refine VR.append ?_ ?_
        · have hk : VR F (grow (putRow C.cell (Sort.ahead w n) g 0 (srt (l.map C.to)).toArray) os) 1 (cur.toList.take l2.length) l2 := by
            refine hr2.keep fun b hb => ⟨hb, hother.1 b (hGs b (hFG b hb)) fun e => (hLG g (by simp)).2 (hFG g (e ▸ hb))⟩
          have := VR.drop (srt (l.map C.to)).length hk
          rw [Nat.mul_one, List.drop_take] at this
          simpa using this
        · have hm : ∀ a, a ∈ (srt (l.map C.to)).map C.of → C.ok a := fun a ha => by
            obtain ⟨x, hx, rfl⟩ := List.mem_map.1 ha
            obtain ⟨b, hb, rfl⟩ := List.mem_map.1 (hmem _ _ hx)
            rw [C.of_to]; exact hok' b hb
          have := VR.take l2.length (vr_one C (X := F) (w := grow (putRow C.cell (Sort.ahead w n) g 0 (srt (l.map C.to)).toArray) os) hm)
          rw [Nat.mul_one, eL_pv C] at this
          simpa [List.map_take, Function.comp_def, C.to_of] using this
theorem Ql5 {f : Nat} (hok : Z7 P f) (cmp : List σ → List σ) (hlen : ∀ l, (cmp l).length ≤ l.length) (hmem : ∀ l x, x ∈ cmp l → x ∈ l)
    (h0 : ∀ oa cap w, Calls P f #[.slice oa 0 cap] w fun e w' => e = .returned (.slice oa 0 cap) ∧ w' = w)
    (h1 : ∀ g cap (l : List σ) w, Holds C.cell w g 0 l.toArray → l.length ≤ 9223372036854775807 → l.length ≤ cap → Calls P f #[.slice (some ⟨g, 0, none⟩) l.length cap] w fun e w' => e = .returned (.slice (some ⟨g, 0, none⟩) (cmp l).length cap) ∧ ∃ q pad, (cmp l ++ pad).length = l.length ∧ w' = putRow C.cell (Sort.ahead w q) g 0 (cmp l ++ pad).toArray)
    (l : List α) : Qcn P f 1 (eL l) [] false false (eL ((cmp (l.map C.to)).map C.of)) := by
  refine ⟨hok, fun w F G L v vals hFG _ hGs _ hLG hrow hargs => ?_⟩
  cases hargs
  rcases hrow with ⟨hl, oa, rfl⟩ | ⟨g, cap, cur, ty, rfl, rfl, hg, hs, hr, h5, h6⟩
  · obtain rfl : l = [] := by simpa [eL] using hl
    have hs0 : cmp [] = [] := List.eq_nil_of_length_eq_zero (by have := hlen []; simpa using this)
    refine (h0 oa 0 w).mono ?_
    rintro e w' ⟨rfl, rfl⟩
    rw [List.map_nil, hs0]
    exact ⟨_, rfl, fun m _ _ => Below.refl _ _, fun _ _ _ => rfl, [], List.nodup_nil, fun b hb => (by simp at hb), .inl ⟨rfl, oa, rfl⟩⟩
  · have hll : (eL l).length = l.length := by simp [eL]
    rw [hll] at hr h5 h6 ⊢
    rw [Nat.mul_one] at hr hs
    obtain ⟨hcs, hok'⟩ := one_vr C hr
    have hH : Holds C.cell w g 0 (l.map C.to).toArray := Qs8 hg (by rw [List.length_map]; exact hcs)
    have hc := h1 g cap (l.map C.to) w hH (by rw [List.length_map]; have := h6.2; omega) (by rw [List.length_map]; exact h5)
    rw [List.length_map] at hc
    refine hc.mono ?_
    rintro e w' ⟨rfl, q, pad, hpad, rfl⟩
    have hw : putRow C.cell (Sort.ahead w q) g 0 (cmp (l.map C.to) ++ pad).toArray = grow (putRow C.cell (Sort.ahead w q) g 0 (cmp (l.map C.to) ++ pad).toArray) #[] := (grow_empty _).symm
    rw [hw]
    have hother := Qih (e := C.cell) w g q (cmp (l.map C.to) ++ pad).toArray #[]
    have hgl := Q5 hg
    have hd : (cmp (l.map C.to) ++ pad).toArray.size ≤ cur.size := by rw [List.size_toArray, hpad]; omega
    have hle := hlen (l.map C.to)
    rw [List.length_map] at hle
    have hel : (eL ((cmp (l.map C.to)).map C.of)).length = (cmp (l.map C.to)).length := by simp [eL]
    have hsz : g < (grow (putRow C.cell (Sort.ahead w q) g 0 (cmp (l.map C.to) ++ pad).toArray) #[]).heap.size := Q5 (Qfy hg q _ #[])
    refine ⟨_, rfl, fun m hm hL => hother.2 m (hL g (by simp)) hm, fun b hb hn => hother.1 b hb (by simpa using hn), [g], by simp, fun b hb => ?_, .inr ⟨g, cap, _, ty, rfl, by rw [hel], Qfy hg q _ #[], ?_, ?_, by rw [hel]; omega, h6.1, by rw [hel]; have := h6.2; omega⟩⟩
    · obtain rfl := List.mem_singleton.1 hb
      exact ⟨hsz, .inr (by simp)⟩
    · simp [Go.Sort.putCells, hs]
    · rw [hel, Nat.mul_one, Qs7 C.cell _ cur hd]
      have hm : ∀ a, a ∈ (cmp (l.map C.to)).map C.of → C.ok a := fun a ha => by
        obtain ⟨x, hx, rfl⟩ := List.mem_map.1 ha
        obtain ⟨b, hb, rfl⟩ := List.mem_map.1 (hmem _ _ hx)
        rw [C.of_to]; exact hok' b hb
      have := vr_one C (X := F) (w := grow (putRow C.cell (Sort.ahead w q) g 0 (cmp (l.map C.to) ++ pad).toArray) #[]) hm
      have e1 : ((cmp (l.map C.to)).map C.of).map C.to = cmp (l.map C.to) := by simp [Function.comp_def, C.to_of]
      rw [e1] at this
      rw [List.map_append, List.append_assoc, List.take_left' (by simp)]
      exact this
end
/-! ### the rows that Sort and Compact give, typed -/
def Qgt (l : List Int) : List Int := l.mergeSort fun x y => decide (x ≤ y)
def Qd9 (l : List ByteArray) : List ByteArray := ((l.map oneS.to).mergeSort fun x y => decide (x ≤ y)).map oneS.of
def Qne (l : List Int) : List Int := Lib.compact l
def Qiq (l : List ByteArray) : List ByteArray := (Lib.compact (l.map oneS.to)).map oneS.of
theorem Qs9 {σ : Type} [Inhabited σ] [DecidableEq σ] (l : List σ) (x : σ) (h : x ∈ Lib.compact l) : x ∈ l := by
  unfold Lib.compact Lib.compactUpTo at h
  simp only [List.mem_map, List.mem_filter, List.mem_range] at h
  obtain ⟨j, ⟨hj, _⟩, e⟩ := h
  have e1 : l.toArray[j]! = l[j] := by rw [getElem!_pos l.toArray j (by simpa using hj)]; simp
  rw [e1] at e
  exact e ▸ List.getElem_mem hj
theorem Qe2 {σ : Type} [Inhabited σ] [DecidableEq σ] (l : List σ) : (Lib.compact l).length ≤ l.length := by
  unfold Lib.compact Lib.compactUpTo
  rw [List.length_map]
  exact Nat.le_trans (List.length_filter_le _ _) (by rw [List.length_range]; exact Nat.le_refl _)
theorem Qph (l : List Int) : (Qgt l).length = l.length := List.length_mergeSort _
theorem Qpi (l : List ByteArray) : (Qd9 l).length = l.length := by simp [Qd9, List.length_mergeSort]
theorem compI_len (l : List Int) : (Qne l).length ≤ l.length := Qe2 l
theorem compS_len (l : List ByteArray) : (Qiq l).length ≤ l.length := by
  have := Qe2 (l.map oneS.to)
  rw [List.length_map] at this
  simpa [Qiq] using this
theorem Qta {α : Type} [GoE α] {l k : List α} (h1 : ∀ a : α, (enc a).length = 1) (h : k.length = l.length) : putR (eL l) 0 4294967296 (eL k).flatten = eL k := by
  have hk : ∀ k : List α, ((eL k).flatten.map fun c => [c]) = eL k := fun k => by
    induction k with
    | nil => rfl
    | cons a k ih =>
      rw [Qmz, List.flatten_cons, List.map_append, ih]
      have := h1 a
      match enc a, this with
      | [p], _ => rfl
  have hf : (eL k).flatten.length = k.length := by
    have := congrArg List.length (hk k)
    rw [List.length_map] at this
    rw [this]
    simp [eL]
  show Qjb (eL l) (eL k).flatten = eL k
  unfold Qjb
  have e1 : (eL l).length = l.length := by simp [eL]
  rw [e1, List.take_of_length_le (by omega), hk, List.drop_of_length_le (by omega), List.append_nil]
end Go.Proofs.YtnhmnfmhnepjmaaGreat
namespace Go.Proofs.YtnhmnfmhnepjmaaGreat
open Go.RowKit
section
variable {σ : Type} (lt : σ → σ → Prop)
theorem Qtb (irr : ∀ a, ¬ lt a a) (tr : ∀ a b c, lt a b → lt b c → lt a c) : ∀ (a b : List σ), a.Pairwise lt → b.Pairwise lt → (∀ x, x ∈ a ↔ x ∈ b) → a = b
  | [], [], _, _, _ => rfl
  | [], y :: b, _, _, h => by have := (h y).2 (by simp); simp at this
  | x :: a, [], _, _, h => by have := (h x).1 (by simp); simp at this
  | x :: a, y :: b, ha, hb, h => by
    rw [List.pairwise_cons] at ha hb
    have h1 : x = y := by
      have hx := (h x).1 (by simp)
      have hy := (h y).2 (by simp)
      simp only [List.mem_cons] at hx hy
      rcases hx with e | hx
      · exact e
      · rcases hy with e | hy
        · exact e.symm
        · exact (irr x (tr _ _ _ (ha.1 y hy) (hb.1 x hx))).elim
    subst h1
    congr 1
    refine Qtb irr tr a b ha.2 hb.2 fun z => ?_
    have hz := h z
    simp only [List.mem_cons] at hz
    constructor
    · intro hm
      have hlt := ha.1 z hm
      rcases hz.1 (.inr hm) with e | e
      · subst e; exact (irr z hlt).elim
      · exact e
    · intro hm
      have hlt := hb.1 z hm
      rcases hz.2 (.inr hm) with e | e
      · subst e; exact (irr z hlt).elim
      · exact e
theorem Qtc [Inhabited σ] [DecidableEq σ] (d : Array σ) (tr : ∀ a b c, ¬ lt b a → lt b c → lt a c) (tri : ∀ a b, ¬ lt b a → a ≠ b → lt a b) (hs : ∀ i j, i ≤ j → j < d.size → ¬ lt d[j]! d[i]!) :
    ∀ m, m ≤ d.size → (Lib.compactUpTo d m).Pairwise lt ∧ ∀ x, x ∈ Lib.compactUpTo d m ↔ ∃ j, j < m ∧ d[j]! = x
  | 0, _ => by simp [Lib.compactUpTo]
  | m + 1, hm => by
    obtain ⟨h1, h2⟩ := Qtc d tr tri hs m (by omega)
    rw [Lib.compactUpTo_succ]
    by_cases hk : Lib.keeps d m = true
    · rw [if_pos hk]
      refine ⟨?_, fun x => ?_⟩
      · rw [List.pairwise_append]
        refine ⟨h1, by simp, fun a ha b hb => ?_⟩
        obtain ⟨j, hj, rfl⟩ := (h2 a).1 ha
        obtain rfl : b = d[m]! := by simpa using hb
        have hle := hs j (m - 1) (by omega) (by omega)
        have hle2 := hs (m - 1) m (by omega) (by omega)
        have hne : d[m]! ≠ d[m - 1]! := by
          unfold Lib.keeps at hk
          simp only [Bool.or_eq_true, beq_iff_eq, bne_iff_ne, decide_eq_true_eq] at hk
          rcases hk with h | h
          · omega
          · exact h
        exact tr _ _ _ hle (tri _ _ hle2 fun e => hne e.symm)
      · rw [List.mem_append, h2 x]
        constructor
        · rintro (⟨j, hj, e⟩ | h)
          · exact ⟨j, by omega, e⟩
          · exact ⟨m, by omega, by simpa using (by simpa using h : x = d[m]!).symm⟩
        · rintro ⟨j, hj, e⟩
          by_cases hjm : j = m
          · subst hjm; exact .inr (by simp [e])
          · exact .inl ⟨j, by omega, e⟩
    · rw [if_neg hk, List.append_nil]
      refine ⟨h1, fun x => ?_⟩
      rw [h2 x]
      have hm0 : m ≠ 0 ∧ d[m]! = d[m - 1]! := by
        unfold Lib.keeps at hk
        simp only [Bool.or_eq_true, beq_iff_eq, bne_iff_ne, decide_eq_true_eq, not_or, Decidable.not_not] at hk
        exact hk
      constructor
      · rintro ⟨j, hj, e⟩; exact ⟨j, by omega, e⟩
      · rintro ⟨j, hj, e⟩
        by_cases hjm : j = m
        · subst hjm; exact ⟨j - 1, by omega, hm0.2 ▸ e⟩
        · exact ⟨j, by omega, e⟩
end
/-! ### texts -/
def bl (a b : ByteArray) : Bool := Op.bytesLess a.toList b.toList
theorem Qpj {a b c : List UInt8} (h : a < b) (h' : b < c) : a < c := List.lt_trans h h'
theorem lt8_irr (a : List UInt8) : ¬ a < a := List.lt_irrefl a
theorem Qrk {a b : List UInt8} (h : ¬ b < a) (hn : a ≠ b) : a < b := Classical.byContradiction fun h' => hn (List.le_antisymm h h')
theorem Qj7 (a b : ByteArray) : bl a b = true ↔ a.data.toList < b.data.toList := by
  unfold bl
  rw [bytesLess_eq, ByteArray.toList_eq, ByteArray.toList_eq, decide_eq_true_iff]
theorem bl_irr (a : ByteArray) : bl a a = false := by
  cases h : bl a a with
  | false => rfl
  | true => exact (lt8_irr _ ((Qj7 a a).1 h)).elim
theorem Qtd {a b c : ByteArray} (h : bl a b = true) (h' : bl b c = true) : bl a c = true := (Qj7 _ _).2 (Qpj ((Qj7 _ _).1 h) ((Qj7 _ _).1 h'))
theorem bl_tri {a b : ByteArray} (h : bl b a = false) (hn : a ≠ b) : bl a b = true := (Qj7 _ _).2 (Qrk (fun hb => by rw [(Qj7 _ _).2 hb] at h; cases h) fun e => hn (by cases a; cases b; simp at e; rw [e]))
def Qpk : List ByteArray → ByteArray → List ByteArray
  | [], s => [s]
  | x :: l, s => if bl x s then x :: Qpk l s else if x = s then x :: l else s :: x :: l
def ascS (l : List ByteArray) : Prop := l.Pairwise fun a b => bl a b = true
theorem Qnf (s x : ByteArray) : ∀ l, x ∈ Qpk l s ↔ x = s ∨ x ∈ l
  | [] => by simp [Qpk]
  | y :: l => by
    simp only [Qpk]
    split
    · rw [List.mem_cons, Qnf s x l, List.mem_cons]
      constructor
      · rintro (h | h | h) <;> simp [h]
      · rintro (h | h | h) <;> simp [h]
    · split
      · rename_i e
        subst e
        simp
      · simp
theorem Qte (s : ByteArray) : ∀ l, ascS l → ascS (Qpk l s)
  | [], _ => by simp [ascS, Qpk]
  | y :: l, h => by
    have h := List.pairwise_cons.1 h
    simp only [Qpk]
    split
    · rename_i hl
      refine List.pairwise_cons.2 ⟨fun z hz => ?_, Qte s l h.2⟩
      rcases (Qnf s z l).1 hz with e | hz
      · exact e ▸ hl
      · exact h.1 z hz
    · split
      · exact List.pairwise_cons.2 h
      · rename_i hl hn
        have hs : bl s y = true := bl_tri (by simpa using hl) fun e => hn e.symm
        refine List.pairwise_cons.2 ⟨fun z hz => ?_, List.pairwise_cons.2 h⟩
        rcases List.mem_cons.1 hz with rfl | hz
        · exact hs
        · exact Qtd hs (h.1 z hz)
theorem Qtf (s : ByteArray) : ∀ l, (Qpk l s).length ≤ l.length + 1
  | [] => by simp [Qpk]
  | y :: l => by
    have := Qtf s l
    simp only [Qpk]
    split
    · simp only [List.length_cons]; omega
    · split <;> simp
def Qfz (l xs : List ByteArray) : List ByteArray := xs.foldl Qpk l
theorem Qj8 (x : ByteArray) : ∀ xs l, x ∈ Qfz l xs ↔ x ∈ xs ∨ x ∈ l
  | [], l => by simp [Qfz]
  | y :: xs, l => by
    show x ∈ Qfz (Qpk l y) xs ↔ _
    rw [Qj8 x xs, Qnf, List.mem_cons]
    constructor
    · rintro (h | h | h) <;> simp [h]
    · rintro ((h | h) | h) <;> simp [h]
theorem Qj9 : ∀ xs l, ascS l → ascS (Qfz l xs)
  | [], _, h => h
  | y :: xs, l, h => Qj9 xs (Qpk l y) (Qte y l h)
theorem ascS_ext (a b : List ByteArray) (ha : ascS a) (hb : ascS b) (h : ∀ x, x ∈ a ↔ x ∈ b) : a = b :=
  Qtb (fun a b => bl a b = true) (fun a h => by rw [bl_irr] at h; cases h) (fun _ _ _ => Qtd) a b ha hb h
theorem Qka (l : List ByteArray) : ascS (Qiq (Qd9 l)) ∧ ∀ x, x ∈ Qiq (Qd9 l) ↔ x ∈ l := by
  have hto : (Qd9 l).map oneS.to = (l.map oneS.to).mergeSort fun x y => decide (x ≤ y) := by simp [Qd9, Function.comp_def, oneS.to_of]
  unfold Qiq
  rw [hto]
  generalize hm : l.map oneS.to = m
  have hp := List.mergeSort_perm m (fun x y => decide (x ≤ y))
  have hs := List.pairwise_mergeSort (le := fun (x y : List UInt8) => decide (x ≤ y)) (fun a b c h1 h2 => by
    simp only [decide_eq_true_eq] at h1 h2 ⊢; exact List.le_trans h1 h2) (fun a b => by
    have := List.le_total a b
    simpa using this) m
  generalize (m.mergeSort fun x y => decide (x ≤ y)) = s at hp hs
  have hget : ∀ j, j < s.length → s.toArray[j]! = s[j]! := fun j hj => by simp
  have hmono : ∀ i j, i ≤ j → j < s.toArray.size → ¬ s.toArray[j]! < s.toArray[i]! := fun i j hij hj => by
    have hj : j < s.length := by simpa using hj
    rw [hget i (by omega), hget j hj, getElem!_pos s i (by omega), getElem!_pos s j hj]
    by_cases e : i = j
    · subst e; exact lt8_irr _
    · have := List.pairwise_iff_getElem.1 hs i j (by omega) hj (by omega)
      simpa using this
  obtain ⟨h1, h2⟩ := Qtc (fun a b : List UInt8 => a < b) s.toArray (fun a b c hab hbc => by
    by_cases e : a = b
    · exact e ▸ hbc
    · exact Qpj (Qrk hab e) hbc) (fun a b h hn => Qrk h hn) hmono s.length (by simp)
  refine ⟨?_, fun x => ?_⟩
  · refine List.pairwise_map.2 (h1.imp fun {a b} h => (Qj7 _ _).2 ?_)
    simpa [oneS] using h
  · have hmem : x ∈ l ↔ oneS.to x ∈ m := by
      rw [← hm, List.mem_map]
      refine ⟨fun h => ⟨x, h, rfl⟩, fun ⟨y, h, e⟩ => ?_⟩
      have := congrArg oneS.of e
      rw [oneS.of_to, oneS.of_to] at this
      exact this ▸ h
    rw [hmem, ← hp.mem_iff, List.mem_map]
    constructor
    · rintro ⟨y, hy, rfl⟩
      obtain ⟨j, hj, e⟩ := (h2 y).1 hy
      rw [hget j hj, getElem!_pos s j hj] at e
      rw [oneS.to_of]
      exact e ▸ List.getElem_mem hj
    · intro h
      obtain ⟨j, hj, e⟩ := List.getElem_of_mem h
      exact ⟨oneS.to x, (h2 _).2 ⟨j, hj, by rw [hget j hj, getElem!_pos s j hj]; exact e⟩, oneS.of_to x⟩
theorem once_put (l : List ByteArray) : Qiq (Qd9 l) = Qfz [] l :=
  ascS_ext _ _ (Qka l).1 (Qj9 l [] List.Pairwise.nil) fun x => by rw [(Qka l).2, Qj8]; simp
end Go.Proofs.YtnhmnfmhnepjmaaGreat
namespace Go.Proofs.YtnhmnfmhnepjmaaGreat
abbrev Va := List (Nat × Int)
def Qcz (E : Va) (L : List Int) : Int := E.foldl (fun m e => max m (nth L e.1 + e.2)) 0
theorem Qdw (L : List Int) (x : Int) : ∀ (E : Va) (m : Int), E.foldl (fun m e => max m (nth L e.1 + e.2)) m ≤ x ↔ m ≤ x ∧ ∀ e, e ∈ E → nth L e.1 + e.2 ≤ x
  | [], m => by simp
  | e :: E, m => by
    rw [List.foldl_cons, Qdw L x E]
    constructor
    · rintro ⟨h1, h2⟩
      refine ⟨by omega, fun e' he => ?_⟩
      rcases List.mem_cons.1 he with rfl | he
      · omega
      · exact h2 e' he
    · rintro ⟨h1, h2⟩
      have := h2 e List.mem_cons_self
      exact ⟨by omega, fun e' he => h2 e' (List.mem_cons_of_mem _ he)⟩
theorem Qao {E : Va} {L : List Int} {x : Int} : Qcz E L ≤ x ↔ 0 ≤ x ∧ ∀ e, e ∈ E → nth L e.1 + e.2 ≤ x := Qdw L x E 0
theorem Qf0 (E : Va) (L : List Int) : 0 ≤ Qcz E L := (Qao.1 (Int.le_refl _)).1
theorem Qpl {E : Va} {L M : List Int} (h : ∀ j, nth L j ≤ nth M j) : Qcz E L ≤ Qcz E M :=
  Qao.2 ⟨Qf0 E M, fun e he => by
    have := (Qao.1 (Int.le_refl (Qcz E M))).2 e he
    have := h e.1
    omega⟩
theorem Qf1 {L : List Int} {i : Nat} (x : Int) (j : Nat) (hi : i < L.length) : nth (L.set i x) j = if j = i then x else nth L j := by
  unfold nth
  by_cases h : j = i
  · subst h; simp [List.getD, hi]
  · rw [if_neg h]; simp [List.getD, List.getElem?_set, Ne.symm h]
theorem Qkb {L : List Int} {i : Nat} (h : L.length ≤ i) : nth L i = 0 := by
  unfold nth
  simp [List.getD, List.getElem?_eq_none h]
def Ua (E : Nat → Va) (L : List Int) (i : Nat) : List Int := if nth L i < Qcz (E i) L then L.set i (Qcz (E i) L) else L
theorem Qcq (E : Nat → Va) (L : List Int) (i : Nat) : (Ua E L i).length = L.length := by unfold Ua; split <;> simp
theorem Qng (E : Nat → Va) (L : List Int) (i j : Nat) : nth L j ≤ nth (Ua E L i) j := by
  unfold Ua
  split
  · rename_i h
    by_cases hi : i < L.length
    · rw [Qf1 _ _ hi]; split
      · rename_i e; subst e; omega
      · omega
    · rw [List.set_eq_of_length_le (by omega)]; omega
  · omega
def rounds (E : Nat → Va) (is : List Nat) (L : List Int) : List Int := is.foldl (Ua E) L
theorem Qe3 (E : Nat → Va) : ∀ (is : List Nat) (L : List Int), (rounds E is L).length = L.length
  | [], _ => rfl
  | i :: is, L => (Qe3 E is (Ua E L i)).trans (Qcq E L i)
theorem Qgu (E : Nat → Va) (j : Nat) : ∀ (is : List Nat) (L : List Int), nth L j ≤ nth (rounds E is L) j
  | [], _ => Int.le_refl _
  | i :: is, L => Int.le_trans (Qng E L i j) (Qgu E j is (Ua E L i))
theorem ext_nth {L M : List Int} (hl : L.length = M.length) (h : ∀ j, nth L j = nth M j) : L = M := by
  apply List.ext_getElem hl
  intro i h1 h2
  have := h i
  simpa [nth, List.getD, h1, h2] using this
theorem Ql6 (E : Nat → Va) : ∀ (is : List Nat) (L : List Int), rounds E is L = L → ∀ i, i ∈ is → Ua E L i = L
  | [], _, _, i, hi => by simp at hi
  | a :: is, L, h, i, hi => by
    have h1 : Ua E L a = L := ext_nth (Qcq E L a) fun j => by
      have h2 := Qng E L a j
      have h3 := Qgu E j is (Ua E L a)
      have h4 : nth (rounds E is (Ua E L a)) j = nth L j := congrArg (nth · j) h
      omega
    rcases List.mem_cons.1 hi with rfl | hi
    · exact h1
    · refine Ql6 E is L ?_ i hi
      have : rounds E is (Ua E L a) = L := h
      rwa [h1] at this
theorem Ql7 {E : Nat → Va} {L : List Int} {i : Nat} (hi : i < L.length) : Ua E L i = L ↔ Qcz (E i) L ≤ nth L i := by
  unfold Ua
  constructor
  · intro h
    split at h
    · rename_i hlt
      have h2 : nth (L.set i (Qcz (E i) L)) i = nth L i := by rw [h]
      rw [Qf1 _ _ hi, if_pos rfl] at h2
      omega
    · omega
  · intro h
    rw [if_neg (by omega)]
def Sat (E : Nat → Va) (n : Nat) (g : List Int) : Prop := ∀ i, i < n → Qcz (E i) g ≤ nth g i
theorem Qrl {E : Nat → Va} {n : Nat} {L g : List Int} {i : Nat} (hi : i < n) (hn : L.length = n) (hs : Sat E n g) (h : ∀ j, nth L j ≤ nth g j) : ∀ j, nth (Ua E L i) j ≤ nth g j := by
  intro j
  unfold Ua
  split
  · rw [Qf1 _ _ (by omega)]
    split
    · rename_i e; subst e
      exact Int.le_trans (Qpl h) (hs j hi)
    · exact h j
  · exact h j
theorem Qep {E : Nat → Va} {n : Nat} {g : List Int} (hs : Sat E n g) : ∀ (is : List Nat) (L : List Int), (∀ i, i ∈ is → i < n) → L.length = n → (∀ j, nth L j ≤ nth g j) → ∀ j, nth (rounds E is L) j ≤ nth g j
  | [], _, _, _, h => h
  | i :: is, L, hi, hn, h => Qep hs is (Ua E L i) (fun k hk => hi k (List.mem_cons_of_mem _ hk)) ((Qcq E L i).trans hn) (Qrl (hi i List.mem_cons_self) hn hs h)
theorem pigeon : ∀ (m : Nat) (l : List Int), (∀ v : Nat, v < m → ((v : Nat) : Int) ∈ l) → m ≤ l.length
  | 0, _, _ => Nat.zero_le _
  | m + 1, l, h => by
    have hm := h m (by omega)
    have := pigeon m (l.erase (m : Int)) fun v hv => (List.mem_erase_of_ne (by omega)).2 (h v (by omega))
    rw [List.length_erase_of_mem hm] at this
    have : 0 < l.length := List.length_pos_of_mem hm
    omega
theorem Qrm {L : List Int} {i : Nat} (h : i < L.length) : nth L i ∈ L := by
  have : nth L i = L[i] := by simp [nth, List.getD, h]
  rw [this]; exact List.getElem_mem h
theorem Qnh {L : List Int} {x : Int} (h : x ∈ L) : ∃ i, i < L.length ∧ nth L i = x := by
  obtain ⟨i, hi, e⟩ := List.getElem_of_mem h
  exact ⟨i, hi, by rw [← e]; simp [nth, List.getD, hi]⟩
theorem nth_map {L : List Int} {f : Int → Int} {i : Nat} (h : i < L.length) : nth (L.map f) i = f (nth L i) := by simp [nth, List.getD, h]
theorem Quu {E : Nat → Va} {n : Nat} {f : List Int} (hw : ∀ i e, e ∈ E i → e.2 ≤ 1 ∧ e.1 < n) (hlen : f.length = n) (hs : Sat E n f) (hleast : ∀ g : List Int, g.length = n → Sat E n g → (∀ j, 0 ≤ nth g j) → ∀ j, nth f j ≤ nth g j) (h0 : ∀ j, 0 ≤ nth f j) :
    ∀ i, i < n → nth f i < (n : Int) := by
  intro i hi
  have hall : ∀ v : Nat, (v : Int) ≤ nth f i → ((v : Nat) : Int) ∈ f := fun v hv => by
    refine Classical.byContradiction fun hno => ?_
    have hne : ∀ j, j < n → nth f j ≠ v := fun j hj e => hno (e ▸ Qrm (by omega))
    have hvi : (v : Int) < nth f i := by have := hne i hi; omega
    let g := f.map fun x => if (v : Int) < x then x - 1 else x
    have hg : ∀ j, j < n → nth g j = if (v : Int) < nth f j then nth f j - 1 else nth f j := fun j hj => nth_map (by omega)
    have hg0 : ∀ j, ¬ j < n → nth g j = 0 := fun j hj => Qkb (by simp only [g, List.length_map]; omega)
    have hf0 : ∀ j, ¬ j < n → nth f j = 0 := fun j hj => Qkb (by omega)
    have hpos : ∀ j, 0 ≤ nth g j := fun j => by
      by_cases hj : j < n
      · rw [hg j hj]; have := h0 j; split <;> omega
      · rw [hg0 j hj]; omega
    have := hleast g (by simp only [g, List.length_map]; exact hlen) (fun k hk => Qao.2 ⟨hpos k, fun e he => ?_⟩) hpos i
    · rw [hg i hi, if_pos hvi] at this; omega
    · have h1 := (Qao.1 (hs k hk)).2 e he
      obtain ⟨h2, hj⟩ := hw k e he
      have h3 := hne k hk
      rw [hg k hk]
      have h4 := hne e.1 hj
      rw [hg e.1 hj]
      split <;> split <;> omega
  have hp := pigeon ((nth f i).toNat + 1) f fun v hv => hall v (by have := h0 i; omega)
  have := h0 i
  omega
/-! ### rounds until rest -/
theorem sum_set : ∀ (L : List Int) (i : Nat) (x : Int), i < L.length → (L.set i x).sum = L.sum + (x - nth L i)
  | [], i, x, h => by simp at h
  | a :: L, 0, x, _ => by simp [nth]; omega
  | a :: L, i + 1, x, h => by
    have := sum_set L i x (by simpa using h)
    have e : nth (a :: L) (i + 1) = nth L i := rfl
    rw [e, List.set_cons_succ, List.sum_cons, List.sum_cons, this]
    omega
theorem Qtg : ∀ (L : List Int) (N : Int), (∀ x, x ∈ L → x ≤ N) → L.sum ≤ (L.length : Int) * N
  | [], N, _ => by simp
  | a :: L, N, h => by
    have h1 := Qtg L N fun x hx => h x (List.mem_cons_of_mem _ hx)
    have h2 := h a List.mem_cons_self
    rw [List.sum_cons, List.length_cons, Int.natCast_add, Int.add_mul]
    omega
theorem Qpm {E : Nat → Va} {L : List Int} {i : Nat} (hi : i < L.length) : L.sum ≤ (Ua E L i).sum ∧ (Ua E L i ≠ L → L.sum + 1 ≤ (Ua E L i).sum) := by
  unfold Ua
  split
  · rename_i h
    have := sum_set L i (Qcz (E i) L) hi
    omega
  · exact ⟨Int.le_refl _, fun h => (h rfl).elim⟩
theorem Qe4 {E : Nat → Va} : ∀ (is : List Nat) (L : List Int), (∀ i, i ∈ is → i < L.length) → L.sum ≤ (rounds E is L).sum ∧ (rounds E is L ≠ L → L.sum + 1 ≤ (rounds E is L).sum)
  | [], L, _ => ⟨Int.le_refl _, fun h => (h rfl).elim⟩
  | i :: is, L, h => by
    obtain ⟨h1, h2⟩ := Qpm (E := E) (h i List.mem_cons_self)
    obtain ⟨h3, h4⟩ := Qe4 (E := E) is (Ua E L i) fun k hk => by rw [Qcq]; exact h k (List.mem_cons_of_mem _ hk)
    show L.sum ≤ (rounds E is (Ua E L i)).sum ∧ (rounds E is (Ua E L i) ≠ L → L.sum + 1 ≤ (rounds E is (Ua E L i)).sum)
    refine ⟨by omega, fun hn => ?_⟩
    by_cases e : Ua E L i = L
    · have := h4 (by rw [e] at hn ⊢; exact hn)
      omega
    · have := h2 e
      omega
def Qbg (E : Nat → Va) (N : Int) : List Nat → Bool × List Int → Option (Bool × List Int)
  | [], s => some s
  | i :: is, s => if N < Qcz (E i) s.2 then none else Qbg E N is (if nth s.2 i < Qcz (E i) s.2 then (true, s.2.set i (Qcz (E i) s.2)) else s)
theorem Qbu {E : Nat → Va} {N : Int} : ∀ (is : List Nat) (c : Bool) (L : List Int) (s : Bool × List Int), (∀ i, i ∈ is → i < L.length) → Qbg E N is (c, L) = some s → s.2 = rounds E is L ∧ (s.1 = true → c = true ∨ rounds E is L ≠ L) ∧ (s.1 = false → c = false ∧ rounds E is L = L) ∧ ((∀ j, nth L j ≤ N) → ∀ j, nth s.2 j ≤ N)
  | [], c, L, s, _, h => by
    obtain rfl := Option.some.inj h
    exact ⟨rfl, fun h => .inl h, fun h => ⟨h, rfl⟩, fun h => h⟩
  | i :: is, c, L, s, hi, h => by
    have hil := hi i List.mem_cons_self
    have hlen : ∀ k, k ∈ is → k < (Ua E L i).length := fun k hk => by rw [Qcq]; exact hi k (List.mem_cons_of_mem _ hk)
    simp only [Qbg] at h
    split at h
    · cases h
    · rename_i hN
      split at h
      · rename_i hlt
        have er : Ua E L i = L.set i (Qcz (E i) L) := by unfold Ua; rw [if_pos hlt]
        rw [← er] at h
        obtain ⟨h1, h2, h3, h4⟩ := Qbu is true (Ua E L i) s hlen h
        have hne : rounds E (i :: is) L ≠ L := fun e => by
          have := (Qe4 (E := E) is (Ua E L i) hlen).1
          have h5 := (Qpm (E := E) hil).2 fun e' => by
            have := (Ql7 hil).1 e'
            omega
          have h6 : (rounds E is (Ua E L i)).sum = L.sum := congrArg List.sum e
          omega
        refine ⟨h1, fun _ => .inr hne, fun h => (by have := (h3 h).1; cases this), fun hb j => h4 (fun j => ?_) j⟩
        rw [er, Qf1 _ _ hil]
        split
        · omega
        · exact hb j
      · rename_i hlt
        have er : Ua E L i = L := by unfold Ua; rw [if_neg hlt]
        have e2 : rounds E (i :: is) L = rounds E is L := by show rounds E is (Ua E L i) = _; rw [er]
        rw [e2]
        exact Qbu is c L s (fun k hk => hi k (List.mem_cons_of_mem _ hk)) h
theorem Qii {E : Nat → Va} {N : Int} : ∀ (is : List Nat) (c : Bool) (L : List Int), Qbg E N is (c, L) = none → ∃ pre i, (∀ k, k ∈ pre → k ∈ is) ∧ i ∈ is ∧ N < Qcz (E i) (rounds E pre L)
  | [], c, L, h => by cases h
  | i :: is, c, L, h => by
    simp only [Qbg] at h
    split at h
    · rename_i hN
      exact ⟨[], i, fun k hk => by simp at hk, List.mem_cons_self, hN⟩
    · have key : ∀ c' L', L' = Ua E L i → Qbg E N is (c', L') = none → ∃ pre k, (∀ x, x ∈ pre → x ∈ i :: is) ∧ k ∈ i :: is ∧ N < Qcz (E k) (rounds E pre L) := fun c' L' e h => by
        obtain ⟨pre, k, h1, h2, h3⟩ := Qii is c' L' h
        subst e
        refine ⟨i :: pre, k, fun x hx => ?_, List.mem_cons_of_mem _ h2, h3⟩
        rcases List.mem_cons.1 hx with rfl | hx
        · exact List.mem_cons_self
        · exact List.mem_cons_of_mem _ (h1 x hx)
      split at h
      · rename_i hlt
        exact key true _ (by unfold Ua; rw [if_pos hlt]) h
      · rename_i hlt
        exact key c _ (by unfold Ua; rw [if_neg hlt]) h
def Qhw (E : Nat → Va) (N : Int) (n : Nat) : Nat → Bool × List Int → Option (Option (List Int))
  | 0, _ => none
  | k + 1, s => match s.1 with
    | true => (match Qbg E N (List.range n) (false, s.2) with
      | none => some none
      | some s' => Qhw E N n k s')
    | false => some (some s.2)
theorem Qag {n i : Nat} (h : i ∈ List.range n) : i < n := List.mem_range.1 h
theorem Ql8 {E : Nat → Va} {n : Nat} : ∀ (k : Nat) (c : Bool) (L : List Int), L.length = n → (∀ j, nth L j ≤ (n : Int)) → (n : Int) * (n : Int) - L.sum + 2 ≤ (k : Int) → (Qhw E n n k (c, L)).isSome = true
  | 0, c, L, hl, hb, hk => by
    have := Qtg L n fun x hx => by obtain ⟨i, _, e⟩ := Qnh hx; exact e ▸ hb i
    rw [hl] at this
    omega
  | k + 1, false, L, hl, hb, hk => rfl
  | k + 1, true, L, hl, hb, hk => by
    simp only [Qhw]
    cases hc : Qbg E n (List.range n) (false, L) with
    | none => rfl
    | some s =>
      obtain ⟨h1, h2, h3, h4⟩ := Qbu (List.range n) false L s (fun i hi => by rw [hl]; exact Qag hi) hc
      obtain ⟨c', L'⟩ := s
      simp only at h1 h2 h3 h4 ⊢
      have hl' : L'.length = n := by rw [h1, Qe3, hl]
      have hs := Qe4 (E := E) (List.range n) L fun i hi => by rw [hl]; exact Qag hi
      rw [← h1] at hs
      cases c' with
      | false =>
        cases k with
        | zero =>
          have := Qtg L n fun x hx => by obtain ⟨i, _, e⟩ := Qnh hx; exact e ▸ hb i
          rw [hl] at this
          omega
        | succ k => rfl
      | true =>
        have hne : L' ≠ L := by
          rcases h2 rfl with h | h
          · cases h
          · rw [h1]; exact h
        have := hs.2 hne
        exact Ql8 k true L' hl' (h4 hb) (by omega)
def after (E : Nat → Va) (n : Nat) : Nat → List Int
  | 0 => List.replicate n 0
  | k + 1 => rounds E (List.range n) (after E n k)
theorem V3 (E : Nat → Va) (n : Nat) : ∀ k, (after E n k).length = n
  | 0 => by simp [after]
  | k + 1 => by rw [after, Qe3, V3 E n k]
def Qvk (E : Nat → Va) (n : Nat) (L : List Int) : Prop := rounds E (List.range n) L = L
theorem Qi2 (n j : Nat) : nth (List.replicate n (0 : Int)) j = 0 := by
  by_cases h : j < n
  · simp [nth, List.getD, h]
  · exact Qkb (by simp; omega)
theorem Ha (E : Nat → Va) (n j : Nat) : ∀ k, 0 ≤ nth (after E n k) j
  | 0 => by rw [after, Qi2]; omega
  | k + 1 => Int.le_trans (Ha E n j k) (Qgu E j _ _)
theorem Qgv {E : Nat → Va} {n : Nat} {L : List Int} (hl : L.length = n) (h : Qvk E n L) : Sat E n L := fun i hi => (Ql7 (by omega)).1 (Ql6 E _ L h i (List.mem_range.2 hi))
theorem Qdx {E : Nat → Va} {n : Nat} {g : List Int} (hs : Sat E n g) (h0 : ∀ j, 0 ≤ nth g j) : ∀ k j, nth (after E n k) j ≤ nth g j
  | 0, j => by rw [after, Qi2]; exact h0 j
  | k + 1, j => Qep hs _ _ (fun i hi => Qag hi) (V3 E n k) (Qdx hs h0 k) j
theorem Qe5 {E : Nat → Va} {n k : Nat} (h : Qvk E n (after E n k)) : ∀ d, after E n (k + d) = after E n k
  | 0 => rfl
  | d + 1 => by
    show rounds E (List.range n) (after E n (k + d)) = _
    rw [Qe5 h d]
    exact h
theorem rest_same {E : Nat → Va} {n k m : Nat} (hk : Qvk E n (after E n k)) (hm : Qvk E n (after E n m)) : after E n k = after E n m := by
  rcases Nat.le_total k m with h | h
  · have := Qe5 hk (m - k)
    rw [show k + (m - k) = m by omega] at this
    exact this.symm
  · have := Qe5 hm (k - m)
    rwa [show m + (k - m) = k by omega] at this
theorem Qkc {E : Nat → Va} {n : Nat} : ∀ k, (∀ j, j < k → ¬ Qvk E n (after E n j)) → (k : Int) ≤ (after E n k).sum
  | 0, _ => by
    have : ∀ n : Nat, (List.replicate n (0 : Int)).sum = 0 := fun n => by simp
    rw [after, this]; omega
  | k + 1, h => by
    have h1 := Qkc k fun j hj => h j (by omega)
    have h2 := (Qe4 (E := E) (List.range n) (after E n k) fun i hi => by rw [V3]; exact Qag hi).2 (h k (by omega))
    show ((k + 1 : Nat) : Int) ≤ (rounds E (List.range n) (after E n k)).sum
    omega
variable {E : Nat → Va} {n : Nat} (hw : ∀ i e, e ∈ E i → e.2 ≤ 1 ∧ e.1 < n)
include hw in
theorem Qrn {k : Nat} (h : Qvk E n (after E n k)) : ∀ i, i < n → nth (after E n k) i < (n : Int) :=
  Quu hw (V3 E n k) (Qgv (V3 E n k) h) (fun _ _ hs h0 => Qdx hs h0 k) fun j => Ha E n j k
include hw in
theorem rest_soon {k : Nat} (h : Qvk E n (after E n k)) : Qvk E n (after E n (n * n + 2)) := by
  have hex : ∃ j, j ≤ n * n + 1 ∧ Qvk E n (after E n j) := Classical.byContradiction fun hno => by
    have h1 := Qkc (E := E) (n := n) (n * n + 2) fun j hj hr => hno ⟨j, by omega, hr⟩
    have h2 := Qtg (after E n (n * n + 2)) n fun x hx => by
      obtain ⟨i, hi, e⟩ := Qnh hx
      rw [V3] at hi
      have h3 := Qdx (Qgv (V3 E n k) h) (fun j => Ha E n j k) (n * n + 2) i
      have := Qrn hw h i hi
      omega
    rw [V3] at h2
    have h3 : ((n * n + 2 : Nat) : Int) = (n : Int) * (n : Int) + 2 := by rw [Int.natCast_add, Int.natCast_mul]; rfl
    omega
  obtain ⟨j, hj, hr⟩ := hex
  have := Qe5 hr (n * n + 2 - j)
  rw [show j + (n * n + 2 - j) = n * n + 2 by omega] at this
  rw [this]; exact hr
include hw in
theorem Qi3 : ∀ (k m : Nat) (c : Bool) (r : Option (List Int)), (c = false → Qvk E n (after E n m)) → Qhw E n n k (c, after E n m) = some r →
    (∀ L, r = some L → Qvk E n (after E n (n * n + 2)) ∧ L = after E n (n * n + 2)) ∧ (r = none → ¬ Qvk E n (after E n (n * n + 2)))
  | 0, m, c, r, _, h => by cases h
  | k + 1, m, false, r, hc, h => by
    obtain rfl := Option.some.inj h
    have hr := hc rfl
    have hs := rest_soon hw hr
    refine ⟨fun L e => ⟨hs, ?_⟩, fun e => by cases e⟩
    obtain rfl := Option.some.inj e
    exact rest_same hr hs
  | k + 1, m, true, r, _, h => by
    simp only [Qhw] at h
    have hlt : ∀ i, i ∈ List.range n → i < (after E n m).length := fun i hi => by rw [V3]; exact Qag hi
    cases hcr : Qbg E n (List.range n) (false, after E n m) with
    | none =>
      rw [hcr] at h
      obtain rfl := Option.some.inj h
      refine ⟨fun L e => (by cases e), fun _ hr => ?_⟩
      obtain ⟨pre, i, h1, h2, h3⟩ := Qii _ _ _ hcr
      have hsat := Qgv (V3 E n _) hr
      have h4 := Qep hsat pre (after E n m) (fun i hi => Qag (h1 i hi)) (V3 E n m) (Qdx hsat (fun j => Ha E n j _) m)
      have h5 := Qpl (E := E i) h4
      have h6 := hsat i (Qag h2)
      have h7 := Qrn hw hr i (Qag h2)
      omega
    | some s =>
      rw [hcr] at h
      obtain ⟨h1, _, h3, _⟩ := Qbu _ _ _ s hlt hcr
      obtain ⟨c', L'⟩ := s
      simp only at h1 h3 h
      have e : L' = after E n (m + 1) := h1
      subst e
      refine Qi3 k (m + 1) c' r (fun hc => ?_) h
      have h5 := (h3 hc).2
      show rounds E (List.range n) (after E n (m + 1)) = after E n (m + 1)
      have e2 : after E n (m + 1) = after E n m := h5
      rw [e2]; exact h5
omit hw
/-! ### the other way to Ua: edge by edge -/
def Qhh (i : Nat) (L : List Int) (e : Nat × Int) : List Int := if nth L i < nth L e.1 + e.2 then L.set i (nth L e.1 + e.2) else L
def Qap (i : Nat) (E : Va) (L : List Int) : List Int := E.foldl (Qhh i) L
theorem Qdy (i : Nat) (L : List Int) (e : Nat × Int) : (Qhh i L e).length = L.length := by unfold Qhh; split <;> simp
theorem Qcr (i : Nat) : ∀ (E : Va) (L : List Int), (Qap i E L).length = L.length
  | [], _ => rfl
  | e :: E, L => (Qcr i E (Qhh i L e)).trans (Qdy i L e)
theorem Qi4 {i : Nat} {L : List Int} (e : Nat × Int) (hi : i < L.length) (j : Nat) : nth (Qhh i L e) j = if j = i then max (nth L i) (nth L e.1 + e.2) else nth L j := by
  unfold Qhh
  split
  · rw [Qf1 _ _ hi]; split <;> omega
  · split
    · rename_i h; subst h; omega
    · rfl
theorem Qpn {i : Nat} : ∀ (E : Va) {L M : List Int}, i < M.length → (∀ j, j ≠ i → nth M j = nth L j) → nth L i ≤ nth M i → (∀ e, e ∈ E → e.1 = i → e.2 ≤ 0) → ∀ j, nth (Qap i E M) j = if j = i then E.foldl (fun m e => max m (nth L e.1 + e.2)) (nth M i) else nth L j
  | [], L, M, hi, hj, h0, hs, j => by
    show nth M j = _
    split
    · rename_i e; subst e; rfl
    · rename_i e; exact hj j e
  | e :: E, L, M, hi, hj, h0, hs, j => by
    show nth (Qap i E (Qhh i M e)) j = _
    have hb := Qi4 e hi
    have hmax : nth (Qhh i M e) i = max (nth M i) (nth L e.1 + e.2) := by
      rw [hb, if_pos rfl]
      by_cases he : e.1 = i
      · have := hs e List.mem_cons_self he
        rw [he]; omega
      · rw [hj e.1 he]
    rw [Qpn E (L := L) (M := Qhh i M e) (by rw [Qdy]; exact hi) (fun k hk => by rw [hb, if_neg hk]; exact hj k hk) (by rw [hmax]; omega) (fun e' he' => hs e' (List.mem_cons_of_mem _ he')) j, hmax, List.foldl_cons]
theorem fold_max (L : List Int) : ∀ (E : Va) (m : Int), 0 ≤ m → E.foldl (fun m e => max m (nth L e.1 + e.2)) m = max m (Qcz E L) := fun E m hm => by
  have h1 := Qdw L (E.foldl (fun m e => max m (nth L e.1 + e.2)) m) E m
  have h2 := h1.1 (Int.le_refl _)
  have h3 : Qcz E L ≤ E.foldl (fun m e => max m (nth L e.1 + e.2)) m := Qao.2 ⟨by omega, h2.2⟩
  have h4 := (Qdw L (max m (Qcz E L)) E m).2 ⟨by omega, fun e he => by have := (Qao.1 (Int.le_refl (Qcz E L))).2 e he; omega⟩
  omega
theorem bumps_eq {E : Nat → Va} {L : List Int} {i : Nat} (hi : i < L.length) (h0 : 0 ≤ nth L i) (hs : ∀ e, e ∈ E i → e.1 = i → e.2 ≤ 0) : Qap i (E i) L = Ua E L i :=
  ext_nth ((Qcr i (E i) L).trans (Qcq E L i).symm) fun j => by
    rw [Qpn (E i) hi (fun _ _ => rfl) (Int.le_refl _) hs, fold_max _ _ _ h0]
    unfold Ua
    by_cases hlt : nth L i < Qcz (E i) L
    · rw [if_pos hlt, Qf1 _ _ hi]; split <;> omega
    · rw [if_neg hlt]; split
      · rename_i e; subst e; omega
      · rfl
theorem Qi5 {i : Nat} : ∀ (E : Va) {L : List Int}, i < L.length → ∀ j, nth L j ≤ nth (Qap i E L) j
  | [], _, _, _ => Int.le_refl _
  | e :: E, L, hi, j => by
    have h1 := Qi5 E (L := Qhh i L e) (by rw [Qdy]; exact hi) j
    have h2 := Qi4 e hi j
    show _ ≤ nth (Qap i E (Qhh i L e)) j
    split at h2
    · rename_i h; subst h; omega
    · omega
theorem Ql9 {i : Nat} : ∀ (E : Va) {L : List Int}, i < L.length → (∃ e, e ∈ E ∧ e.1 = i ∧ 1 ≤ e.2) → nth L i + 1 ≤ nth (Qap i E L) i
  | [], _, _, ⟨e, he, _⟩ => by simp at he
  | e :: E, L, hi, ⟨e', he, h1, h2⟩ => by
    have h3 := Qi4 e hi i
    rw [if_pos rfl] at h3
    have hb := Qi5 E (L := Qhh i L e) (by rw [Qdy]; exact hi) i
    show _ ≤ nth (Qap i E (Qhh i L e)) i
    rcases List.mem_cons.1 he with rfl | he
    · rw [h1] at h3; omega
    · have := Ql9 E (L := Qhh i L e) (by rw [Qdy]; exact hi) ⟨e', he, h1, h2⟩
      omega
def H0 (E : Nat → Va) (is : List Nat) (L : List Int) : List Int := is.foldl (fun L i => Qap i (E i) L) L
theorem Qf2 (E : Nat → Va) : ∀ (is : List Nat) (L : List Int), (H0 E is L).length = L.length
  | [], _ => rfl
  | i :: is, L => (Qf2 E is (Qap i (E i) L)).trans (Qcr i _ L)
theorem Qhx {E : Nat → Va} (hs : ∀ i e, e ∈ E i → e.1 = i → e.2 ≤ 0) : ∀ (is : List Nat) (L : List Int), (∀ i, i ∈ is → i < L.length) → (∀ j, 0 ≤ nth L j) → H0 E is L = rounds E is L
  | [], _, _, _ => rfl
  | i :: is, L, hi, h0 => by
    have hil := hi i List.mem_cons_self
    show H0 E is (Qap i (E i) L) = rounds E is (Ua E L i)
    rw [bumps_eq hil (h0 i) (hs i)]
    exact Qhx hs is _ (fun k hk => by rw [Qcq]; exact hi k (List.mem_cons_of_mem _ hk)) fun j => Int.le_trans (h0 j) (Qng E L i j)
theorem Qma {E : Nat → Va} : ∀ (is : List Nat) (L : List Int), (∀ i, i ∈ is → i < L.length) → ∀ j, nth L j ≤ nth (H0 E is L) j
  | [], _, _, _ => Int.le_refl _
  | i :: is, L, hi, j => Int.le_trans (Qi5 (E i) (hi i List.mem_cons_self) j) (Qma is (Qap i (E i) L) (fun k hk => by rw [Qcr]; exact hi k (List.mem_cons_of_mem _ hk)) j)
theorem Qij {E : Nat → Va} {i : Nat} (he : ∃ e, e ∈ E i ∧ e.1 = i ∧ 1 ≤ e.2) : ∀ (is : List Nat) (L : List Int), (∀ i, i ∈ is → i < L.length) → i ∈ is → nth L i + 1 ≤ nth (H0 E is L) i
  | [], _, _, h => by simp at h
  | k :: is, L, hi, h => by
    have hk := hi k List.mem_cons_self
    have hl : ∀ x, x ∈ is → x < (Qap k (E k) L).length := fun x hx => by rw [Qcr]; exact hi x (List.mem_cons_of_mem _ hx)
    show _ ≤ nth (H0 E is (Qap k (E k) L)) i
    have h1 := Qi5 (E k) hk i
    have h2 := Qma (E := E) is (Qap k (E k) L) hl i
    rcases List.mem_cons.1 h with rfl | h
    · have := Ql9 (E i) hk he
      omega
    · have := Qij he is (Qap k (E k) L) hl h
      omega
def Hb (E : Nat → Va) (n : Nat) : Nat → List Int
  | 0 => List.replicate n 0
  | k + 1 => H0 E (List.range n) (Hb E n k)
theorem Qe6 (E : Nat → Va) (n : Nat) : ∀ k, (Hb E n k).length = n
  | 0 => by simp [Hb]
  | k + 1 => by rw [Hb, Qf2, Qe6 E n k]
theorem Qpo {E : Nat → Va} {n : Nat} (hs : ∀ i e, e ∈ E i → e.1 = i → e.2 ≤ 0) : ∀ k, Hb E n k = after E n k
  | 0 => rfl
  | k + 1 => by
    rw [Hb, after, Qpo hs k]
    exact Qhx hs _ _ (fun i hi => by rw [V3]; exact Qag hi) fun j => Ha E n j k
theorem strata_eq {E : Nat → Va} {n : Nat} (hw : ∀ i e, e ∈ E i → e.2 ≤ 1 ∧ e.1 < n ∧ i < n) {k : Nat} {r : Option (List Int)} (h : Qhw E n n k (true, List.replicate n 0) = some r) :
    (H0 E (List.range n) (Hb E n (n * n + 2)) = Hb E n (n * n + 2) → r = some (Hb E n (n * n + 2))) ∧ (H0 E (List.range n) (Hb E n (n * n + 2)) ≠ Hb E n (n * n + 2) → r = none) := by
  have hw' : ∀ i e, e ∈ E i → e.2 ≤ 1 ∧ e.1 < n := fun i e he => ⟨(hw i e he).1, (hw i e he).2.1⟩
  obtain ⟨h1, h2⟩ := Qi3 hw' k 0 true r (fun e => by cases e) h
  by_cases hself : ∃ i, ∃ e, e ∈ E i ∧ e.1 = i ∧ 1 ≤ e.2
  · obtain ⟨i, e, he, hei, h3⟩ := hself
    have hi : i < n := (hw i e he).2.2
    have hne : H0 E (List.range n) (Hb E n (n * n + 2)) ≠ Hb E n (n * n + 2) := fun heq => by
      have := Qij (E := E) ⟨e, he, hei, h3⟩ (List.range n) (Hb E n (n * n + 2)) (fun k hk => by rw [Qe6]; exact Qag hk) (List.mem_range.2 hi)
      rw [heq] at this; omega
    refine ⟨fun h => (hne h).elim, fun _ => ?_⟩
    cases r with
    | none => rfl
    | some L =>
      obtain ⟨hr, _⟩ := h1 L rfl
      have h4 := Qgv (V3 E n _) hr i hi
      have h5 := (Qao.1 h4).2 e he
      rw [hei] at h5
      omega
  · have hs : ∀ i e, e ∈ E i → e.1 = i → e.2 ≤ 0 := fun i e he hei => Classical.byContradiction fun hn => hself ⟨i, e, he, hei, by omega⟩
    rw [Qpo hs, Qhx hs _ _ (fun i hi => by rw [V3]; exact Qag hi) fun j => Ha E n j _]
    refine ⟨fun hr => ?_, fun hr => ?_⟩
    · cases r with
      | none => exact (h2 rfl hr).elim
      | some L => rw [(h1 L rfl).2]
    · cases r with
      | none => rfl
      | some L => exact (hr (h1 L rfl).1).elim
end Go.Proofs.YtnhmnfmhnepjmaaGreat
namespace Go.Proofs.YtnhmnfmhnepjmaaGreat
open Go.Shelf
def Sh.lays189_ren : Go.Shelf.Ren := ⟨fun | 189 => 43 | 125 => 98 | 257 => 97 | 128 => 149 | 129 => 150 | 294 => 140 | 295 => 141 | 296 => 142 | 297 => 143 | 298 => 144 | 299 => 145 | 216 => 146 | 300 => 147 | 301 => 148 | 328 => 182 | 329 => 183 | 330 => 184 | 331 => 185 | 332 => 186 | 215 => 187 | 343 => 207 | n => n, fun | 28 => 29 | 3 => 3 | 46 => 154 | 0 => 0 | 51 => 215 | 53 => 217 | 4 => 4 | 183 => 207 | 182 => 206 | 131 => 212 | 5 => 5 | 9 => 9 | 218 => 250 | 222 => 254 | 228 => 269 | 229 => 270 | n => n, fun | n => n⟩
theorem Sh.lays189 : Go.Proofs.Lays.n189 Tryz.prog Sh.lays189_ren := {
  mixed := by kernel_rfl
  f125 := Tryz.func98.trans (congrArg some (by kernel_rfl))
  f128 := Tryz.func149.trans (congrArg some (by kernel_rfl))
  f129 := Tryz.func150.trans (congrArg some (by kernel_rfl))
  f189 := Tryz.func43.trans (congrArg some (by kernel_rfl))
  f215 := Tryz.func187.trans (congrArg some (by kernel_rfl))
  f216 := Tryz.func146.trans (congrArg some (by kernel_rfl))
  f257 := Tryz.func97.trans (congrArg some (by kernel_rfl))
  f294 := Tryz.func140.trans (congrArg some (by kernel_rfl))
  f295 := Tryz.func141.trans (congrArg some (by kernel_rfl))
  f296 := Tryz.func142.trans (congrArg some (by kernel_rfl))
  f297 := Tryz.func143.trans (congrArg some (by kernel_rfl))
  f298 := Tryz.func144.trans (congrArg some (by kernel_rfl))
  f299 := Tryz.func145.trans (congrArg some (by kernel_rfl))
  f300 := Tryz.func147.trans (congrArg some (by kernel_rfl))
  f301 := Tryz.func148.trans (congrArg some (by kernel_rfl))
  f328 := Tryz.func182.trans (congrArg some (by kernel_rfl))
  f329 := Tryz.func183.trans (congrArg some (by kernel_rfl))
  f330 := Tryz.func184.trans (congrArg some (by kernel_rfl))
  f331 := Tryz.func185.trans (congrArg some (by kernel_rfl))
  f332 := Tryz.func186.trans (congrArg some (by kernel_rfl))
  f343 := Tryz.func207.trans (congrArg some (by kernel_rfl))
  t0 := Tryz.underlying0
  a0 := Tryz.isAgg0
  z0 := Tryz.sizeOf0
  v0 := Tryz.zeroValue0
  t3 := Tryz.underlying3
  a3 := Tryz.isAgg3
  z3 := Tryz.sizeOf3
  v3 := Tryz.zeroValue3
  t4 := Tryz.underlying4
  a4 := Tryz.isAgg4
  z4 := Tryz.sizeOf4
  v4 := Tryz.zeroValue4
  t5 := Tryz.underlying5
  a5 := Tryz.isAgg5
  z5 := Tryz.sizeOf5
  v5 := Tryz.zeroValue5
  t9 := Tryz.underlying9
  a9 := Tryz.isAgg9
  z9 := Tryz.sizeOf9
  v9 := Tryz.zeroValue9
  t28 := Tryz.underlying29
  a28 := Tryz.isAgg29
  z28 := Tryz.sizeOf29
  v28 := Tryz.zeroValue29
  t46 := Tryz.underlying154
  a46 := Tryz.isAgg154
  z46 := Tryz.sizeOf154
  v46 := Tryz.zeroValue154
  t51 := Tryz.underlying215
  a51 := Tryz.isAgg215
  z51 := Tryz.sizeOf215
  v51 := Tryz.zeroValue215
  t53 := Tryz.underlying217
  a53 := Tryz.isAgg217
  z53 := Tryz.sizeOf217
  v53 := Tryz.zeroValue217
  t131 := Tryz.underlying212
  a131 := Tryz.isAgg212
  z131 := Tryz.sizeOf212
  v131 := Tryz.zeroValue212
  t182 := Tryz.underlying206
  a182 := Tryz.isAgg206
  z182 := Tryz.sizeOf206
  v182 := Tryz.zeroValue206
  t183 := Tryz.underlying207
  a183 := Tryz.isAgg207
  z183 := Tryz.sizeOf207
  v183 := Tryz.zeroValue207
  t218 := Tryz.underlying250
  a218 := Tryz.isAgg250
  z218 := Tryz.sizeOf250
  v218 := Tryz.zeroValue250
  t222 := Tryz.underlying254
  a222 := Tryz.isAgg254
  z222 := Tryz.sizeOf254
  v222 := Tryz.zeroValue254
  t228 := Tryz.underlying269
  a228 := Tryz.isAgg269
  z228 := Tryz.sizeOf269
  v228 := Tryz.zeroValue269
  t229 := Tryz.underlying270
  a229 := Tryz.isAgg270
  z229 := Tryz.sizeOf270
  v229 := Tryz.zeroValue270 }
open Go.Sort Go.RowKit in
theorem Sh.slices_Sort_int (blk off cap : Nat) (zs : List Int) (w : World) (hH : Holds (Value.int .i64) w blk off zs.toArray) (hblk : blk < w.heap.size) (hsz : zs.length < 4611686018427387904) :
    Calls Tryz.prog 43 #[.slice (some ⟨blk, off, none⟩) zs.length cap] w fun e w' =>
      e = .returned (.tuple #[]) ∧ ∃ n os, w' = grow (putRow (Value.int .i64) (Sort.ahead w n) blk off (zs.mergeSort fun x y => decide (x ≤ y)).toArray) os := Any.slices_Sort_int Sh.lays189 blk off cap zs w hH hblk hsz
def Sh.lays190_ren : Go.Shelf.Ren := ⟨fun | 190 => 236 | 125 => 98 | 258 => 238 | 128 => 149 | 129 => 150 | 302 => 239 | 303 => 240 | 304 => 241 | 305 => 242 | 306 => 243 | 307 => 244 | 308 => 245 | 309 => 246 | 310 => 247 | 333 => 248 | 329 => 183 | 330 => 184 | 334 => 249 | 335 => 250 | 336 => 251 | 344 => 252 | n => n, fun | 31 => 202 | 9 => 9 | 3 => 3 | 46 => 154 | 0 => 0 | 51 => 215 | 53 => 217 | 4 => 4 | 183 => 207 | 182 => 206 | 131 => 212 | 5 => 5 | 218 => 250 | 222 => 254 | 228 => 269 | 229 => 270 | n => n, fun | n => n⟩
theorem Sh.lays190 : Go.Proofs.Lays.n190 Tryz.prog Sh.lays190_ren := {
  mixed := by kernel_rfl
  f125 := Tryz.func98.trans (congrArg some (by kernel_rfl))
  f128 := Tryz.func149.trans (congrArg some (by kernel_rfl))
  f129 := Tryz.func150.trans (congrArg some (by kernel_rfl))
  f190 := Tryz.func236.trans (congrArg some (by kernel_rfl))
  f258 := Tryz.func238.trans (congrArg some (by kernel_rfl))
  f302 := Tryz.func239.trans (congrArg some (by kernel_rfl))
  f303 := Tryz.func240.trans (congrArg some (by kernel_rfl))
  f304 := Tryz.func241.trans (congrArg some (by kernel_rfl))
  f305 := Tryz.func242.trans (congrArg some (by kernel_rfl))
  f306 := Tryz.func243.trans (congrArg some (by kernel_rfl))
  f307 := Tryz.func244.trans (congrArg some (by kernel_rfl))
  f308 := Tryz.func245.trans (congrArg some (by kernel_rfl))
  f309 := Tryz.func246.trans (congrArg some (by kernel_rfl))
  f310 := Tryz.func247.trans (congrArg some (by kernel_rfl))
  f329 := Tryz.func183.trans (congrArg some (by kernel_rfl))
  f330 := Tryz.func184.trans (congrArg some (by kernel_rfl))
  f333 := Tryz.func248.trans (congrArg some (by kernel_rfl))
  f334 := Tryz.func249.trans (congrArg some (by kernel_rfl))
  f335 := Tryz.func250.trans (congrArg some (by kernel_rfl))
  f336 := Tryz.func251.trans (congrArg some (by kernel_rfl))
  f344 := Tryz.func252.trans (congrArg some (by kernel_rfl))
  t0 := Tryz.underlying0
  a0 := Tryz.isAgg0
  z0 := Tryz.sizeOf0
  v0 := Tryz.zeroValue0
  t3 := Tryz.underlying3
  a3 := Tryz.isAgg3
  z3 := Tryz.sizeOf3
  v3 := Tryz.zeroValue3
  t4 := Tryz.underlying4
  a4 := Tryz.isAgg4
  z4 := Tryz.sizeOf4
  v4 := Tryz.zeroValue4
  t5 := Tryz.underlying5
  a5 := Tryz.isAgg5
  z5 := Tryz.sizeOf5
  v5 := Tryz.zeroValue5
  t9 := Tryz.underlying9
  a9 := Tryz.isAgg9
  z9 := Tryz.sizeOf9
  v9 := Tryz.zeroValue9
  t31 := Tryz.underlying202
  a31 := Tryz.isAgg202
  z31 := Tryz.sizeOf202
  v31 := Tryz.zeroValue202
  t46 := Tryz.underlying154
  a46 := Tryz.isAgg154
  z46 := Tryz.sizeOf154
  v46 := Tryz.zeroValue154
  t51 := Tryz.underlying215
  a51 := Tryz.isAgg215
  z51 := Tryz.sizeOf215
  v51 := Tryz.zeroValue215
  t53 := Tryz.underlying217
  a53 := Tryz.isAgg217
  z53 := Tryz.sizeOf217
  v53 := Tryz.zeroValue217
  t131 := Tryz.underlying212
  a131 := Tryz.isAgg212
  z131 := Tryz.sizeOf212
  v131 := Tryz.zeroValue212
  t182 := Tryz.underlying206
  a182 := Tryz.isAgg206
  z182 := Tryz.sizeOf206
  v182 := Tryz.zeroValue206
  t183 := Tryz.underlying207
  a183 := Tryz.isAgg207
  z183 := Tryz.sizeOf207
  v183 := Tryz.zeroValue207
  t218 := Tryz.underlying250
  a218 := Tryz.isAgg250
  z218 := Tryz.sizeOf250
  v218 := Tryz.zeroValue250
  t222 := Tryz.underlying254
  a222 := Tryz.isAgg254
  z222 := Tryz.sizeOf254
  v222 := Tryz.zeroValue254
  t228 := Tryz.underlying269
  a228 := Tryz.isAgg269
  z228 := Tryz.sizeOf269
  v228 := Tryz.zeroValue269
  t229 := Tryz.underlying270
  a229 := Tryz.isAgg270
  z229 := Tryz.sizeOf270
  v229 := Tryz.zeroValue270 }
open Go.Sort Go.RowKit in
theorem Sh.slices_Sort_string (blk off cap : Nat) (ss : List (List UInt8)) (w : World) (hH : Holds encStr w blk off ss.toArray) (hblk : blk < w.heap.size) (hsz : ss.length < 4611686018427387904) :
    Calls Tryz.prog 236 #[.slice (some ⟨blk, off, none⟩) ss.length cap] w fun e w' =>
      e = .returned (.tuple #[]) ∧ ∃ n os, w' = grow (putRow encStr (Sort.ahead w n) blk off (ss.mergeSort fun x y => decide (x ≤ y)).toArray) os := Any.slices_Sort_string Sh.lays190 blk off cap ss w hH hblk hsz
def Sh.lays107_ren : Go.Shelf.Ren := ⟨fun | 107 => 156 | 108 => 191 | n => n, fun | 28 => 29 | 3 => 3 | 4 => 4 | 0 => 0 | n => n, fun | n => n⟩
theorem Sh.lays107 : Go.Proofs.Lays.n107 Tryz.prog Sh.lays107_ren := {
  mixed := by kernel_rfl
  f107 := Tryz.func156.trans (congrArg some (by kernel_rfl))
  f108 := Tryz.func191.trans (congrArg some (by kernel_rfl))
  t0 := Tryz.underlying0
  a0 := Tryz.isAgg0
  z0 := Tryz.sizeOf0
  v0 := Tryz.zeroValue0
  t3 := Tryz.underlying3
  a3 := Tryz.isAgg3
  z3 := Tryz.sizeOf3
  v3 := Tryz.zeroValue3
  t4 := Tryz.underlying4
  a4 := Tryz.isAgg4
  z4 := Tryz.sizeOf4
  v4 := Tryz.zeroValue4
  t28 := Tryz.underlying29
  a28 := Tryz.isAgg29
  z28 := Tryz.sizeOf29
  v28 := Tryz.zeroValue29 }
open Go.Lib in
theorem Sh.slices_Contains_int (b off n c : Nat) (zs : List Int) (x : Int) (w : World) (hz : n ≤ zs.length) (hbig : n ≤ 9223372036854775807) (hc : ∀ j, j < zs.length → w.cell? ⟨b, off + j, none⟩ = some (.int .i64 (zs.getD j 0))) :
    Calls Tryz.prog 156 #[.slice (some ⟨b, off, none⟩) n c, .int .i64 x] w fun e w' => e = .returned (.bool ((zs.take n).contains x)) ∧ w' = w := Any.slices_Contains_int Sh.lays107 b off n c zs x w hz hbig hc
open Go.Lib in
theorem Sh.slices_Contains_int_empty (a : Option Addr) (c : Nat) (x : Int) (w : World) :
    Calls Tryz.prog 156 #[.slice a 0 c, .int .i64 x] w fun e w' => e = .returned (.bool false) ∧ w' = w := Any.slices_Contains_int_empty Sh.lays107 a c x w
def Sh.laysNm220_ren : Go.Shelf.Ren := ⟨fun | 20 => 44 | n => n, fun | 22 => 29 | 3 => 3 | 4 => 4 | 0 => 0 | n => n, fun | n => n⟩
theorem Sh.laysNm220 : Go.Proofs.Lays2.n20 Tryz.prog Sh.laysNm220_ren := {
  mixed := by kernel_rfl
  f20 := Tryz.func44.trans (congrArg some (by kernel_rfl))
  t0 := Tryz.underlying0
  a0 := Tryz.isAgg0
  z0 := Tryz.sizeOf0
  v0 := Tryz.zeroValue0
  t3 := Tryz.underlying3
  a3 := Tryz.isAgg3
  z3 := Tryz.sizeOf3
  v3 := Tryz.zeroValue3
  t4 := Tryz.underlying4
  a4 := Tryz.isAgg4
  z4 := Tryz.sizeOf4
  v4 := Tryz.zeroValue4
  t22 := Tryz.underlying29
  a22 := Tryz.isAgg29
  z22 := Tryz.sizeOf29
  v22 := Tryz.zeroValue29
  i3 := by kernel_rfl }
open Go.RowKit Go.Lib Go.Sort in
theorem Sh.slices_Compact_int (blk off cap : Nat) (zs : List Int) (w : World) (hH : Holds (Value.int .i64) w blk off zs.toArray) (hsz : zs.length ≤ 9223372036854775807) (hcap : zs.length ≤ cap) :
    Calls Tryz.prog 44 #[.slice (some ⟨blk, off, none⟩) zs.length cap] w fun e w' => e = .returned (.slice (some ⟨blk, off, none⟩) (Lib.compact zs).length cap) ∧ ∃ q, w' = putRow (Value.int .i64) (Sort.ahead w q) blk off (Lib.compact zs ++ List.replicate (zs.length - (Lib.compact zs).length) 0).toArray := Any.slices_Compact_int Sh.laysNm220 blk off cap zs w hH hsz hcap
open Go.RowKit Go.Lib Go.Sort in
theorem Sh.slices_Compact_int_empty (a : Option Addr) (cap : Nat) (w : World) :
    Calls Tryz.prog 44 #[.slice a 0 cap] w fun e w' => e = .returned (.slice a 0 cap) ∧ w' = w := Any.slices_Compact_int_empty Sh.laysNm220 a cap w
def Sh.lays194_ren : Go.Shelf.Ren := ⟨fun | 194 => 237 | n => n, fun | 31 => 202 | 9 => 9 | 3 => 3 | 4 => 4 | 0 => 0 | n => n, fun | n => n⟩
theorem Sh.lays194 : Go.Proofs.Lays.n194 Tryz.prog Sh.lays194_ren := {
  mixed := by kernel_rfl
  f194 := Tryz.func237.trans (congrArg some (by kernel_rfl))
  t0 := Tryz.underlying0
  a0 := Tryz.isAgg0
  z0 := Tryz.sizeOf0
  v0 := Tryz.zeroValue0
  t3 := Tryz.underlying3
  a3 := Tryz.isAgg3
  z3 := Tryz.sizeOf3
  v3 := Tryz.zeroValue3
  t4 := Tryz.underlying4
  a4 := Tryz.isAgg4
  z4 := Tryz.sizeOf4
  v4 := Tryz.zeroValue4
  t9 := Tryz.underlying9
  a9 := Tryz.isAgg9
  z9 := Tryz.sizeOf9
  v9 := Tryz.zeroValue9
  t31 := Tryz.underlying202
  a31 := Tryz.isAgg202
  z31 := Tryz.sizeOf202
  v31 := Tryz.zeroValue202 }
open Go.RowKit Go.Lib Go.Sort in
theorem Sh.slices_Compact_string (blk off cap : Nat) (zs : List (List UInt8)) (w : World) (hH : Holds encStr w blk off zs.toArray) (hsz : zs.length ≤ 9223372036854775807) (hcap : zs.length ≤ cap) :
    Calls Tryz.prog 237 #[.slice (some ⟨blk, off, none⟩) zs.length cap] w fun e w' => e = .returned (.slice (some ⟨blk, off, none⟩) (Lib.compact zs).length cap) ∧ ∃ q, w' = putRow encStr (Sort.ahead w q) blk off (Lib.compact zs ++ List.replicate (zs.length - (Lib.compact zs).length) []).toArray := Any.slices_Compact_string Sh.lays194 blk off cap zs w hH hsz hcap
open Go.RowKit Go.Lib Go.Sort in
theorem Sh.slices_Compact_string_empty (a : Option Addr) (cap : Nat) (w : World) :
    Calls Tryz.prog 237 #[.slice a 0 cap] w fun e w' => e = .returned (.slice a 0 cap) ∧ w' = w := Any.slices_Compact_string_empty Sh.lays194 a cap w
open Go.RowKit Go.Sort in
theorem Sh.slices_Sort_string_none (p : Option Addr) (cap : Nat) (w : World) :
    Calls Tryz.prog 236 #[.slice p 0 cap] w fun e w' => e = .returned (.tuple #[]) ∧ w' = w := Any.slices_Sort_string_none Sh.lays190 p cap w
open Go.RowKit Go.Sort in
theorem Sh.slices_Sort_int_none (p : Option Addr) (cap : Nat) (w : World) :
    Calls Tryz.prog 43 #[.slice p 0 cap] w fun e w' => e = .returned (.tuple #[]) ∧ w' = w := Any.slices_Sort_int_none Sh.lays189 p cap w
def Sh.laysSlH6_f190_ren : Go.Shelf.Ren := ⟨fun | 6 => 190 | n => n, fun | 22 => 29 | 23 => 3 | 25 => 151 | 3 => 3 | 0 => 0 | 4 => 4 | n => n, fun | n => n⟩
theorem Sh.laysSlH6_f190 : Go.Proofs.SlLaysH.n6 Tryz.prog Sh.laysSlH6_f190_ren := {
  mixed := by kernel_rfl
  f6 := ⟨Tryz.f190.name, by decide, Tryz.func190.trans (congrArg some (by kernel_rfl))⟩
  t0 := Tryz.underlying0
  a0 := Tryz.isAgg0
  z0 := Tryz.sizeOf0
  v0 := Tryz.zeroValue0
  t3 := Tryz.underlying3
  a3 := Tryz.isAgg3
  z3 := Tryz.sizeOf3
  v3 := Tryz.zeroValue3
  t4 := Tryz.underlying4
  a4 := Tryz.isAgg4
  z4 := Tryz.sizeOf4
  v4 := Tryz.zeroValue4
  t22 := Tryz.underlying29
  a22 := Tryz.isAgg29
  z22 := Tryz.sizeOf29
  v22 := Tryz.zeroValue29
  a23 := Tryz.isAgg3
  z23 := Tryz.sizeOf3
  t25 := Tryz.underlying151
  a25 := Tryz.isAgg151
  z25 := Tryz.sizeOf151
  v25 := Tryz.zeroValue151 }
open Go.RowKit Go.Lib in
theorem Sh.slices_IndexFunc_empty {α : Type} [Inhabited α] (a : Option Addr) (c : Nat) (fv : Value) (w : World) :
    Calls Tryz.prog 190 #[.slice a 0 c, fv] w fun e w' => e = .returned (.int .i64 (-1)) ∧ w' = w := AnyE.slices_IndexFunc_empty Sh.laysSlH6_f190 a c fv w
def Sh.laysSlH10_f154_ren : Go.Shelf.Ren := ⟨fun | 10 => 154 | 6 => 190 | n => n, fun | 22 => 29 | 23 => 3 | 25 => 151 | 3 => 3 | 4 => 4 | 0 => 0 | n => n, fun | n => n⟩
theorem Sh.laysSlH10_f154 : Go.Proofs.SlLaysH.n10 Tryz.prog Sh.laysSlH10_f154_ren := {
  mixed := by kernel_rfl
  f6 := ⟨Tryz.f190.name, by decide, Tryz.func190.trans (congrArg some (by kernel_rfl))⟩
  f10 := ⟨Tryz.f154.name, by decide, Tryz.func154.trans (congrArg some (by kernel_rfl))⟩
  t0 := Tryz.underlying0
  a0 := Tryz.isAgg0
  z0 := Tryz.sizeOf0
  v0 := Tryz.zeroValue0
  t3 := Tryz.underlying3
  a3 := Tryz.isAgg3
  z3 := Tryz.sizeOf3
  v3 := Tryz.zeroValue3
  t4 := Tryz.underlying4
  a4 := Tryz.isAgg4
  z4 := Tryz.sizeOf4
  v4 := Tryz.zeroValue4
  t22 := Tryz.underlying29
  a22 := Tryz.isAgg29
  z22 := Tryz.sizeOf29
  v22 := Tryz.zeroValue29
  a23 := Tryz.isAgg3
  z23 := Tryz.sizeOf3
  t25 := Tryz.underlying151
  a25 := Tryz.isAgg151
  z25 := Tryz.sizeOf151
  v25 := Tryz.zeroValue151 }
open Go.RowKit Go.Lib Go.Sort in
theorem Sh.slices_DeleteFunc {α : Type} [Inhabited α] (enc : α → Value) (hO : OneCell enc) (p : α → Bool) (g : Nat) (lb : Array Value) (eg : ∀ args w, (callFunc g args).run Tryz.prog w = .ok (.enter g args) w) (zr : α) (v23 : ∀ w, (zeroValue 3).run Tryz.prog w = .ok (enc zr) w) (blk off cap : Nat) (d : Array α) (w : World) (hp : PredAt Tryz.prog g lb enc p w) (hpo : PredOver Tryz.prog g lb enc p blk off d.size w) (hH : Holds enc w blk off d) (hsz : d.size ≤ 9223372036854775807) (hcap : d.size ≤ cap) :
    Calls Tryz.prog 154 #[.slice (some ⟨blk, off, none⟩) d.size cap, .func (.func g) #[] lb] w fun e w' => e = .returned (.slice (some ⟨blk, off, none⟩) (d.toList.filter fun x => !p x).length cap) ∧ ∃ q, w' = putRow enc (Sort.ahead w q) blk off ((d.toList.filter fun x => !p x) ++ List.replicate (d.size - (d.toList.filter fun x => !p x).length) zr).toArray := AnyE.slices_DeleteFunc Sh.laysSlH10_f154 enc hO p g lb eg zr v23 blk off cap d w hp hpo hH hsz hcap
end Go.Proofs.YtnhmnfmhnepjmaaGreat
namespace Go.Proofs.YtnhmnfmhnepjmaaGreat
open Go.RowKit
theorem sortI_a (l : List Int) : Qcn Tryz.prog 43 1 (eL l) [] false true (eL (Qgt l)) := by
  have h := Ql4 oneI (P := Tryz.prog) (f := 43) (by unfold Z7; kernel_rfl) (fun l => l.mergeSort fun x y => decide (x ≤ y)) (fun l => List.length_mergeSort _) (fun l x h => (List.mergeSort_perm l _).mem_iff.1 h) (fun oa cap w => Sh.slices_Sort_int_none oa cap w) (fun g cap l w h h2 h3 => Sh.slices_Sort_int g 0 cap l w h h2 h3) l
  simpa [oneI, Qgt, Qne] using h
theorem compI_a (l : List Int) : Qcn Tryz.prog 44 1 (eL l) [] false false (eL (Qne l)) := by
  have h := Ql5 oneI (P := Tryz.prog) (f := 44) (by unfold Z7; kernel_rfl) Lib.compact Qe2 Qs9 (fun oa cap w => Sh.slices_Compact_int_empty oa cap w) (fun g cap l w h h2 h3 => (Sh.slices_Compact_int g 0 cap l w h h2 h3).mono (by rintro e w' ⟨h4, q, h5⟩; exact ⟨h4, q, _, by have := Qe2 l; simp; omega, h5⟩)) l
  simpa [oneI, Qgt, Qne] using h
theorem sortS_a (l : List ByteArray) : Qcn Tryz.prog 236 1 (eL l) [] false true (eL (Qd9 l)) := by
  have h := Ql4 oneS (P := Tryz.prog) (f := 236) (by unfold Z7; kernel_rfl) (fun l => l.mergeSort fun x y => decide (x ≤ y)) (fun l => List.length_mergeSort _) (fun l x h => (List.mergeSort_perm l _).mem_iff.1 h) (fun oa cap w => Sh.slices_Sort_string_none oa cap w) (fun g cap l w h h2 h3 => Sh.slices_Sort_string g 0 cap l w h h2 h3) l
  exact h
theorem compS_a (l : List ByteArray) : Qcn Tryz.prog 237 1 (eL l) [] false false (eL (Qiq l)) := by
  have h := Ql5 oneS (P := Tryz.prog) (f := 237) (by unfold Z7; kernel_rfl) Lib.compact Qe2 Qs9 (fun oa cap w => Sh.slices_Compact_string_empty oa cap w) (fun g cap l w h h2 h3 => (Sh.slices_Compact_string g 0 cap l w h h2 h3).mono (by rintro e w' ⟨h4, q, h5⟩; exact ⟨h4, q, _, by have := Qe2 l; simp; omega, h5⟩)) l
  exact h
open GoE (enc wide)
def Ho (s_ : ByteArray) (k0 : Nat) (a0 : ByteArray) (_ : Unit) : Rd ((List ByteArray)) (Unit) (Int) := (bif (Op.bytesLess a0.toList s_.toList) then (.next ()) else (.brk ((k0 : Nat) : Int)))
def Hp (k0 : Nat) (_ : Unit) : Int := ((k0 : Nat) : Int)
def Ux (list : (List ByteArray)) (s_ : ByteArray) : (List ByteArray) := (Out.on (Xk (Ho s_) Hp list 0 ()) (fun y0 => (bif (decide (y0 < (list.length : Int)) && ((nth list (Int.toNat y0)).toList == s_.toList)) then list else List.take (Int.toNat y0) list ++ [s_] ++ (List.drop (Int.toNat y0) list))))
theorem Qpp (list : (List ByteArray)) (s_ : ByteArray) (hp : list.length < 1073741824) : ACalls Tryz.prog 234 [.h list, .s s_] (.h (Ux list s_)) := by
 refine Qn (tt := tt) Qb Tryz.func234 (fn := Tryz.f234) rfl (by unfold Z7; kernel_rfl) (Nat.le_of_ble_eq_true rfl) fun w0 F0 => ?_
 refine Qa ?_
 refine rk Qb [(4, .e 0)] [] [] [] [] (o0) ?_
 refine Qa ?_
 refine rk Qb [(5, .i 0)] [] [] [] [] (o0) ?_
 refine Qa ?_
 refine wdT 0 0 .sh list (fun hw1 => ?_)
 have hl2 : List.length list ≤ 1073741824 := Qp (hw1)
 refine blk (fun (k0 : Nat) (s0 : Unit) => [(5, .i ((k0 : Nat) : Int))]) [5] (fun k0 s0 => []) [] (fun (y0 : Int) => [(5, .i y0)]) [5] (fun y0 => []) [] (fun (k0 : Nat) (s0 : Unit) => (Xk (Ho s_) Hp list 0 ()) = Xk (Ho s_) Hp (List.drop k0 list) k0 s0) (fun (y0 : Int) => (Xk (Ho s_) Hp list 0 ()) = .brk y0 ∧ 0 ≤ y0 ∧ y0 ≤ (list.length : Int)) list.length () (Qc (by kernel_rfl)) rfl (fun k0 s0 hk0 hI0 => ?_) (fun k0 s0 hk0 hI0 => ?_) (fun y0 hD0 => ?_)
 ·
  obtain ⟨a0, hx0⟩ := X8 (l := list) (i := k0) hk0
  refine Qa ?_
  refine Qa ?_
  refine rk Qb [(18, .b (Op.bytesLess a0.toList s_.toList))] [] [] [] [(2, .val (.i (list.length : Int))), (3, .val (.b true)), (7, .row [.s a0])] (o2 (Qf (Xc list)) (o2 (Qf (Qg (decide_eq_true (p := ((k0 : Nat) : Int) < (list.length : Int)) (by omega)))) (o1 (Ql (Xl (i := ((k0 : Nat) : Int)) (by omega) rfl hx0))))) ?_
  refine ck (Op.bytesLess a0.toList s_.toList) (fun h3 => ?_) (fun h3 => ?_)
  ·
   refine Qh ?_
   refine Q4 ?_
   refine rk Qb [(5, .i ((k0 + 1 : Nat) : Int))] [5, 18] [] [] [(1, .val (.i ((k0 + 1 : Nat) : Int)))] (o1 (Qf (Kw (Qs k0 (by omega))))) ?_
   exact Exists.intro () (And.intro (Qc (by kernel_rfl)) (Qw hx0 (Yf h3 (rfl)) hI0))
  ·
   refine Xj ?_
   exact Exists.intro ((k0 : Nat) : Int) (And.intro (Qc (by kernel_rfl)) ⟨Qs2 hx0 (Qv h3 (rfl)) hI0, by first | omega | (simp only [List.length_set]; omega)⟩)
 ·
  refine Qa ?_
  refine Qa ?_
  refine rk Qb [(18, .b false)] [] [] [] [(2, .val (.i (list.length : Int))), (3, .val (.b false))] (o2 (Qf (Xc list)) (o1 (Qf (Qg (decide_eq_false (p := ((k0 : Nat) : Int) < (list.length : Int)) (by omega)))))) ?_
  refine ckF ?_
  refine Xj ?_
  exact Exists.intro ((k0 : Nat) : Int) (And.intro (Qc (by kernel_rfl)) ⟨X9 hk0 (rfl) hI0, by first | omega | (simp only [List.length_set]; omega)⟩)
 ·
  have hD0_0 := hD0.2
  refine Qa ?_
  refine Qa ?_
  refine jn [(32, .b (decide (y0 < (list.length : Int)) && ((nth list (Int.toNat y0)).toList == s_.toList)))] [] [] [] (decide (y0 < (list.length : Int))) (fun h4 => ?_) (fun h4 => ?_) ?_
  ·
   have h4d := of_decide_eq_true h4
   have hx5 : list[(Int.toNat y0)]? = some (nth list (Int.toNat y0)) := X3 (by omega)
   refine rk Qb [(32, .b ((nth list (Int.toNat y0)).toList == s_.toList))] [] [] [] [(2, .val (.i (list.length : Int))), (3, .val (.b true)), (7, .row [.s (nth list (Int.toNat y0))])] (o2 (Qf (Xc list)) (o2 (Qf (Qg h4)) (o1 (Ql (Xl (i := y0) (by omega) rfl hx5))))) ?_
   exact ⟨rfl, Qc (by rw [h4]; first | done | kernel_rfl)⟩
  ·
   refine rk Qb [(32, .b false)] [] [] [] [(2, .val (.i (list.length : Int))), (3, .val (.b false))] (o2 (Qf (Xc list)) (o1 (Qf (Qg h4)))) ?_
   exact ⟨rfl, Qc (by rw [h4]; first | done | kernel_rfl)⟩
  refine ck (decide (y0 < (list.length : Int)) && ((nth list (Int.toNat y0)).toList == s_.toList)) (fun h6 => ?_) (fun h6 => ?_)
  ·
   refine Qa ?_
   refine rk Qb [(4, .h list)] [4, 32] [] [] [] (o0) ?_
   refine Qi ?_
   exact Zb [] (congrArg (fun z => (.h z : AV)) (show Ux list s_ = list from Hk hD0.1 (Yf h6 (rfl))).symm)
  ·
   refine Qh ?_
   refine Qa ?_
   refine rk Qb [(6, .one (.slc (.own true 2624) 1 (([] ++ (eL (List.take (Int.toNat y0) list))) ++ [[.s s_]])))] [1, 32] [] [] [(3, .val (.h (List.take (Int.toNat y0) list))), (4, .flat)] (o2 (Qf (av_take .sh 1 (Int.toNat y0) y0 list rfl)) (o2 (Qid (lo := 0) (hi := y0) (n := (List.length (eL list))) (rng_of (by omega) (by omega) (by omega))) (o2 (V8 (n := (([] : List (List PV)).length + ((eL (List.take (Int.toNat y0) list)) : List (List PV)).length)) (Wq (rfl) (Xa (List.take (Int.toNat y0) list)) (by first | omega | (simp; omega) | simp))) (o2 (Qam (Hx (List.take (Int.toNat y0) list))) (o1 (V8 (n := ((([] ++ (eL (List.take (Int.toNat y0) list))) : List (List PV)).length + ([[.s s_]] : List (List PV)).length)) (by simp [Xa]; omega))))))) ?_
   refine eqn [(6, .o 2624 (List.take (Int.toNat y0) list ++ [s_]))] [6] [] [] (by rw [show (([] ++ (eL (List.take (Int.toNat y0) list))) ++ [[.s s_]]) = (eL (List.take (Int.toNat y0) list ++ [s_])) from Qaw (rfl) (rfl)]; first | done | kernel_rfl) ?_
   refine Qa ?_
   refine wdT 6 0 (.own true 2624) (List.take (Int.toNat y0) list ++ [s_]) (fun hw7 => ?_)
   have hl8 : List.length (List.take (Int.toNat y0) list ++ [s_]) ≤ 1073741824 := Qp (hw7)
   refine rk Qb [(4, .one (.slc (.own true 2944) 1 ((eL (List.take (Int.toNat y0) list ++ [s_])) ++ (eL (List.drop (Int.toNat y0) list)))))] [0, 4, 5, 6] [] [] [(3, .val (.h (List.drop (Int.toNat y0) list))), (4, .flat)] (o2 (Qf (av_drop .sh 1 (Int.toNat y0) y0 list rfl)) (o2 (Qid (lo := y0) (hi := (((eL list) : List (List PV)).length : Int)) (n := (List.length (eL list))) (rng_all (by omega) (by omega))) (o2 (V8 (Wq (Xa (List.take (Int.toNat y0) list ++ [s_])) (Xa (List.drop (Int.toNat y0) list)) (by first | omega | (simp; omega) | simp))) (o1 (Qam (Hx (List.drop (Int.toNat y0) list))))))) ?_
   refine eqn [(4, .o 2944 (List.take (Int.toNat y0) list ++ [s_] ++ (List.drop (Int.toNat y0) list)))] [4] [] [] (by rw [show ((eL (List.take (Int.toNat y0) list ++ [s_])) ++ (eL (List.drop (Int.toNat y0) list))) = (eL (List.take (Int.toNat y0) list ++ [s_] ++ (List.drop (Int.toNat y0) list))) from Qaw (rfl) (rfl)]; first | done | kernel_rfl) ?_
   refine Qi ?_
   exact Zb [2944] (congrArg (fun z => (.h z : AV)) (show Ux list s_ = List.take (Int.toNat y0) list ++ [s_] ++ (List.drop (Int.toNat y0) list) from Hk hD0.1 (Qv h6 (rfl))).symm)
end Go.Proofs.YtnhmnfmhnepjmaaGreat
namespace Go.Proofs.YtnhmnfmhnepjmaaGreat
open Go.RowKit
theorem toList_inj {a b : ByteArray} : (a.toList == b.toList) = decide (a = b) := by
  rw [ByteArray.toList_eq, ByteArray.toList_eq, Bool.eq_iff_iff]
  simp only [beq_iff_eq, decide_eq_true_eq]
  exact ⟨fun h => ByteArray.ext (Array.ext' h), fun h => h ▸ rfl⟩
def Qba (l : List ByteArray) (s : ByteArray) : Nat := (l.takeWhile fun x => bl x s).length
theorem Qkd (a : ByteArray) (l : List ByteArray) (s : ByteArray) : Qba (a :: l) s = if bl a s = true then Qba l s + 1 else 0 := by
  unfold Qba
  rw [List.takeWhile_cons]
  cases bl a s <;> simp
theorem Qmb (s : ByteArray) : ∀ (l : List ByteArray) (k : Nat), Xk (Ho s) Hp l k () = .brk (((k + Qba l s : Nat)) : Int)
  | [], k => by simp [Xk, Hp, Qba]
  | a :: l, k => by
    rw [Qkd]
    simp only [Xk, Ho]
    cases h : Op.bytesLess a.toList s.toList with
    | true =>
      have h' : bl a s = true := h
      simp only [cond_true, h', if_true]
      rw [Qmb s l (k + 1), show k + 1 + Qba l s = k + (Qba l s + 1) by omega]
    | false =>
      have h' : bl a s = false := h
      simp [h']
theorem putS_eq (s : ByteArray) : ∀ l : List ByteArray, Qpk l s = bif (decide (((Qba l s : Nat) : Int) < (l.length : Int)) && ((nth l (Qba l s)).toList == s.toList)) then l else List.take (Qba l s) l ++ [s] ++ List.drop (Qba l s) l
  | [] => by simp [Qpk, Qba]
  | a :: l => by
    rw [Qkd, Qpk]
    cases h : bl a s with
    | true =>
      simp only [if_true]
      rw [putS_eq s l]
      have e : nth (a :: l) (Qba l s + 1) = nth l (Qba l s) := rfl
      rw [e, show decide ((((Qba l s + 1 : Nat)) : Int) < ((a :: l).length : Int)) = decide (((Qba l s : Nat) : Int) < (l.length : Int)) by
        rw [Bool.eq_iff_iff]; simp only [decide_eq_true_eq, List.length_cons]; omega]
      generalize (decide (((Qba l s : Nat) : Int) < (l.length : Int)) && ((nth l (Qba l s)).toList == s.toList)) = c
      cases c <;> simp
    | false =>
      have e : nth (a :: l) 0 = a := rfl
      simp only [Bool.false_eq_true, if_false]
      rw [e, toList_inj]
      by_cases hs : a = s
      · simp [hs]
      · simp [hs]
theorem Qpq (l : List ByteArray) (s : ByteArray) : Ux l s = Qpk l s := by
  unfold Ux
  rw [Qmb, putS_eq]
  simp only [Out.on, Nat.zero_add, Int.toNat_natCast]
theorem put_len (l : List ByteArray) (s : ByteArray) : List.length (Ux l s) ≤ List.length l + 1 := by rw [Qpq]; exact Qtf s l
open GoE (enc wide)
def Z9 (n : Yq) : Bool := ((n.1 == (8 : Int)) || (n.1 == (9 : Int)))
theorem Qfg (n : Yq) : ACalls Tryz.prog 228 [.a [.i n.1, .i n.2.1, .i n.2.2.1, .s n.2.2.2.1, .i n.2.2.2.2.1, .i n.2.2.2.2.2.1, .s n.2.2.2.2.2.2]] (.b (Z9 n)) := by
 refine Qn (tt := tt) Qb Tryz.func228 (fn := Tryz.f228) rfl (by unfold Z7; kernel_rfl) (Nat.le_of_ble_eq_true rfl) fun w0 F0 => ?_
 refine Qa ?_
 refine rk Qb [(1, .p 1 0), (2, .b false)] [0] [(1, [.i n.1, .i n.2.1, .i n.2.2.1, .s n.2.2.2.1, .i n.2.2.2.2.1, .i n.2.2.2.2.2.1, .s n.2.2.2.2.2.2])] [] [] (o0) ?_
 refine Qa ?_
 refine jn [(2, .b ((n.1 == (8 : Int)) || (n.1 == (9 : Int))))] [1, 2] [] [1] (n.1 == (8 : Int)) (fun h1 => ?_) (fun h1 => ?_) ?_
 ·
  refine rk Qb [(2, .b true)] [1, 2] [] [1] [(2, .val (.b true))] (o1 (Qf (Qg h1))) ?_
  exact ⟨rfl, Qc (by rw [h1]; first | done | kernel_rfl)⟩
 ·
  refine rk Qb [(2, .b (n.1 == (9 : Int)))] [1, 2] [] [1] [(2, .val (.b false))] (o1 (Qf (Qg h1))) ?_
  exact ⟨rfl, Qc (by rw [h1]; first | done | kernel_rfl)⟩
 refine Qi ?_
 exact Zb [] (congrArg (fun z => (.b z : AV)) (show Z9 n = ((n.1 == (8 : Int)) || (n.1 == (9 : Int))) from rfl).symm)
def Uy (l : (List ByteArray)) : (List ByteArray) := Qiq (Qd9 l)
theorem Qir (l : (List ByteArray)) : ACalls Tryz.prog 229 [.h l] (.h (Uy l)) := by
 refine Qn (tt := tt) Qb Tryz.func229 (fn := Tryz.f229) rfl (by unfold Z7; kernel_rfl) (Nat.le_of_ble_eq_true rfl) fun w0 F0 => ?_
 refine Qa ?_
 refine rk Qb [(2, .e 0)] [] [] [] [] (o0) ?_
 refine Qa ?_
 refine rk Qb [(3, .o 320 l)] [0] [] [] [(1, .val (.o 0 l))] (o1 (Qe (Qnd l))) ?_
 refine Qa ?_
 refine Qju [320] rfl ?_
 refine rk Qb [(3, .one (.slc (.own false 320) 1 (putR (eL l) 0 4294967296 (List.flatten (eL (Qd9 l))))))] [3] [] [] [(1, .take false true (eL (Qd9 l)))] (o1 (Qm0 (sortS_a l))) ?_
 refine eqn [(3, .q 320 (Qd9 l))] [3] [] [] (by rw [Qta (fun _ => rfl) (Qpi _)]; first | done | kernel_rfl) ?_
 refine Qa ?_
 refine rk Qb [(2, .q 576 (Qiq (Qd9 l)))] [2, 3] [] [] [(1, .take false false (eL (Qiq (Qd9 l))))] (o1 (Qm0 (compS_a (Qd9 l)))) ?_
 refine Qi ?_
 exact Zb [576] (congrArg (fun z => (.h z : AV)) (show Uy l = Qiq (Qd9 l) from rfl).symm)
def Ji (q : (List Yq)) (negated : Bool) (k0 : Nat) (a0 : Bool) (s0 : (List ByteArray)) : Rd ((List ByteArray)) ((List ByteArray)) ((List ByteArray)) := (bif ((Z9 (nth q k0)) && (a0 == negated)) then (.next (s0 ++ [(nth q k0).2.2.2.1])) else (.next s0))
def Kx (_ : Nat) (s0 : (List ByteArray)) : (List ByteArray) := s0
def Zu (q : (List Yq)) (negated : Bool) : (List ByteArray) := (Out.on (Xk (Ji q negated) Kx (Q7 q) 0 []) (fun y0 => (Uy y0)))
theorem Qeq (q : (List Yq)) (negated : Bool) : ACalls Tryz.prog 217 [.h q, .b negated] (.h (Zu q negated)) := by
 refine Qn (tt := tt) Qb Tryz.func217 (fn := Tryz.f217) rfl (by unfold Z7; kernel_rfl) (Nat.le_of_ble_eq_true rfl) fun w0 F0 => ?_
 have hnl := Qfx q
 refine Qa ?_
 refine rk Qb [(4, .e 0)] [] [] [] [] (o0) ?_
 refine Qa ?_
 refine rk Qb [(5, .one (.slc (.own true 512) 1 []))] [] [] [] [] (o0) ?_
 refine Qa ?_
 refine Qa ?_
 refine rk Qb [(10, .o 640 (Q7 q)), (11, .i ((Q7 q).length : Int)), (12, .i 0)] [] [] [] [(1, .val (.o 0 (Q7 q))), (2, .val (.i ((Q7 q).length : Int)))] (o2 (Qe (Qgr q)) (o1 (Qf (Xc (Q7 q))))) ?_
 refine wdT 10 0 (.own true 640) (Q7 q) (fun hw1 => ?_)
 have hl2 : List.length (Q7 q) ≤ 1073741824 := Qp (hw1)
 refine blk (fun (k0 : Nat) (s0 : (List ByteArray)) => [(5, .o 147203 s0), (12, .i ((k0 : Nat) : Int))]) [5, 12] (fun k0 s0 => []) [] (fun (y0 : (List ByteArray)) => [(5, .o 147353 y0)]) [0, 1, 5, 10, 11, 12] (fun y0 => []) [] (fun (k0 : Nat) (s0 : (List ByteArray)) => (Xk (Ji q negated) Kx (Q7 q) 0 []) = Xk (Ji q negated) Kx (List.drop k0 (Q7 q)) k0 s0 ∧ List.length s0 ≤ k0) (fun (y0 : (List ByteArray)) => (Xk (Ji q negated) Kx (Q7 q) 0 []) = .brk y0) ((Q7 q).length) [] (Zg [(512, 147203)] (by kernel_rfl)) ⟨rfl, (by simp)⟩ (fun k0 s0 hk0 hI0 => ?_) (fun k0 s0 hk0 hI0 => ?_) (fun y0 hD0 => ?_)
 ·
  have hA0_0 := hI0.2
  obtain ⟨a0, hx0⟩ := X8 (l := Q7 q) (i := k0) hk0
  refine Qa ?_
  refine rk Qb [(13, .b true)] [] [] [] [(0, .val (.b true))] (o1 (Qf (Qg (decide_eq_true (p := ((k0 : Nat) : Int) < ((Q7 q).length : Int)) (by omega))))) ?_
  refine Qa ?_
  refine ckT ?_
  refine Qh ?_
  refine Qa ?_
  refine Q4 ?_
  refine Qa ?_
  refine rk Qb [(6, .i ((k0 : Nat) : Int)), (7, .b a0)] [13] [] [] [(1, .rowE [.b a0])] (o1 (Ql (Xl (i := ((k0 : Nat) : Int)) (by omega) rfl hx0))) ?_
  refine Qa ?_
  refine jn [(26, .b ((Z9 (nth q k0)) && (a0 == negated)))] [7] [] [] (Z9 (nth q k0)) (fun h3 => ?_) (fun h3 => ?_) ?_
  ·
   refine wdT 0 0 .sh q (fun hw5 => ?_)
   have hl6 : List.length q ≤ 1073741824 := Qp (hw5)
   have hx4 : q[k0]? = some (nth q k0) := X3 (by omega)
   refine rk Qb [(26, .b (a0 == negated))] [7] [] [] [(2, .row [.i ((nth q k0).1), .i ((nth q k0).2.1), .i ((nth q k0).2.2.1), .s ((nth q k0).2.2.2.1), .i ((nth q k0).2.2.2.2.1), .i ((nth q k0).2.2.2.2.2.1), .s ((nth q k0).2.2.2.2.2.2)]), (4, .val (.b true))] (o2 (Ql (Xl (i := ((k0 : Nat) : Int)) (by omega) rfl hx4)) (o1 (Qe (cb h3 (Qfg (nth q k0)))))) ?_
   exact ⟨rfl, Qc (by rw [h3]; first | done | kernel_rfl)⟩
  ·
   refine wdT 0 0 .sh q (fun hw8 => ?_)
   have hl9 : List.length q ≤ 1073741824 := Qp (hw8)
   have hx7 : q[k0]? = some (nth q k0) := X3 (by omega)
   refine rk Qb [(26, .b false)] [7] [] [] [(2, .row [.i ((nth q k0).1), .i ((nth q k0).2.1), .i ((nth q k0).2.2.1), .s ((nth q k0).2.2.2.1), .i ((nth q k0).2.2.2.2.1), .i ((nth q k0).2.2.2.2.2.1), .s ((nth q k0).2.2.2.2.2.2)]), (4, .val (.b false))] (o2 (Ql (Xl (i := ((k0 : Nat) : Int)) (by omega) rfl hx7)) (o1 (Qe (cb h3 (Qfg (nth q k0)))))) ?_
   exact ⟨rfl, Qc (by rw [h3]; first | done | kernel_rfl)⟩
  refine ck ((Z9 (nth q k0)) && (a0 == negated)) (fun h10 => ?_) (fun h10 => ?_)
  ·
   have h10r : ((a0 == negated)) = true := Quk h10
   have h10rd := eq_of_beq h10r
   refine wdT 0 0 .sh q (fun hw12 => ?_)
   have hl13 : List.length q ≤ 1073741824 := Qp (hw12)
   have hx11 : q[k0]? = some (nth q k0) := X3 (by omega)
   refine wdT 5 0 (.own true 147203) s0 (fun hw14 => ?_)
   have hl15 : List.length s0 ≤ 1073741824 := Qp (hw14)
   refine rk Qb [(5, .one (.slc (.own true 2176) 1 ((eL s0) ++ [[.s ((nth q k0).2.2.2.1)]])))] [5, 6, 26] [] [] [(3, .row [.i ((nth q k0).1), .i ((nth q k0).2.1), .i ((nth q k0).2.2.1), .s ((nth q k0).2.2.2.1), .i ((nth q k0).2.2.2.2.1), .i ((nth q k0).2.2.2.2.2.1), .s ((nth q k0).2.2.2.2.2.2)])] (o2 (Ql (Xl (i := ((k0 : Nat) : Int)) (by omega) rfl hx11)) (o1 (V8 (Wq (Xa s0) (Xa [(nth q k0).2.2.2.1]) (by first | omega | (simp; omega) | simp))))) ?_
   refine eqn [(5, .o 2176 (s0 ++ [(nth q k0).2.2.2.1]))] [5] [] [] (by rw [show ((eL s0) ++ [[.s ((nth q k0).2.2.2.1)]]) = (eL (s0 ++ [(nth q k0).2.2.2.1])) from Qaw (rfl) (rfl)]; first | done | kernel_rfl) ?_
   refine rk Qb [(12, .i ((k0 + 1 : Nat) : Int))] [12] [] [] [(0, .val (.i ((k0 + 1 : Nat) : Int)))] (o1 (Qf (Kw (Qs k0 (by omega))))) ?_
   exact Exists.intro (s0 ++ [(nth q k0).2.2.2.1]) (And.intro (Zg [(2176, 147203)] (by kernel_rfl)) ⟨Qw hx0 (Yf h10 (rfl)) hI0.1, by first | omega | (simp; omega) | simp⟩)
  ·
   refine Qh ?_
   refine rk Qb [(12, .i ((k0 + 1 : Nat) : Int))] [6, 12, 26] [] [] [(0, .val (.i ((k0 + 1 : Nat) : Int)))] (o1 (Qf (Kw (Qs k0 (by omega))))) ?_
   exact Exists.intro s0 (And.intro (Qc (by kernel_rfl)) ⟨Qw hx0 (Qv h10 (rfl)) hI0.1, by first | omega | (simp; omega) | simp⟩)
 ·
  have hA0_0 := hI0.2
  refine Qa ?_
  refine rk Qb [(13, .b false)] [] [] [] [(0, .val (.b false))] (o1 (Qf (Qg (decide_eq_false (p := ((k0 : Nat) : Int) < ((Q7 q).length : Int)) (by omega))))) ?_
  refine Qa ?_
  refine ckF ?_
  refine Xj ?_
  exact Exists.intro s0 (And.intro (Zg [(147203, 147353)] (by kernel_rfl)) (X9 hk0 (rfl) hI0.1))
 ·
  refine Qa ?_
  refine rk Qb [(4, .h (Uy y0))] [4, 5] [] [] [(1, .val (.h (Uy y0)))] (o1 (Qe (Qir y0))) ?_
  refine Qi ?_
  exact Zb [] (congrArg (fun z => (.h z : AV)) (show Zu q negated = (Uy y0) from Hk hD0 (rfl)).symm)
def Xq (q : (List Yq)) : (List ByteArray) := (Zu q false)
theorem Qgw (q : (List Yq)) : ACalls Tryz.prog 202 [.h q] (.h (Xq q)) := by
 refine Qn (tt := tt) Qb Tryz.func202 (fn := Tryz.f202) rfl (by unfold Z7; kernel_rfl) (Nat.le_of_ble_eq_true rfl) fun w0 F0 => ?_
 refine Qa ?_
 refine rk Qb [(2, .e 0)] [] [] [] [] (o0) ?_
 refine Qa ?_
 refine rk Qb [(2, .h (Zu q false))] [0, 2] [] [] [(1, .val (.h (Zu q false)))] (o1 (Qe (Qeq q false))) ?_
 refine Qi ?_
 exact Zb [] (congrArg (fun z => (.h z : AV)) (show Xq q = (Zu q false) from rfl).symm)
def Xg (q : (List Yq)) : (List ByteArray) := (Zu q true)
theorem Qgx (q : (List Yq)) : ACalls Tryz.prog 203 [.h q] (.h (Xg q)) := by
 refine Qn (tt := tt) Qb Tryz.func203 (fn := Tryz.f203) rfl (by unfold Z7; kernel_rfl) (Nat.le_of_ble_eq_true rfl) fun w0 F0 => ?_
 refine Qa ?_
 refine rk Qb [(2, .e 0)] [] [] [] [] (o0) ?_
 refine Qa ?_
 refine rk Qb [(2, .h (Zu q true))] [0, 2] [] [] [(1, .val (.h (Zu q true)))] (o1 (Qe (Qeq q true))) ?_
 refine Qi ?_
 exact Zb [] (congrArg (fun z => (.h z : AV)) (show Xg q = (Zu q true) from rfl).symm)
def Uc (q : (List Yq)) (under : Bool) (k0 : Nat) (a0 : Bool) (s0 : (List ByteArray)) : Rd ((List ByteArray)) ((List ByteArray)) ((List ByteArray)) := (bif ((Qt ((nth q k0).1) 8 9) && (a0 == under)) then (.next (Ux s0 ((nth q k0).2.2.2.1))) else (.next s0))
def Ud (_ : Nat) (s0 : (List ByteArray)) : (List ByteArray) := s0
def Ky (q : (List Yq)) (under : Bool) : (List ByteArray) := (Out.on (Xk (Uc q under) Ud (X0 q) 0 []) (fun y0 => y0))
theorem Qfh (q : (List Yq)) (under : Bool) : ACalls Tryz.prog 221 [.h q, .b under] (.o 0 (Ky q under)) := by
 refine Qn (tt := tt) Qb Tryz.func221 (fn := Tryz.f221) rfl (by unfold Z7; kernel_rfl) (Nat.le_of_ble_eq_true rfl) fun w0 F0 => ?_
 have hnl := Qpg q
 refine Qa ?_
 refine rk Qb [(4, .e 0)] [] [] [] [] (o0) ?_
 refine Qa ?_
 refine rk Qb [(5, .one (.slc (.own true 512) 1 []))] [] [] [] [] (o0) ?_
 refine Qa ?_
 refine rk Qb [(6, .o 640 (X0 q))] [] [] [] [(1, .val (.o 0 (X0 q)))] (o1 (Qe (Qgs q))) ?_
 refine Qa ?_
 refine Qa ?_
 refine rk Qb [(7, .i 0)] [] [] [] [] (o0) ?_
 refine wdT 6 0 (.own true 640) (X0 q) (fun hw1 => ?_)
 have hl2 : List.length (X0 q) ≤ 1073741824 := Qp (hw1)
 refine blk (fun (k0 : Nat) (s0 : (List ByteArray)) => [(5, .h s0), (7, .i ((k0 : Nat) : Int))]) [5, 7] (fun k0 s0 => []) [] (fun (y0 : (List ByteArray)) => [(5, .h y0)]) [0, 1, 5, 6, 7] (fun y0 => []) [] (fun (k0 : Nat) (s0 : (List ByteArray)) => (Xk (Uc q under) Ud (X0 q) 0 []) = Xk (Uc q under) Ud (List.drop k0 (X0 q)) k0 s0 ∧ List.length s0 ≤ k0) (fun (y0 : (List ByteArray)) => (Xk (Uc q under) Ud (X0 q) 0 []) = .brk y0) ((X0 q).length) [] (Qm9 [] [512] [] [] (by kernel_rfl)) ⟨rfl, (by simp)⟩ (fun k0 s0 hk0 hI0 => ?_) (fun k0 s0 hk0 hI0 => ?_) (fun y0 hD0 => ?_)
 ·
  have hA0_0 := hI0.2
  obtain ⟨a0, hx0⟩ := X8 (l := X0 q) (i := k0) hk0
  refine Qa ?_
  refine Qa ?_
  refine rk Qb [(14, .b true)] [] [] [] [(2, .val (.i ((X0 q).length : Int))), (3, .val (.b true))] (o2 (Qf (Xc (X0 q))) (o1 (Qf (Qg (decide_eq_true (p := ((k0 : Nat) : Int) < ((X0 q).length : Int)) (by omega)))))) ?_
  refine ckT ?_
  refine Qh ?_
  refine Qa ?_
  refine Q4 ?_
  refine Qa ?_
  refine jn [(30, .b ((Qt ((nth q k0).1) 8 9) && (a0 == under)))] [14] [] [] (Qt ((nth q k0).1) 8 9) (fun h3 => ?_) (fun h3 => ?_) ?_
  ·
   refine wdT 0 0 .sh q (fun hw5 => ?_)
   have hl6 : List.length q ≤ 1073741824 := Qp (hw5)
   have hx4 : q[k0]? = some (nth q k0) := X3 (by omega)
   refine rk Qb [(30, .b (a0 == under))] [14] [] [] [(2, .row [.i ((nth q k0).1), .i ((nth q k0).2.1), .i ((nth q k0).2.2.1), .s ((nth q k0).2.2.2.1), .i ((nth q k0).2.2.2.2.1), .i ((nth q k0).2.2.2.2.2.1), .s ((nth q k0).2.2.2.2.2.2)]), (5, .val (.b true)), (9, .rowE [.b a0])] (o2 (Ql (Xl (i := ((k0 : Nat) : Int)) (by omega) rfl hx4)) (o2 (Qe (cb h3 (Y5 ((nth q k0).1) 8 9))) (o1 (Ql (Xl (i := ((k0 : Nat) : Int)) (by omega) rfl hx0))))) ?_
   exact ⟨rfl, Qc (by rw [h3]; first | done | kernel_rfl)⟩
  ·
   refine wdT 0 0 .sh q (fun hw8 => ?_)
   have hl9 : List.length q ≤ 1073741824 := Qp (hw8)
   have hx7 : q[k0]? = some (nth q k0) := X3 (by omega)
   refine rk Qb [(30, .b false)] [14] [] [] [(2, .row [.i ((nth q k0).1), .i ((nth q k0).2.1), .i ((nth q k0).2.2.1), .s ((nth q k0).2.2.2.1), .i ((nth q k0).2.2.2.2.1), .i ((nth q k0).2.2.2.2.2.1), .s ((nth q k0).2.2.2.2.2.2)]), (5, .val (.b false))] (o2 (Ql (Xl (i := ((k0 : Nat) : Int)) (by omega) rfl hx7)) (o1 (Qe (cb h3 (Y5 ((nth q k0).1) 8 9))))) ?_
   exact ⟨rfl, Qc (by rw [h3]; first | done | kernel_rfl)⟩
  refine ck ((Qt ((nth q k0).1) 8 9) && (a0 == under)) (fun h10 => ?_) (fun h10 => ?_)
  ·
   have h10r : ((a0 == under)) = true := Quk h10
   have h10rd := eq_of_beq h10r
   refine wdT 0 0 .sh q (fun hw12 => ?_)
   have hl13 : List.length q ≤ 1073741824 := Qp (hw12)
   have hx11 : q[k0]? = some (nth q k0) := X3 (by omega)
   refine rk Qb [(5, .h (Ux s0 ((nth q k0).2.2.2.1)))] [5, 30] [] [] [(3, .row [.i ((nth q k0).1), .i ((nth q k0).2.1), .i ((nth q k0).2.2.1), .s ((nth q k0).2.2.2.1), .i ((nth q k0).2.2.2.2.1), .i ((nth q k0).2.2.2.2.2.1), .s ((nth q k0).2.2.2.2.2.2)]), (6, .val (.h (Ux s0 ((nth q k0).2.2.2.1))))] (o2 (Ql (Xl (i := ((k0 : Nat) : Int)) (by omega) rfl hx11)) (o1 (Qe (Qpp s0 ((nth q k0).2.2.2.1) (by omega))))) ?_
   refine rk Qb [(7, .i ((k0 + 1 : Nat) : Int))] [7] [] [] [(1, .val (.i ((k0 + 1 : Nat) : Int)))] (o1 (Qf (Kw (Qs k0 (by omega))))) ?_
   exact Exists.intro (Ux s0 ((nth q k0).2.2.2.1)) (And.intro (Qc (by kernel_rfl)) ⟨Qw hx0 (Yf h10 (rfl)) hI0.1, (by first | omega | (have hz := put_len s0 (nth q k0).2.2.2.1; omega))⟩)
  ·
   refine Qh ?_
   refine rk Qb [(7, .i ((k0 + 1 : Nat) : Int))] [7, 30] [] [] [(1, .val (.i ((k0 + 1 : Nat) : Int)))] (o1 (Qf (Kw (Qs k0 (by omega))))) ?_
   exact Exists.intro s0 (And.intro (Qc (by kernel_rfl)) ⟨Qw hx0 (Qv h10 (rfl)) hI0.1, (by first | omega | (have hz := put_len s0 (nth q k0).2.2.2.1; omega))⟩)
 ·
  have hA0_0 := hI0.2
  refine Qa ?_
  refine Qa ?_
  refine rk Qb [(14, .b false)] [] [] [] [(2, .val (.i ((X0 q).length : Int))), (3, .val (.b false))] (o2 (Qf (Xc (X0 q))) (o1 (Qf (Qg (decide_eq_false (p := ((k0 : Nat) : Int) < ((X0 q).length : Int)) (by omega)))))) ?_
  refine ckF ?_
  refine Xj ?_
  exact Exists.intro s0 (And.intro (Qc (by kernel_rfl)) (X9 hk0 (rfl) hI0.1))
 ·
  refine Qa ?_
  refine wdT 5 0 .sh y0 (fun hw14 => ?_)
  have hl15 : List.length y0 ≤ 1073741824 := Qp (hw14)
  refine rk Qb [(4, .o 2560 y0)] [4, 5] [] [] [(2, .flat)] (o2 (V8 (n := (([] : List (List PV)).length + ((eL y0) : List (List PV)).length)) (Wq (rfl) (Xa y0) (by first | omega | (simp; omega) | simp))) (o1 (Qam (Hx y0)))) ?_
  refine Qi ?_
  exact Zb [] (congrArg (fun z => (.o 0 z : AV)) (show Ky q under = y0 from Hk hD0 (rfl)).symm)
def Ya (q : (List Yq)) : (List ByteArray) := (Ky q false)
theorem Qgy (q : (List Yq)) : ACalls Tryz.prog 210 [.h q] (.o 0 (Ya q)) := by
 refine Qn (tt := tt) Qb Tryz.func210 (fn := Tryz.f210) rfl (by unfold Z7; kernel_rfl) (Nat.le_of_ble_eq_true rfl) fun w0 F0 => ?_
 refine Qa ?_
 refine rk Qb [(2, .e 0)] [] [] [] [] (o0) ?_
 refine Qa ?_
 refine rk Qb [(2, .o 256 (Ky q false))] [0, 2] [] [] [(1, .val (.o 0 (Ky q false)))] (o1 (Qe (Qfh q false))) ?_
 refine Qi ?_
 exact Zb [] (congrArg (fun z => (.o 0 z : AV)) (show Ya q = (Ky q false) from rfl).symm)
def Yb (q : (List Yq)) : (List ByteArray) := (Ky q true)
theorem Qgz (q : (List Yq)) : ACalls Tryz.prog 212 [.h q] (.o 0 (Yb q)) := by
 refine Qn (tt := tt) Qb Tryz.func212 (fn := Tryz.f212) rfl (by unfold Z7; kernel_rfl) (Nat.le_of_ble_eq_true rfl) fun w0 F0 => ?_
 refine Qa ?_
 refine rk Qb [(2, .e 0)] [] [] [] [] (o0) ?_
 refine Qa ?_
 refine rk Qb [(2, .o 256 (Ky q true))] [0, 2] [] [] [(1, .val (.o 0 (Ky q true)))] (o1 (Qe (Qfh q true))) ?_
 refine Qi ?_
 exact Zb [] (congrArg (fun z => (.o 0 z : AV)) (show Yb q = (Ky q true) from rfl).symm)
end Go.Proofs.YtnhmnfmhnepjmaaGreat
namespace Go.Proofs.YtnhmnfmhnepjmaaGreat
open Go.RowKit
theorem Qro (n : Yq) : Qt n.1 8 9 = Z9 n := by
  unfold Qt Z9
  rw [Bool.eq_iff_iff]
  simp
  omega
theorem Qke (q : List Yq) (b : Bool) : ∀ (l : List Bool) (k : Nat) (s : List ByteArray), ∃ m, Xk (Ji q b) Kx l k s = .brk (s ++ m) ∧ ∀ t, Xk (Uc q b) Ud l k t = .brk (Qfz t m)
  | [], k, s => ⟨[], by simp [Xk, Kx], fun t => by simp [Xk, Ud, Qfz]⟩
  | a :: l, k, s => by
    simp only [Xk, Ji, Uc, Qro]
    cases h : (Z9 (nth q k) && (a == b)) with
    | true =>
      obtain ⟨m, h1, h2⟩ := Qke q b l (k + 1) (s ++ [(nth q k).2.2.2.1])
      refine ⟨(nth q k).2.2.2.1 :: m, ?_, fun t => ?_⟩
      · simp only [cond_true]; rw [h1, List.append_assoc]; rfl
      · simp only [cond_true]; rw [h2, Qpq]; rfl
    | false =>
      obtain ⟨m, h1, h2⟩ := Qke q b l (k + 1) s
      exact ⟨m, by simp only [cond_false]; exact h1, fun t => by simp only [cond_false]; exact h2 t⟩
theorem deps_eq (q : List Yq) (b : Bool) : Ky q b = Zu q b := by
  unfold Ky Zu
  obtain ⟨m, h1, h2⟩ := Qke q b (Q7 q) 0 []
  rw [Ql3, h1, h2]
  simp only [Out.on, List.nil_append]
  exact (once_put m).symm
theorem Quv (q : List Yq) : Ya q = Xq q := deps_eq q false
theorem Quw (q : List Yq) : Yb q = Xg q := deps_eq q true
open GoE (enc wide)
def Zq (d : (List Zh)) (k0 : Nat) (a0 : Zh) (_ : Unit) : Rd (Bool) (Unit) (Unit) := (bif ((!(Xn a0.1)) || (bif decide (((k0 : Nat) : Int) > (0 : Int)) then ((!(Op.bytesLess ((nth d (Int.toNat (((k0 : Nat) : Int) - 1))).1).toList a0.1.toList)) || (!(Qm a0.2))) else (!(Qm a0.2)))) then (.ret false) else (.next ()))
def Js (_ : Nat) (_ : Unit) : Unit := ()
def Y4 (d : (List Zh)) : Bool := (Out.on (Xk (Zq d) Js d 0 ()) (fun _ => decide ((d.length : Int) ≤ (5 : Int))))
theorem Qhy (d : (List Zh)) : ACalls Tryz.prog 200 [.h d] (.b (Y4 d)) := by
 refine Qn (tt := tt) Qb Tryz.func200 (fn := Tryz.f200) rfl (by unfold Z7; kernel_rfl) (Nat.le_of_ble_eq_true rfl) fun w0 F0 => ?_
 refine Qa ?_
 refine rk Qb [(2, .b false)] [] [] [] [] (o0) ?_
 refine Qa ?_
 refine Qa ?_
 refine rk Qb [(5, .h d), (6, .i (d.length : Int)), (7, .i 0)] [] [] [] [(1, .val (.i (d.length : Int)))] (o1 (Qf (Xc d))) ?_
 refine wdT 0 0 .sh d (fun hw1 => ?_)
 have hl2 : List.length d ≤ 1073741824 := Qp (hw1)
 refine blk (fun (k0 : Nat) (s0 : Unit) => [(7, .i ((k0 : Nat) : Int))]) [7] (fun k0 s0 => []) [] (fun (y0 : Unit) => []) [5, 6, 7] (fun y0 => []) [] (fun (k0 : Nat) (s0 : Unit) => (Xk (Zq d) Js d 0 ()) = Xk (Zq d) Js (List.drop k0 d) k0 s0) (fun (y0 : Unit) => (Xk (Zq d) Js d 0 ()) = .brk y0) d.length () (Qc (by kernel_rfl)) rfl (fun k0 s0 hk0 hI0 => ?_) (fun k0 s0 hk0 hI0 => ?_) (fun y0 hD0 => ?_)
 ·
  obtain ⟨a0, hx0⟩ := X8 (l := d) (i := k0) hk0
  refine Qa ?_
  refine rk Qb [(8, .b true)] [] [] [] [(0, .val (.b true))] (o1 (Qf (Qg (decide_eq_true (p := ((k0 : Nat) : Int) < (d.length : Int)) (by omega))))) ?_
  refine Qa ?_
  refine ckT ?_
  refine Qh ?_
  refine Qa ?_
  refine Q4 ?_
  refine Qa ?_
  refine rk Qb [(3, .i ((k0 : Nat) : Int)), (4, .p 4 0)] [8] [(4, [.s a0.1, .h a0.2])] [] [(1, .row [.s a0.1, .h a0.2])] (o1 (Ql (Xl (i := ((k0 : Nat) : Int)) (by omega) rfl hx0))) ?_
  refine Qa ?_
  refine jn [(36, .b ((!(Xn a0.1)) || (bif decide (((k0 : Nat) : Int) > (0 : Int)) then ((!(Op.bytesLess ((nth d (Int.toNat (((k0 : Nat) : Int) - 1))).1).toList a0.1.toList)) || (!(Qm a0.2))) else (!(Qm a0.2)))))] [3, 4] [] [4] (!(Xn a0.1)) (fun h3 => ?_) (fun h3 => ?_) ?_
  ·
   have h3n : (Xn a0.1) = false := Qa3 h3
   refine rd' Qb Zv [(36, .b true)] [3, 4] [] [4] [(2, .val (.b false)), (3, .val (.b true))] (o2 (Qe (cb h3n (Z8 a0.1))) (o1 (Qf (show .b (!false) = .b true from rfl)))) ?_
   exact ⟨rfl, Qc (by rw [h3]; first | done | kernel_rfl)⟩
  ·
   have h3n : (Xn a0.1) = true := Vo h3
   refine X4 (decide (((k0 : Nat) : Int) > (0 : Int))) (fun h4 => ?_) (fun h4 => ?_)
   ·
    have h4d := of_decide_eq_true h4
    refine X4 (!(Op.bytesLess ((nth d (Int.toNat (((k0 : Nat) : Int) - 1))).1).toList a0.1.toList)) (fun h5 => ?_) (fun h5 => ?_)
    ·
     have hx6 : d[(Int.toNat (((k0 : Nat) : Int) - 1))]? = some (nth d (Int.toNat (((k0 : Nat) : Int) - 1))) := X3 (by omega)
     refine rd' Qb Zv [(36, .b true)] [3, 4] [] [4] [(2, .val (.b true)), (3, .val (.b false)), (6, .val (.b true)), (10, .val (.i (((k0 : Nat) : Int) - 1))), (11, .row [.s ((nth d (Int.toNat (((k0 : Nat) : Int) - 1))).1), .h ((nth d (Int.toNat (((k0 : Nat) : Int) - 1))).2)]), (16, .val (.b true))] (o2 (Qe (cb h3n (Z8 a0.1))) (o2 (Qf (show .b (!true) = .b false from rfl)) (o2 (Qf (Qg h4)) (o2 (Qf (Kw (IntWalk.i64_in (((k0 : Nat) : Int) - 1) (by omega)))) (o2 (Ql (Xl (i := (((k0 : Nat) : Int) - 1)) (by omega) rfl hx6)) (o1 (Qf (Qg h5)))))))) ?_
     exact ⟨rfl, Qc (by rw [h3, h4, h5]; first | done | kernel_rfl)⟩
    ·
     have hx7 : d[(Int.toNat (((k0 : Nat) : Int) - 1))]? = some (nth d (Int.toNat (((k0 : Nat) : Int) - 1))) := X3 (by omega)
     refine rd' Qb Zv [(36, .b (!(Qm a0.2)))] [3, 4] [] [4] [(2, .val (.b true)), (3, .val (.b false)), (6, .val (.b true)), (10, .val (.i (((k0 : Nat) : Int) - 1))), (11, .row [.s ((nth d (Int.toNat (((k0 : Nat) : Int) - 1))).1), .h ((nth d (Int.toNat (((k0 : Nat) : Int) - 1))).2)]), (16, .val (.b false)), (22, .val (.b (Qm a0.2)))] (o2 (Qe (cb h3n (Z8 a0.1))) (o2 (Qf (show .b (!true) = .b false from rfl)) (o2 (Qf (Qg h4)) (o2 (Qf (Kw (IntWalk.i64_in (((k0 : Nat) : Int) - 1) (by omega)))) (o2 (Ql (Xl (i := (((k0 : Nat) : Int) - 1)) (by omega) rfl hx7)) (o2 (Qf (Qg h5)) (o1 (Qe (Wz a0.2))))))))) ?_
     exact ⟨rfl, Qc (by rw [h3, h4, h5]; first | done | kernel_rfl)⟩
   ·
    refine rd' Qb Zv [(36, .b (!(Qm a0.2)))] [3, 4] [] [4] [(2, .val (.b true)), (3, .val (.b false)), (6, .val (.b false)), (22, .val (.b (Qm a0.2)))] (o2 (Qe (cb h3n (Z8 a0.1))) (o2 (Qf (show .b (!true) = .b false from rfl)) (o2 (Qf (Qg h4)) (o1 (Qe (Wz a0.2)))))) ?_
    exact ⟨rfl, Qc (by rw [h3, h4]; first | done | kernel_rfl)⟩
  refine ck ((!(Xn a0.1)) || (bif decide (((k0 : Nat) : Int) > (0 : Int)) then ((!(Op.bytesLess ((nth d (Int.toNat (((k0 : Nat) : Int) - 1))).1).toList a0.1.toList)) || (!(Qm a0.2))) else (!(Qm a0.2)))) (fun h8 => ?_) (fun h8 => ?_)
  ·
   refine Qa ?_
   refine rk Qb [] [36] [] [] [] (o0) ?_
   refine Qi ?_
   have hr9 : (Xk (Zq d) Js d 0 ()) = .ret false := Jq hx0 (Yf h8 (rfl)) hI0
   exact Zb [] (congrArg (fun z => (.b z : AV)) (show Y4 d = false from Qgl hr9).symm)
  ·
   refine Qh ?_
   refine rk Qb [(7, .i ((k0 + 1 : Nat) : Int))] [7, 36] [] [] [(0, .val (.i ((k0 + 1 : Nat) : Int)))] (o1 (Qf (Kw (Qs k0 (by omega))))) ?_
   exact Exists.intro () (And.intro (Qc (by kernel_rfl)) (Qw hx0 (Qv h8 (rfl)) hI0))
 ·
  refine Qa ?_
  refine rk Qb [(8, .b false)] [] [] [] [(0, .val (.b false))] (o1 (Qf (Qg (decide_eq_false (p := ((k0 : Nat) : Int) < (d.length : Int)) (by omega))))) ?_
  refine Qa ?_
  refine ckF ?_
  refine Xj ?_
  exact Exists.intro () (And.intro (Qc (by kernel_rfl)) (X9 hk0 (rfl) hI0))
 ·
  refine Qa ?_
  refine rk Qb [(2, .b (decide ((d.length : Int) ≤ (5 : Int))))] [0, 2] [] [] [(1, .val (.i (d.length : Int)))] (o1 (Qf (Xc d))) ?_
  refine Qi ?_
  exact Zb [] (congrArg (fun z => (.b z : AV)) (show Y4 d = decide ((d.length : Int) ≤ (5 : Int)) from Hk hD0 (rfl)).symm)
def Km (d : (List Zh)) (k0 : Nat) (a0 : Zh) (_ : Unit) : Rd (Bool) (Unit) (Unit) := (bif ((!(Xr a0.1)) || ((!(Xz a0.2)) || (decide (((k0 : Nat) : Int) > (0 : Int)) && (!(Op.bytesLess ((nth d (Int.toNat (((k0 : Nat) : Int) - 1))).1).toList a0.1.toList))))) then (.ret false) else (.next ()))
def Vq (_ : Nat) (_ : Unit) : Unit := ()
def Ja (d : (List Zh)) : Bool := (Out.on (Xk (Km d) Vq d 0 ()) (fun _ => decide ((d.length : Int) ≤ (5 : Int))))
theorem Qhz (d : (List Zh)) : ACalls Tryz.prog 195 [.h d] (.b (Ja d)) := by
 refine Qn (tt := tt) Qb Tryz.func195 (fn := Tryz.f195) rfl (by unfold Z7; kernel_rfl) (Nat.le_of_ble_eq_true rfl) fun w0 F0 => ?_
 refine Qa ?_
 refine rk Qb [(2, .b false)] [] [] [] [] (o0) ?_
 refine Qa ?_
 refine Qa ?_
 refine rk Qb [(3, .i 0)] [] [] [] [] (o0) ?_
 refine wdT 0 0 .sh d (fun hw1 => ?_)
 have hl2 : List.length d ≤ 1073741824 := Qp (hw1)
 refine blk (fun (k0 : Nat) (s0 : Unit) => [(3, .i ((k0 : Nat) : Int))]) [3] (fun k0 s0 => []) [] (fun (y0 : Unit) => []) [3] (fun y0 => []) [] (fun (k0 : Nat) (s0 : Unit) => (Xk (Km d) Vq d 0 ()) = Xk (Km d) Vq (List.drop k0 d) k0 s0) (fun (y0 : Unit) => (Xk (Km d) Vq d 0 ()) = .brk y0) d.length () (Qc (by kernel_rfl)) rfl (fun k0 s0 hk0 hI0 => ?_) (fun k0 s0 hk0 hI0 => ?_) (fun y0 hD0 => ?_)
 ·
  obtain ⟨a0, hx0⟩ := X8 (l := d) (i := k0) hk0
  refine Qa ?_
  refine Qa ?_
  refine rk Qb [(7, .b true)] [] [] [] [(2, .val (.i (d.length : Int))), (3, .val (.b true))] (o2 (Qf (Xc d)) (o1 (Qf (Qg (decide_eq_true (p := ((k0 : Nat) : Int) < (d.length : Int)) (by omega)))))) ?_
  refine ckT ?_
  refine Qh ?_
  refine Qa ?_
  refine Q4 ?_
  refine Qa ?_
  refine jn [(43, .b ((!(Xr a0.1)) || ((!(Xz a0.2)) || (decide (((k0 : Nat) : Int) > (0 : Int)) && (!(Op.bytesLess ((nth d (Int.toNat (((k0 : Nat) : Int) - 1))).1).toList a0.1.toList))))))] [7] [] [] (!(Xr a0.1)) (fun h3 => ?_) (fun h3 => ?_) ?_
  ·
   have h3n : (Xr a0.1) = false := Qa3 h3
   refine rd' Qb Zv [(43, .b true)] [7] [] [] [(2, .row [.s a0.1, .h a0.2]), (5, .val (.b false)), (6, .val (.b true))] (o2 (Ql (Xl (i := ((k0 : Nat) : Int)) (by omega) rfl hx0)) (o2 (Qe (cb h3n (Zl a0.1))) (o1 (Qf (show .b (!false) = .b true from rfl))))) ?_
   exact ⟨rfl, Qc (by rw [h3]; first | done | kernel_rfl)⟩
  ·
   have h3n : (Xr a0.1) = true := Vo h3
   refine X4 (!(Xz a0.2)) (fun h4 => ?_) (fun h4 => ?_)
   ·
    have h4n : (Xz a0.2) = false := Qa3 h4
    refine rd' Qb Zv [(43, .b true)] [7] [] [] [(2, .row [.s a0.1, .h a0.2]), (5, .val (.b true)), (6, .val (.b false)), (10, .row [.s a0.1, .h a0.2]), (13, .val (.b false)), (14, .val (.b true))] (o2 (Ql (Xl (i := ((k0 : Nat) : Int)) (by omega) rfl hx0)) (o2 (Qe (cb h3n (Zl a0.1))) (o2 (Qf (show .b (!true) = .b false from rfl)) (o2 (Ql (Xl (i := ((k0 : Nat) : Int)) (by omega) rfl hx0)) (o2 (Qe (cb h4n (Vp a0.2))) (o1 (Qf (show .b (!false) = .b true from rfl)))))))) ?_
    exact ⟨rfl, Qc (by rw [h3, h4]; first | done | kernel_rfl)⟩
   ·
    have h4n : (Xz a0.2) = true := Vo h4
    refine X4 (decide (((k0 : Nat) : Int) > (0 : Int))) (fun h5 => ?_) (fun h5 => ?_)
    ·
     have h5d := of_decide_eq_true h5
     have hx6 : d[(Int.toNat (((k0 : Nat) : Int) - 1))]? = some (nth d (Int.toNat (((k0 : Nat) : Int) - 1))) := X3 (by omega)
     refine rd' Qb Zv [(43, .b (!(Op.bytesLess ((nth d (Int.toNat (((k0 : Nat) : Int) - 1))).1).toList a0.1.toList)))] [7] [] [] [(2, .row [.s a0.1, .h a0.2]), (5, .val (.b true)), (6, .val (.b false)), (10, .row [.s a0.1, .h a0.2]), (13, .val (.b true)), (14, .val (.b false)), (18, .val (.b true)), (22, .val (.i (((k0 : Nat) : Int) - 1))), (23, .row [.s ((nth d (Int.toNat (((k0 : Nat) : Int) - 1))).1), .h ((nth d (Int.toNat (((k0 : Nat) : Int) - 1))).2)]), (28, .row [.s a0.1, .h a0.2])] (o2 (Ql (Xl (i := ((k0 : Nat) : Int)) (by omega) rfl hx0)) (o2 (Qe (cb h3n (Zl a0.1))) (o2 (Qf (show .b (!true) = .b false from rfl)) (o2 (Ql (Xl (i := ((k0 : Nat) : Int)) (by omega) rfl hx0)) (o2 (Qe (cb h4n (Vp a0.2))) (o2 (Qf (show .b (!true) = .b false from rfl)) (o2 (Qf (Qg h5)) (o2 (Qf (Kw (IntWalk.i64_in (((k0 : Nat) : Int) - 1) (by omega)))) (o2 (Ql (Xl (i := (((k0 : Nat) : Int) - 1)) (by omega) rfl hx6)) (o1 (Ql (Xl (i := ((k0 : Nat) : Int)) (by omega) rfl hx0)))))))))))) ?_
     exact ⟨rfl, Qc (by rw [h3, h4, h5]; first | done | kernel_rfl)⟩
    ·
     have h5d := of_decide_eq_false h5
     refine rd' Qb Zv [(43, .b false)] [7] [] [] [(2, .row [.s a0.1, .h a0.2]), (5, .val (.b true)), (6, .val (.b false)), (10, .row [.s a0.1, .h a0.2]), (13, .val (.b true)), (14, .val (.b false)), (18, .val (.b false))] (o2 (Ql (Xl (i := ((k0 : Nat) : Int)) (by omega) rfl hx0)) (o2 (Qe (cb h3n (Zl a0.1))) (o2 (Qf (show .b (!true) = .b false from rfl)) (o2 (Ql (Xl (i := ((k0 : Nat) : Int)) (by omega) rfl hx0)) (o2 (Qe (cb h4n (Vp a0.2))) (o2 (Qf (show .b (!true) = .b false from rfl)) (o1 (Qf (Qg h5))))))))) ?_
     exact ⟨rfl, Qc (by rw [h3, h4, h5]; first | done | kernel_rfl)⟩
  refine ck ((!(Xr a0.1)) || ((!(Xz a0.2)) || (decide (((k0 : Nat) : Int) > (0 : Int)) && (!(Op.bytesLess ((nth d (Int.toNat (((k0 : Nat) : Int) - 1))).1).toList a0.1.toList))))) (fun h7 => ?_) (fun h7 => ?_)
  ·
   refine Qa ?_
   refine rk Qb [] [43] [] [] [] (o0) ?_
   refine Qi ?_
   have hr8 : (Xk (Km d) Vq d 0 ()) = .ret false := Jq hx0 (Yf h7 (rfl)) hI0
   exact Zb [] (congrArg (fun z => (.b z : AV)) (show Ja d = false from Qgl hr8).symm)
  ·
   refine Qh ?_
   refine rk Qb [(3, .i ((k0 + 1 : Nat) : Int))] [3, 43] [] [] [(1, .val (.i ((k0 + 1 : Nat) : Int)))] (o1 (Qf (Kw (Qs k0 (by omega))))) ?_
   exact Exists.intro () (And.intro (Qc (by kernel_rfl)) (Qw hx0 (Qv h7 (rfl)) hI0))
 ·
  refine Qa ?_
  refine Qa ?_
  refine rk Qb [(7, .b false)] [] [] [] [(2, .val (.i (d.length : Int))), (3, .val (.b false))] (o2 (Qf (Xc d)) (o1 (Qf (Qg (decide_eq_false (p := ((k0 : Nat) : Int) < (d.length : Int)) (by omega)))))) ?_
  refine ckF ?_
  refine Xj ?_
  exact Exists.intro () (And.intro (Qc (by kernel_rfl)) (X9 hk0 (rfl) hI0))
 ·
  refine Qa ?_
  refine rk Qb [(2, .b (decide ((d.length : Int) ≤ (5 : Int))))] [0, 2] [] [] [(1, .val (.i (d.length : Int)))] (o1 (Qf (Xc d))) ?_
  refine Qi ?_
  exact Zb [] (congrArg (fun z => (.b z : AV)) (show Ja d = decide ((d.length : Int) ≤ (5 : Int)) from Hk hD0 (rfl)).symm)
def Qbh (x : Zh) (q0 : ByteArray) : Bool := (x.1.toList == q0.toList)
theorem Qni (x : Zh) (q0 : ByteArray) : ACalls Tryz.prog 226 [.a [.s x.1, .h x.2], .one (.rptr .sh [.s q0])] (.b (Qbh x q0)) := by
 refine Qn (tt := tt) Qb Tryz.func226 (fn := Tryz.f226) rfl (by unfold Z7; kernel_rfl) (Nat.le_of_ble_eq_true rfl) fun w0 F0 => ?_
 refine Qa ?_
 refine rk Qb [(2, .p 2 0), (3, .b false)] [0] [(2, [.s x.1, .h x.2])] [] [] (o0) ?_
 refine Qa ?_
 refine rk Qb [(3, .b (x.1.toList == q0.toList))] [1, 2, 3] [] [2] [] (o0) ?_
 refine Qi ?_
 exact Zb [] (congrArg (fun z => (.b z : AV)) (show Qbh x q0 = (x.1.toList == q0.toList) from rfl).symm)
def Ze (c0 : ByteArray) (k0 : Nat) (a0 : Zh) (_ : Unit) : Rd (Int) (Unit) (Unit) := (bif (Qbh a0 c0) then (.ret ((k0 : Nat) : Int)) else (.next ()))
def Zf (_ : Nat) (_ : Unit) : Unit := ()
def Yu (s_ : (List Zh)) (c0 : ByteArray) : Int := (Out.on (Xk (Ze c0) Zf s_ 0 ()) (fun _ => -1))
theorem Qa4 (s_ : (List Zh)) (c0 : ByteArray) : ACalls Tryz.prog 225 [.h s_, .one (.fnr 226 [[.s c0]])] (.i (Yu s_ c0)) := by
 refine Qn (tt := tt) Qb Tryz.func225 (fn := Tryz.f225) rfl (by unfold Z7; kernel_rfl) (Nat.le_of_ble_eq_true rfl) fun w0 F0 => ?_
 refine Qa ?_
 refine rk Qb [(4, .i 0)] [] [] [] [] (o0) ?_
 refine Qa ?_
 refine Qa ?_
 refine rk Qb [(7, .i (s_.length : Int)), (8, .i 0)] [] [] [] [(1, .val (.i (s_.length : Int)))] (o1 (Qf (Xc s_))) ?_
 refine wdT 0 0 .sh s_ (fun hw1 => ?_)
 have hl2 : List.length s_ ≤ 1073741824 := Qp (hw1)
 refine blk (fun (k0 : Nat) (s0 : Unit) => [(8, .i ((k0 : Nat) : Int))]) [8] (fun k0 s0 => []) [] (fun (y0 : Unit) => []) [0, 1, 7, 8] (fun y0 => []) [] (fun (k0 : Nat) (s0 : Unit) => (Xk (Ze c0) Zf s_ 0 ()) = Xk (Ze c0) Zf (List.drop k0 s_) k0 s0) (fun (y0 : Unit) => (Xk (Ze c0) Zf s_ 0 ()) = .brk y0) s_.length () (Qc (by kernel_rfl)) rfl (fun k0 s0 hk0 hI0 => ?_) (fun k0 s0 hk0 hI0 => ?_) (fun y0 hD0 => ?_)
 ·
  obtain ⟨a0, hx0⟩ := X8 (l := s_) (i := k0) hk0
  refine Qa ?_
  refine rk Qb [(9, .b true)] [] [] [] [(0, .val (.b true))] (o1 (Qf (Qg (decide_eq_true (p := ((k0 : Nat) : Int) < (s_.length : Int)) (by omega))))) ?_
  refine Qa ?_
  refine ckT ?_
  refine Qh ?_
  refine Qa ?_
  refine Q4 ?_
  refine Qa ?_
  refine rk Qb [(5, .i ((k0 : Nat) : Int))] [9] [] [] [] (o0) ?_
  refine Qa ?_
  refine rk Qb [(16, .b (Qbh a0 c0))] [] [] [] [(3, .row [.s a0.1, .h a0.2]), (5, .val (.b (Qbh a0 c0)))] (o2 (Ql (Xl (i := ((k0 : Nat) : Int)) (by omega) rfl hx0)) (o1 (Qe (Qni a0 c0)))) ?_
  refine ck (Qbh a0 c0) (fun h3 => ?_) (fun h3 => ?_)
  ·
   refine Qa ?_
   refine rk Qb [(4, .i ((k0 : Nat) : Int))] [4, 5, 16] [] [] [] (o0) ?_
   refine Qi ?_
   have hr4 : (Xk (Ze c0) Zf s_ 0 ()) = .ret ((k0 : Nat) : Int) := Jq hx0 (Yf h3 (rfl)) hI0
   exact Zb [] (congrArg (fun z => (.i z : AV)) (show Yu s_ c0 = ((k0 : Nat) : Int) from Qgl hr4).symm)
  ·
   refine Qh ?_
   refine rk Qb [(8, .i ((k0 + 1 : Nat) : Int))] [5, 8, 16] [] [] [(0, .val (.i ((k0 + 1 : Nat) : Int)))] (o1 (Qf (Kw (Qs k0 (by omega))))) ?_
   exact Exists.intro () (And.intro (Qc (by kernel_rfl)) (Qw hx0 (Qv h3 (rfl)) hI0))
 ·
  refine Qa ?_
  refine rk Qb [(9, .b false)] [] [] [] [(0, .val (.b false))] (o1 (Qf (Qg (decide_eq_false (p := ((k0 : Nat) : Int) < (s_.length : Int)) (by omega))))) ?_
  refine Qa ?_
  refine ckF ?_
  refine Xj ?_
  exact Exists.intro () (And.intro (Qc (by kernel_rfl)) (X9 hk0 (rfl) hI0))
 ·
  refine Qa ?_
  refine rk Qb [(4, .i (-1))] [4] [] [] [] (o0) ?_
  refine Qi ?_
  exact Zb [] (congrArg (fun z => (.i z : AV)) (show Yu s_ c0 = -1 from Hk hD0 (rfl)).symm)
def Xi (d : (List Zh)) (name : ByteArray) : Int := (Yu d name)
theorem Qrp (d : (List Zh)) (name : ByteArray) : ACalls Tryz.prog 216 [.h d, .s name] (.i (Xi d name)) := by
 refine Qn (tt := tt) Qb Tryz.func216 (fn := Tryz.f216) rfl (by unfold Z7; kernel_rfl) (Nat.le_of_ble_eq_true rfl) fun w0 F0 => ?_
 refine Qa ?_
 refine rk Qb [(3, .p 3 0), (4, .i 0)] [1] [(3, [.s name])] [] [] (o0) ?_
 refine Qa ?_
 refine rk Qb [(4, .i (Yu d name))] [0, 3, 4] [] [3] [(2, .val (.i (Yu d name)))] (o1 (Qe (Qa4 d name))) ?_
 refine Qi ?_
 exact Zb [] (congrArg (fun z => (.i z : AV)) (show Xi d name = (Yu d name) from rfl).symm)
def Jb (name : ByteArray) (k0 : Nat) (a0 : Zh) (_ : Unit) : Rd (Int) (Unit) (Unit) := (bif (a0.1.toList == name.toList) then (.ret ((k0 : Nat) : Int)) else (.next ()))
def Kn (_ : Nat) (_ : Unit) : Unit := ()
def Qr (d : (List Zh)) (name : ByteArray) : Int := (Out.on (Xk (Jb name) Kn d 0 ()) (fun _ => -1))
theorem Qfi (d : (List Zh)) (name : ByteArray) : ACalls Tryz.prog 211 [.h d, .s name] (.i (Qr d name)) := by
 refine Qn (tt := tt) Qb Tryz.func211 (fn := Tryz.f211) rfl (by unfold Z7; kernel_rfl) (Nat.le_of_ble_eq_true rfl) fun w0 F0 => ?_
 refine Qa ?_
 refine rk Qb [(4, .i 0)] [] [] [] [] (o0) ?_
 refine Qa ?_
 refine Qa ?_
 refine rk Qb [(5, .i 0)] [] [] [] [] (o0) ?_
 refine wdT 0 0 .sh d (fun hw1 => ?_)
 have hl2 : List.length d ≤ 1073741824 := Qp (hw1)
 refine blk (fun (k0 : Nat) (s0 : Unit) => [(5, .i ((k0 : Nat) : Int))]) [5] (fun k0 s0 => []) [] (fun (y0 : Unit) => []) [0, 1, 5] (fun y0 => []) [] (fun (k0 : Nat) (s0 : Unit) => (Xk (Jb name) Kn d 0 ()) = Xk (Jb name) Kn (List.drop k0 d) k0 s0) (fun (y0 : Unit) => (Xk (Jb name) Kn d 0 ()) = .brk y0) d.length () (Qc (by kernel_rfl)) rfl (fun k0 s0 hk0 hI0 => ?_) (fun k0 s0 hk0 hI0 => ?_) (fun y0 hD0 => ?_)
 ·
  obtain ⟨a0, hx0⟩ := X8 (l := d) (i := k0) hk0
  refine Qa ?_
  refine Qa ?_
  refine rk Qb [(9, .b true)] [] [] [] [(2, .val (.i (d.length : Int))), (3, .val (.b true))] (o2 (Qf (Xc d)) (o1 (Qf (Qg (decide_eq_true (p := ((k0 : Nat) : Int) < (d.length : Int)) (by omega)))))) ?_
  refine ckT ?_
  refine Qh ?_
  refine Qa ?_
  refine Q4 ?_
  refine Qa ?_
  refine rk Qb [(18, .b (a0.1.toList == name.toList))] [9] [] [] [(2, .row [.s a0.1, .h a0.2])] (o1 (Ql (Xl (i := ((k0 : Nat) : Int)) (by omega) rfl hx0))) ?_
  refine ck (a0.1.toList == name.toList) (fun h3 => ?_) (fun h3 => ?_)
  ·
   refine Qa ?_
   refine rk Qb [(4, .i ((k0 : Nat) : Int))] [4, 18] [] [] [] (o0) ?_
   refine Qi ?_
   have hr4 : (Xk (Jb name) Kn d 0 ()) = .ret ((k0 : Nat) : Int) := Jq hx0 (Yf h3 (rfl)) hI0
   exact Zb [] (congrArg (fun z => (.i z : AV)) (show Qr d name = ((k0 : Nat) : Int) from Qgl hr4).symm)
  ·
   refine Qh ?_
   refine rk Qb [(5, .i ((k0 + 1 : Nat) : Int))] [5, 18] [] [] [(1, .val (.i ((k0 + 1 : Nat) : Int)))] (o1 (Qf (Kw (Qs k0 (by omega))))) ?_
   exact Exists.intro () (And.intro (Qc (by kernel_rfl)) (Qw hx0 (Qv h3 (rfl)) hI0))
 ·
  refine Qa ?_
  refine Qa ?_
  refine rk Qb [(9, .b false)] [] [] [] [(2, .val (.i (d.length : Int))), (3, .val (.b false))] (o2 (Qf (Xc d)) (o1 (Qf (Qg (decide_eq_false (p := ((k0 : Nat) : Int) < (d.length : Int)) (by omega)))))) ?_
  refine ckF ?_
  refine Xj ?_
  exact Exists.intro () (And.intro (Qc (by kernel_rfl)) (X9 hk0 (rfl) hI0))
 ·
  refine Qa ?_
  refine rk Qb [(4, .i (-1))] [4] [] [] [] (o0) ?_
  refine Qi ?_
  exact Zb [] (congrArg (fun z => (.i z : AV)) (show Qr d name = -1 from Hk hD0 (rfl)).symm)
end Go.Proofs.YtnhmnfmhnepjmaaGreat
namespace Go.Proofs.YtnhmnfmhnepjmaaGreat
open Go.RowKit
theorem Qnj (d : List Zh) : Y4 d = Ja d := by
  unfold Y4 Ja
  rw [Qdr (f := Zq d) (g := Km d) (e := Js) (e' := Vq) (fun k a s => by
    unfold Zq Km
    rw [vq_eq, vstr_eq]
    cases Xr a.1 <;> cases Xz a.2 <;> cases decide (((k : Nat) : Int) > (0 : Int)) <;> simp) (fun _ _ => rfl)]
theorem Qth (d : List Zh) (s : ByteArray) : Qr d s = Xi d s := rfl
theorem Qti (s : ByteArray) : ∀ (l : List Zh) (k : Nat), Xk (Jb s) Kn l k () = .brk () ∨ ∃ i : Nat, i < l.length ∧ Xk (Jb s) Kn l k () = .ret (((k + i : Nat)) : Int)
  | [], _ => .inl rfl
  | a :: l, k => by
    simp only [Xk, Jb]
    cases (a.1.toList == s.toList) with
    | true => exact .inr ⟨0, by simp, rfl⟩
    | false =>
      simp only [cond_false]
      rcases Qti s l (k + 1) with h | ⟨i, hi, h⟩
      · exact .inl h
      · exact .inr ⟨i + 1, by simpa using hi, by rw [h, show k + 1 + i = k + (i + 1) by omega]⟩
theorem Qnk (d : List Zh) (s : ByteArray) : -1 ≤ Xi d s ∧ Xi d s < (List.length d : Int) := by
  rw [← Qth]
  unfold Qr
  rcases Qti s d 0 with h | ⟨i, hi, h⟩
  · rw [h]; simp only [Out.on]; omega
  · rw [h]; simp only [Out.on]; omega
theorem Qg0 (d : List Zh) (s : ByteArray) : -1 ≤ Qr d s ∧ Qr d s < (List.length d : Int) := Qnk d s
end Go.Proofs.YtnhmnfmhnepjmaaGreat
