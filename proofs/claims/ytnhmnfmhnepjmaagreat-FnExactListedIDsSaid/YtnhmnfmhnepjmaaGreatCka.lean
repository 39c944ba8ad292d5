/- What functions compute, and that they do (printed by am2.py): each function as a Lean function, then its contract. -/
import Derived.Test.YtnhmnfmhnepjmaaGreatZc
import Derived.Test.YtnhmnfmhnepjmaaGreatProg
import Derived.Test.YtnhmnfmhnepjmaaGreatTy
import Derived.Test.YtnhmnfmhnepjmaaGreatKn
import Derived.KernelRfl
set_option linter.unusedVariables false
set_option linter.unusedSimpArgs false
namespace Go.Proofs.YtnhmnfmhnepjmaaGreat
open Go.RowKit
open GoE (enc wide)
def tt : List (Nat × TI) := [(3, ⟨.int .i64, 1, [.i 0], []⟩),
 (4, ⟨.bool, 1, [.b false], []⟩),
 (5, ⟨.int .u8, 1, [.int .u8 0], []⟩),
 (9, ⟨.str, 1, [.s ⟨#[]⟩], []⟩),
 (25, ⟨.struct [(0, 1, false), (1, 1, false), (2, 1, false)], 3, [.e 2, .e 5, .i 0], []⟩),
 (29, ⟨.sli 3, 1, [.e 1], []⟩),
 (31, ⟨.sli 144, 1, [.e 2], []⟩),
 (32, ⟨.sli 148, 1, [.e 5], []⟩),
 (34, ⟨.struct [(0, 1, false), (1, 1, false), (2, 1, false)], 3, [.e 2, .e 5, .i 0], []⟩),
 (36, ⟨.sli 96, 1, [.e 2], []⟩),
 (70, ⟨.sli 90, 1, [.e 2], []⟩),
 (90, ⟨.struct [(0, 1, false), (1, 1, false)], 2, [.s ⟨#[]⟩, .e 1], []⟩),
 (94, ⟨.sli 163, 1, [.e 7], []⟩),
 (96, ⟨.struct [(0, 1, false), (1, 1, false)], 2, [.s ⟨#[]⟩, .e 7], []⟩),
 (144, ⟨.struct [(0, 1, false), (1, 1, false)], 2, [.s ⟨#[]⟩, .i 0], []⟩),
 (146, ⟨.sli 221, 1, [.e 4], []⟩),
 (148, ⟨.struct [(0, 1, false), (1, 1, false), (2, 1, false), (3, 1, false), (4, 1, false)], 5, [.i 0, .i 0, .b false, .i 0, .e 4], []⟩),
 (161, ⟨.struct [(0, 1, false), (1, 1, false), (2, 1, false)], 3, [.i 0, .i 0, .s ⟨#[]⟩], [.int, .int, .str]⟩),
 (163, ⟨.struct [(0, 1, false), (1, 1, false), (2, 1, false), (3, 1, false), (4, 3, true)], 7, [.i 0, .i 0, .i 0, .s ⟨#[]⟩, .i 0, .i 0, .s ⟨#[]⟩], [.int, .int, .int, .str, .int, .int, .str]⟩),
 (202, ⟨.sli 9, 1, [.e 1], []⟩),
 (221, ⟨.struct [(0, 1, false), (1, 3, true)], 4, [.s ⟨#[]⟩, .i 0, .i 0, .s ⟨#[]⟩], []⟩),
 (280, ⟨.sli 4, 1, [.e 1], []⟩)]
theorem tt_ok : ttOk Tryz.prog tt = true := by kernel_rfl
theorem tt_mx : Tryz.prog.follows .mixedOrders = true := by kernel_rfl
def implIsValidAttrName (s_ : ByteArray) : Bool := (((ByteArray.size s_ : Int) == (1 : Int)) && (decide (strAt s_ 0 ≥ (97 : Int)) && decide (strAt s_ 0 ≤ (122 : Int))))
theorem implIsValidAttrName_a (s_ : ByteArray) : ACalls Tryz.prog 174 [.s s_] (.b (implIsValidAttrName s_)) := by
 refine acalls_of (tt := tt) tt_ok Tryz.func174 (fn := Tryz.f174) rfl (by unfold FnOk; kernel_rfl) (Nat.le_of_ble_eq_true rfl) fun w0 F0 => ?_
 refine awp_seq ?_
 refine rk tt_ok [(2, .b false)] [] [] [] [] (o0) ?_
 refine awp_seq ?_
 refine jn [(2, .b (((ByteArray.size s_ : Int) == (1 : Int)) && (decide (strAt s_ 0 ≥ (97 : Int)) && decide (strAt s_ 0 ≤ (122 : Int)))))] [0, 2] [] [] ((ByteArray.size s_ : Int) == (1 : Int)) (fun h1 => ?_) (fun h1 => ?_) ?_
 ·
  have h1d := eq_of_beq h1
  refine awp_split (decide (strAt s_ 0 ≥ (97 : Int))) (fun h2 => ?_) (fun h2 => ?_)
  ·
   have h2d := of_decide_eq_true h2
   refine rk tt_ok [(2, .b (decide (strAt s_ 0 ≤ (122 : Int))))] [0, 2] [] [] [(2, .val (.b true)), (6, .val (.b true))] (o2 (ob_eq (av_bool h1)) (o2 (ob_idx (i := 0) (n := (ByteArray.size s_)) (by omega)) (o2 (ob_eq (av_bool h2)) (o1 (ob_idx (i := 0) (n := (ByteArray.size s_)) (by omega)))))) ?_
   exact ⟨rfl, weak_fit (by rw [h1, h2]; first | done | kernel_rfl)⟩
  ·
   have h2d := of_decide_eq_false h2
   refine rk tt_ok [] [0] [] [] [(2, .val (.b true)), (6, .val (.b false))] (o2 (ob_eq (av_bool h1)) (o2 (ob_idx (i := 0) (n := (ByteArray.size s_)) (by omega)) (o1 (ob_eq (av_bool h2))))) ?_
   exact ⟨rfl, weak_fit (by rw [h1, h2]; first | done | kernel_rfl)⟩
 ·
  refine rk tt_ok [] [0] [] [] [(2, .val (.b false))] (o1 (ob_eq (av_bool h1))) ?_
  exact ⟨rfl, weak_fit (by rw [h1]; first | done | kernel_rfl)⟩
 refine awp_ret ?_
 exact pret [] (congrArg (fun z => (.b z : AV)) (show implIsValidAttrName s_ = (((ByteArray.size s_ : Int) == (1 : Int)) && (decide (strAt s_ 0 ≥ (97 : Int)) && decide (strAt s_ 0 ≤ (122 : Int)))) from rfl).symm)
def implwithin (n : Int) (low : Int) (high_ : Int) : Bool := (decide (low ≤ n) && decide (n ≤ high_))
theorem implwithin_a (n : Int) (low : Int) (high_ : Int) : ACalls Tryz.prog 119 [.i n, .i low, .i high_] (.b (implwithin n low high_)) := by
 refine acalls_of (tt := tt) tt_ok Tryz.func119 (fn := Tryz.f119) rfl (by unfold FnOk; kernel_rfl) (Nat.le_of_ble_eq_true rfl) fun w0 F0 => ?_
 refine awp_seq ?_
 refine rk tt_ok [(6, .b false)] [] [] [] [] (o0) ?_
 refine awp_seq ?_
 refine jn [(6, .b (decide (low ≤ n) && decide (n ≤ high_)))] [0, 1, 2, 6] [] [] (decide (low ≤ n)) (fun h1 => ?_) (fun h1 => ?_) ?_
 ·
  refine rk tt_ok [(6, .b (decide (n ≤ high_)))] [0, 1, 2, 6] [] [] [(2, .val (.b true))] (o1 (ob_eq (av_bool h1))) ?_
  exact ⟨rfl, weak_fit (by rw [h1]; first | done | kernel_rfl)⟩
 ·
  refine rk tt_ok [] [0, 1, 2] [] [] [(2, .val (.b false))] (o1 (ob_eq (av_bool h1))) ?_
  exact ⟨rfl, weak_fit (by rw [h1]; first | done | kernel_rfl)⟩
 refine awp_ret ?_
 exact pret [] (congrArg (fun z => (.b z : AV)) (show implwithin n low high_ = (decide (low ≤ n) && decide (n ≤ high_)) from rfl).symm)
def implIsValidString_f0 (s_ : ByteArray) (k0 : Nat) (_ : Unit) : Rd (Bool) (Unit) (Unit) := (bif (decide (strAt s_ ((k0 : Nat) : Int) < (97 : Int)) || decide (strAt s_ ((k0 : Nat) : Int) > (122 : Int))) then (.ret false) else (.next ()))
def implIsValidString_e0 (_ : Nat) (_ : Unit) : Unit := ()
def implIsValidString (s_ : ByteArray) : Bool := (Out.on (forN (implIsValidString_f0 s_) implIsValidString_e0 (Int.toNat (ByteArray.size s_ : Int)) 0 ()) (fun _ => (implwithin (ByteArray.size s_ : Int) 1 6)))
theorem implIsValidString_a (s_ : ByteArray) : ACalls Tryz.prog 214 [.s s_] (.b (implIsValidString s_)) := by
 refine acalls_of (tt := tt) tt_ok Tryz.func214 (fn := Tryz.f214) rfl (by unfold FnOk; kernel_rfl) (Nat.le_of_ble_eq_true rfl) fun w0 F0 => ?_
 refine awp_seq ?_
 refine rk tt_ok [(2, .b false)] [] [] [] [] (o0) ?_
 refine awp_seq ?_
 refine awp_seq ?_
 refine rk tt_ok [(5, .i (ByteArray.size s_ : Int)), (6, .i 0)] [] [] [] [] (o0) ?_
 refine stT 0 0 s_ (fun hs1 => ?_)
 refine blk (fun (k0 : Nat) (s0 : Unit) => [(6, .i ((k0 : Nat) : Int))]) [6] (fun k0 s0 => []) [] (fun (y0 : Unit) => []) [5, 6] (fun y0 => []) [] (fun (k0 : Nat) (s0 : Unit) => (forN (implIsValidString_f0 s_) implIsValidString_e0 (Int.toNat (ByteArray.size s_ : Int)) 0 ()) = forN (implIsValidString_f0 s_) implIsValidString_e0 ((Int.toNat (ByteArray.size s_ : Int)) - k0) k0 s0) (fun (y0 : Unit) => (forN (implIsValidString_f0 s_) implIsValidString_e0 (Int.toNat (ByteArray.size s_ : Int)) 0 ()) = .brk y0) (Int.toNat (ByteArray.size s_ : Int)) () (weak_fit (by kernel_rfl)) rfl (fun k0 s0 hk0 hI0 => ?_) (fun k0 s0 hk0 hI0 => ?_) (fun y0 hD0 => ?_)
 ·
  refine awp_seq ?_
  refine rk tt_ok [(7, .b true)] [] [] [] [(0, .val (.b true))] (o1 (ob_eq (av_bool (decide_eq_true (p := ((k0 : Nat) : Int) < (ByteArray.size s_ : Int)) (by omega))))) ?_
  refine awp_seq ?_
  refine ckT ?_
  refine awp_skip ?_
  refine awp_seq ?_
  refine awp_block ?_
  refine awp_seq ?_
  refine rk tt_ok [(3, .i ((k0 : Nat) : Int))] [7] [] [] [] (o0) ?_
  refine awp_seq ?_
  refine jn [(18, .b (decide (strAt s_ ((k0 : Nat) : Int) < (97 : Int)) || decide (strAt s_ ((k0 : Nat) : Int) > (122 : Int))))] [3] [] [] (decide (strAt s_ ((k0 : Nat) : Int) < (97 : Int))) (fun h2 => ?_) (fun h2 => ?_) ?_
  ·
   have h2d := of_decide_eq_true h2
   refine rk tt_ok [(18, .b true)] [3] [] [] [(3, .val (.b true))] (o2 (ob_idx (i := ((k0 : Nat) : Int)) (n := (ByteArray.size s_)) (by omega)) (o1 (ob_eq (av_bool h2)))) ?_
   exact ⟨rfl, weak_fit (by rw [h2]; first | done | kernel_rfl)⟩
  ·
   have h2d := of_decide_eq_false h2
   refine rk tt_ok [(18, .b (decide (strAt s_ ((k0 : Nat) : Int) > (122 : Int))))] [3] [] [] [(3, .val (.b false))] (o2 (ob_idx (i := ((k0 : Nat) : Int)) (n := (ByteArray.size s_)) (by omega)) (o2 (ob_eq (av_bool h2)) (o1 (ob_idx (i := ((k0 : Nat) : Int)) (n := (ByteArray.size s_)) (by omega))))) ?_
   exact ⟨rfl, weak_fit (by rw [h2]; first | done | kernel_rfl)⟩
  refine ck (decide (strAt s_ ((k0 : Nat) : Int) < (97 : Int)) || decide (strAt s_ ((k0 : Nat) : Int) > (122 : Int))) (fun h3 => ?_) (fun h3 => ?_)
  ·
   refine awp_seq ?_
   refine rk tt_ok [] [18] [] [] [] (o0) ?_
   refine awp_ret ?_
   have hr4 : (forN (implIsValidString_f0 s_) implIsValidString_e0 (Int.toNat (ByteArray.size s_ : Int)) 0 ()) = .ret false := forN_ret hk0 (bif_t h3 (rfl)) hI0
   exact pret [] (congrArg (fun z => (.b z : AV)) (show implIsValidString s_ = false from on_r hr4).symm)
  ·
   have h3l : (decide (strAt s_ ((k0 : Nat) : Int) < (97 : Int))) = false := or_l h3
   have h3ld := of_decide_eq_false h3l
   have h3r : (decide (strAt s_ ((k0 : Nat) : Int) > (122 : Int))) = false := or_r h3
   have h3rd := of_decide_eq_false h3r
   refine awp_skip ?_
   refine rk tt_ok [(6, .i ((k0 + 1 : Nat) : Int))] [6, 18] [] [] [(0, .val (.i ((k0 + 1 : Nat) : Int)))] (o1 (ob_eq (av_i (wrap_succ k0 (by omega))))) ?_
   exact Exists.intro () (And.intro (weak_fit (by kernel_rfl)) (forN_next hk0 (bif_f h3 (rfl)) hI0))
 ·
  refine awp_seq ?_
  refine rk tt_ok [(7, .b false)] [] [] [] [(0, .val (.b false))] (o1 (ob_eq (av_bool (decide_eq_false (p := ((k0 : Nat) : Int) < (ByteArray.size s_ : Int)) (by omega))))) ?_
  refine awp_seq ?_
  refine ckF ?_
  refine awp_exit ?_
  exact Exists.intro () (And.intro (weak_fit (by kernel_rfl)) (forN_end hk0 (rfl) hI0))
 ·
  refine awp_seq ?_
  refine rk tt_ok [(2, .b (implwithin (ByteArray.size s_ : Int) 1 6))] [0, 2] [] [] [(2, .val (.b (implwithin (ByteArray.size s_ : Int) 1 6)))] (o1 (ob_call (implwithin_a (ByteArray.size s_ : Int) 1 6))) ?_
  refine awp_ret ?_
  exact pret [] (congrArg (fun z => (.b z : AV)) (show implIsValidString s_ = (implwithin (ByteArray.size s_ : Int) 1 6) from on_b hD0 (rfl)).symm)
def implIsValidValue (v : ValueD) : Bool := (bif (v.1 == (0 : Int)) then ((v.1 == 0) && ((v.2.1 == 0) && ((v.2.2.toList == (⟨#[]⟩ : ByteArray).toList) && true))) else (bif (v.1 == (1 : Int)) then ((implwithin v.2.1 0 999) && (v.2.2.toList == (⟨#[]⟩ : ByteArray).toList)) else (bif (v.1 == (2 : Int)) then ((implIsValidString v.2.2) && (v.2.1 == (0 : Int))) else false)))
theorem implIsValidValue_a (v : ValueD) : ACalls Tryz.prog 198 [.a [.i v.1, .i v.2.1, .s v.2.2]] (.b (implIsValidValue v)) := by
 refine acalls_of (tt := tt) tt_ok Tryz.func198 (fn := Tryz.f198) rfl (by unfold FnOk; kernel_rfl) (Nat.le_of_ble_eq_true rfl) fun w0 F0 => ?_
 refine awp_seq ?_
 refine rk tt_ok [(1, .p 1 0), (2, .b false)] [0] [(1, [.i v.1, .i v.2.1, .s v.2.2])] [] [] (o0) ?_
 refine awp_seq ?_
 refine awp_seq ?_
 refine rk tt_ok [(4, .i v.1)] [] [] [] [] (o0) ?_
 refine awp_block ?_
 refine awp_seq ?_
 refine rk tt_ok [(5, .b (v.1 == (0 : Int)))] [] [] [] [] (o0) ?_
 refine ck (v.1 == (0 : Int)) (fun h1 => ?_) (fun h1 => ?_)
 ·
  refine awp_seq ?_
  refine rk tt_ok [(2, .b ((v.1 == 0) && ((v.2.1 == 0) && ((v.2.2.toList == (⟨#[]⟩ : ByteArray).toList) && true))))] [1, 2, 4, 5] [] [1] [] (o0) ?_
  refine awp_ret ?_
  exact pret [] (congrArg (fun z => (.b z : AV)) (show implIsValidValue v = ((v.1 == 0) && ((v.2.1 == 0) && ((v.2.2.toList == (⟨#[]⟩ : ByteArray).toList) && true))) from bif_t h1 (rfl)).symm)
 ·
  refine awp_seq ?_
  refine rk tt_ok [(10, .b (v.1 == (1 : Int)))] [5] [] [] [] (o0) ?_
  refine ck (v.1 == (1 : Int)) (fun h2 => ?_) (fun h2 => ?_)
  ·
   refine awp_seq ?_
   refine jn [(2, .b ((implwithin v.2.1 0 999) && (v.2.2.toList == (⟨#[]⟩ : ByteArray).toList)))] [1, 2, 4, 10] [] [1] (implwithin v.2.1 0 999) (fun h3 => ?_) (fun h3 => ?_) ?_
   ·
    refine rk tt_ok [(2, .b (v.2.2.toList == (⟨#[]⟩ : ByteArray).toList))] [1, 2, 4, 10] [] [1] [(2, .val (.b true))] (o1 (ob_call (cb h3 (implwithin_a v.2.1 0 999)))) ?_
    exact ⟨rfl, weak_fit (by rw [h3]; first | done | kernel_rfl)⟩
   ·
    refine rk tt_ok [] [1, 4, 10] [] [1] [(2, .val (.b false))] (o1 (ob_call (cb h3 (implwithin_a v.2.1 0 999)))) ?_
    exact ⟨rfl, weak_fit (by rw [h3]; first | done | kernel_rfl)⟩
   refine awp_ret ?_
   exact pret [] (congrArg (fun z => (.b z : AV)) (show implIsValidValue v = ((implwithin v.2.1 0 999) && (v.2.2.toList == (⟨#[]⟩ : ByteArray).toList)) from bif_f h1 (bif_t h2 (rfl))).symm)
  ·
   refine awp_seq ?_
   refine rk tt_ok [(20, .b (v.1 == (2 : Int)))] [4, 10] [] [] [] (o0) ?_
   refine ck (v.1 == (2 : Int)) (fun h4 => ?_) (fun h4 => ?_)
   ·
    refine awp_seq ?_
    refine jn [(2, .b ((implIsValidString v.2.2) && (v.2.1 == (0 : Int))))] [1, 2, 20] [] [1] (implIsValidString v.2.2) (fun h5 => ?_) (fun h5 => ?_) ?_
    ·
     refine rk tt_ok [(2, .b (v.2.1 == (0 : Int)))] [1, 2, 20] [] [1] [(2, .val (.b true))] (o1 (ob_call (cb h5 (implIsValidString_a v.2.2)))) ?_
     exact ⟨rfl, weak_fit (by rw [h5]; first | done | kernel_rfl)⟩
    ·
     refine rk tt_ok [] [1, 20] [] [1] [(2, .val (.b false))] (o1 (ob_call (cb h5 (implIsValidString_a v.2.2)))) ?_
     exact ⟨rfl, weak_fit (by rw [h5]; first | done | kernel_rfl)⟩
    refine awp_ret ?_
    exact pret [] (congrArg (fun z => (.b z : AV)) (show implIsValidValue v = ((implIsValidString v.2.2) && (v.2.1 == (0 : Int))) from bif_f h1 (bif_f h2 (bif_t h4 (rfl)))).symm)
   ·
    refine awp_skip ?_
    refine awp_seq ?_
    refine rk tt_ok [] [1, 20] [] [1] [] (o0) ?_
    refine awp_ret ?_
    exact pret [] (congrArg (fun z => (.b z : AV)) (show implIsValidValue v = false from bif_f h1 (bif_f h2 (bif_f h4 (rfl)))).symm)
def implIsValidNode (n : NodeD) (at_ : Int) : Bool := (bif (n.1 == (1 : Int)) then ((n.1 == n.1) && ((n.2.1 == 0) && ((n.2.2.1 == 0) && ((n.2.2.2.1.toList == (⟨#[]⟩ : ByteArray).toList) && ((n.2.2.2.2.1 == 0) && ((n.2.2.2.2.2.1 == 0) && ((n.2.2.2.2.2.2.toList == (⟨#[]⟩ : ByteArray).toList) && true))))))) else (bif (n.1 == (2 : Int)) then (((n.1 == n.1) && ((n.2.1 == 0) && ((n.2.2.1 == 0) && ((n.2.2.2.1.toList == n.2.2.2.1.toList) && ((n.2.2.2.2.1 == 0) && ((n.2.2.2.2.2.1 == 0) && ((n.2.2.2.2.2.2.toList == (⟨#[]⟩ : ByteArray).toList) && true))))))) && (implIsValidAttrName n.2.2.2.1)) else (bif (bif (n.1 == (3 : Int)) then (n.1 == (3 : Int)) else (n.1 == (4 : Int))) then (((n.1 == n.1) && ((n.2.1 == 0) && ((n.2.2.1 == 0) && ((n.2.2.2.1.toList == n.2.2.2.1.toList) && ((n.2.2.2.2.1 == n.2.2.2.2.1) && ((n.2.2.2.2.2.1 == n.2.2.2.2.2.1) && ((n.2.2.2.2.2.2.toList == n.2.2.2.2.2.2.toList) && true))))))) && ((implIsValidAttrName n.2.2.2.1) && ((implIsValidValue n.2.2.2.2) && ((n.2.2.2.2.1 != (0 : Int)) && ((n.1 == (3 : Int)) || (n.2.2.2.2.1 == (1 : Int))))))) else (bif (n.1 == (5 : Int)) then (((n.1 == n.1) && ((n.2.1 == n.2.1) && ((n.2.2.1 == 0) && ((n.2.2.2.1.toList == (⟨#[]⟩ : ByteArray).toList) && ((n.2.2.2.2.1 == 0) && ((n.2.2.2.2.2.1 == 0) && ((n.2.2.2.2.2.2.toList == (⟨#[]⟩ : ByteArray).toList) && true))))))) && (decide (at_ > (0 : Int)) && (implwithin n.2.1 0 (IntKind.i64.wrap (at_ - 1))))) else (bif (bif (n.1 == (6 : Int)) then (n.1 == (6 : Int)) else (n.1 == (7 : Int))) then (((n.1 == n.1) && ((n.2.1 == n.2.1) && ((n.2.2.1 == n.2.2.1) && ((n.2.2.2.1.toList == (⟨#[]⟩ : ByteArray).toList) && ((n.2.2.2.2.1 == 0) && ((n.2.2.2.2.2.1 == 0) && ((n.2.2.2.2.2.2.toList == (⟨#[]⟩ : ByteArray).toList) && true))))))) && (decide (at_ > (0 : Int)) && ((implwithin n.2.1 0 (IntKind.i64.wrap (at_ - 1))) && (implwithin n.2.2.1 0 (IntKind.i64.wrap (at_ - 1)))))) else (bif (n.1 == (8 : Int)) then (((n.1 == n.1) && ((n.2.1 == 0) && ((n.2.2.1 == 0) && ((n.2.2.2.1.toList == n.2.2.2.1.toList) && ((n.2.2.2.2.1 == 0) && ((n.2.2.2.2.2.1 == 0) && ((n.2.2.2.2.2.2.toList == (⟨#[]⟩ : ByteArray).toList) && true))))))) && (implIsValidString n.2.2.2.1)) else (bif (n.1 == (9 : Int)) then (((n.1 == n.1) && ((n.2.1 == 0) && ((n.2.2.1 == 0) && ((n.2.2.2.1.toList == n.2.2.2.1.toList) && ((n.2.2.2.2.1 == 0) && ((n.2.2.2.2.2.1 == 0) && ((n.2.2.2.2.2.2.toList == (⟨#[]⟩ : ByteArray).toList) && true))))))) && (implIsValidString n.2.2.2.1)) else false)))))))
theorem implIsValidNode_a (n : NodeD) (at_ : Int) : ACalls Tryz.prog 223 [.a [.i n.1, .i n.2.1, .i n.2.2.1, .s n.2.2.2.1, .i n.2.2.2.2.1, .i n.2.2.2.2.2.1, .s n.2.2.2.2.2.2], .i at_] (.b (implIsValidNode n at_)) := by
 refine acalls_of (tt := tt) tt_ok Tryz.func223 (fn := Tryz.f223) rfl (by unfold FnOk; kernel_rfl) (Nat.le_of_ble_eq_true rfl) fun w0 F0 => ?_
 refine awp_seq ?_
 refine rk tt_ok [(2, .p 2 0), (4, .b false)] [0] [(2, [.i n.1, .i n.2.1, .i n.2.2.1, .s n.2.2.2.1, .i n.2.2.2.2.1, .i n.2.2.2.2.2.1, .s n.2.2.2.2.2.2])] [] [] (o0) ?_
 refine awp_seq ?_
 refine rk tt_ok [(5, .p 5 0)] [] [(5, [.i n.1, .i 0, .i 0, .s ⟨#[]⟩, .i 0, .i 0, .s ⟨#[]⟩])] [] [] (o0) ?_
 refine awp_seq ?_
 refine awp_seq ?_
 refine rk tt_ok [(10, .i n.1)] [] [] [] [] (o0) ?_
 refine awp_block ?_
 refine awp_seq ?_
 refine rk tt_ok [(11, .b (n.1 == (1 : Int)))] [] [] [] [] (o0) ?_
 refine ck (n.1 == (1 : Int)) (fun h1 => ?_) (fun h1 => ?_)
 ·
  refine awp_skip ?_
  refine awp_seq ?_
  refine rk tt_ok [(4, .b ((n.1 == n.1) && ((n.2.1 == 0) && ((n.2.2.1 == 0) && ((n.2.2.2.1.toList == (⟨#[]⟩ : ByteArray).toList) && ((n.2.2.2.2.1 == 0) && ((n.2.2.2.2.2.1 == 0) && ((n.2.2.2.2.2.2.toList == (⟨#[]⟩ : ByteArray).toList) && true))))))))] [1, 2, 4, 5, 10, 11] [] [2, 5] [] (o0) ?_
  refine awp_ret ?_
  exact pret [] (congrArg (fun z => (.b z : AV)) (show implIsValidNode n at_ = ((n.1 == n.1) && ((n.2.1 == 0) && ((n.2.2.1 == 0) && ((n.2.2.2.1.toList == (⟨#[]⟩ : ByteArray).toList) && ((n.2.2.2.2.1 == 0) && ((n.2.2.2.2.2.1 == 0) && ((n.2.2.2.2.2.2.toList == (⟨#[]⟩ : ByteArray).toList) && true))))))) from bif_t h1 (rfl)).symm)
 ·
  refine awp_seq ?_
  refine rk tt_ok [(13, .b (n.1 == (2 : Int)))] [11] [] [] [] (o0) ?_
  refine ck (n.1 == (2 : Int)) (fun h2 => ?_) (fun h2 => ?_)
  ·
   refine awp_seq ?_
   refine rk tt_ok [] [1, 10, 13] [(5, [.i n.1, .i 0, .i 0, .s n.2.2.2.1, .i 0, .i 0, .s ⟨#[]⟩])] [5] [] (o0) ?_
   refine awp_seq ?_
   refine jn [(4, .b (((n.1 == n.1) && ((n.2.1 == 0) && ((n.2.2.1 == 0) && ((n.2.2.2.1.toList == n.2.2.2.1.toList) && ((n.2.2.2.2.1 == 0) && ((n.2.2.2.2.2.1 == 0) && ((n.2.2.2.2.2.2.toList == (⟨#[]⟩ : ByteArray).toList) && true))))))) && (implIsValidAttrName n.2.2.2.1)))] [4] [] [] ((n.1 == n.1) && ((n.2.1 == 0) && ((n.2.2.1 == 0) && ((n.2.2.2.1.toList == n.2.2.2.1.toList) && ((n.2.2.2.2.1 == 0) && ((n.2.2.2.2.2.1 == 0) && ((n.2.2.2.2.2.2.toList == (⟨#[]⟩ : ByteArray).toList) && true))))))) (fun h3 => ?_) (fun h3 => ?_) ?_
   ·
    refine rk tt_ok [(4, .b (implIsValidAttrName n.2.2.2.1))] [4] [] [] [(2, .val (.b true)), (6, .val (.b (implIsValidAttrName n.2.2.2.1)))] (o2 (ob_eq (av_bool h3)) (o1 (ob_call (implIsValidAttrName_a n.2.2.2.1)))) ?_
    exact ⟨rfl, weak_fit (by rw [h3]; first | done | kernel_rfl)⟩
   ·
    refine rk tt_ok [] [] [] [] [(2, .val (.b false))] (o1 (ob_eq (av_bool h3))) ?_
    exact ⟨rfl, weak_fit (by rw [h3]; first | done | kernel_rfl)⟩
   refine awp_ret ?_
   exact pret [] (congrArg (fun z => (.b z : AV)) (show implIsValidNode n at_ = (((n.1 == n.1) && ((n.2.1 == 0) && ((n.2.2.1 == 0) && ((n.2.2.2.1.toList == n.2.2.2.1.toList) && ((n.2.2.2.2.1 == 0) && ((n.2.2.2.2.2.1 == 0) && ((n.2.2.2.2.2.2.toList == (⟨#[]⟩ : ByteArray).toList) && true))))))) && (implIsValidAttrName n.2.2.2.1)) from bif_f h1 (bif_t h2 (rfl))).symm)
  ·
   refine awp_seq ?_
   refine awp_seq ?_
   refine rk tt_ok [(26, .b (n.1 == (3 : Int)))] [13] [] [] [] (o0) ?_
   refine jn [(26, .b (bif (n.1 == (3 : Int)) then (n.1 == (3 : Int)) else (n.1 == (4 : Int))))] [26] [] [] (n.1 == (3 : Int)) (fun h4 => ?_) (fun h4 => ?_) ?_
   ·
    refine ckt h4 ?_
    refine awp_skip ?_
    exact ⟨rfl, weak_fit (by rw [h4]; first | done | kernel_rfl)⟩
   ·
    refine ckf h4 ?_
    refine rk tt_ok [(26, .b (n.1 == (4 : Int)))] [26] [] [] [] (o0) ?_
    exact ⟨rfl, weak_fit (by rw [h4]; first | done | kernel_rfl)⟩
   refine ck (bif (n.1 == (3 : Int)) then (n.1 == (3 : Int)) else (n.1 == (4 : Int))) (fun h5 => ?_) (fun h5 => ?_)
   ·
    refine awp_seq ?_
    refine rd' tt_ok tt_mx [] [1, 10, 26] [(5, [.i n.1, .i 0, .i 0, .s n.2.2.2.1, .i n.2.2.2.2.1, .i n.2.2.2.2.2.1, .s n.2.2.2.2.2.2])] [5] [] (o0) ?_
    refine awp_seq ?_
    refine jn [(4, .b (((n.1 == n.1) && ((n.2.1 == 0) && ((n.2.2.1 == 0) && ((n.2.2.2.1.toList == n.2.2.2.1.toList) && ((n.2.2.2.2.1 == n.2.2.2.2.1) && ((n.2.2.2.2.2.1 == n.2.2.2.2.2.1) && ((n.2.2.2.2.2.2.toList == n.2.2.2.2.2.2.toList) && true))))))) && ((implIsValidAttrName n.2.2.2.1) && ((implIsValidValue n.2.2.2.2) && ((n.2.2.2.2.1 != (0 : Int)) && ((n.1 == (3 : Int)) || (n.2.2.2.2.1 == (1 : Int))))))))] [4] [] [] ((n.1 == n.1) && ((n.2.1 == 0) && ((n.2.2.1 == 0) && ((n.2.2.2.1.toList == n.2.2.2.1.toList) && ((n.2.2.2.2.1 == n.2.2.2.2.1) && ((n.2.2.2.2.2.1 == n.2.2.2.2.2.1) && ((n.2.2.2.2.2.2.toList == n.2.2.2.2.2.2.toList) && true))))))) (fun h6 => ?_) (fun h6 => ?_) ?_
    ·
     refine awp_split (implIsValidAttrName n.2.2.2.1) (fun h7 => ?_) (fun h7 => ?_)
     ·
      refine awp_split (implIsValidValue n.2.2.2.2) (fun h8 => ?_) (fun h8 => ?_)
      ·
       refine awp_split (n.2.2.2.2.1 != (0 : Int)) (fun h9 => ?_) (fun h9 => ?_)
       ·
        refine awp_split (n.1 == (3 : Int)) (fun h10 => ?_) (fun h10 => ?_)
        ·
         refine rk tt_ok [(4, .b true)] [4] [] [] [(2, .val (.b true)), (6, .val (.b true)), (11, .val (.b true)), (17, .val (.b true)), (22, .val (.b true))] (o2 (ob_eq (av_bool h6)) (o2 (ob_call (cb h7 (implIsValidAttrName_a n.2.2.2.1))) (o2 (ob_call (cb h8 (implIsValidValue_a n.2.2.2.2))) (o2 (ob_eq (av_bool h9)) (o1 (ob_eq (av_bool h10))))))) ?_
         exact ⟨rfl, weak_fit (by rw [h6, h7, h8, h9, h10]; first | done | kernel_rfl)⟩
        ·
         refine rk tt_ok [(4, .b (n.2.2.2.2.1 == (1 : Int)))] [4] [] [] [(2, .val (.b true)), (6, .val (.b true)), (11, .val (.b true)), (17, .val (.b true)), (22, .val (.b false))] (o2 (ob_eq (av_bool h6)) (o2 (ob_call (cb h7 (implIsValidAttrName_a n.2.2.2.1))) (o2 (ob_call (cb h8 (implIsValidValue_a n.2.2.2.2))) (o2 (ob_eq (av_bool h9)) (o1 (ob_eq (av_bool h10))))))) ?_
         exact ⟨rfl, weak_fit (by rw [h6, h7, h8, h9, h10]; first | done | kernel_rfl)⟩
       ·
        refine rk tt_ok [] [] [] [] [(2, .val (.b true)), (6, .val (.b true)), (11, .val (.b true)), (17, .val (.b false))] (o2 (ob_eq (av_bool h6)) (o2 (ob_call (cb h7 (implIsValidAttrName_a n.2.2.2.1))) (o2 (ob_call (cb h8 (implIsValidValue_a n.2.2.2.2))) (o1 (ob_eq (av_bool h9)))))) ?_
        exact ⟨rfl, weak_fit (by rw [h6, h7, h8, h9]; first | done | kernel_rfl)⟩
      ·
       refine rk tt_ok [] [] [] [] [(2, .val (.b true)), (6, .val (.b true)), (11, .val (.b false))] (o2 (ob_eq (av_bool h6)) (o2 (ob_call (cb h7 (implIsValidAttrName_a n.2.2.2.1))) (o1 (ob_call (cb h8 (implIsValidValue_a n.2.2.2.2)))))) ?_
       exact ⟨rfl, weak_fit (by rw [h6, h7, h8]; first | done | kernel_rfl)⟩
     ·
      refine rk tt_ok [] [] [] [] [(2, .val (.b true)), (6, .val (.b false))] (o2 (ob_eq (av_bool h6)) (o1 (ob_call (cb h7 (implIsValidAttrName_a n.2.2.2.1))))) ?_
      exact ⟨rfl, weak_fit (by rw [h6, h7]; first | done | kernel_rfl)⟩
    ·
     refine rk tt_ok [] [] [] [] [(2, .val (.b false))] (o1 (ob_eq (av_bool h6))) ?_
     exact ⟨rfl, weak_fit (by rw [h6]; first | done | kernel_rfl)⟩
    refine awp_ret ?_
    exact pret [] (congrArg (fun z => (.b z : AV)) (show implIsValidNode n at_ = (((n.1 == n.1) && ((n.2.1 == 0) && ((n.2.2.1 == 0) && ((n.2.2.2.1.toList == n.2.2.2.1.toList) && ((n.2.2.2.2.1 == n.2.2.2.2.1) && ((n.2.2.2.2.2.1 == n.2.2.2.2.2.1) && ((n.2.2.2.2.2.2.toList == n.2.2.2.2.2.2.toList) && true))))))) && ((implIsValidAttrName n.2.2.2.1) && ((implIsValidValue n.2.2.2.2) && ((n.2.2.2.2.1 != (0 : Int)) && ((n.1 == (3 : Int)) || (n.2.2.2.2.1 == (1 : Int))))))) from bif_f h1 (bif_f h2 (bif_t h5 (rfl)))).symm)
   ·
    refine awp_seq ?_
    refine rk tt_ok [(65, .b (n.1 == (5 : Int)))] [26] [] [] [] (o0) ?_
    refine ck (n.1 == (5 : Int)) (fun h11 => ?_) (fun h11 => ?_)
    ·
     refine awp_seq ?_
     refine rk tt_ok [] [10, 65] [(5, [.i n.1, .i n.2.1, .i 0, .s ⟨#[]⟩, .i 0, .i 0, .s ⟨#[]⟩])] [5] [] (o0) ?_
     refine awp_seq ?_
     refine jn [(4, .b (((n.1 == n.1) && ((n.2.1 == n.2.1) && ((n.2.2.1 == 0) && ((n.2.2.2.1.toList == (⟨#[]⟩ : ByteArray).toList) && ((n.2.2.2.2.1 == 0) && ((n.2.2.2.2.2.1 == 0) && ((n.2.2.2.2.2.2.toList == (⟨#[]⟩ : ByteArray).toList) && true))))))) && (decide (at_ > (0 : Int)) && (implwithin n.2.1 0 (IntKind.i64.wrap (at_ - 1))))))] [1, 4] [] [] ((n.1 == n.1) && ((n.2.1 == n.2.1) && ((n.2.2.1 == 0) && ((n.2.2.2.1.toList == (⟨#[]⟩ : ByteArray).toList) && ((n.2.2.2.2.1 == 0) && ((n.2.2.2.2.2.1 == 0) && ((n.2.2.2.2.2.2.toList == (⟨#[]⟩ : ByteArray).toList) && true))))))) (fun h12 => ?_) (fun h12 => ?_) ?_
     ·
      refine awp_split (decide (at_ > (0 : Int))) (fun h13 => ?_) (fun h13 => ?_)
      ·
       refine rk tt_ok [(4, .b (implwithin n.2.1 0 (IntKind.i64.wrap (at_ - 1))))] [1, 4] [] [] [(2, .val (.b true)), (5, .val (.b true)), (12, .val (.b (implwithin n.2.1 0 (IntKind.i64.wrap (at_ - 1)))))] (o2 (ob_eq (av_bool h12)) (o2 (ob_eq (av_bool h13)) (o1 (ob_call (implwithin_a n.2.1 0 (IntKind.i64.wrap (at_ - 1))))))) ?_
       exact ⟨rfl, weak_fit (by rw [h12, h13]; first | done | kernel_rfl)⟩
      ·
       refine rk tt_ok [] [1] [] [] [(2, .val (.b true)), (5, .val (.b false))] (o2 (ob_eq (av_bool h12)) (o1 (ob_eq (av_bool h13)))) ?_
       exact ⟨rfl, weak_fit (by rw [h12, h13]; first | done | kernel_rfl)⟩
     ·
      refine rk tt_ok [] [1] [] [] [(2, .val (.b false))] (o1 (ob_eq (av_bool h12))) ?_
      exact ⟨rfl, weak_fit (by rw [h12]; first | done | kernel_rfl)⟩
     refine awp_ret ?_
     exact pret [] (congrArg (fun z => (.b z : AV)) (show implIsValidNode n at_ = (((n.1 == n.1) && ((n.2.1 == n.2.1) && ((n.2.2.1 == 0) && ((n.2.2.2.1.toList == (⟨#[]⟩ : ByteArray).toList) && ((n.2.2.2.2.1 == 0) && ((n.2.2.2.2.2.1 == 0) && ((n.2.2.2.2.2.2.toList == (⟨#[]⟩ : ByteArray).toList) && true))))))) && (decide (at_ > (0 : Int)) && (implwithin n.2.1 0 (IntKind.i64.wrap (at_ - 1))))) from bif_f h1 (bif_f h2 (bif_f h5 (bif_t h11 (rfl))))).symm)
    ·
     refine awp_seq ?_
     refine awp_seq ?_
     refine rk tt_ok [(84, .b (n.1 == (6 : Int)))] [65] [] [] [] (o0) ?_
     refine jn [(84, .b (bif (n.1 == (6 : Int)) then (n.1 == (6 : Int)) else (n.1 == (7 : Int))))] [84] [] [] (n.1 == (6 : Int)) (fun h14 => ?_) (fun h14 => ?_) ?_
     ·
      refine ckt h14 ?_
      refine awp_skip ?_
      exact ⟨rfl, weak_fit (by rw [h14]; first | done | kernel_rfl)⟩
     ·
      refine ckf h14 ?_
      refine rk tt_ok [(84, .b (n.1 == (7 : Int)))] [84] [] [] [] (o0) ?_
      exact ⟨rfl, weak_fit (by rw [h14]; first | done | kernel_rfl)⟩
     refine ck (bif (n.1 == (6 : Int)) then (n.1 == (6 : Int)) else (n.1 == (7 : Int))) (fun h15 => ?_) (fun h15 => ?_)
     ·
      refine awp_seq ?_
      refine rd' tt_ok tt_mx [] [10, 84] [(5, [.i n.1, .i n.2.1, .i n.2.2.1, .s ⟨#[]⟩, .i 0, .i 0, .s ⟨#[]⟩])] [5] [] (o0) ?_
      refine awp_seq ?_
      refine jn [(4, .b (((n.1 == n.1) && ((n.2.1 == n.2.1) && ((n.2.2.1 == n.2.2.1) && ((n.2.2.2.1.toList == (⟨#[]⟩ : ByteArray).toList) && ((n.2.2.2.2.1 == 0) && ((n.2.2.2.2.2.1 == 0) && ((n.2.2.2.2.2.2.toList == (⟨#[]⟩ : ByteArray).toList) && true))))))) && (decide (at_ > (0 : Int)) && ((implwithin n.2.1 0 (IntKind.i64.wrap (at_ - 1))) && (implwithin n.2.2.1 0 (IntKind.i64.wrap (at_ - 1)))))))] [1, 4] [] [] ((n.1 == n.1) && ((n.2.1 == n.2.1) && ((n.2.2.1 == n.2.2.1) && ((n.2.2.2.1.toList == (⟨#[]⟩ : ByteArray).toList) && ((n.2.2.2.2.1 == 0) && ((n.2.2.2.2.2.1 == 0) && ((n.2.2.2.2.2.2.toList == (⟨#[]⟩ : ByteArray).toList) && true))))))) (fun h16 => ?_) (fun h16 => ?_) ?_
      ·
       refine awp_split (decide (at_ > (0 : Int))) (fun h17 => ?_) (fun h17 => ?_)
       ·
        refine awp_split (implwithin n.2.1 0 (IntKind.i64.wrap (at_ - 1))) (fun h18 => ?_) (fun h18 => ?_)
        ·
         refine rk tt_ok [(4, .b (implwithin n.2.2.1 0 (IntKind.i64.wrap (at_ - 1))))] [1, 4] [] [] [(2, .val (.b true)), (5, .val (.b true)), (12, .val (.b true)), (19, .val (.b (implwithin n.2.2.1 0 (IntKind.i64.wrap (at_ - 1)))))] (o2 (ob_eq (av_bool h16)) (o2 (ob_eq (av_bool h17)) (o2 (ob_call (cb h18 (implwithin_a n.2.1 0 (IntKind.i64.wrap (at_ - 1))))) (o1 (ob_call (implwithin_a n.2.2.1 0 (IntKind.i64.wrap (at_ - 1)))))))) ?_
         exact ⟨rfl, weak_fit (by rw [h16, h17, h18]; first | done | kernel_rfl)⟩
        ·
         refine rk tt_ok [] [1] [] [] [(2, .val (.b true)), (5, .val (.b true)), (12, .val (.b false))] (o2 (ob_eq (av_bool h16)) (o2 (ob_eq (av_bool h17)) (o1 (ob_call (cb h18 (implwithin_a n.2.1 0 (IntKind.i64.wrap (at_ - 1)))))))) ?_
         exact ⟨rfl, weak_fit (by rw [h16, h17, h18]; first | done | kernel_rfl)⟩
       ·
        refine rk tt_ok [] [1] [] [] [(2, .val (.b true)), (5, .val (.b false))] (o2 (ob_eq (av_bool h16)) (o1 (ob_eq (av_bool h17)))) ?_
        exact ⟨rfl, weak_fit (by rw [h16, h17]; first | done | kernel_rfl)⟩
      ·
       refine rk tt_ok [] [1] [] [] [(2, .val (.b false))] (o1 (ob_eq (av_bool h16))) ?_
       exact ⟨rfl, weak_fit (by rw [h16]; first | done | kernel_rfl)⟩
      refine awp_ret ?_
      exact pret [] (congrArg (fun z => (.b z : AV)) (show implIsValidNode n at_ = (((n.1 == n.1) && ((n.2.1 == n.2.1) && ((n.2.2.1 == n.2.2.1) && ((n.2.2.2.1.toList == (⟨#[]⟩ : ByteArray).toList) && ((n.2.2.2.2.1 == 0) && ((n.2.2.2.2.2.1 == 0) && ((n.2.2.2.2.2.2.toList == (⟨#[]⟩ : ByteArray).toList) && true))))))) && (decide (at_ > (0 : Int)) && ((implwithin n.2.1 0 (IntKind.i64.wrap (at_ - 1))) && (implwithin n.2.2.1 0 (IntKind.i64.wrap (at_ - 1)))))) from bif_f h1 (bif_f h2 (bif_f h5 (bif_f h11 (bif_t h15 (rfl)))))).symm)
     ·
      refine awp_seq ?_
      refine awp_seq ?_
      refine rk tt_ok [(114, .b (n.1 == (8 : Int)))] [1, 84] [] [] [] (o0) ?_
      refine ck (n.1 == (8 : Int)) (fun h19 => ?_) (fun h19 => ?_)
      ·
       refine awp_skip ?_
       refine ckt h19 ?_
       refine awp_seq ?_
       refine rk tt_ok [] [10, 114] [(5, [.i n.1, .i 0, .i 0, .s n.2.2.2.1, .i 0, .i 0, .s ⟨#[]⟩])] [5] [] (o0) ?_
       refine awp_seq ?_
       refine jn [(4, .b (((n.1 == n.1) && ((n.2.1 == 0) && ((n.2.2.1 == 0) && ((n.2.2.2.1.toList == n.2.2.2.1.toList) && ((n.2.2.2.2.1 == 0) && ((n.2.2.2.2.2.1 == 0) && ((n.2.2.2.2.2.2.toList == (⟨#[]⟩ : ByteArray).toList) && true))))))) && (implIsValidString n.2.2.2.1)))] [4] [] [] ((n.1 == n.1) && ((n.2.1 == 0) && ((n.2.2.1 == 0) && ((n.2.2.2.1.toList == n.2.2.2.1.toList) && ((n.2.2.2.2.1 == 0) && ((n.2.2.2.2.2.1 == 0) && ((n.2.2.2.2.2.2.toList == (⟨#[]⟩ : ByteArray).toList) && true))))))) (fun h20 => ?_) (fun h20 => ?_) ?_
       ·
        refine rk tt_ok [(4, .b (implIsValidString n.2.2.2.1))] [4] [] [] [(2, .val (.b true)), (6, .val (.b (implIsValidString n.2.2.2.1)))] (o2 (ob_eq (av_bool h20)) (o1 (ob_call (implIsValidString_a n.2.2.2.1)))) ?_
        exact ⟨rfl, weak_fit (by rw [h20]; first | done | kernel_rfl)⟩
       ·
        refine rk tt_ok [] [] [] [] [(2, .val (.b false))] (o1 (ob_eq (av_bool h20))) ?_
        exact ⟨rfl, weak_fit (by rw [h20]; first | done | kernel_rfl)⟩
       refine awp_ret ?_
       exact pret [] (congrArg (fun z => (.b z : AV)) (show implIsValidNode n at_ = (((n.1 == n.1) && ((n.2.1 == 0) && ((n.2.2.1 == 0) && ((n.2.2.2.1.toList == n.2.2.2.1.toList) && ((n.2.2.2.2.1 == 0) && ((n.2.2.2.2.2.1 == 0) && ((n.2.2.2.2.2.2.toList == (⟨#[]⟩ : ByteArray).toList) && true))))))) && (implIsValidString n.2.2.2.1)) from bif_f h1 (bif_f h2 (bif_f h5 (bif_f h11 (bif_f h15 (bif_t h19 (rfl))))))).symm)
      ·
       refine rk tt_ok [(114, .b (n.1 == (9 : Int)))] [10, 114] [] [] [] (o0) ?_
       refine ck (n.1 == (9 : Int)) (fun h21 => ?_) (fun h21 => ?_)
       ·
        refine awp_seq ?_
        refine rk tt_ok [] [114] [(5, [.i n.1, .i 0, .i 0, .s n.2.2.2.1, .i 0, .i 0, .s ⟨#[]⟩])] [5] [] (o0) ?_
        refine awp_seq ?_
        refine jn [(4, .b (((n.1 == n.1) && ((n.2.1 == 0) && ((n.2.2.1 == 0) && ((n.2.2.2.1.toList == n.2.2.2.1.toList) && ((n.2.2.2.2.1 == 0) && ((n.2.2.2.2.2.1 == 0) && ((n.2.2.2.2.2.2.toList == (⟨#[]⟩ : ByteArray).toList) && true))))))) && (implIsValidString n.2.2.2.1)))] [4] [] [] ((n.1 == n.1) && ((n.2.1 == 0) && ((n.2.2.1 == 0) && ((n.2.2.2.1.toList == n.2.2.2.1.toList) && ((n.2.2.2.2.1 == 0) && ((n.2.2.2.2.2.1 == 0) && ((n.2.2.2.2.2.2.toList == (⟨#[]⟩ : ByteArray).toList) && true))))))) (fun h22 => ?_) (fun h22 => ?_) ?_
        ·
         refine rk tt_ok [(4, .b (implIsValidString n.2.2.2.1))] [4] [] [] [(2, .val (.b true)), (6, .val (.b (implIsValidString n.2.2.2.1)))] (o2 (ob_eq (av_bool h22)) (o1 (ob_call (implIsValidString_a n.2.2.2.1)))) ?_
         exact ⟨rfl, weak_fit (by rw [h22]; first | done | kernel_rfl)⟩
        ·
         refine rk tt_ok [] [] [] [] [(2, .val (.b false))] (o1 (ob_eq (av_bool h22))) ?_
         exact ⟨rfl, weak_fit (by rw [h22]; first | done | kernel_rfl)⟩
        refine awp_ret ?_
        exact pret [] (congrArg (fun z => (.b z : AV)) (show implIsValidNode n at_ = (((n.1 == n.1) && ((n.2.1 == 0) && ((n.2.2.1 == 0) && ((n.2.2.2.1.toList == n.2.2.2.1.toList) && ((n.2.2.2.2.1 == 0) && ((n.2.2.2.2.2.1 == 0) && ((n.2.2.2.2.2.2.toList == (⟨#[]⟩ : ByteArray).toList) && true))))))) && (implIsValidString n.2.2.2.1)) from bif_f h1 (bif_f h2 (bif_f h5 (bif_f h11 (bif_f h15 (bif_f h19 (bif_t h21 (rfl)))))))).symm)
       ·
        refine awp_seq ?_
        refine rk tt_ok [] [114] [] [] [] (o0) ?_
        refine awp_ret ?_
        exact pret [] (congrArg (fun z => (.b z : AV)) (show implIsValidNode n at_ = false from bif_f h1 (bif_f h2 (bif_f h5 (bif_f h11 (bif_f h15 (bif_f h19 (bif_f h21 (rfl)))))))).symm)
def implCountReferences_f0 (at_ : Int) (_ : Nat) (a0 : NodeD) (s0 : Int) : Rd (Int) (Int) (Int) := (bif ((a0.2.1 == at_) && (((a0.1 == (6 : Int)) || (a0.1 == (7 : Int))) || (a0.1 == (5 : Int)))) then (bif ((a0.2.2.1 == at_) && ((a0.1 == (6 : Int)) || (a0.1 == (7 : Int)))) then (.next (IntKind.i64.wrap (IntKind.i64.wrap (s0 + 1) + 1))) else (.next (IntKind.i64.wrap (s0 + 1)))) else (bif ((a0.2.2.1 == at_) && ((a0.1 == (6 : Int)) || (a0.1 == (7 : Int)))) then (.next (IntKind.i64.wrap (s0 + 1))) else (.next s0)))
def implCountReferences_e0 (_ : Nat) (s0 : Int) : Int := s0
def implCountReferences (q : (List NodeD)) (at_ : Int) : Int := (Out.on (forL (implCountReferences_f0 at_) implCountReferences_e0 q 0 0) (fun y0 => y0))
theorem implCountReferences_a (q : (List NodeD)) (at_ : Int) : ACalls Tryz.prog 224 [.h q, .i at_] (.i (implCountReferences q at_)) := by
 refine acalls_of (tt := tt) tt_ok Tryz.func224 (fn := Tryz.f224) rfl (by unfold FnOk; kernel_rfl) (Nat.le_of_ble_eq_true rfl) fun w0 F0 => ?_
 refine awp_seq ?_
 refine rk tt_ok [(4, .i 0)] [] [] [] [] (o0) ?_
 refine awp_seq ?_
 refine rk tt_ok [(5, .i 0)] [] [] [] [] (o0) ?_
 refine awp_seq ?_
 refine awp_seq ?_
 refine rk tt_ok [(9, .h q), (10, .i (q.length : Int)), (11, .i 0)] [0] [] [] [(1, .val (.i (q.length : Int)))] (o1 (ob_eq (av_len q))) ?_
 refine wdT 9 0 .sh q (fun hw1 => ?_)
 have hl2 : List.length q ≤ 1073741824 := wide_len (hw1)
 refine blk (fun (k0 : Nat) (s0 : Int) => [(5, .i s0), (11, .i ((k0 : Nat) : Int))]) [5, 11] (fun k0 s0 => []) [] (fun (y0 : Int) => [(5, .i y0)]) [1, 5, 9, 10, 11] (fun y0 => []) [] (fun (k0 : Nat) (s0 : Int) => (forL (implCountReferences_f0 at_) implCountReferences_e0 q 0 0) = forL (implCountReferences_f0 at_) implCountReferences_e0 (List.drop k0 q) k0 s0) (fun (y0 : Int) => (forL (implCountReferences_f0 at_) implCountReferences_e0 q 0 0) = .brk y0) q.length 0 (weak_fit (by kernel_rfl)) rfl (fun k0 s0 hk0 hI0 => ?_) (fun k0 s0 hk0 hI0 => ?_) (fun y0 hD0 => ?_)
 ·
  obtain ⟨a0, hx0⟩ := get_some (l := q) (i := k0) hk0
  refine awp_seq ?_
  refine rk tt_ok [(12, .b true)] [] [] [] [(0, .val (.b true))] (o1 (ob_eq (av_bool (decide_eq_true (p := ((k0 : Nat) : Int) < (q.length : Int)) (by omega))))) ?_
  refine awp_seq ?_
  refine ckT ?_
  refine awp_skip ?_
  refine awp_seq ?_
  refine awp_block ?_
  refine awp_seq ?_
  refine rk tt_ok [(7, .p 7 0)] [12] [(7, [.i a0.1, .i a0.2.1, .i a0.2.2.1, .s a0.2.2.2.1, .i a0.2.2.2.2.1, .i a0.2.2.2.2.2.1, .s a0.2.2.2.2.2.2])] [] [(0, .row [.i a0.1, .i a0.2.1, .i a0.2.2.1, .s a0.2.2.2.1, .i a0.2.2.2.2.1, .i a0.2.2.2.2.2.1, .s a0.2.2.2.2.2.2])] (o1 (ob_elem (el_of (i := ((k0 : Nat) : Int)) (by omega) rfl hx0))) ?_
  refine awp_seq ?_
  refine jn [(8, .b ((a0.1 == (6 : Int)) || (a0.1 == (7 : Int))))] [] [] [] (a0.1 == (6 : Int)) (fun h3 => ?_) (fun h3 => ?_) ?_
  ·
   refine rk tt_ok [(8, .b true)] [] [] [] [(2, .val (.b true))] (o1 (ob_eq (av_bool h3))) ?_
   exact ⟨rfl, weak_fit (by rw [h3]; first | done | kernel_rfl)⟩
  ·
   refine rk tt_ok [(8, .b (a0.1 == (7 : Int)))] [] [] [] [(2, .val (.b false))] (o1 (ob_eq (av_bool h3))) ?_
   exact ⟨rfl, weak_fit (by rw [h3]; first | done | kernel_rfl)⟩
  refine awp_seq ?_
  refine awp_seq ?_
  refine jn [(34, .b ((a0.2.1 == at_) && (((a0.1 == (6 : Int)) || (a0.1 == (7 : Int))) || (a0.1 == (5 : Int)))))] [] [] [] (a0.2.1 == at_) (fun h4 => ?_) (fun h4 => ?_) ?_
  ·
   refine awp_split ((a0.1 == (6 : Int)) || (a0.1 == (7 : Int))) (fun h5 => ?_) (fun h5 => ?_)
   ·
    refine rk tt_ok [(34, .b true)] [] [] [] [(3, .val (.b true)), (5, .val (.b true))] (o2 (ob_eq (av_bool h4)) (o1 (ob_eq (av_bool h5)))) ?_
    exact ⟨rfl, weak_fit (by rw [h4, h5]; first | done | kernel_rfl)⟩
   ·
    refine rk tt_ok [(34, .b (a0.1 == (5 : Int)))] [] [] [] [(3, .val (.b true)), (5, .val (.b false))] (o2 (ob_eq (av_bool h4)) (o1 (ob_eq (av_bool h5)))) ?_
    exact ⟨rfl, weak_fit (by rw [h4, h5]; first | done | kernel_rfl)⟩
  ·
   refine rk tt_ok [(34, .b false)] [] [] [] [(3, .val (.b false))] (o1 (ob_eq (av_bool h4))) ?_
   exact ⟨rfl, weak_fit (by rw [h4]; first | done | kernel_rfl)⟩
  refine ck ((a0.2.1 == at_) && (((a0.1 == (6 : Int)) || (a0.1 == (7 : Int))) || (a0.1 == (5 : Int)))) (fun h6 => ?_) (fun h6 => ?_)
  ·
   have h6l : ((a0.2.1 == at_)) = true := and_l h6
   have h6ld := eq_of_beq h6l
   refine rk tt_ok [(5, .i (IntKind.i64.wrap (s0 + 1)))] [5, 34] [] [] [] (o0) ?_
   refine awp_seq ?_
   refine jn [(43, .b ((a0.2.2.1 == at_) && ((a0.1 == (6 : Int)) || (a0.1 == (7 : Int)))))] [7, 8] [] [7] (a0.2.2.1 == at_) (fun h7 => ?_) (fun h7 => ?_) ?_
   ·
    refine rk tt_ok [(43, .b ((a0.1 == (6 : Int)) || (a0.1 == (7 : Int))))] [7, 8] [] [7] [(3, .val (.b true))] (o1 (ob_eq (av_bool h7))) ?_
    exact ⟨rfl, weak_fit (by rw [h7]; first | done | kernel_rfl)⟩
   ·
    refine rk tt_ok [(43, .b false)] [7, 8] [] [7] [(3, .val (.b false))] (o1 (ob_eq (av_bool h7))) ?_
    exact ⟨rfl, weak_fit (by rw [h7]; first | done | kernel_rfl)⟩
   refine ck ((a0.2.2.1 == at_) && ((a0.1 == (6 : Int)) || (a0.1 == (7 : Int)))) (fun h8 => ?_) (fun h8 => ?_)
   ·
    have h8l : ((a0.2.2.1 == at_)) = true := and_l h8
    have h8ld := eq_of_beq h8l
    refine rk tt_ok [(5, .i (IntKind.i64.wrap (IntKind.i64.wrap (s0 + 1) + 1)))] [5, 43] [] [] [] (o0) ?_
    refine rk tt_ok [(11, .i ((k0 + 1 : Nat) : Int))] [11] [] [] [(0, .val (.i ((k0 + 1 : Nat) : Int)))] (o1 (ob_eq (av_i (wrap_succ k0 (by omega))))) ?_
    exact Exists.intro (IntKind.i64.wrap (IntKind.i64.wrap (s0 + 1) + 1)) (And.intro (weak_fit (by kernel_rfl)) (forL_next hx0 (bif_t h6 (bif_t h8 (rfl))) hI0))
   ·
    refine awp_skip ?_
    refine rk tt_ok [(11, .i ((k0 + 1 : Nat) : Int))] [11, 43] [] [] [(0, .val (.i ((k0 + 1 : Nat) : Int)))] (o1 (ob_eq (av_i (wrap_succ k0 (by omega))))) ?_
    exact Exists.intro (IntKind.i64.wrap (s0 + 1)) (And.intro (weak_fit (by kernel_rfl)) (forL_next hx0 (bif_t h6 (bif_f h8 (rfl))) hI0))
  ·
   refine awp_skip ?_
   refine awp_seq ?_
   refine jn [(43, .b ((a0.2.2.1 == at_) && ((a0.1 == (6 : Int)) || (a0.1 == (7 : Int)))))] [7, 8, 34] [] [7] (a0.2.2.1 == at_) (fun h9 => ?_) (fun h9 => ?_) ?_
   ·
    refine rk tt_ok [(43, .b ((a0.1 == (6 : Int)) || (a0.1 == (7 : Int))))] [7, 8, 34] [] [7] [(3, .val (.b true))] (o1 (ob_eq (av_bool h9))) ?_
    exact ⟨rfl, weak_fit (by rw [h9]; first | done | kernel_rfl)⟩
   ·
    refine rk tt_ok [(43, .b false)] [7, 8, 34] [] [7] [(3, .val (.b false))] (o1 (ob_eq (av_bool h9))) ?_
    exact ⟨rfl, weak_fit (by rw [h9]; first | done | kernel_rfl)⟩
   refine ck ((a0.2.2.1 == at_) && ((a0.1 == (6 : Int)) || (a0.1 == (7 : Int)))) (fun h10 => ?_) (fun h10 => ?_)
   ·
    have h10l : ((a0.2.2.1 == at_)) = true := and_l h10
    have h10ld := eq_of_beq h10l
    refine rk tt_ok [(5, .i (IntKind.i64.wrap (s0 + 1)))] [5, 43] [] [] [] (o0) ?_
    refine rk tt_ok [(11, .i ((k0 + 1 : Nat) : Int))] [11] [] [] [(0, .val (.i ((k0 + 1 : Nat) : Int)))] (o1 (ob_eq (av_i (wrap_succ k0 (by omega))))) ?_
    exact Exists.intro (IntKind.i64.wrap (s0 + 1)) (And.intro (weak_fit (by kernel_rfl)) (forL_next hx0 (bif_f h6 (bif_t h10 (rfl))) hI0))
   ·
    refine awp_skip ?_
    refine rk tt_ok [(11, .i ((k0 + 1 : Nat) : Int))] [11, 43] [] [] [(0, .val (.i ((k0 + 1 : Nat) : Int)))] (o1 (ob_eq (av_i (wrap_succ k0 (by omega))))) ?_
    exact Exists.intro s0 (And.intro (weak_fit (by kernel_rfl)) (forL_next hx0 (bif_f h6 (bif_f h10 (rfl))) hI0))
 ·
  refine awp_seq ?_
  refine rk tt_ok [(12, .b false)] [] [] [] [(0, .val (.b false))] (o1 (ob_eq (av_bool (decide_eq_false (p := ((k0 : Nat) : Int) < (q.length : Int)) (by omega))))) ?_
  refine awp_seq ?_
  refine ckF ?_
  refine awp_exit ?_
  exact Exists.intro s0 (And.intro (weak_fit (by kernel_rfl)) (forL_end hk0 (rfl) hI0))
 ·
  refine awp_seq ?_
  refine rk tt_ok [(4, .i y0)] [4, 5] [] [] [] (o0) ?_
  refine awp_ret ?_
  exact pret [] (congrArg (fun z => (.i z : AV)) (show implCountReferences q at_ = y0 from on_b hD0 (rfl)).symm)
def implIsValidQuery_f0 (q : (List NodeD)) (k0 : Nat) (a0 : NodeD) (_ : Unit) : Rd (Bool) (Unit) (Unit) := (bif ((!(implIsValidNode a0 ((k0 : Nat) : Int))) || (decide (((k0 : Nat) : Int) < ((q.length : Int) - 1)) && ((implCountReferences q ((k0 : Nat) : Int)) != (1 : Int)))) then (.ret false) else (.next ()))
def implIsValidQuery_e0 (_ : Nat) (_ : Unit) : Unit := ()
def implIsValidQuery (q : (List NodeD)) : Bool := (Out.on (forL (implIsValidQuery_f0 q) implIsValidQuery_e0 q 0 ()) (fun _ => (implwithin (q.length : Int) 1 9)))
theorem implIsValidQuery_a (q : (List NodeD)) : ACalls Tryz.prog 215 [.h q] (.b (implIsValidQuery q)) := by
 refine acalls_of (tt := tt) tt_ok Tryz.func215 (fn := Tryz.f215) rfl (by unfold FnOk; kernel_rfl) (Nat.le_of_ble_eq_true rfl) fun w0 F0 => ?_
 refine awp_seq ?_
 refine rk tt_ok [(2, .b false)] [] [] [] [] (o0) ?_
 refine awp_seq ?_
 refine awp_seq ?_
 refine rk tt_ok [(5, .h q), (6, .i (q.length : Int)), (7, .i 0)] [] [] [] [(1, .val (.i (q.length : Int)))] (o1 (ob_eq (av_len q))) ?_
 refine wdT 0 0 .sh q (fun hw1 => ?_)
 have hl2 : List.length q ≤ 1073741824 := wide_len (hw1)
 refine blk (fun (k0 : Nat) (s0 : Unit) => [(7, .i ((k0 : Nat) : Int))]) [7] (fun k0 s0 => []) [] (fun (y0 : Unit) => []) [5, 6, 7] (fun y0 => []) [] (fun (k0 : Nat) (s0 : Unit) => (forL (implIsValidQuery_f0 q) implIsValidQuery_e0 q 0 ()) = forL (implIsValidQuery_f0 q) implIsValidQuery_e0 (List.drop k0 q) k0 s0) (fun (y0 : Unit) => (forL (implIsValidQuery_f0 q) implIsValidQuery_e0 q 0 ()) = .brk y0) q.length () (weak_fit (by kernel_rfl)) rfl (fun k0 s0 hk0 hI0 => ?_) (fun k0 s0 hk0 hI0 => ?_) (fun y0 hD0 => ?_)
 ·
  obtain ⟨a0, hx0⟩ := get_some (l := q) (i := k0) hk0
  refine awp_seq ?_
  refine rk tt_ok [(8, .b true)] [] [] [] [(0, .val (.b true))] (o1 (ob_eq (av_bool (decide_eq_true (p := ((k0 : Nat) : Int) < (q.length : Int)) (by omega))))) ?_
  refine awp_seq ?_
  refine ckT ?_
  refine awp_skip ?_
  refine awp_seq ?_
  refine awp_block ?_
  refine awp_seq ?_
  refine rk tt_ok [(3, .i ((k0 : Nat) : Int)), (4, .p 4 0)] [8] [(4, [.i a0.1, .i a0.2.1, .i a0.2.2.1, .s a0.2.2.2.1, .i a0.2.2.2.2.1, .i a0.2.2.2.2.2.1, .s a0.2.2.2.2.2.2])] [] [(1, .row [.i a0.1, .i a0.2.1, .i a0.2.2.1, .s a0.2.2.2.1, .i a0.2.2.2.2.1, .i a0.2.2.2.2.2.1, .s a0.2.2.2.2.2.2])] (o1 (ob_elem (el_of (i := ((k0 : Nat) : Int)) (by omega) rfl hx0))) ?_
  refine awp_seq ?_
  refine jn [(28, .b ((!(implIsValidNode a0 ((k0 : Nat) : Int))) || (decide (((k0 : Nat) : Int) < ((q.length : Int) - 1)) && ((implCountReferences q ((k0 : Nat) : Int)) != (1 : Int)))))] [3, 4] [] [4] (!(implIsValidNode a0 ((k0 : Nat) : Int))) (fun h3 => ?_) (fun h3 => ?_) ?_
  ·
   have h3n : (implIsValidNode a0 ((k0 : Nat) : Int)) = false := bnot_t h3
   refine rk tt_ok [(28, .b true)] [3, 4] [] [4] [(2, .val (.b false)), (3, .val (.b true))] (o2 (ob_call (cb h3n (implIsValidNode_a a0 ((k0 : Nat) : Int)))) (o1 (ob_eq (show .b (!false) = .b true from rfl)))) ?_
   exact ⟨rfl, weak_fit (by rw [h3]; first | done | kernel_rfl)⟩
  ·
   have h3n : (implIsValidNode a0 ((k0 : Nat) : Int)) = true := bnot_f h3
   refine awp_split (decide (((k0 : Nat) : Int) < ((q.length : Int) - 1))) (fun h4 => ?_) (fun h4 => ?_)
   ·
    have h4d := of_decide_eq_true h4
    refine rk tt_ok [(28, .b ((implCountReferences q ((k0 : Nat) : Int)) != (1 : Int)))] [3, 4] [] [4] [(2, .val (.b true)), (3, .val (.b false)), (7, .val (.i (q.length : Int))), (8, .val (.i ((q.length : Int) - 1))), (9, .val (.b true)), (13, .val (.i (implCountReferences q ((k0 : Nat) : Int))))] (o2 (ob_call (cb h3n (implIsValidNode_a a0 ((k0 : Nat) : Int)))) (o2 (ob_eq (show .b (!true) = .b false from rfl)) (o2 (ob_eq (av_len q)) (o2 (ob_eq (av_i (IntWalk.i64_in ((q.length : Int) - 1) (by omega)))) (o2 (ob_eq (av_bool h4)) (o1 (ob_call (implCountReferences_a q ((k0 : Nat) : Int))))))))) ?_
    exact ⟨rfl, weak_fit (by rw [h3, h4]; first | done | kernel_rfl)⟩
   ·
    have h4d := of_decide_eq_false h4
    refine rk tt_ok [(28, .b false)] [3, 4] [] [4] [(2, .val (.b true)), (3, .val (.b false)), (7, .val (.i (q.length : Int))), (8, .val (.i ((q.length : Int) - 1))), (9, .val (.b false))] (o2 (ob_call (cb h3n (implIsValidNode_a a0 ((k0 : Nat) : Int)))) (o2 (ob_eq (show .b (!true) = .b false from rfl)) (o2 (ob_eq (av_len q)) (o2 (ob_eq (av_i (IntWalk.i64_in ((q.length : Int) - 1) (by omega)))) (o1 (ob_eq (av_bool h4))))))) ?_
    exact ⟨rfl, weak_fit (by rw [h3, h4]; first | done | kernel_rfl)⟩
  refine ck ((!(implIsValidNode a0 ((k0 : Nat) : Int))) || (decide (((k0 : Nat) : Int) < ((q.length : Int) - 1)) && ((implCountReferences q ((k0 : Nat) : Int)) != (1 : Int)))) (fun h5 => ?_) (fun h5 => ?_)
  ·
   refine awp_seq ?_
   refine rk tt_ok [] [28] [] [] [] (o0) ?_
   refine awp_ret ?_
   have hr6 : (forL (implIsValidQuery_f0 q) implIsValidQuery_e0 q 0 ()) = .ret false := forL_ret hx0 (bif_t h5 (rfl)) hI0
   exact pret [] (congrArg (fun z => (.b z : AV)) (show implIsValidQuery q = false from on_r hr6).symm)
  ·
   refine awp_skip ?_
   refine rk tt_ok [(7, .i ((k0 + 1 : Nat) : Int))] [7, 28] [] [] [(0, .val (.i ((k0 + 1 : Nat) : Int)))] (o1 (ob_eq (av_i (wrap_succ k0 (by omega))))) ?_
   exact Exists.intro () (And.intro (weak_fit (by kernel_rfl)) (forL_next hx0 (bif_f h5 (rfl)) hI0))
 ·
  refine awp_seq ?_
  refine rk tt_ok [(8, .b false)] [] [] [] [(0, .val (.b false))] (o1 (ob_eq (av_bool (decide_eq_false (p := ((k0 : Nat) : Int) < (q.length : Int)) (by omega))))) ?_
  refine awp_seq ?_
  refine ckF ?_
  refine awp_exit ?_
  exact Exists.intro () (And.intro (weak_fit (by kernel_rfl)) (forL_end hk0 (rfl) hI0))
 ·
  refine awp_seq ?_
  refine rk tt_ok [(2, .b (implwithin (q.length : Int) 1 9))] [0, 2] [] [] [(1, .val (.i (q.length : Int))), (2, .val (.b (implwithin (q.length : Int) 1 9)))] (o2 (ob_eq (av_len q)) (o1 (ob_call (implwithin_a (q.length : Int) 1 9)))) ?_
  refine awp_ret ?_
  exact pret [] (congrArg (fun z => (.b z : AV)) (show implIsValidQuery q = (implwithin (q.length : Int) 1 9) from on_b hD0 (rfl)).symm)
def specl01In (x : Int) (least : Int) (most : Int) : Bool := (decide (x ≥ least) && decide (x ≤ most))
theorem specl01In_a (x : Int) (least : Int) (most : Int) : ACalls Tryz.prog 86 [.i x, .i least, .i most] (.b (specl01In x least most)) := by
 refine acalls_of (tt := tt) tt_ok Tryz.func86 (fn := Tryz.f86) rfl (by unfold FnOk; kernel_rfl) (Nat.le_of_ble_eq_true rfl) fun w0 F0 => ?_
 refine awp_seq ?_
 refine rk tt_ok [(6, .b false)] [] [] [] [] (o0) ?_
 refine awp_seq ?_
 refine jn [(6, .b (decide (x ≥ least) && decide (x ≤ most)))] [0, 1, 2, 6] [] [] (decide (x ≥ least)) (fun h1 => ?_) (fun h1 => ?_) ?_
 ·
  refine rk tt_ok [(6, .b (decide (x ≤ most)))] [0, 1, 2, 6] [] [] [(2, .val (.b true))] (o1 (ob_eq (av_bool h1))) ?_
  exact ⟨rfl, weak_fit (by rw [h1]; first | done | kernel_rfl)⟩
 ·
  refine rk tt_ok [] [0, 1, 2] [] [] [(2, .val (.b false))] (o1 (ob_eq (av_bool h1))) ?_
  exact ⟨rfl, weak_fit (by rw [h1]; first | done | kernel_rfl)⟩
 refine awp_ret ?_
 exact pret [] (congrArg (fun z => (.b z : AV)) (show specl01In x least most = (decide (x ≥ least) && decide (x ≤ most)) from rfl).symm)
def specl02Text_f0 (s_ : ByteArray) (k0 : Nat) (_ : Unit) : Rd (Bool) (Unit) (Unit) := (bif (decide (strAt s_ ((k0 : Nat) : Int) < (97 : Int)) || decide (strAt s_ ((k0 : Nat) : Int) > (122 : Int))) then (.ret false) else (.next ()))
def specl02Text_e0 (_ : Nat) (_ : Unit) : Unit := ()
def specl02Text (s_ : ByteArray) (most : Int) : Bool := (Out.on (forN (specl02Text_f0 s_) specl02Text_e0 (Int.toNat (ByteArray.size s_ : Int)) 0 ()) (fun _ => (specl01In (ByteArray.size s_ : Int) 1 most)))
theorem specl02Text_a (s_ : ByteArray) (most : Int) : ACalls Tryz.prog 194 [.s s_, .i most] (.b (specl02Text s_ most)) := by
 refine acalls_of (tt := tt) tt_ok Tryz.func194 (fn := Tryz.f194) rfl (by unfold FnOk; kernel_rfl) (Nat.le_of_ble_eq_true rfl) fun w0 F0 => ?_
 refine awp_seq ?_
 refine rk tt_ok [(4, .b false)] [] [] [] [] (o0) ?_
 refine awp_seq ?_
 refine awp_seq ?_
 refine rk tt_ok [(5, .i 0)] [] [] [] [] (o0) ?_
 refine stT 0 0 s_ (fun hs1 => ?_)
 refine blk (fun (k0 : Nat) (s0 : Unit) => [(5, .i ((k0 : Nat) : Int))]) [5] (fun k0 s0 => []) [] (fun (y0 : Unit) => []) [5] (fun y0 => []) [] (fun (k0 : Nat) (s0 : Unit) => (forN (specl02Text_f0 s_) specl02Text_e0 (Int.toNat (ByteArray.size s_ : Int)) 0 ()) = forN (specl02Text_f0 s_) specl02Text_e0 ((Int.toNat (ByteArray.size s_ : Int)) - k0) k0 s0) (fun (y0 : Unit) => (forN (specl02Text_f0 s_) specl02Text_e0 (Int.toNat (ByteArray.size s_ : Int)) 0 ()) = .brk y0) (Int.toNat (ByteArray.size s_ : Int)) () (weak_fit (by kernel_rfl)) rfl (fun k0 s0 hk0 hI0 => ?_) (fun k0 s0 hk0 hI0 => ?_) (fun y0 hD0 => ?_)
 ·
  refine awp_seq ?_
  refine awp_seq ?_
  refine rk tt_ok [(9, .b true)] [] [] [] [(3, .val (.b true))] (o1 (ob_eq (av_bool (decide_eq_true (p := ((k0 : Nat) : Int) < (ByteArray.size s_ : Int)) (by omega))))) ?_
  refine ckT ?_
  refine awp_skip ?_
  refine awp_seq ?_
  refine awp_block ?_
  refine awp_seq ?_
  refine jn [(21, .b (decide (strAt s_ ((k0 : Nat) : Int) < (97 : Int)) || decide (strAt s_ ((k0 : Nat) : Int) > (122 : Int))))] [9] [] [] (decide (strAt s_ ((k0 : Nat) : Int) < (97 : Int))) (fun h2 => ?_) (fun h2 => ?_) ?_
  ·
   have h2d := of_decide_eq_true h2
   refine rk tt_ok [(21, .b true)] [9] [] [] [(3, .val (.b true))] (o2 (ob_idx (i := ((k0 : Nat) : Int)) (n := (ByteArray.size s_)) (by omega)) (o1 (ob_eq (av_bool h2)))) ?_
   exact ⟨rfl, weak_fit (by rw [h2]; first | done | kernel_rfl)⟩
  ·
   have h2d := of_decide_eq_false h2
   refine rk tt_ok [(21, .b (decide (strAt s_ ((k0 : Nat) : Int) > (122 : Int))))] [9] [] [] [(3, .val (.b false))] (o2 (ob_idx (i := ((k0 : Nat) : Int)) (n := (ByteArray.size s_)) (by omega)) (o2 (ob_eq (av_bool h2)) (o1 (ob_idx (i := ((k0 : Nat) : Int)) (n := (ByteArray.size s_)) (by omega))))) ?_
   exact ⟨rfl, weak_fit (by rw [h2]; first | done | kernel_rfl)⟩
  refine ck (decide (strAt s_ ((k0 : Nat) : Int) < (97 : Int)) || decide (strAt s_ ((k0 : Nat) : Int) > (122 : Int))) (fun h3 => ?_) (fun h3 => ?_)
  ·
   refine awp_seq ?_
   refine rk tt_ok [] [21] [] [] [] (o0) ?_
   refine awp_ret ?_
   have hr4 : (forN (specl02Text_f0 s_) specl02Text_e0 (Int.toNat (ByteArray.size s_ : Int)) 0 ()) = .ret false := forN_ret hk0 (bif_t h3 (rfl)) hI0
   exact pret [] (congrArg (fun z => (.b z : AV)) (show specl02Text s_ most = false from on_r hr4).symm)
  ·
   have h3l : (decide (strAt s_ ((k0 : Nat) : Int) < (97 : Int))) = false := or_l h3
   have h3ld := of_decide_eq_false h3l
   have h3r : (decide (strAt s_ ((k0 : Nat) : Int) > (122 : Int))) = false := or_r h3
   have h3rd := of_decide_eq_false h3r
   refine awp_skip ?_
   refine rk tt_ok [(5, .i ((k0 + 1 : Nat) : Int))] [5, 21] [] [] [(1, .val (.i ((k0 + 1 : Nat) : Int)))] (o1 (ob_eq (av_i (wrap_succ k0 (by omega))))) ?_
   exact Exists.intro () (And.intro (weak_fit (by kernel_rfl)) (forN_next hk0 (bif_f h3 (rfl)) hI0))
 ·
  refine awp_seq ?_
  refine awp_seq ?_
  refine rk tt_ok [(9, .b false)] [] [] [] [(3, .val (.b false))] (o1 (ob_eq (av_bool (decide_eq_false (p := ((k0 : Nat) : Int) < (ByteArray.size s_ : Int)) (by omega))))) ?_
  refine ckF ?_
  refine awp_exit ?_
  exact Exists.intro () (And.intro (weak_fit (by kernel_rfl)) (forN_end hk0 (rfl) hI0))
 ·
  refine awp_seq ?_
  refine rk tt_ok [(4, .b (specl01In (ByteArray.size s_ : Int) 1 most))] [0, 1, 4] [] [] [(3, .val (.b (specl01In (ByteArray.size s_ : Int) 1 most)))] (o1 (ob_call (specl01In_a (ByteArray.size s_ : Int) 1 most))) ?_
  refine awp_ret ?_
  exact pret [] (congrArg (fun z => (.b z : AV)) (show specl02Text s_ most = (specl01In (ByteArray.size s_ : Int) 1 most) from on_b hD0 (rfl)).symm)
def specIsValidAttrName (s_ : ByteArray) : Bool := (specl02Text s_ 1)
theorem specIsValidAttrName_a (s_ : ByteArray) : ACalls Tryz.prog 167 [.s s_] (.b (specIsValidAttrName s_)) := by
 refine acalls_of (tt := tt) tt_ok Tryz.func167 (fn := Tryz.f167) rfl (by unfold FnOk; kernel_rfl) (Nat.le_of_ble_eq_true rfl) fun w0 F0 => ?_
 refine awp_seq ?_
 refine rk tt_ok [(2, .b false)] [] [] [] [] (o0) ?_
 refine awp_seq ?_
 refine rk tt_ok [(2, .b (specl02Text s_ 1))] [0, 2] [] [] [(1, .val (.b (specl02Text s_ 1)))] (o1 (ob_call (specl02Text_a s_ 1))) ?_
 refine awp_ret ?_
 exact pret [] (congrArg (fun z => (.b z : AV)) (show specIsValidAttrName s_ = (specl02Text s_ 1) from rfl).symm)
def specIsValidString (s_ : ByteArray) : Bool := (specl02Text s_ 6)
theorem specIsValidString_a (s_ : ByteArray) : ACalls Tryz.prog 208 [.s s_] (.b (specIsValidString s_)) := by
 refine acalls_of (tt := tt) tt_ok Tryz.func208 (fn := Tryz.f208) rfl (by unfold FnOk; kernel_rfl) (Nat.le_of_ble_eq_true rfl) fun w0 F0 => ?_
 refine awp_seq ?_
 refine rk tt_ok [(2, .b false)] [] [] [] [] (o0) ?_
 refine awp_seq ?_
 refine rk tt_ok [(2, .b (specl02Text s_ 6))] [0, 2] [] [] [(1, .val (.b (specl02Text s_ 6)))] (o1 (ob_call (specl02Text_a s_ 6))) ?_
 refine awp_ret ?_
 exact pret [] (congrArg (fun z => (.b z : AV)) (show specIsValidString s_ = (specl02Text s_ 6) from rfl).symm)
def specIsValidValue (v : ValueD) : Bool := (bif (v.1 == (0 : Int)) then ((v.1 == 0) && ((v.2.1 == 0) && ((v.2.2.toList == (⟨#[]⟩ : ByteArray).toList) && true))) else (bif (v.1 == (1 : Int)) then ((specl01In v.2.1 0 999) && (v.2.2.toList == (⟨#[]⟩ : ByteArray).toList)) else (bif (v.1 == (2 : Int)) then ((specIsValidString v.2.2) && (v.2.1 == (0 : Int))) else false)))
theorem specIsValidValue_a (v : ValueD) : ACalls Tryz.prog 192 [.a [.i v.1, .i v.2.1, .s v.2.2]] (.b (specIsValidValue v)) := by
 refine acalls_of (tt := tt) tt_ok Tryz.func192 (fn := Tryz.f192) rfl (by unfold FnOk; kernel_rfl) (Nat.le_of_ble_eq_true rfl) fun w0 F0 => ?_
 refine awp_seq ?_
 refine rk tt_ok [(1, .p 1 0), (2, .b false)] [0] [(1, [.i v.1, .i v.2.1, .s v.2.2])] [] [] (o0) ?_
 refine awp_seq ?_
 refine awp_seq ?_
 refine rk tt_ok [(4, .i v.1)] [] [] [] [] (o0) ?_
 refine awp_block ?_
 refine awp_seq ?_
 refine rk tt_ok [(5, .b (v.1 == (0 : Int)))] [] [] [] [] (o0) ?_
 refine ck (v.1 == (0 : Int)) (fun h1 => ?_) (fun h1 => ?_)
 ·
  refine awp_seq ?_
  refine rk tt_ok [(2, .b ((v.1 == 0) && ((v.2.1 == 0) && ((v.2.2.toList == (⟨#[]⟩ : ByteArray).toList) && true))))] [1, 2, 4, 5] [] [1] [] (o0) ?_
  refine awp_ret ?_
  exact pret [] (congrArg (fun z => (.b z : AV)) (show specIsValidValue v = ((v.1 == 0) && ((v.2.1 == 0) && ((v.2.2.toList == (⟨#[]⟩ : ByteArray).toList) && true))) from bif_t h1 (rfl)).symm)
 ·
  refine awp_seq ?_
  refine rk tt_ok [(10, .b (v.1 == (1 : Int)))] [5] [] [] [] (o0) ?_
  refine ck (v.1 == (1 : Int)) (fun h2 => ?_) (fun h2 => ?_)
  ·
   refine awp_seq ?_
   refine jn [(2, .b ((specl01In v.2.1 0 999) && (v.2.2.toList == (⟨#[]⟩ : ByteArray).toList)))] [1, 2, 4, 10] [] [1] (specl01In v.2.1 0 999) (fun h3 => ?_) (fun h3 => ?_) ?_
   ·
    refine rk tt_ok [(2, .b (v.2.2.toList == (⟨#[]⟩ : ByteArray).toList))] [1, 2, 4, 10] [] [1] [(2, .val (.b true))] (o1 (ob_call (cb h3 (specl01In_a v.2.1 0 999)))) ?_
    exact ⟨rfl, weak_fit (by rw [h3]; first | done | kernel_rfl)⟩
   ·
    refine rk tt_ok [] [1, 4, 10] [] [1] [(2, .val (.b false))] (o1 (ob_call (cb h3 (specl01In_a v.2.1 0 999)))) ?_
    exact ⟨rfl, weak_fit (by rw [h3]; first | done | kernel_rfl)⟩
   refine awp_ret ?_
   exact pret [] (congrArg (fun z => (.b z : AV)) (show specIsValidValue v = ((specl01In v.2.1 0 999) && (v.2.2.toList == (⟨#[]⟩ : ByteArray).toList)) from bif_f h1 (bif_t h2 (rfl))).symm)
  ·
   refine awp_seq ?_
   refine rk tt_ok [(20, .b (v.1 == (2 : Int)))] [4, 10] [] [] [] (o0) ?_
   refine ck (v.1 == (2 : Int)) (fun h4 => ?_) (fun h4 => ?_)
   ·
    refine awp_seq ?_
    refine jn [(2, .b ((specIsValidString v.2.2) && (v.2.1 == (0 : Int))))] [1, 2, 20] [] [1] (specIsValidString v.2.2) (fun h5 => ?_) (fun h5 => ?_) ?_
    ·
     refine rk tt_ok [(2, .b (v.2.1 == (0 : Int)))] [1, 2, 20] [] [1] [(2, .val (.b true))] (o1 (ob_call (cb h5 (specIsValidString_a v.2.2)))) ?_
     exact ⟨rfl, weak_fit (by rw [h5]; first | done | kernel_rfl)⟩
    ·
     refine rk tt_ok [] [1, 20] [] [1] [(2, .val (.b false))] (o1 (ob_call (cb h5 (specIsValidString_a v.2.2)))) ?_
     exact ⟨rfl, weak_fit (by rw [h5]; first | done | kernel_rfl)⟩
    refine awp_ret ?_
    exact pret [] (congrArg (fun z => (.b z : AV)) (show specIsValidValue v = ((specIsValidString v.2.2) && (v.2.1 == (0 : Int))) from bif_f h1 (bif_f h2 (bif_t h4 (rfl)))).symm)
   ·
    refine awp_skip ?_
    refine awp_seq ?_
    refine rk tt_ok [] [1, 20] [] [1] [] (o0) ?_
    refine awp_ret ?_
    exact pret [] (congrArg (fun z => (.b z : AV)) (show specIsValidValue v = false from bif_f h1 (bif_f h2 (bif_f h4 (rfl)))).symm)
def specIsValidNode (n : NodeD) (at_ : Int) : Bool := (bif (n.1 == (1 : Int)) then ((n.1 == 1) && ((n.2.1 == 0) && ((n.2.2.1 == 0) && ((n.2.2.2.1.toList == (⟨#[]⟩ : ByteArray).toList) && ((n.2.2.2.2.1 == 0) && ((n.2.2.2.2.2.1 == 0) && ((n.2.2.2.2.2.2.toList == (⟨#[]⟩ : ByteArray).toList) && true))))))) else (bif (n.1 == (2 : Int)) then ((specIsValidAttrName n.2.2.2.1) && ((n.1 == n.1) && ((n.2.1 == 0) && ((n.2.2.1 == 0) && ((n.2.2.2.1.toList == n.2.2.2.1.toList) && ((n.2.2.2.2.1 == 0) && ((n.2.2.2.2.2.1 == 0) && ((n.2.2.2.2.2.2.toList == (⟨#[]⟩ : ByteArray).toList) && true)))))))) else (bif (n.1 == (3 : Int)) then ((specIsValidAttrName n.2.2.2.1) && ((specIsValidValue n.2.2.2.2) && ((n.2.2.2.2.1 != (0 : Int)) && ((n.2.1 == (0 : Int)) && (n.2.2.1 == (0 : Int)))))) else (bif (n.1 == (4 : Int)) then ((specIsValidAttrName n.2.2.2.1) && ((specIsValidValue n.2.2.2.2) && ((n.2.2.2.2.1 == (1 : Int)) && ((n.2.1 == (0 : Int)) && (n.2.2.1 == (0 : Int)))))) else (bif (n.1 == (5 : Int)) then (((specl01In n.2.1 0 (IntKind.i64.wrap (at_ - 1))) && decide (at_ > (0 : Int))) && ((n.2.2.1 == (0 : Int)) && ((n.2.2.2.1.toList == (⟨#[]⟩ : ByteArray).toList) && ((n.2.2.2.2.1 == 0) && ((n.2.2.2.2.2.1 == 0) && ((n.2.2.2.2.2.2.toList == (⟨#[]⟩ : ByteArray).toList) && true)))))) else (bif (bif (n.1 == (6 : Int)) then (n.1 == (6 : Int)) else (n.1 == (7 : Int))) then ((((specl01In n.2.1 0 (IntKind.i64.wrap (at_ - 1))) && decide (at_ > (0 : Int))) && (specl01In n.2.2.1 0 (IntKind.i64.wrap (at_ - 1)))) && ((n.2.2.2.1.toList == (⟨#[]⟩ : ByteArray).toList) && ((n.2.2.2.2.1 == 0) && ((n.2.2.2.2.2.1 == 0) && ((n.2.2.2.2.2.2.toList == (⟨#[]⟩ : ByteArray).toList) && true))))) else (bif (n.1 == (8 : Int)) then ((specIsValidString n.2.2.2.1) && ((n.1 == n.1) && ((n.2.1 == 0) && ((n.2.2.1 == 0) && ((n.2.2.2.1.toList == n.2.2.2.1.toList) && ((n.2.2.2.2.1 == 0) && ((n.2.2.2.2.2.1 == 0) && ((n.2.2.2.2.2.2.toList == (⟨#[]⟩ : ByteArray).toList) && true)))))))) else (bif (n.1 == (9 : Int)) then ((specIsValidString n.2.2.2.1) && ((n.1 == n.1) && ((n.2.1 == 0) && ((n.2.2.1 == 0) && ((n.2.2.2.1.toList == n.2.2.2.1.toList) && ((n.2.2.2.2.1 == 0) && ((n.2.2.2.2.2.1 == 0) && ((n.2.2.2.2.2.2.toList == (⟨#[]⟩ : ByteArray).toList) && true)))))))) else false))))))))
theorem specIsValidNode_a (n : NodeD) (at_ : Int) : ACalls Tryz.prog 219 [.a [.i n.1, .i n.2.1, .i n.2.2.1, .s n.2.2.2.1, .i n.2.2.2.2.1, .i n.2.2.2.2.2.1, .s n.2.2.2.2.2.2], .i at_] (.b (specIsValidNode n at_)) := by
 refine acalls_of (tt := tt) tt_ok Tryz.func219 (fn := Tryz.f219) rfl (by unfold FnOk; kernel_rfl) (Nat.le_of_ble_eq_true rfl) fun w0 F0 => ?_
 refine awp_seq ?_
 refine rk tt_ok [(2, .p 2 0), (4, .b false)] [0] [(2, [.i n.1, .i n.2.1, .i n.2.2.1, .s n.2.2.2.1, .i n.2.2.2.2.1, .i n.2.2.2.2.2.1, .s n.2.2.2.2.2.2])] [] [] (o0) ?_
 refine awp_seq ?_
 refine jn [(5, .b ((specl01In n.2.1 0 (IntKind.i64.wrap (at_ - 1))) && decide (at_ > (0 : Int))))] [] [] [] (specl01In n.2.1 0 (IntKind.i64.wrap (at_ - 1))) (fun h1 => ?_) (fun h1 => ?_) ?_
 ·
  refine rk tt_ok [(5, .b (decide (at_ > (0 : Int))))] [] [] [] [(4, .val (.b true))] (o1 (ob_call (cb h1 (specl01In_a n.2.1 0 (IntKind.i64.wrap (at_ - 1)))))) ?_
  exact ⟨rfl, weak_fit (by rw [h1]; first | done | kernel_rfl)⟩
 ·
  refine rk tt_ok [(5, .b false)] [] [] [] [(4, .val (.b false))] (o1 (ob_call (cb h1 (specl01In_a n.2.1 0 (IntKind.i64.wrap (at_ - 1)))))) ?_
  exact ⟨rfl, weak_fit (by rw [h1]; first | done | kernel_rfl)⟩
 refine awp_seq ?_
 refine jn [(6, .b (((specl01In n.2.1 0 (IntKind.i64.wrap (at_ - 1))) && decide (at_ > (0 : Int))) && (specl01In n.2.2.1 0 (IntKind.i64.wrap (at_ - 1)))))] [1] [] [] ((specl01In n.2.1 0 (IntKind.i64.wrap (at_ - 1))) && decide (at_ > (0 : Int))) (fun h2 => ?_) (fun h2 => ?_) ?_
 ·
  refine rk tt_ok [(6, .b (specl01In n.2.2.1 0 (IntKind.i64.wrap (at_ - 1))))] [1] [] [] [(0, .val (.b true)), (6, .val (.b (specl01In n.2.2.1 0 (IntKind.i64.wrap (at_ - 1)))))] (o2 (ob_eq (av_bool h2)) (o1 (ob_call (specl01In_a n.2.2.1 0 (IntKind.i64.wrap (at_ - 1)))))) ?_
  exact ⟨rfl, weak_fit (by rw [h2]; first | done | kernel_rfl)⟩
 ·
  refine rk tt_ok [(6, .b false)] [1] [] [] [(0, .val (.b false))] (o1 (ob_eq (av_bool h2))) ?_
  exact ⟨rfl, weak_fit (by rw [h2]; first | done | kernel_rfl)⟩
 refine awp_seq ?_
 refine awp_seq ?_
 refine rk tt_ok [(25, .i n.1)] [] [] [] [] (o0) ?_
 refine awp_block ?_
 refine awp_seq ?_
 refine rk tt_ok [(26, .b (n.1 == (1 : Int)))] [] [] [] [] (o0) ?_
 refine ck (n.1 == (1 : Int)) (fun h3 => ?_) (fun h3 => ?_)
 ·
  refine awp_seq ?_
  refine rk tt_ok [(4, .b ((n.1 == 1) && ((n.2.1 == 0) && ((n.2.2.1 == 0) && ((n.2.2.2.1.toList == (⟨#[]⟩ : ByteArray).toList) && ((n.2.2.2.2.1 == 0) && ((n.2.2.2.2.2.1 == 0) && ((n.2.2.2.2.2.2.toList == (⟨#[]⟩ : ByteArray).toList) && true))))))))] [2, 4, 5, 6, 25, 26] [] [2] [] (o0) ?_
  refine awp_ret ?_
  exact pret [] (congrArg (fun z => (.b z : AV)) (show specIsValidNode n at_ = ((n.1 == 1) && ((n.2.1 == 0) && ((n.2.2.1 == 0) && ((n.2.2.2.1.toList == (⟨#[]⟩ : ByteArray).toList) && ((n.2.2.2.2.1 == 0) && ((n.2.2.2.2.2.1 == 0) && ((n.2.2.2.2.2.2.toList == (⟨#[]⟩ : ByteArray).toList) && true))))))) from bif_t h3 (rfl)).symm)
 ·
  refine awp_seq ?_
  refine rk tt_ok [(31, .b (n.1 == (2 : Int)))] [26] [] [] [] (o0) ?_
  refine ck (n.1 == (2 : Int)) (fun h4 => ?_) (fun h4 => ?_)
  ·
   refine awp_seq ?_
   refine jn [(4, .b ((specIsValidAttrName n.2.2.2.1) && ((n.1 == n.1) && ((n.2.1 == 0) && ((n.2.2.1 == 0) && ((n.2.2.2.1.toList == n.2.2.2.1.toList) && ((n.2.2.2.2.1 == 0) && ((n.2.2.2.2.2.1 == 0) && ((n.2.2.2.2.2.2.toList == (⟨#[]⟩ : ByteArray).toList) && true)))))))))] [2, 4, 5, 6, 25, 31] [] [2] (specIsValidAttrName n.2.2.2.1) (fun h5 => ?_) (fun h5 => ?_) ?_
   ·
    refine rk tt_ok [(4, .b ((n.1 == n.1) && ((n.2.1 == 0) && ((n.2.2.1 == 0) && ((n.2.2.2.1.toList == n.2.2.2.1.toList) && ((n.2.2.2.2.1 == 0) && ((n.2.2.2.2.2.1 == 0) && ((n.2.2.2.2.2.2.toList == (⟨#[]⟩ : ByteArray).toList) && true))))))))] [2, 4, 5, 6, 25, 31] [] [2] [(2, .val (.b true))] (o1 (ob_call (cb h5 (specIsValidAttrName_a n.2.2.2.1)))) ?_
    exact ⟨rfl, weak_fit (by rw [h5]; first | done | kernel_rfl)⟩
   ·
    refine rk tt_ok [] [2, 5, 6, 25, 31] [] [2] [(2, .val (.b false))] (o1 (ob_call (cb h5 (specIsValidAttrName_a n.2.2.2.1)))) ?_
    exact ⟨rfl, weak_fit (by rw [h5]; first | done | kernel_rfl)⟩
   refine awp_ret ?_
   exact pret [] (congrArg (fun z => (.b z : AV)) (show specIsValidNode n at_ = ((specIsValidAttrName n.2.2.2.1) && ((n.1 == n.1) && ((n.2.1 == 0) && ((n.2.2.1 == 0) && ((n.2.2.2.1.toList == n.2.2.2.1.toList) && ((n.2.2.2.2.1 == 0) && ((n.2.2.2.2.2.1 == 0) && ((n.2.2.2.2.2.2.toList == (⟨#[]⟩ : ByteArray).toList) && true)))))))) from bif_f h3 (bif_t h4 (rfl))).symm)
  ·
   refine awp_seq ?_
   refine rk tt_ok [(45, .b (n.1 == (3 : Int)))] [31] [] [] [] (o0) ?_
   refine ck (n.1 == (3 : Int)) (fun h6 => ?_) (fun h6 => ?_)
   ·
    refine awp_seq ?_
    refine jn [(4, .b ((specIsValidAttrName n.2.2.2.1) && ((specIsValidValue n.2.2.2.2) && ((n.2.2.2.2.1 != (0 : Int)) && ((n.2.1 == (0 : Int)) && (n.2.2.1 == (0 : Int)))))))] [2, 4, 5, 6, 25, 45] [] [2] (specIsValidAttrName n.2.2.2.1) (fun h7 => ?_) (fun h7 => ?_) ?_
    ·
     refine awp_split (specIsValidValue n.2.2.2.2) (fun h8 => ?_) (fun h8 => ?_)
     ·
      refine awp_split (n.2.2.2.2.1 != (0 : Int)) (fun h9 => ?_) (fun h9 => ?_)
      ·
       refine awp_split (n.2.1 == (0 : Int)) (fun h10 => ?_) (fun h10 => ?_)
       ·
        refine rk tt_ok [(4, .b (n.2.2.1 == (0 : Int)))] [2, 4, 5, 6, 25, 45] [] [2] [(2, .val (.b true)), (6, .val (.b true)), (12, .val (.b true)), (17, .val (.b true))] (o2 (ob_call (cb h7 (specIsValidAttrName_a n.2.2.2.1))) (o2 (ob_call (cb h8 (specIsValidValue_a n.2.2.2.2))) (o2 (ob_eq (av_bool h9)) (o1 (ob_eq (av_bool h10)))))) ?_
        exact ⟨rfl, weak_fit (by rw [h7, h8, h9, h10]; first | done | kernel_rfl)⟩
       ·
        refine rk tt_ok [] [2, 5, 6, 25, 45] [] [2] [(2, .val (.b true)), (6, .val (.b true)), (12, .val (.b true)), (17, .val (.b false))] (o2 (ob_call (cb h7 (specIsValidAttrName_a n.2.2.2.1))) (o2 (ob_call (cb h8 (specIsValidValue_a n.2.2.2.2))) (o2 (ob_eq (av_bool h9)) (o1 (ob_eq (av_bool h10)))))) ?_
        exact ⟨rfl, weak_fit (by rw [h7, h8, h9, h10]; first | done | kernel_rfl)⟩
      ·
       refine rk tt_ok [] [2, 5, 6, 25, 45] [] [2] [(2, .val (.b true)), (6, .val (.b true)), (12, .val (.b false))] (o2 (ob_call (cb h7 (specIsValidAttrName_a n.2.2.2.1))) (o2 (ob_call (cb h8 (specIsValidValue_a n.2.2.2.2))) (o1 (ob_eq (av_bool h9))))) ?_
       exact ⟨rfl, weak_fit (by rw [h7, h8, h9]; first | done | kernel_rfl)⟩
     ·
      refine rk tt_ok [] [2, 5, 6, 25, 45] [] [2] [(2, .val (.b true)), (6, .val (.b false))] (o2 (ob_call (cb h7 (specIsValidAttrName_a n.2.2.2.1))) (o1 (ob_call (cb h8 (specIsValidValue_a n.2.2.2.2))))) ?_
      exact ⟨rfl, weak_fit (by rw [h7, h8]; first | done | kernel_rfl)⟩
    ·
     refine rk tt_ok [] [2, 5, 6, 25, 45] [] [2] [(2, .val (.b false))] (o1 (ob_call (cb h7 (specIsValidAttrName_a n.2.2.2.1)))) ?_
     exact ⟨rfl, weak_fit (by rw [h7]; first | done | kernel_rfl)⟩
    refine awp_ret ?_
    exact pret [] (congrArg (fun z => (.b z : AV)) (show specIsValidNode n at_ = ((specIsValidAttrName n.2.2.2.1) && ((specIsValidValue n.2.2.2.2) && ((n.2.2.2.2.1 != (0 : Int)) && ((n.2.1 == (0 : Int)) && (n.2.2.1 == (0 : Int)))))) from bif_f h3 (bif_f h4 (bif_t h6 (rfl)))).symm)
   ·
    refine awp_seq ?_
    refine rk tt_ok [(71, .b (n.1 == (4 : Int)))] [45] [] [] [] (o0) ?_
    refine ck (n.1 == (4 : Int)) (fun h11 => ?_) (fun h11 => ?_)
    ·
     refine awp_seq ?_
     refine jn [(4, .b ((specIsValidAttrName n.2.2.2.1) && ((specIsValidValue n.2.2.2.2) && ((n.2.2.2.2.1 == (1 : Int)) && ((n.2.1 == (0 : Int)) && (n.2.2.1 == (0 : Int)))))))] [2, 4, 5, 6, 25, 71] [] [2] (specIsValidAttrName n.2.2.2.1) (fun h12 => ?_) (fun h12 => ?_) ?_
     ·
      refine awp_split (specIsValidValue n.2.2.2.2) (fun h13 => ?_) (fun h13 => ?_)
      ·
       refine awp_split (n.2.2.2.2.1 == (1 : Int)) (fun h14 => ?_) (fun h14 => ?_)
       ·
        refine awp_split (n.2.1 == (0 : Int)) (fun h15 => ?_) (fun h15 => ?_)
        ·
         refine rk tt_ok [(4, .b (n.2.2.1 == (0 : Int)))] [2, 4, 5, 6, 25, 71] [] [2] [(2, .val (.b true)), (6, .val (.b true)), (12, .val (.b true)), (17, .val (.b true))] (o2 (ob_call (cb h12 (specIsValidAttrName_a n.2.2.2.1))) (o2 (ob_call (cb h13 (specIsValidValue_a n.2.2.2.2))) (o2 (ob_eq (av_bool h14)) (o1 (ob_eq (av_bool h15)))))) ?_
         exact ⟨rfl, weak_fit (by rw [h12, h13, h14, h15]; first | done | kernel_rfl)⟩
        ·
         refine rk tt_ok [] [2, 5, 6, 25, 71] [] [2] [(2, .val (.b true)), (6, .val (.b true)), (12, .val (.b true)), (17, .val (.b false))] (o2 (ob_call (cb h12 (specIsValidAttrName_a n.2.2.2.1))) (o2 (ob_call (cb h13 (specIsValidValue_a n.2.2.2.2))) (o2 (ob_eq (av_bool h14)) (o1 (ob_eq (av_bool h15)))))) ?_
         exact ⟨rfl, weak_fit (by rw [h12, h13, h14, h15]; first | done | kernel_rfl)⟩
       ·
        refine rk tt_ok [] [2, 5, 6, 25, 71] [] [2] [(2, .val (.b true)), (6, .val (.b true)), (12, .val (.b false))] (o2 (ob_call (cb h12 (specIsValidAttrName_a n.2.2.2.1))) (o2 (ob_call (cb h13 (specIsValidValue_a n.2.2.2.2))) (o1 (ob_eq (av_bool h14))))) ?_
        exact ⟨rfl, weak_fit (by rw [h12, h13, h14]; first | done | kernel_rfl)⟩
      ·
       refine rk tt_ok [] [2, 5, 6, 25, 71] [] [2] [(2, .val (.b true)), (6, .val (.b false))] (o2 (ob_call (cb h12 (specIsValidAttrName_a n.2.2.2.1))) (o1 (ob_call (cb h13 (specIsValidValue_a n.2.2.2.2))))) ?_
       exact ⟨rfl, weak_fit (by rw [h12, h13]; first | done | kernel_rfl)⟩
     ·
      refine rk tt_ok [] [2, 5, 6, 25, 71] [] [2] [(2, .val (.b false))] (o1 (ob_call (cb h12 (specIsValidAttrName_a n.2.2.2.1)))) ?_
      exact ⟨rfl, weak_fit (by rw [h12]; first | done | kernel_rfl)⟩
     refine awp_ret ?_
     exact pret [] (congrArg (fun z => (.b z : AV)) (show specIsValidNode n at_ = ((specIsValidAttrName n.2.2.2.1) && ((specIsValidValue n.2.2.2.2) && ((n.2.2.2.2.1 == (1 : Int)) && ((n.2.1 == (0 : Int)) && (n.2.2.1 == (0 : Int)))))) from bif_f h3 (bif_f h4 (bif_f h6 (bif_t h11 (rfl))))).symm)
    ·
     refine awp_seq ?_
     refine rk tt_ok [(97, .b (n.1 == (5 : Int)))] [71] [] [] [] (o0) ?_
     refine ck (n.1 == (5 : Int)) (fun h16 => ?_) (fun h16 => ?_)
     ·
      refine awp_seq ?_
      refine jn [(4, .b (((specl01In n.2.1 0 (IntKind.i64.wrap (at_ - 1))) && decide (at_ > (0 : Int))) && ((n.2.2.1 == (0 : Int)) && ((n.2.2.2.1.toList == (⟨#[]⟩ : ByteArray).toList) && ((n.2.2.2.2.1 == 0) && ((n.2.2.2.2.2.1 == 0) && ((n.2.2.2.2.2.2.toList == (⟨#[]⟩ : ByteArray).toList) && true)))))))] [2, 4, 5, 6, 25, 97] [] [2] ((specl01In n.2.1 0 (IntKind.i64.wrap (at_ - 1))) && decide (at_ > (0 : Int))) (fun h17 => ?_) (fun h17 => ?_) ?_
      ·
       refine awp_split (n.2.2.1 == (0 : Int)) (fun h18 => ?_) (fun h18 => ?_)
       ·
        refine awp_split (n.2.2.2.1.toList == (⟨#[]⟩ : ByteArray).toList) (fun h19 => ?_) (fun h19 => ?_)
        ·
         refine rk tt_ok [(4, .b ((n.2.2.2.2.1 == 0) && ((n.2.2.2.2.2.1 == 0) && ((n.2.2.2.2.2.2.toList == (⟨#[]⟩ : ByteArray).toList) && true))))] [2, 4, 5, 6, 25, 97] [] [2] [(0, .val (.b true)), (4, .val (.b true)), (9, .val (.b true))] (o2 (ob_eq (av_bool h17)) (o2 (ob_eq (av_bool h18)) (o1 (ob_eq (av_bool h19))))) ?_
         exact ⟨rfl, weak_fit (by rw [h17, h18, h19]; first | done | kernel_rfl)⟩
        ·
         refine rk tt_ok [] [2, 5, 6, 25, 97] [] [2] [(0, .val (.b true)), (4, .val (.b true)), (9, .val (.b false))] (o2 (ob_eq (av_bool h17)) (o2 (ob_eq (av_bool h18)) (o1 (ob_eq (av_bool h19))))) ?_
         exact ⟨rfl, weak_fit (by rw [h17, h18, h19]; first | done | kernel_rfl)⟩
       ·
        refine rk tt_ok [] [2, 5, 6, 25, 97] [] [2] [(0, .val (.b true)), (4, .val (.b false))] (o2 (ob_eq (av_bool h17)) (o1 (ob_eq (av_bool h18)))) ?_
        exact ⟨rfl, weak_fit (by rw [h17, h18]; first | done | kernel_rfl)⟩
      ·
       refine rk tt_ok [] [2, 5, 6, 25, 97] [] [2] [(0, .val (.b false))] (o1 (ob_eq (av_bool h17))) ?_
       exact ⟨rfl, weak_fit (by rw [h17]; first | done | kernel_rfl)⟩
      refine awp_ret ?_
      exact pret [] (congrArg (fun z => (.b z : AV)) (show specIsValidNode n at_ = (((specl01In n.2.1 0 (IntKind.i64.wrap (at_ - 1))) && decide (at_ > (0 : Int))) && ((n.2.2.1 == (0 : Int)) && ((n.2.2.2.1.toList == (⟨#[]⟩ : ByteArray).toList) && ((n.2.2.2.2.1 == 0) && ((n.2.2.2.2.2.1 == 0) && ((n.2.2.2.2.2.2.toList == (⟨#[]⟩ : ByteArray).toList) && true)))))) from bif_f h3 (bif_f h4 (bif_f h6 (bif_f h11 (bif_t h16 (rfl)))))).symm)
     ·
      refine awp_seq ?_
      refine awp_seq ?_
      refine rk tt_ok [(116, .b (n.1 == (6 : Int)))] [5, 97] [] [] [] (o0) ?_
      refine jn [(116, .b (bif (n.1 == (6 : Int)) then (n.1 == (6 : Int)) else (n.1 == (7 : Int))))] [116] [] [] (n.1 == (6 : Int)) (fun h20 => ?_) (fun h20 => ?_) ?_
      ·
       refine ckt h20 ?_
       refine awp_skip ?_
       exact ⟨rfl, weak_fit (by rw [h20]; first | done | kernel_rfl)⟩
      ·
       refine ckf h20 ?_
       refine rk tt_ok [(116, .b (n.1 == (7 : Int)))] [116] [] [] [] (o0) ?_
       exact ⟨rfl, weak_fit (by rw [h20]; first | done | kernel_rfl)⟩
      refine ck (bif (n.1 == (6 : Int)) then (n.1 == (6 : Int)) else (n.1 == (7 : Int))) (fun h21 => ?_) (fun h21 => ?_)
      ·
       refine awp_seq ?_
       refine jn [(4, .b ((((specl01In n.2.1 0 (IntKind.i64.wrap (at_ - 1))) && decide (at_ > (0 : Int))) && (specl01In n.2.2.1 0 (IntKind.i64.wrap (at_ - 1)))) && ((n.2.2.2.1.toList == (⟨#[]⟩ : ByteArray).toList) && ((n.2.2.2.2.1 == 0) && ((n.2.2.2.2.2.1 == 0) && ((n.2.2.2.2.2.2.toList == (⟨#[]⟩ : ByteArray).toList) && true))))))] [2, 4, 6, 25, 116] [] [2] (((specl01In n.2.1 0 (IntKind.i64.wrap (at_ - 1))) && decide (at_ > (0 : Int))) && (specl01In n.2.2.1 0 (IntKind.i64.wrap (at_ - 1)))) (fun h22 => ?_) (fun h22 => ?_) ?_
       ·
        refine awp_split (n.2.2.2.1.toList == (⟨#[]⟩ : ByteArray).toList) (fun h23 => ?_) (fun h23 => ?_)
        ·
         refine rk tt_ok [(4, .b ((n.2.2.2.2.1 == 0) && ((n.2.2.2.2.2.1 == 0) && ((n.2.2.2.2.2.2.toList == (⟨#[]⟩ : ByteArray).toList) && true))))] [2, 4, 6, 25, 116] [] [2] [(0, .val (.b true)), (4, .val (.b true))] (o2 (ob_eq (av_bool h22)) (o1 (ob_eq (av_bool h23)))) ?_
         exact ⟨rfl, weak_fit (by rw [h22, h23]; first | done | kernel_rfl)⟩
        ·
         refine rk tt_ok [] [2, 6, 25, 116] [] [2] [(0, .val (.b true)), (4, .val (.b false))] (o2 (ob_eq (av_bool h22)) (o1 (ob_eq (av_bool h23)))) ?_
         exact ⟨rfl, weak_fit (by rw [h22, h23]; first | done | kernel_rfl)⟩
       ·
        refine rk tt_ok [] [2, 6, 25, 116] [] [2] [(0, .val (.b false))] (o1 (ob_eq (av_bool h22))) ?_
        exact ⟨rfl, weak_fit (by rw [h22]; first | done | kernel_rfl)⟩
       refine awp_ret ?_
       exact pret [] (congrArg (fun z => (.b z : AV)) (show specIsValidNode n at_ = ((((specl01In n.2.1 0 (IntKind.i64.wrap (at_ - 1))) && decide (at_ > (0 : Int))) && (specl01In n.2.2.1 0 (IntKind.i64.wrap (at_ - 1)))) && ((n.2.2.2.1.toList == (⟨#[]⟩ : ByteArray).toList) && ((n.2.2.2.2.1 == 0) && ((n.2.2.2.2.2.1 == 0) && ((n.2.2.2.2.2.2.toList == (⟨#[]⟩ : ByteArray).toList) && true))))) from bif_f h3 (bif_f h4 (bif_f h6 (bif_f h11 (bif_f h16 (bif_t h21 (rfl))))))).symm)
      ·
       refine awp_seq ?_
       refine awp_seq ?_
       refine rk tt_ok [(131, .b (n.1 == (8 : Int)))] [6, 116] [] [] [] (o0) ?_
       refine ck (n.1 == (8 : Int)) (fun h24 => ?_) (fun h24 => ?_)
       ·
        refine awp_skip ?_
        refine ckt h24 ?_
        refine awp_seq ?_
        refine jn [(4, .b ((specIsValidString n.2.2.2.1) && ((n.1 == n.1) && ((n.2.1 == 0) && ((n.2.2.1 == 0) && ((n.2.2.2.1.toList == n.2.2.2.1.toList) && ((n.2.2.2.2.1 == 0) && ((n.2.2.2.2.2.1 == 0) && ((n.2.2.2.2.2.2.toList == (⟨#[]⟩ : ByteArray).toList) && true)))))))))] [2, 4, 25, 131] [] [2] (specIsValidString n.2.2.2.1) (fun h25 => ?_) (fun h25 => ?_) ?_
        ·
         refine rk tt_ok [(4, .b ((n.1 == n.1) && ((n.2.1 == 0) && ((n.2.2.1 == 0) && ((n.2.2.2.1.toList == n.2.2.2.1.toList) && ((n.2.2.2.2.1 == 0) && ((n.2.2.2.2.2.1 == 0) && ((n.2.2.2.2.2.2.toList == (⟨#[]⟩ : ByteArray).toList) && true))))))))] [2, 4, 25, 131] [] [2] [(2, .val (.b true))] (o1 (ob_call (cb h25 (specIsValidString_a n.2.2.2.1)))) ?_
         exact ⟨rfl, weak_fit (by rw [h25]; first | done | kernel_rfl)⟩
        ·
         refine rk tt_ok [] [2, 25, 131] [] [2] [(2, .val (.b false))] (o1 (ob_call (cb h25 (specIsValidString_a n.2.2.2.1)))) ?_
         exact ⟨rfl, weak_fit (by rw [h25]; first | done | kernel_rfl)⟩
        refine awp_ret ?_
        exact pret [] (congrArg (fun z => (.b z : AV)) (show specIsValidNode n at_ = ((specIsValidString n.2.2.2.1) && ((n.1 == n.1) && ((n.2.1 == 0) && ((n.2.2.1 == 0) && ((n.2.2.2.1.toList == n.2.2.2.1.toList) && ((n.2.2.2.2.1 == 0) && ((n.2.2.2.2.2.1 == 0) && ((n.2.2.2.2.2.2.toList == (⟨#[]⟩ : ByteArray).toList) && true)))))))) from bif_f h3 (bif_f h4 (bif_f h6 (bif_f h11 (bif_f h16 (bif_f h21 (bif_t h24 (rfl)))))))).symm)
       ·
        refine rk tt_ok [(131, .b (n.1 == (9 : Int)))] [25, 131] [] [] [] (o0) ?_
        refine ck (n.1 == (9 : Int)) (fun h26 => ?_) (fun h26 => ?_)
        ·
         refine awp_seq ?_
         refine jn [(4, .b ((specIsValidString n.2.2.2.1) && ((n.1 == n.1) && ((n.2.1 == 0) && ((n.2.2.1 == 0) && ((n.2.2.2.1.toList == n.2.2.2.1.toList) && ((n.2.2.2.2.1 == 0) && ((n.2.2.2.2.2.1 == 0) && ((n.2.2.2.2.2.2.toList == (⟨#[]⟩ : ByteArray).toList) && true)))))))))] [2, 4, 131] [] [2] (specIsValidString n.2.2.2.1) (fun h27 => ?_) (fun h27 => ?_) ?_
         ·
          refine rk tt_ok [(4, .b ((n.1 == n.1) && ((n.2.1 == 0) && ((n.2.2.1 == 0) && ((n.2.2.2.1.toList == n.2.2.2.1.toList) && ((n.2.2.2.2.1 == 0) && ((n.2.2.2.2.2.1 == 0) && ((n.2.2.2.2.2.2.toList == (⟨#[]⟩ : ByteArray).toList) && true))))))))] [2, 4, 131] [] [2] [(2, .val (.b true))] (o1 (ob_call (cb h27 (specIsValidString_a n.2.2.2.1)))) ?_
          exact ⟨rfl, weak_fit (by rw [h27]; first | done | kernel_rfl)⟩
         ·
          refine rk tt_ok [] [2, 131] [] [2] [(2, .val (.b false))] (o1 (ob_call (cb h27 (specIsValidString_a n.2.2.2.1)))) ?_
          exact ⟨rfl, weak_fit (by rw [h27]; first | done | kernel_rfl)⟩
         refine awp_ret ?_
         exact pret [] (congrArg (fun z => (.b z : AV)) (show specIsValidNode n at_ = ((specIsValidString n.2.2.2.1) && ((n.1 == n.1) && ((n.2.1 == 0) && ((n.2.2.1 == 0) && ((n.2.2.2.1.toList == n.2.2.2.1.toList) && ((n.2.2.2.2.1 == 0) && ((n.2.2.2.2.2.1 == 0) && ((n.2.2.2.2.2.2.toList == (⟨#[]⟩ : ByteArray).toList) && true)))))))) from bif_f h3 (bif_f h4 (bif_f h6 (bif_f h11 (bif_f h16 (bif_f h21 (bif_f h24 (bif_t h26 (rfl))))))))).symm)
        ·
         refine awp_skip ?_
         refine awp_seq ?_
         refine rk tt_ok [] [2, 131] [] [2] [] (o0) ?_
         refine awp_ret ?_
         exact pret [] (congrArg (fun z => (.b z : AV)) (show specIsValidNode n at_ = false from bif_f h3 (bif_f h4 (bif_f h6 (bif_f h11 (bif_f h16 (bif_f h21 (bif_f h24 (bif_f h26 (rfl))))))))).symm)
def specCountReferences_f0 (at_ : Int) (_ : Nat) (a0 : NodeD) (s0 : Int) : Rd (Int) (Int) (Int) := (bif (bif ((a0.1 == (6 : Int)) || (a0.1 == (7 : Int))) then (a0.2.1 == at_) else ((a0.1 == (5 : Int)) && (a0.2.1 == at_))) then (bif (((a0.1 == (6 : Int)) || (a0.1 == (7 : Int))) && (a0.2.2.1 == at_)) then (.next (IntKind.i64.wrap (IntKind.i64.wrap (s0 + 1) + 1))) else (.next (IntKind.i64.wrap (s0 + 1)))) else (bif (((a0.1 == (6 : Int)) || (a0.1 == (7 : Int))) && (a0.2.2.1 == at_)) then (.next (IntKind.i64.wrap (s0 + 1))) else (.next s0)))
def specCountReferences_e0 (_ : Nat) (s0 : Int) : Int := s0
def specCountReferences (q : (List NodeD)) (at_ : Int) : Int := (Out.on (forL (specCountReferences_f0 at_) specCountReferences_e0 q 0 0) (fun y0 => y0))
theorem specCountReferences_a (q : (List NodeD)) (at_ : Int) : ACalls Tryz.prog 220 [.h q, .i at_] (.i (specCountReferences q at_)) := by
 refine acalls_of (tt := tt) tt_ok Tryz.func220 (fn := Tryz.f220) rfl (by unfold FnOk; kernel_rfl) (Nat.le_of_ble_eq_true rfl) fun w0 F0 => ?_
 refine awp_seq ?_
 refine rk tt_ok [(4, .i 0)] [] [] [] [] (o0) ?_
 refine awp_seq ?_
 refine rk tt_ok [(5, .i 0)] [] [] [] [] (o0) ?_
 refine awp_seq ?_
 refine awp_seq ?_
 refine rk tt_ok [(6, .i 0)] [] [] [] [] (o0) ?_
 refine wdT 0 0 .sh q (fun hw1 => ?_)
 have hl2 : List.length q ≤ 1073741824 := wide_len (hw1)
 refine blk (fun (k0 : Nat) (s0 : Int) => [(5, .i s0), (6, .i ((k0 : Nat) : Int))]) [5, 6] (fun k0 s0 => []) [] (fun (y0 : Int) => [(5, .i y0)]) [0, 1, 5, 6] (fun y0 => []) [] (fun (k0 : Nat) (s0 : Int) => (forL (specCountReferences_f0 at_) specCountReferences_e0 q 0 0) = forL (specCountReferences_f0 at_) specCountReferences_e0 (List.drop k0 q) k0 s0) (fun (y0 : Int) => (forL (specCountReferences_f0 at_) specCountReferences_e0 q 0 0) = .brk y0) q.length 0 (weak_fit (by kernel_rfl)) rfl (fun k0 s0 hk0 hI0 => ?_) (fun k0 s0 hk0 hI0 => ?_) (fun y0 hD0 => ?_)
 ·
  obtain ⟨a0, hx0⟩ := get_some (l := q) (i := k0) hk0
  refine awp_seq ?_
  refine awp_seq ?_
  refine rk tt_ok [(11, .b true)] [] [] [] [(2, .val (.i (q.length : Int))), (3, .val (.b true))] (o2 (ob_eq (av_len q)) (o1 (ob_eq (av_bool (decide_eq_true (p := ((k0 : Nat) : Int) < (q.length : Int)) (by omega)))))) ?_
  refine ckT ?_
  refine awp_skip ?_
  refine awp_seq ?_
  refine awp_block ?_
  refine awp_seq ?_
  refine jn [(7, .b ((a0.1 == (6 : Int)) || (a0.1 == (7 : Int))))] [11] [] [] (a0.1 == (6 : Int)) (fun h3 => ?_) (fun h3 => ?_) ?_
  ·
   have h3d := eq_of_beq h3
   refine rk tt_ok [(7, .b true)] [11] [] [] [(2, .row [.i a0.1, .i a0.2.1, .i a0.2.2.1, .s a0.2.2.2.1, .i a0.2.2.2.2.1, .i a0.2.2.2.2.2.1, .s a0.2.2.2.2.2.2]), (5, .val (.b true))] (o2 (ob_elem (el_of (i := ((k0 : Nat) : Int)) (by omega) rfl hx0)) (o1 (ob_eq (av_bool h3)))) ?_
   exact ⟨rfl, weak_fit (by rw [h3]; first | done | kernel_rfl)⟩
  ·
   have h3d := ne_of_beq h3
   refine rk tt_ok [(7, .b (a0.1 == (7 : Int)))] [11] [] [] [(2, .row [.i a0.1, .i a0.2.1, .i a0.2.2.1, .s a0.2.2.2.1, .i a0.2.2.2.2.1, .i a0.2.2.2.2.2.1, .s a0.2.2.2.2.2.2]), (5, .val (.b false)), (9, .row [.i a0.1, .i a0.2.1, .i a0.2.2.1, .s a0.2.2.2.1, .i a0.2.2.2.2.1, .i a0.2.2.2.2.2.1, .s a0.2.2.2.2.2.2])] (o2 (ob_elem (el_of (i := ((k0 : Nat) : Int)) (by omega) rfl hx0)) (o2 (ob_eq (av_bool h3)) (o1 (ob_elem (el_of (i := ((k0 : Nat) : Int)) (by omega) rfl hx0))))) ?_
   exact ⟨rfl, weak_fit (by rw [h3]; first | done | kernel_rfl)⟩
  refine awp_seq ?_
  refine awp_seq ?_
  refine jn [(45, .b (bif ((a0.1 == (6 : Int)) || (a0.1 == (7 : Int))) then (a0.2.1 == at_) else ((a0.1 == (5 : Int)) && (a0.2.1 == at_))))] [] [] [] ((a0.1 == (6 : Int)) || (a0.1 == (7 : Int))) (fun h4 => ?_) (fun h4 => ?_) ?_
  ·
   refine rk tt_ok [(45, .b (a0.2.1 == at_))] [] [] [] [(0, .val (.b true)), (12, .row [.i a0.1, .i a0.2.1, .i a0.2.2.1, .s a0.2.2.2.1, .i a0.2.2.2.2.1, .i a0.2.2.2.2.2.1, .s a0.2.2.2.2.2.2])] (o2 (ob_eq (av_bool h4)) (o1 (ob_elem (el_of (i := ((k0 : Nat) : Int)) (by omega) rfl hx0)))) ?_
   exact ⟨rfl, weak_fit (by rw [h4]; first | done | kernel_rfl)⟩
  ·
   have h4l : ((a0.1 == (6 : Int))) = false := or_l h4
   have h4ld := ne_of_beq h4l
   have h4r : ((a0.1 == (7 : Int))) = false := or_r h4
   have h4rd := ne_of_beq h4r
   refine awp_split (a0.1 == (5 : Int)) (fun h5 => ?_) (fun h5 => ?_)
   ·
    have h5d := eq_of_beq h5
    refine rk tt_ok [(45, .b (a0.2.1 == at_))] [] [] [] [(0, .val (.b false)), (4, .row [.i a0.1, .i a0.2.1, .i a0.2.2.1, .s a0.2.2.2.1, .i a0.2.2.2.2.1, .i a0.2.2.2.2.2.1, .s a0.2.2.2.2.2.2]), (7, .val (.b true)), (12, .row [.i a0.1, .i a0.2.1, .i a0.2.2.1, .s a0.2.2.2.1, .i a0.2.2.2.2.1, .i a0.2.2.2.2.2.1, .s a0.2.2.2.2.2.2])] (o2 (ob_eq (av_bool h4)) (o2 (ob_elem (el_of (i := ((k0 : Nat) : Int)) (by omega) rfl hx0)) (o2 (ob_eq (av_bool h5)) (o1 (ob_elem (el_of (i := ((k0 : Nat) : Int)) (by omega) rfl hx0)))))) ?_
    exact ⟨rfl, weak_fit (by rw [h4, h5]; first | done | kernel_rfl)⟩
   ·
    have h5d := ne_of_beq h5
    refine rk tt_ok [(45, .b false)] [] [] [] [(0, .val (.b false)), (4, .row [.i a0.1, .i a0.2.1, .i a0.2.2.1, .s a0.2.2.2.1, .i a0.2.2.2.2.1, .i a0.2.2.2.2.2.1, .s a0.2.2.2.2.2.2]), (7, .val (.b false))] (o2 (ob_eq (av_bool h4)) (o2 (ob_elem (el_of (i := ((k0 : Nat) : Int)) (by omega) rfl hx0)) (o1 (ob_eq (av_bool h5))))) ?_
    exact ⟨rfl, weak_fit (by rw [h4, h5]; first | done | kernel_rfl)⟩
  refine ck (bif ((a0.1 == (6 : Int)) || (a0.1 == (7 : Int))) then (a0.2.1 == at_) else ((a0.1 == (5 : Int)) && (a0.2.1 == at_))) (fun h6 => ?_) (fun h6 => ?_)
  ·
   refine rk tt_ok [(5, .i (IntKind.i64.wrap (s0 + 1)))] [5, 45] [] [] [] (o0) ?_
   refine awp_seq ?_
   refine jn [(57, .b (((a0.1 == (6 : Int)) || (a0.1 == (7 : Int))) && (a0.2.2.1 == at_)))] [7] [] [] ((a0.1 == (6 : Int)) || (a0.1 == (7 : Int))) (fun h7 => ?_) (fun h7 => ?_) ?_
   ·
    refine rk tt_ok [(57, .b (a0.2.2.1 == at_))] [7] [] [] [(0, .val (.b true)), (4, .row [.i a0.1, .i a0.2.1, .i a0.2.2.1, .s a0.2.2.2.1, .i a0.2.2.2.2.1, .i a0.2.2.2.2.2.1, .s a0.2.2.2.2.2.2])] (o2 (ob_eq (av_bool h7)) (o1 (ob_elem (el_of (i := ((k0 : Nat) : Int)) (by omega) rfl hx0)))) ?_
    exact ⟨rfl, weak_fit (by rw [h7]; first | done | kernel_rfl)⟩
   ·
    refine rk tt_ok [(57, .b false)] [7] [] [] [(0, .val (.b false))] (o1 (ob_eq (av_bool h7))) ?_
    exact ⟨rfl, weak_fit (by rw [h7]; first | done | kernel_rfl)⟩
   refine ck (((a0.1 == (6 : Int)) || (a0.1 == (7 : Int))) && (a0.2.2.1 == at_)) (fun h8 => ?_) (fun h8 => ?_)
   ·
    have h8r : ((a0.2.2.1 == at_)) = true := and_r h8
    have h8rd := eq_of_beq h8r
    refine rk tt_ok [(5, .i (IntKind.i64.wrap (IntKind.i64.wrap (s0 + 1) + 1)))] [5, 57] [] [] [] (o0) ?_
    refine rk tt_ok [(6, .i ((k0 + 1 : Nat) : Int))] [6] [] [] [(1, .val (.i ((k0 + 1 : Nat) : Int)))] (o1 (ob_eq (av_i (wrap_succ k0 (by omega))))) ?_
    exact Exists.intro (IntKind.i64.wrap (IntKind.i64.wrap (s0 + 1) + 1)) (And.intro (weak_fit (by kernel_rfl)) (forL_next hx0 (bif_t h6 (bif_t h8 (rfl))) hI0))
   ·
    refine awp_skip ?_
    refine rk tt_ok [(6, .i ((k0 + 1 : Nat) : Int))] [6, 57] [] [] [(1, .val (.i ((k0 + 1 : Nat) : Int)))] (o1 (ob_eq (av_i (wrap_succ k0 (by omega))))) ?_
    exact Exists.intro (IntKind.i64.wrap (s0 + 1)) (And.intro (weak_fit (by kernel_rfl)) (forL_next hx0 (bif_t h6 (bif_f h8 (rfl))) hI0))
  ·
   refine awp_skip ?_
   refine awp_seq ?_
   refine jn [(57, .b (((a0.1 == (6 : Int)) || (a0.1 == (7 : Int))) && (a0.2.2.1 == at_)))] [7, 45] [] [] ((a0.1 == (6 : Int)) || (a0.1 == (7 : Int))) (fun h9 => ?_) (fun h9 => ?_) ?_
   ·
    refine rk tt_ok [(57, .b (a0.2.2.1 == at_))] [7, 45] [] [] [(0, .val (.b true)), (4, .row [.i a0.1, .i a0.2.1, .i a0.2.2.1, .s a0.2.2.2.1, .i a0.2.2.2.2.1, .i a0.2.2.2.2.2.1, .s a0.2.2.2.2.2.2])] (o2 (ob_eq (av_bool h9)) (o1 (ob_elem (el_of (i := ((k0 : Nat) : Int)) (by omega) rfl hx0)))) ?_
    exact ⟨rfl, weak_fit (by rw [h9]; first | done | kernel_rfl)⟩
   ·
    refine rk tt_ok [(57, .b false)] [7, 45] [] [] [(0, .val (.b false))] (o1 (ob_eq (av_bool h9))) ?_
    exact ⟨rfl, weak_fit (by rw [h9]; first | done | kernel_rfl)⟩
   refine ck (((a0.1 == (6 : Int)) || (a0.1 == (7 : Int))) && (a0.2.2.1 == at_)) (fun h10 => ?_) (fun h10 => ?_)
   ·
    have h10r : ((a0.2.2.1 == at_)) = true := and_r h10
    have h10rd := eq_of_beq h10r
    refine rk tt_ok [(5, .i (IntKind.i64.wrap (s0 + 1)))] [5, 57] [] [] [] (o0) ?_
    refine rk tt_ok [(6, .i ((k0 + 1 : Nat) : Int))] [6] [] [] [(1, .val (.i ((k0 + 1 : Nat) : Int)))] (o1 (ob_eq (av_i (wrap_succ k0 (by omega))))) ?_
    exact Exists.intro (IntKind.i64.wrap (s0 + 1)) (And.intro (weak_fit (by kernel_rfl)) (forL_next hx0 (bif_f h6 (bif_t h10 (rfl))) hI0))
   ·
    refine awp_skip ?_
    refine rk tt_ok [(6, .i ((k0 + 1 : Nat) : Int))] [6, 57] [] [] [(1, .val (.i ((k0 + 1 : Nat) : Int)))] (o1 (ob_eq (av_i (wrap_succ k0 (by omega))))) ?_
    exact Exists.intro s0 (And.intro (weak_fit (by kernel_rfl)) (forL_next hx0 (bif_f h6 (bif_f h10 (rfl))) hI0))
 ·
  refine awp_seq ?_
  refine awp_seq ?_
  refine rk tt_ok [(11, .b false)] [] [] [] [(2, .val (.i (q.length : Int))), (3, .val (.b false))] (o2 (ob_eq (av_len q)) (o1 (ob_eq (av_bool (decide_eq_false (p := ((k0 : Nat) : Int) < (q.length : Int)) (by omega)))))) ?_
  refine ckF ?_
  refine awp_exit ?_
  exact Exists.intro s0 (And.intro (weak_fit (by kernel_rfl)) (forL_end hk0 (rfl) hI0))
 ·
  refine awp_seq ?_
  refine rk tt_ok [(4, .i y0)] [4, 5] [] [] [] (o0) ?_
  refine awp_ret ?_
  exact pret [] (congrArg (fun z => (.i z : AV)) (show specCountReferences q at_ = y0 from on_b hD0 (rfl)).symm)
def specIsValidQuery_f0 (q : (List NodeD)) (k0 : Nat) (a0 : NodeD) (_ : Unit) : Rd (Bool) (Unit) (Unit) := (bif ((!(specIsValidNode a0 ((k0 : Nat) : Int))) || (decide (((k0 : Nat) : Int) < ((q.length : Int) - 1)) && ((specCountReferences q ((k0 : Nat) : Int)) != (1 : Int)))) then (.ret false) else (.next ()))
def specIsValidQuery_e0 (_ : Nat) (_ : Unit) : Unit := ()
def specIsValidQuery (q : (List NodeD)) : Bool := (Out.on (forL (specIsValidQuery_f0 q) specIsValidQuery_e0 q 0 ()) (fun _ => (specl01In (q.length : Int) 1 9)))
theorem specIsValidQuery_a (q : (List NodeD)) : ACalls Tryz.prog 209 [.h q] (.b (specIsValidQuery q)) := by
 refine acalls_of (tt := tt) tt_ok Tryz.func209 (fn := Tryz.f209) rfl (by unfold FnOk; kernel_rfl) (Nat.le_of_ble_eq_true rfl) fun w0 F0 => ?_
 refine awp_seq ?_
 refine rk tt_ok [(2, .b false)] [] [] [] [] (o0) ?_
 refine awp_seq ?_
 refine awp_seq ?_
 refine rk tt_ok [(3, .i 0)] [] [] [] [] (o0) ?_
 refine wdT 0 0 .sh q (fun hw1 => ?_)
 have hl2 : List.length q ≤ 1073741824 := wide_len (hw1)
 refine blk (fun (k0 : Nat) (s0 : Unit) => [(3, .i ((k0 : Nat) : Int))]) [3] (fun k0 s0 => []) [] (fun (y0 : Unit) => []) [3] (fun y0 => []) [] (fun (k0 : Nat) (s0 : Unit) => (forL (specIsValidQuery_f0 q) specIsValidQuery_e0 q 0 ()) = forL (specIsValidQuery_f0 q) specIsValidQuery_e0 (List.drop k0 q) k0 s0) (fun (y0 : Unit) => (forL (specIsValidQuery_f0 q) specIsValidQuery_e0 q 0 ()) = .brk y0) q.length () (weak_fit (by kernel_rfl)) rfl (fun k0 s0 hk0 hI0 => ?_) (fun k0 s0 hk0 hI0 => ?_) (fun y0 hD0 => ?_)
 ·
  obtain ⟨a0, hx0⟩ := get_some (l := q) (i := k0) hk0
  refine awp_seq ?_
  refine awp_seq ?_
  refine rk tt_ok [(7, .b true)] [] [] [] [(2, .val (.i (q.length : Int))), (3, .val (.b true))] (o2 (ob_eq (av_len q)) (o1 (ob_eq (av_bool (decide_eq_true (p := ((k0 : Nat) : Int) < (q.length : Int)) (by omega)))))) ?_
  refine ckT ?_
  refine awp_skip ?_
  refine awp_seq ?_
  refine awp_block ?_
  refine awp_seq ?_
  refine jn [(29, .b ((!(specIsValidNode a0 ((k0 : Nat) : Int))) || (decide (((k0 : Nat) : Int) < ((q.length : Int) - 1)) && ((specCountReferences q ((k0 : Nat) : Int)) != (1 : Int)))))] [7] [] [] (!(specIsValidNode a0 ((k0 : Nat) : Int))) (fun h3 => ?_) (fun h3 => ?_) ?_
  ·
   have h3n : (specIsValidNode a0 ((k0 : Nat) : Int)) = false := bnot_t h3
   refine rk tt_ok [(29, .b true)] [7] [] [] [(2, .row [.i a0.1, .i a0.2.1, .i a0.2.2.1, .s a0.2.2.2.1, .i a0.2.2.2.2.1, .i a0.2.2.2.2.2.1, .s a0.2.2.2.2.2.2]), (5, .val (.b false)), (6, .val (.b true))] (o2 (ob_elem (el_of (i := ((k0 : Nat) : Int)) (by omega) rfl hx0)) (o2 (ob_call (cb h3n (specIsValidNode_a a0 ((k0 : Nat) : Int)))) (o1 (ob_eq (show .b (!false) = .b true from rfl))))) ?_
   exact ⟨rfl, weak_fit (by rw [h3]; first | done | kernel_rfl)⟩
  ·
   have h3n : (specIsValidNode a0 ((k0 : Nat) : Int)) = true := bnot_f h3
   refine awp_split (decide (((k0 : Nat) : Int) < ((q.length : Int) - 1))) (fun h4 => ?_) (fun h4 => ?_)
   ·
    have h4d := of_decide_eq_true h4
    refine rk tt_ok [(29, .b ((specCountReferences q ((k0 : Nat) : Int)) != (1 : Int)))] [7] [] [] [(2, .row [.i a0.1, .i a0.2.1, .i a0.2.2.1, .s a0.2.2.2.1, .i a0.2.2.2.2.1, .i a0.2.2.2.2.2.1, .s a0.2.2.2.2.2.2]), (5, .val (.b true)), (6, .val (.b false)), (10, .val (.i (q.length : Int))), (11, .val (.i ((q.length : Int) - 1))), (12, .val (.b true)), (16, .val (.i (specCountReferences q ((k0 : Nat) : Int))))] (o2 (ob_elem (el_of (i := ((k0 : Nat) : Int)) (by omega) rfl hx0)) (o2 (ob_call (cb h3n (specIsValidNode_a a0 ((k0 : Nat) : Int)))) (o2 (ob_eq (show .b (!true) = .b false from rfl)) (o2 (ob_eq (av_len q)) (o2 (ob_eq (av_i (IntWalk.i64_in ((q.length : Int) - 1) (by omega)))) (o2 (ob_eq (av_bool h4)) (o1 (ob_call (specCountReferences_a q ((k0 : Nat) : Int)))))))))) ?_
    exact ⟨rfl, weak_fit (by rw [h3, h4]; first | done | kernel_rfl)⟩
   ·
    have h4d := of_decide_eq_false h4
    refine rk tt_ok [(29, .b false)] [7] [] [] [(2, .row [.i a0.1, .i a0.2.1, .i a0.2.2.1, .s a0.2.2.2.1, .i a0.2.2.2.2.1, .i a0.2.2.2.2.2.1, .s a0.2.2.2.2.2.2]), (5, .val (.b true)), (6, .val (.b false)), (10, .val (.i (q.length : Int))), (11, .val (.i ((q.length : Int) - 1))), (12, .val (.b false))] (o2 (ob_elem (el_of (i := ((k0 : Nat) : Int)) (by omega) rfl hx0)) (o2 (ob_call (cb h3n (specIsValidNode_a a0 ((k0 : Nat) : Int)))) (o2 (ob_eq (show .b (!true) = .b false from rfl)) (o2 (ob_eq (av_len q)) (o2 (ob_eq (av_i (IntWalk.i64_in ((q.length : Int) - 1) (by omega)))) (o1 (ob_eq (av_bool h4)))))))) ?_
    exact ⟨rfl, weak_fit (by rw [h3, h4]; first | done | kernel_rfl)⟩
  refine ck ((!(specIsValidNode a0 ((k0 : Nat) : Int))) || (decide (((k0 : Nat) : Int) < ((q.length : Int) - 1)) && ((specCountReferences q ((k0 : Nat) : Int)) != (1 : Int)))) (fun h5 => ?_) (fun h5 => ?_)
  ·
   refine awp_seq ?_
   refine rk tt_ok [] [29] [] [] [] (o0) ?_
   refine awp_ret ?_
   have hr6 : (forL (specIsValidQuery_f0 q) specIsValidQuery_e0 q 0 ()) = .ret false := forL_ret hx0 (bif_t h5 (rfl)) hI0
   exact pret [] (congrArg (fun z => (.b z : AV)) (show specIsValidQuery q = false from on_r hr6).symm)
  ·
   refine awp_skip ?_
   refine rk tt_ok [(3, .i ((k0 + 1 : Nat) : Int))] [3, 29] [] [] [(1, .val (.i ((k0 + 1 : Nat) : Int)))] (o1 (ob_eq (av_i (wrap_succ k0 (by omega))))) ?_
   exact Exists.intro () (And.intro (weak_fit (by kernel_rfl)) (forL_next hx0 (bif_f h5 (rfl)) hI0))
 ·
  refine awp_seq ?_
  refine awp_seq ?_
  refine rk tt_ok [(7, .b false)] [] [] [] [(2, .val (.i (q.length : Int))), (3, .val (.b false))] (o2 (ob_eq (av_len q)) (o1 (ob_eq (av_bool (decide_eq_false (p := ((k0 : Nat) : Int) < (q.length : Int)) (by omega)))))) ?_
  refine ckF ?_
  refine awp_exit ?_
  exact Exists.intro () (And.intro (weak_fit (by kernel_rfl)) (forL_end hk0 (rfl) hI0))
 ·
  refine awp_seq ?_
  refine rk tt_ok [(2, .b (specl01In (q.length : Int) 1 9))] [0, 2] [] [] [(1, .val (.i (q.length : Int))), (2, .val (.b (specl01In (q.length : Int) 1 9)))] (o2 (ob_eq (av_len q)) (o1 (ob_call (specl01In_a (q.length : Int) 1 9)))) ?_
  refine awp_ret ?_
  exact pret [] (congrArg (fun z => (.b z : AV)) (show specIsValidQuery q = (specl01In (q.length : Int) 1 9) from on_b hD0 (rfl)).symm)
end Go.Proofs.YtnhmnfmhnepjmaaGreat
