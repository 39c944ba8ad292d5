/- What functions compute, and that they do (printed by am2.py): each function as a Lean function, then its contract. -/
import Derived.Test.YtkjlkokcpeoeeaaGreatWd
import Derived.Test.YtkjlkokcpeoeeaaGreatProg
import Derived.Test.YtkjlkokcpeoeeaaGreatTy
import Derived.Test.YtkjlkokcpeoeeaaGreatKn
import Derived.KernelRfl
namespace Go.Proofs.YtkjlkokcpeoeeaaGreat
open Go.RowKit
open GoE (enc wide)
def tt : List (Nat × TI) := [(3, ⟨.int .i64, 1, [.i 0], []⟩),
  (4, ⟨.bool, 1, [.b false], []⟩),
  (9, ⟨.str, 1, [.s ⟨#[]⟩], []⟩),
  (34, ⟨.sli 3, 1, [.e 0], []⟩),
  (36, ⟨.struct [(0, 5, true), (5, 2, true), (7, 1, false), (8, 1, false), (9, 1, false), (10, 1, false)], 11, [.e 0, .e 0, .i 0, .e 0, .e 0, .s ⟨#[]⟩, .s ⟨#[]⟩, .i 0, .e 0, .e 0, .e 0], []⟩),
  (49, ⟨.sli 56, 1, [.e 0], []⟩),
  (51, ⟨.struct [(0, 5, true), (5, 2, true), (7, 1, false), (8, 1, false), (9, 1, false), (10, 1, false)], 11, [.e 0, .e 0, .i 0, .e 0, .e 0, .s ⟨#[]⟩, .s ⟨#[]⟩, .i 0, .e 0, .e 0, .e 0], []⟩),
  (54, ⟨.sli 136, 1, [.e 0], []⟩),
  (56, ⟨.struct [(0, 1, false), (1, 1, false), (2, 1, false), (3, 1, false)], 4, [.i 0, .s ⟨#[]⟩, .e 0, .e 0], []⟩),
  (136, ⟨.struct [(0, 1, false), (1, 1, false), (2, 1, false)], 3, [.i 0, .e 0, .e 0], []⟩)]
theorem tt_ok : ttOk Tryz.prog tt = true := by kernel_rfl
theorem tt_mx : Tryz.prog.follows .mixedOrders = true := by kernel_rfl
def implwithin (n : Int) (low : Int) (high_ : Int) : Bool := (decide (low ≤ n) && decide (n ≤ high_))
theorem implwithin_a (n : Int) (low : Int) (high_ : Int) : ACalls Tryz.prog 57 [.i n, .i low, .i high_] (.b (implwithin n low high_)) := by
  refine acalls_of (tt := tt) tt_ok Tryz.func57 (fn := Tryz.f57) rfl (by unfold FnOk; kernel_rfl) (Nat.le_of_ble_eq_true rfl) fun w0 F0 => ?_
  refine awp_seq ?_
  refine rk tt_ok [(6, .b false)] [] [] [] [] (o0) ?_
  refine awp_seq ?_
  refine jn [(6, .b (decide (low ≤ n) && decide (n ≤ high_)))] [0, 1, 2, 6] [] [] (decide (low ≤ n)) (fun h1 => ?_) (fun h1 => ?_) ?_
  · -- True
    have h1d := of_decide_eq_true h1
    refine rk tt_ok [(6, .b (decide (n ≤ high_)))] [0, 1, 2, 6] [] [] [(2, .val (.b true))] (o1 (ob_eq (av_bool h1))) ?_
    exact ⟨rfl, weak_fit (by rw [h1]; first | done | kernel_rfl)⟩
  · -- False
    have h1d := of_decide_eq_false h1
    refine rk tt_ok [] [0, 1, 2] [] [] [(2, .val (.b false))] (o1 (ob_eq (av_bool h1))) ?_
    exact ⟨rfl, weak_fit (by rw [h1]; first | done | kernel_rfl)⟩
  refine awp_ret ?_
  exact pret [] (congrArg (fun z => (.b z : AV)) (show implwithin n low high_ = (decide (low ≤ n) && decide (n ≤ high_)) from rfl).symm)
def specl01In (x : Int) (least : Int) (most : Int) : Bool := (decide (x ≥ least) && decide (x ≤ most))
theorem specl01In_a (x : Int) (least : Int) (most : Int) : ACalls Tryz.prog 55 [.i x, .i least, .i most] (.b (specl01In x least most)) := by
  refine acalls_of (tt := tt) tt_ok Tryz.func55 (fn := Tryz.f55) rfl (by unfold FnOk; kernel_rfl) (Nat.le_of_ble_eq_true rfl) fun w0 F0 => ?_
  refine awp_seq ?_
  refine rk tt_ok [(6, .b false)] [] [] [] [] (o0) ?_
  refine awp_seq ?_
  refine jn [(6, .b (decide (x ≥ least) && decide (x ≤ most)))] [0, 1, 2, 6] [] [] (decide (x ≥ least)) (fun h1 => ?_) (fun h1 => ?_) ?_
  · -- True
    have h1d := of_decide_eq_true h1
    refine rk tt_ok [(6, .b (decide (x ≤ most)))] [0, 1, 2, 6] [] [] [(2, .val (.b true))] (o1 (ob_eq (av_bool h1))) ?_
    exact ⟨rfl, weak_fit (by rw [h1]; first | done | kernel_rfl)⟩
  · -- False
    have h1d := of_decide_eq_false h1
    refine rk tt_ok [] [0, 1, 2] [] [] [(2, .val (.b false))] (o1 (ob_eq (av_bool h1))) ?_
    exact ⟨rfl, weak_fit (by rw [h1]; first | done | kernel_rfl)⟩
  refine awp_ret ?_
  exact pret [] (congrArg (fun z => (.b z : AV)) (show specl01In x least most = (decide (x ≥ least) && decide (x ≤ most)) from rfl).symm)
end Go.Proofs.YtkjlkokcpeoeeaaGreat
