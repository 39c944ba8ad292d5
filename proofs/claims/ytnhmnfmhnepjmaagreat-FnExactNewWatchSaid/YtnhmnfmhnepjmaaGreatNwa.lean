/- What functions compute, and that they do (printed by am2.py): each function as a Lean function, then its contract. -/
import Derived.Test.YtnhmnfmhnepjmaaGreatEub
import Derived.KernelRfl
set_option linter.unusedVariables false
set_option linter.unusedSimpArgs false
namespace Go.Proofs.YtnhmnfmhnepjmaaGreat
open Go.RowKit
open GoE (enc wide)
def implNewWatch (s_ : StoreD) (d : (List DirD)) (user : Int) (name : ByteArray) : WatchD := (user, name, (implListDir s_ d user name), [])
theorem implNewWatch_a (s_ : StoreD) (d : (List DirD)) (user : Int) (name : ByteArray) : ACalls Tryz.prog 21 [.a [.h s_.1, .h s_.2.1, .i s_.2.2], .h d, .i user, .s name] (.a [.i ((implNewWatch s_ d user name).1), .s ((implNewWatch s_ d user name).2.1), .o 0 ((implNewWatch s_ d user name).2.2.1), .o 1 ((implNewWatch s_ d user name).2.2.2)]) := by
 refine acalls_of (tt := tt) tt_ok Tryz.func21 (fn := Tryz.f21) rfl (by unfold FnOk; kernel_rfl) (Nat.le_of_ble_eq_true rfl) fun w0 F0 => ?_
 refine awp_seq ?_
 refine rk tt_ok [(4, .p 4 0), (8, .p 8 0)] [0] [(4, [.h s_.1, .h s_.2.1, .i s_.2.2]), (8, [.i 0, .s ⟨#[]⟩, .e 1, .e 3])] [] [] (o0) ?_
 refine awp_seq ?_
 refine rk tt_ok [] [1, 2, 3, 4] [(8, [.i user, .s name, .o 960 (implListDir s_ d user name), .e 3])] [4, 8] [(6, .val (.o 0 (implListDir s_ d user name)))] (o1 (ob_call (implListDir_a s_ d user name))) ?_
 refine opn [(true, 8, 3, true, 384000, 3)] ?_
 refine awp_ret ?_
 exact pret [] (congrArg (fun z => (.a [.i z.1, .s z.2.1, .o 0 z.2.2.1, .o 1 z.2.2.2] : AV)) (show implNewWatch s_ d user name = (user, name, (implListDir s_ d user name), []) from rfl).symm)
def specNewWatch (s_ : StoreD) (d : (List DirD)) (u : Int) (name : ByteArray) : WatchD := (u, name, (specListDir s_ d u name), [])
theorem specNewWatch_a (s_ : StoreD) (d : (List DirD)) (u : Int) (name : ByteArray) : ACalls Tryz.prog 20 [.a [.h s_.1, .h s_.2.1, .i s_.2.2], .h d, .i u, .s name] (.a [.i ((specNewWatch s_ d u name).1), .s ((specNewWatch s_ d u name).2.1), .o 0 ((specNewWatch s_ d u name).2.2.1), .o 1 ((specNewWatch s_ d u name).2.2.2)]) := by
 refine acalls_of (tt := tt) tt_ok Tryz.func20 (fn := Tryz.f20) rfl (by unfold FnOk; kernel_rfl) (Nat.le_of_ble_eq_true rfl) fun w0 F0 => ?_
 refine awp_seq ?_
 refine rk tt_ok [(4, .p 4 0), (8, .p 8 0)] [0] [(4, [.h s_.1, .h s_.2.1, .i s_.2.2]), (8, [.i 0, .s ⟨#[]⟩, .e 1, .e 3])] [] [] (o0) ?_
 refine awp_seq ?_
 refine rk tt_ok [] [1, 2, 3, 4] [(8, [.i u, .s name, .o 960 (specListDir s_ d u name), .e 3])] [4, 8] [(6, .val (.o 0 (specListDir s_ d u name)))] (o1 (ob_call (specListDir_a s_ d u name))) ?_
 refine opn [(true, 8, 3, true, 384000, 3)] ?_
 refine awp_ret ?_
 exact pret [] (congrArg (fun z => (.a [.i z.1, .s z.2.1, .o 0 z.2.2.1, .o 1 z.2.2.2] : AV)) (show specNewWatch s_ d u name = (u, name, (specListDir s_ d u name), []) from rfl).symm)
end Go.Proofs.YtnhmnfmhnepjmaaGreat
