/- Contracts of functions, by the abstract machine (printed by am.py): what each makes of its arguments, for arguments of the size that the laws bound. -/
import Derived.Test.YtdhagfpgijcfbaaKn
import Derived.Test.YtdhagfpgijcfbaaDx
import Derived.Test.YtdhagfpgijcfbaaSl
import Derived.KernelRfl
namespace Go.Proofs.Ytdhagfpgijcfbaa
open Go.RowKit
def tt : List (Nat × TI) := [(3, ⟨.int .i64, 1, [.int .i64 0]⟩),
  (4, ⟨.bool, 1, [.bool false]⟩),
  (29, ⟨.sli 4, 1, [.slc .emp 0 []]⟩),
  (31, ⟨.sli 84, 1, [.slc .emp 0 []]⟩),
  (82, ⟨.sli 124, 1, [.slc .emp 0 []]⟩),
  (84, ⟨.struct [(0, 1, false), (1, 1, false), (2, 1, false), (3, 1, false), (4, 1, false)], 5, [.int .i64 0, .int .i64 0, .slc .emp 0 [], .str ⟨#[]⟩, .int .i64 0]⟩),
  (117, ⟨.sli 172, 1, [.slc .emp 0 []]⟩),
  (119, ⟨.struct [(0, 1, false), (1, 1, false), (2, 1, false), (3, 1, false), (4, 1, false)], 5, [.int .i64 0, .int .i64 0, .bool false, .int .i64 0, .slc .emp 0 []]⟩),
  (120, ⟨.sli 174, 1, [.slc .emp 0 []]⟩),
  (122, ⟨.struct [(0, 1, false), (1, 1, false)], 2, [.str ⟨#[]⟩, .slc .emp 0 []]⟩),
  (124, ⟨.struct [(0, 1, false), (1, 5, true), (6, 1, false), (7, 2, true)], 9, [.int .i64 0, .int .i64 0, .int .i64 0, .bool false, .int .i64 0, .slc .emp 0 [], .int .i64 0, .str ⟨#[]⟩, .slc .emp 0 []]⟩),
  (172, ⟨.struct [(0, 1, false), (1, 3, true)], 4, [.str ⟨#[]⟩, .int .i64 0, .int .i64 0, .str ⟨#[]⟩]⟩),
  (174, ⟨.struct [(0, 1, false), (1, 1, false), (2, 1, false), (3, 1, false), (4, 3, true)], 7, [.int .i64 0, .int .i64 0, .int .i64 0, .str ⟨#[]⟩, .int .i64 0, .int .i64 0, .str ⟨#[]⟩]⟩)]

theorem tt_ok : ttOk Try.prog tt = true := by kernel_rfl
theorem tt_mx : Try.prog.follows .mixedOrders = true := by kernel_rfl
theorem copyFile_a (a : FileD) (sa : GoD.size a ≤ 1048576)  : ACalls Try.prog 130 [.agg [.int .i64 a.1, .int .i64 a.2.1, .bool a.2.2.1, .int .i64 a.2.2.2.1, .slc .sh 4 (eL a.2.2.2.2)]] (.agg [.int .i64 a.1, .int .i64 a.2.1, .bool a.2.2.1, .int .i64 a.2.2.2.1, .slc (.own true 0) 4 (eL a.2.2.2.2)]) := by
  refine acalls_of (tt := tt) tt_ok Try.func130 (fn := Try.f130) rfl (by unfold FnOk; kernel_rfl) (Nat.le_of_ble_eq_true rfl) fun w0 F0 => ?_
  refine awp_seq ?_
  refine awp_regionK (s' := ⟨[(1, .one (.ptr 1 0)), (2, .one (.ptr 2 0))], [(1, [.int .i64 a.1, .int .i64 a.2.1, .bool a.2.2.1, .int .i64 a.2.2.2.1, .slc .sh 4 (eL a.2.2.2.2)]), (2, [.int .i64 0, .int .i64 0, .bool false, .int .i64 0, .slc .emp 0 []])]⟩) (obs := []) tt_ok [] [1, 2] [1, 2] (by kernel_rfl) (trivial) ?_
  refine awp_seq ?_
  refine awp_regionK (s' := ⟨[(1, .one (.ptr 1 0)), (2, .one (.ptr 2 0))], [(1, [.int .i64 a.1, .int .i64 a.2.1, .bool a.2.2.1, .int .i64 a.2.2.2.1, .slc (.own true 320) 4 (eL a.2.2.2.2)]), (2, [.int .i64 0, .int .i64 0, .bool false, .int .i64 0, .slc .emp 0 []])]⟩) (obs := [.call 157 [.one (.slc .sh 4 (eL a.2.2.2.2))] (.one (.slc (.own true 0) 4 (eL a.2.2.2.2)))]) tt_ok [(2, .val (.one (.slc (.own true 0) 4 (eL a.2.2.2.2))))] [1, 2] [1, 2] (by kernel_rfl) (ob1 (ob_call (cloneAttr_a a.2.2.2.2 (sz_snd (sz_snd (sz_snd (sz_snd (sa)))))))) ?_
  refine awp_seq ?_
  refine awp_regionK (s' := ⟨[(2, .one (.ptr 2 0))], [(2, [.int .i64 a.1, .int .i64 a.2.1, .bool a.2.2.1, .int .i64 a.2.2.2.1, .slc (.own true 320) 4 (eL a.2.2.2.2)])]⟩) (obs := []) tt_ok [] [2] [2] (by kernel_rfl) (trivial) ?_
  refine awp_ret ?_
  refine post_ret [] (b := .agg [.int .i64 a.1, .int .i64 a.2.1, .bool a.2.2.1, .int .i64 a.2.2.2.1, .slc (.own true 0) 4 (eL a.2.2.2.2)]) (by kernel_rfl) ?_
  rfl
theorem copyDir_a (a : DirD) (sa : GoD.size a ≤ 1048576)  : ACalls Try.prog 131 [.agg [.str a.1, .slc .sh 7 (eL a.2)]] (.agg [.str a.1, .slc (.own true 0) 7 (eL a.2)]) := by
  refine acalls_of (tt := tt) tt_ok Try.func131 (fn := Try.f131) rfl (by unfold FnOk; kernel_rfl) (Nat.le_of_ble_eq_true rfl) fun w0 F0 => ?_
  refine awp_seq ?_
  refine awp_regionK (s' := ⟨[(1, .one (.ptr 1 0)), (2, .one (.ptr 2 0))], [(1, [.str a.1, .slc .sh 7 (eL a.2)]), (2, [.str ⟨#[]⟩, .slc .emp 0 []])]⟩) (obs := []) tt_ok [] [1, 2] [1, 2] (by kernel_rfl) (trivial) ?_
  refine awp_seq ?_
  refine awp_regionK (s' := ⟨[(1, .one (.ptr 1 0)), (2, .one (.ptr 2 0))], [(1, [.str a.1, .slc (.own true 320) 7 (eL a.2)]), (2, [.str ⟨#[]⟩, .slc .emp 0 []])]⟩) (obs := [.call 158 [.one (.slc .sh 7 (eL a.2))] (.one (.slc (.own true 0) 7 (eL a.2)))]) tt_ok [(2, .val (.one (.slc (.own true 0) 7 (eL a.2))))] [1, 2] [1, 2] (by kernel_rfl) (ob1 (ob_call (cloneNode_a a.2 (sz_snd (sa))))) ?_
  refine awp_seq ?_
  refine awp_regionK (s' := ⟨[(2, .one (.ptr 2 0))], [(2, [.str a.1, .slc (.own true 320) 7 (eL a.2)])]⟩) (obs := []) tt_ok [] [2] [2] (by kernel_rfl) (trivial) ?_
  refine awp_ret ?_
  refine post_ret [] (b := .agg [.str a.1, .slc (.own true 0) 7 (eL a.2)]) (by kernel_rfl) ?_
  rfl
theorem copyChange_a (a : ChangeD) (sa : GoD.size a ≤ 1048576)  : ACalls Try.prog 84 [.agg [.int .i64 a.1, .int .i64 a.2.1.1, .int .i64 a.2.1.2.1, .bool a.2.1.2.2.1, .int .i64 a.2.1.2.2.2.1, .slc .sh 4 (eL a.2.1.2.2.2.2), .int .i64 a.2.2.1, .str a.2.2.2.1, .slc .sh 7 (eL a.2.2.2.2)]] (.agg [.int .i64 a.1, .int .i64 a.2.1.1, .int .i64 a.2.1.2.1, .bool a.2.1.2.2.1, .int .i64 a.2.1.2.2.2.1, .slc (.own true 0) 4 (eL a.2.1.2.2.2.2), .int .i64 a.2.2.1, .str a.2.2.2.1, .slc (.own true 1) 7 (eL a.2.2.2.2)]) := by
  refine acalls_of (tt := tt) tt_ok Try.func84 (fn := Try.f84) rfl (by unfold FnOk; kernel_rfl) (Nat.le_of_ble_eq_true rfl) fun w0 F0 => ?_
  refine awp_seq ?_
  refine awp_regionK (s' := ⟨[(1, .one (.ptr 1 0)), (2, .one (.ptr 2 0))], [(1, [.int .i64 a.1, .int .i64 a.2.1.1, .int .i64 a.2.1.2.1, .bool a.2.1.2.2.1, .int .i64 a.2.1.2.2.2.1, .slc .sh 4 (eL a.2.1.2.2.2.2), .int .i64 a.2.2.1, .str a.2.2.2.1, .slc .sh 7 (eL a.2.2.2.2)]), (2, [.int .i64 0, .int .i64 0, .int .i64 0, .bool false, .int .i64 0, .slc .emp 0 [], .int .i64 0, .str ⟨#[]⟩, .slc .emp 0 []])]⟩) (obs := []) tt_ok [] [1, 2] [1, 2] (by kernel_rfl) (trivial) ?_
  refine awp_seq ?_
  refine awp_regionK (s' := ⟨[(1, .one (.ptr 1 0)), (2, .one (.ptr 2 0))], [(1, [.int .i64 a.1, .int .i64 a.2.1.1, .int .i64 a.2.1.2.1, .bool a.2.1.2.2.1, .int .i64 a.2.1.2.2.2.1, .slc (.own true 320) 4 (eL a.2.1.2.2.2.2), .int .i64 a.2.2.1, .str a.2.2.2.1, .slc .sh 7 (eL a.2.2.2.2)]), (2, [.int .i64 0, .int .i64 0, .int .i64 0, .bool false, .int .i64 0, .slc .emp 0 [], .int .i64 0, .str ⟨#[]⟩, .slc .emp 0 []])]⟩) (obs := [.call 130 [.agg [.int .i64 a.2.1.1, .int .i64 a.2.1.2.1, .bool a.2.1.2.2.1, .int .i64 a.2.1.2.2.2.1, .slc .sh 4 (eL a.2.1.2.2.2.2)]] (.agg [.int .i64 a.2.1.1, .int .i64 a.2.1.2.1, .bool a.2.1.2.2.1, .int .i64 a.2.1.2.2.2.1, .slc (.own true 0) 4 (eL a.2.1.2.2.2.2)])]) tt_ok [(2, .val (.agg [.int .i64 a.2.1.1, .int .i64 a.2.1.2.1, .bool a.2.1.2.2.1, .int .i64 a.2.1.2.2.2.1, .slc (.own true 0) 4 (eL a.2.1.2.2.2.2)]))] [1, 2] [1, 2] (by kernel_rfl) (ob1 (ob_call (copyFile_a a.2.1 (sz_fst (sz_snd (sa)))))) ?_
  refine awp_seq ?_
  refine awp_regionK (s' := ⟨[(1, .one (.ptr 1 0)), (2, .one (.ptr 2 0))], [(1, [.int .i64 a.1, .int .i64 a.2.1.1, .int .i64 a.2.1.2.1, .bool a.2.1.2.2.1, .int .i64 a.2.1.2.2.2.1, .slc (.own true 320) 4 (eL a.2.1.2.2.2.2), .int .i64 a.2.2.1, .str a.2.2.2.1, .slc (.own true 576) 7 (eL a.2.2.2.2)]), (2, [.int .i64 0, .int .i64 0, .int .i64 0, .bool false, .int .i64 0, .slc .emp 0 [], .int .i64 0, .str ⟨#[]⟩, .slc .emp 0 []])]⟩) (obs := [.call 131 [.agg [.str a.2.2.2.1, .slc .sh 7 (eL a.2.2.2.2)]] (.agg [.str a.2.2.2.1, .slc (.own true 0) 7 (eL a.2.2.2.2)])]) tt_ok [(2, .val (.agg [.str a.2.2.2.1, .slc (.own true 0) 7 (eL a.2.2.2.2)]))] [1, 2] [1, 2] (by kernel_rfl) (ob1 (ob_call (copyDir_a a.2.2.2 (sz_snd (sz_snd (sz_snd (sa))))))) ?_
  refine awp_seq ?_
  refine awp_regionK (s' := ⟨[(2, .one (.ptr 2 0))], [(2, [.int .i64 a.1, .int .i64 a.2.1.1, .int .i64 a.2.1.2.1, .bool a.2.1.2.2.1, .int .i64 a.2.1.2.2.2.1, .slc (.own true 320) 4 (eL a.2.1.2.2.2.2), .int .i64 a.2.2.1, .str a.2.2.2.1, .slc (.own true 576) 7 (eL a.2.2.2.2)])]⟩) (obs := []) tt_ok [] [2] [2] (by kernel_rfl) (trivial) ?_
  refine awp_ret ?_
  refine post_ret [] (b := .agg [.int .i64 a.1, .int .i64 a.2.1.1, .int .i64 a.2.1.2.1, .bool a.2.1.2.2.1, .int .i64 a.2.1.2.2.2.1, .slc (.own true 0) 4 (eL a.2.1.2.2.2.2), .int .i64 a.2.2.1, .str a.2.2.2.1, .slc (.own true 1) 7 (eL a.2.2.2.2)]) (by kernel_rfl) ?_
  rfl
theorem copyAction_a (a : ActionD) (sa : GoD.size a ≤ 1048576)  : ACalls Try.prog 46 [.agg [.int .i64 a.1, .int .i64 a.2.1, .slc .sh 9 (eL a.2.2.1), .str a.2.2.2.1, .int .i64 a.2.2.2.2]] (.agg [.int .i64 a.1, .int .i64 a.2.1, .slc (.own true 0) 9 (eL a.2.2.1), .str a.2.2.2.1, .int .i64 a.2.2.2.2]) := by
  refine acalls_of (tt := tt) tt_ok Try.func46 (fn := Try.f46) rfl (by unfold FnOk; kernel_rfl) (Nat.le_of_ble_eq_true rfl) fun w0 F0 => ?_
  refine awp_seq ?_
  refine awp_regionK (s' := ⟨[(1, .one (.ptr 1 0)), (2, .one (.ptr 2 0))], [(1, [.int .i64 a.1, .int .i64 a.2.1, .slc .sh 9 (eL a.2.2.1), .str a.2.2.2.1, .int .i64 a.2.2.2.2]), (2, [.int .i64 0, .int .i64 0, .slc .emp 0 [], .str ⟨#[]⟩, .int .i64 0])]⟩) (obs := []) tt_ok [] [1, 2] [1, 2] (by kernel_rfl) (trivial) ?_
  refine awp_seq ?_
  refine awp_regionK (s' := ⟨[(1, .one (.ptr 1 0)), (2, .one (.ptr 2 0)), (3, .one (.slc (.own true 384) 9 []))], [(1, [.int .i64 a.1, .int .i64 a.2.1, .slc .sh 9 (eL a.2.2.1), .str a.2.2.2.1, .int .i64 a.2.2.2.2]), (2, [.int .i64 0, .int .i64 0, .slc .emp 0 [], .str ⟨#[]⟩, .int .i64 0])]⟩) (obs := []) tt_ok [] [1, 2, 3] [1, 2] (by kernel_rfl) (trivial) ?_
  refine awp_seq ?_
  refine awp_seq ?_
  have hl1 : List.length a.2.2.1 ≤ 1048576 := sz_len (sz_fst (sz_snd (sz_snd (sa))))
  refine awp_regionK (s' := ⟨[(1, .one (.ptr 1 0)), (2, .one (.ptr 2 0)), (3, .one (.slc (.own true 384) 9 [])), (8, .one (.slc .sh 9 (eL a.2.2.1))), (9, .one (.int .i64 (a.2.2.1.length : Int))), (10, .one (.int .i64 0))], [(1, [.int .i64 a.1, .int .i64 a.2.1, .slc .sh 9 (eL a.2.2.1), .str a.2.2.2.1, .int .i64 a.2.2.2.2]), (2, [.int .i64 0, .int .i64 0, .slc .emp 0 [], .str ⟨#[]⟩, .int .i64 0])]⟩) (obs := [.eq (.one (.int .i64 (((eL a.2.2.1) : List (List PV)).length : Int))) (.one (.int .i64 (a.2.2.1.length : Int)))]) tt_ok [(2, .val (.one (.int .i64 (a.2.2.1.length : Int))))] [1, 2, 3, 8, 9, 10] [1, 2] (by kernel_rfl) (ob1 (ob_eq (by simp [eL_length]))) ?_
  refine awp_block ?_
  refine awp_for (a.2.2.1.length) (fun k : Nat => (⟨[(1, .one (.ptr 1 0)), (2, .one (.ptr 2 0)), (3, .one (.slc (.own true 57600) 9 (eL (List.take k a.2.2.1)))), (8, .one (.slc .sh 9 (eL a.2.2.1))), (9, .one (.int .i64 (a.2.2.1.length : Int))), (10, .one (.int .i64 ((k : Nat) : Int)))], [(1, [.int .i64 a.1, .int .i64 a.2.1, .slc .sh 9 (eL a.2.2.1), .str a.2.2.2.1, .int .i64 a.2.2.2.2]), (2, [.int .i64 0, .int .i64 0, .slc .emp 0 [], .str ⟨#[]⟩, .int .i64 0])]⟩ : St)) (weak_to [(384, 57600)] [1, 2, 3, 8, 9, 10] [1, 2] (by kernel_rfl)) (fun k hk => ?_) ?_
  · -- round
    refine awp_seq ?_
    refine awp_regionK (s' := ⟨[(1, .one (.ptr 1 0)), (2, .one (.ptr 2 0)), (3, .one (.slc (.own true 57600) 9 (eL (List.take k a.2.2.1)))), (8, .one (.slc .sh 9 (eL a.2.2.1))), (9, .one (.int .i64 (a.2.2.1.length : Int))), (10, .one (.int .i64 ((k : Nat) : Int))), (11, .one (.bool true))], [(1, [.int .i64 a.1, .int .i64 a.2.1, .slc .sh 9 (eL a.2.2.1), .str a.2.2.2.1, .int .i64 a.2.2.2.2]), (2, [.int .i64 0, .int .i64 0, .slc .emp 0 [], .str ⟨#[]⟩, .int .i64 0])]⟩) (obs := [.eq (.one (.bool (decide (((k : Nat) : Int) < (a.2.2.1.length : Int))))) (.one (.bool true))]) tt_ok [(0, .val (.one (.bool true)))] [1, 2, 3, 8, 9, 10, 11] [1, 2] (by kernel_rfl) (ob1 (ob_eq (congrArg (fun b => AV.one (C.bool b)) (decide_eq_true (by omega))))) ?_
    refine awp_seq ?_
    refine awp_cond (b := true) rfl (fun _ => ?_) (fun h => by cases h)
    refine awp_skip ?_
    refine awp_seq ?_
    refine awp_block ?_
    refine awp_seq ?_
    obtain ⟨x2, hx3⟩ := get_some (l := a.2.2.1) (i := k) (by omega)
    refine awp_regionK (s' := ⟨[(1, .one (.ptr 1 0)), (2, .one (.ptr 2 0)), (3, .one (.slc (.own true 57600) 9 (eL (List.take k a.2.2.1)))), (5, .one (.ptr 5 0)), (8, .one (.slc .sh 9 (eL a.2.2.1))), (9, .one (.int .i64 (a.2.2.1.length : Int))), (10, .one (.int .i64 ((k : Nat) : Int)))], [(1, [.int .i64 a.1, .int .i64 a.2.1, .slc .sh 9 (eL a.2.2.1), .str a.2.2.2.1, .int .i64 a.2.2.2.2]), (2, [.int .i64 0, .int .i64 0, .slc .emp 0 [], .str ⟨#[]⟩, .int .i64 0]), (5, [.int .i64 x2.1, .int .i64 x2.2.1.1, .int .i64 x2.2.1.2.1, .bool x2.2.1.2.2.1, .int .i64 x2.2.1.2.2.2.1, .slc .sh 4 (eL x2.2.1.2.2.2.2), .int .i64 x2.2.2.1, .str x2.2.2.2.1, .slc .sh 7 (eL x2.2.2.2.2)])]⟩) (obs := [.elem (eL a.2.2.1) ((k : Nat) : Int) [.int .i64 x2.1, .int .i64 x2.2.1.1, .int .i64 x2.2.1.2.1, .bool x2.2.1.2.2.1, .int .i64 x2.2.1.2.2.2.1, .slc 4 (eL x2.2.1.2.2.2.2), .int .i64 x2.2.2.1, .str x2.2.2.2.1, .slc 7 (eL x2.2.2.2.2)]]) tt_ok [(0, .row [.int .i64 x2.1, .int .i64 x2.2.1.1, .int .i64 x2.2.1.2.1, .bool x2.2.1.2.2.1, .int .i64 x2.2.1.2.2.2.1, .slc 4 (eL x2.2.1.2.2.2.2), .int .i64 x2.2.2.1, .str x2.2.2.2.1, .slc 7 (eL x2.2.2.2.2)])] [1, 2, 3, 5, 8, 9, 10] [1, 2, 5] (by kernel_rfl) (ob1 (ob_elem (⟨by omega, eL_get (by simpa using hx3)⟩))) ?_
    refine awp_regionK (s' := ⟨[(1, .one (.ptr 1 0)), (2, .one (.ptr 2 0)), (3, .one (.slc (.own true 1152) 9 ((eL (List.take k a.2.2.1)) ++ [[.int .i64 x2.1, .int .i64 x2.2.1.1, .int .i64 x2.2.1.2.1, .bool x2.2.1.2.2.1, .int .i64 x2.2.1.2.2.2.1, .slc 4 (eL x2.2.1.2.2.2.2), .int .i64 x2.2.2.1, .str x2.2.2.2.1, .slc 7 (eL x2.2.2.2.2)]]))), (8, .one (.slc .sh 9 (eL a.2.2.1))), (9, .one (.int .i64 (a.2.2.1.length : Int))), (10, .one (.int .i64 ((k : Nat) : Int)))], [(1, [.int .i64 a.1, .int .i64 a.2.1, .slc .sh 9 (eL a.2.2.1), .str a.2.2.2.1, .int .i64 a.2.2.2.2]), (2, [.int .i64 0, .int .i64 0, .slc .emp 0 [], .str ⟨#[]⟩, .int .i64 0])]⟩) (obs := [.call 84 [.agg [.int .i64 x2.1, .int .i64 x2.2.1.1, .int .i64 x2.2.1.2.1, .bool x2.2.1.2.2.1, .int .i64 x2.2.1.2.2.2.1, .slc .sh 4 (eL x2.2.1.2.2.2.2), .int .i64 x2.2.2.1, .str x2.2.2.2.1, .slc .sh 7 (eL x2.2.2.2.2)]] (.agg [.int .i64 x2.1, .int .i64 x2.2.1.1, .int .i64 x2.2.1.2.1, .bool x2.2.1.2.2.1, .int .i64 x2.2.1.2.2.2.1, .slc (.own true 0) 4 (eL x2.2.1.2.2.2.2), .int .i64 x2.2.2.1, .str x2.2.2.2.1, .slc (.own true 1) 7 (eL x2.2.2.2.2)]), .len (((eL (List.take k a.2.2.1)) : List (List PV)).length + ([[.int .i64 x2.1, .int .i64 x2.2.1.1, .int .i64 x2.2.1.2.1, .bool x2.2.1.2.2.1, .int .i64 x2.2.1.2.2.2.1, .slc 4 (eL x2.2.1.2.2.2.2), .int .i64 x2.2.2.1, .str x2.2.2.2.1, .slc 7 (eL x2.2.2.2.2)]] : List (List PV)).length)]) tt_ok [(2, .val (.agg [.int .i64 x2.1, .int .i64 x2.2.1.1, .int .i64 x2.2.1.2.1, .bool x2.2.1.2.2.1, .int .i64 x2.2.1.2.2.2.1, .slc (.own true 0) 4 (eL x2.2.1.2.2.2.2), .int .i64 x2.2.2.1, .str x2.2.2.2.1, .slc (.own true 1) 7 (eL x2.2.2.2.2)]))] [1, 2, 3, 8, 9, 10] [1, 2] (by kernel_rfl) (obc (ob_call (copyChange_a x2 (sz_get hx3 (sz_fst (sz_snd (sz_snd (sa))))))) (ob1 (ob_len (by simp [eL_length]; omega)))) ?_
    refine awp_regionK (s' := ⟨[(1, .one (.ptr 1 0)), (2, .one (.ptr 2 0)), (3, .one (.slc (.own true 1152) 9 ((eL (List.take k a.2.2.1)) ++ [[.int .i64 x2.1, .int .i64 x2.2.1.1, .int .i64 x2.2.1.2.1, .bool x2.2.1.2.2.1, .int .i64 x2.2.1.2.2.2.1, .slc 4 (eL x2.2.1.2.2.2.2), .int .i64 x2.2.2.1, .str x2.2.2.2.1, .slc 7 (eL x2.2.2.2.2)]]))), (8, .one (.slc .sh 9 (eL a.2.2.1))), (9, .one (.int .i64 (a.2.2.1.length : Int))), (10, .one (.int .i64 (((k : Nat) : Int) + 1)))], [(1, [.int .i64 a.1, .int .i64 a.2.1, .slc .sh 9 (eL a.2.2.1), .str a.2.2.2.1, .int .i64 a.2.2.2.2]), (2, [.int .i64 0, .int .i64 0, .slc .emp 0 [], .str ⟨#[]⟩, .int .i64 0])]⟩) (obs := [.eq (.one (.int .i64 (IntKind.i64.wrap (((k : Nat) : Int) + 1)))) (.one (.int .i64 (((k : Nat) : Int) + 1)))]) tt_ok [(0, .val (.one (.int .i64 (((k : Nat) : Int) + 1))))] [1, 2, 3, 8, 9, 10] [1, 2] (by kernel_rfl) (ob1 (ob_eq (congrArg (fun n => AV.one (.int .i64 n)) (IntWalk.i64_in _ (by omega))))) ?_
    exact weak_to [(1152, 57600)] [1, 2, 3, 8, 9, 10] [1, 2] (Eq.trans (b := (⟨[(1, .one (.ptr 1 0)), (2, .one (.ptr 2 0)), (3, .one (.slc (.own true 57600) 9 ((eL (List.take k a.2.2.1)) ++ [[.int .i64 x2.1, .int .i64 x2.2.1.1, .int .i64 x2.2.1.2.1, .bool x2.2.1.2.2.1, .int .i64 x2.2.1.2.2.2.1, .slc 4 (eL x2.2.1.2.2.2.2), .int .i64 x2.2.2.1, .str x2.2.2.2.1, .slc 7 (eL x2.2.2.2.2)]]))), (8, .one (.slc .sh 9 (eL a.2.2.1))), (9, .one (.int .i64 (a.2.2.1.length : Int))), (10, .one (.int .i64 (((k : Nat) : Int) + 1)))], [(1, [.int .i64 a.1, .int .i64 a.2.1, .slc .sh 9 (eL a.2.2.1), .str a.2.2.2.1, .int .i64 a.2.2.2.2]), (2, [.int .i64 0, .int .i64 0, .slc .emp 0 [], .str ⟨#[]⟩, .int .i64 0])]⟩ : St)) (by kernel_rfl) (by rw [← eL_take_succ hx3]; rfl))
  · -- exit
    refine awp_seq ?_
    refine awp_regionK (s' := ⟨[(1, .one (.ptr 1 0)), (2, .one (.ptr 2 0)), (3, .one (.slc (.own true 57600) 9 (eL (List.take a.2.2.1.length a.2.2.1)))), (8, .one (.slc .sh 9 (eL a.2.2.1))), (9, .one (.int .i64 (a.2.2.1.length : Int))), (10, .one (.int .i64 ((a.2.2.1.length : Nat) : Int))), (11, .one (.bool false))], [(1, [.int .i64 a.1, .int .i64 a.2.1, .slc .sh 9 (eL a.2.2.1), .str a.2.2.2.1, .int .i64 a.2.2.2.2]), (2, [.int .i64 0, .int .i64 0, .slc .emp 0 [], .str ⟨#[]⟩, .int .i64 0])]⟩) (obs := [.eq (.one (.bool (decide (((a.2.2.1.length : Nat) : Int) < (a.2.2.1.length : Int))))) (.one (.bool false))]) tt_ok [(0, .val (.one (.bool false)))] [1, 2, 3, 8, 9, 10, 11] [1, 2] (by kernel_rfl) (ob1 (ob_eq (congrArg (fun b => AV.one (C.bool b)) (decide_eq_false (by omega))))) ?_
    refine awp_seq ?_
    refine awp_cond (b := false) rfl (fun h => by cases h) (fun _ => ?_)
    refine awp_exit ?_
    refine awp_seq ?_
    refine awp_regionK (s' := ⟨[(1, .one (.ptr 1 0)), (2, .one (.ptr 2 0))], [(1, [.int .i64 a.1, .int .i64 a.2.1, .slc (.own true 57600) 9 (eL (List.take a.2.2.1.length a.2.2.1)), .str a.2.2.2.1, .int .i64 a.2.2.2.2]), (2, [.int .i64 0, .int .i64 0, .slc .emp 0 [], .str ⟨#[]⟩, .int .i64 0])]⟩) (obs := []) tt_ok [] [1, 2] [1, 2] (by kernel_rfl) (trivial) ?_
    refine awp_seq ?_
    refine awp_regionK (s' := ⟨[(2, .one (.ptr 2 0))], [(2, [.int .i64 a.1, .int .i64 a.2.1, .slc (.own true 57600) 9 (eL (List.take a.2.2.1.length a.2.2.1)), .str a.2.2.2.1, .int .i64 a.2.2.2.2])]⟩) (obs := []) tt_ok [] [2] [2] (by kernel_rfl) (trivial) ?_
    refine awp_ret ?_
    refine post_ret [] (b := .agg [.int .i64 a.1, .int .i64 a.2.1, .slc (.own true 0) 9 (eL (List.take a.2.2.1.length a.2.2.1)), .str a.2.2.2.1, .int .i64 a.2.2.2.2]) (by kernel_rfl) ?_
    rw [List.take_length]
theorem l04Copy_a (a : FileD) (sa : GoD.size a ≤ 1048576)  : ACalls Try.prog 82 [.agg [.int .i64 a.1, .int .i64 a.2.1, .bool a.2.2.1, .int .i64 a.2.2.2.1, .slc .sh 4 (eL a.2.2.2.2)]] (.agg [.int .i64 a.1, .int .i64 a.2.1, .bool a.2.2.1, .int .i64 a.2.2.2.1, .slc (.own true 0) 4 (eL a.2.2.2.2)]) := by
  refine acalls_of (tt := tt) tt_ok Try.func82 (fn := Try.f82) rfl (by unfold FnOk; kernel_rfl) (Nat.le_of_ble_eq_true rfl) fun w0 F0 => ?_
  refine awp_seq ?_
  refine awp_regionK (s' := ⟨[(1, .one (.ptr 1 0)), (2, .one (.ptr 2 0))], [(1, [.int .i64 a.1, .int .i64 a.2.1, .bool a.2.2.1, .int .i64 a.2.2.2.1, .slc .sh 4 (eL a.2.2.2.2)]), (2, [.int .i64 0, .int .i64 0, .bool false, .int .i64 0, .slc .emp 0 []])]⟩) (obs := []) tt_ok [] [1, 2] [1, 2] (by kernel_rfl) (trivial) ?_
  refine awp_seq ?_
  have hl1 : List.length a.2.2.2.2 ≤ 1048576 := sz_len (sz_snd (sz_snd (sz_snd (sz_snd (sa)))))
  refine awp_regionK (s' := ⟨[(1, .one (.ptr 1 0)), (2, .one (.ptr 2 0))], [(1, [.int .i64 a.1, .int .i64 a.2.1, .bool a.2.2.1, .int .i64 a.2.2.2.1, .slc (.own true 384) 4 ([] ++ (eL a.2.2.2.2))]), (2, [.int .i64 0, .int .i64 0, .bool false, .int .i64 0, .slc .emp 0 []])]⟩) (obs := [.len (([] : List (List PV)).length + ((eL a.2.2.2.2) : List (List PV)).length), .flat (eL a.2.2.2.2)]) tt_ok [(3, .flat)] [1, 2] [1, 2] (by kernel_rfl) (obc (ob_len (by simp [eL_length]; omega)) (ob1 (ob_flat (flat_eL _)))) ?_
  refine awp_seq ?_
  refine awp_regionK (s' := ⟨[(2, .one (.ptr 2 0))], [(2, [.int .i64 a.1, .int .i64 a.2.1, .bool a.2.2.1, .int .i64 a.2.2.2.1, .slc (.own true 384) 4 ([] ++ (eL a.2.2.2.2))])]⟩) (obs := []) tt_ok [] [2] [2] (by kernel_rfl) (trivial) ?_
  refine awp_ret ?_
  refine post_ret [] (b := .agg [.int .i64 a.1, .int .i64 a.2.1, .bool a.2.2.1, .int .i64 a.2.2.2.1, .slc (.own true 0) 4 ([] ++ (eL a.2.2.2.2))]) (by kernel_rfl) ?_
  rfl
theorem l35Act_a (a : ActionD) (sa : GoD.size a ≤ 1048576)  : ACalls Try.prog 44 [.agg [.int .i64 a.1, .int .i64 a.2.1, .slc .sh 9 (eL a.2.2.1), .str a.2.2.2.1, .int .i64 a.2.2.2.2]] (.agg [.int .i64 a.1, .int .i64 a.2.1, .slc (.own true 0) 9 (eL a.2.2.1), .str a.2.2.2.1, .int .i64 a.2.2.2.2]) := by
  refine acalls_of (tt := tt) tt_ok Try.func44 (fn := Try.f44) rfl (by unfold FnOk; kernel_rfl) (Nat.le_of_ble_eq_true rfl) fun w0 F0 => ?_
  refine awp_seq ?_
  refine awp_regionK (s' := ⟨[(1, .one (.ptr 1 0)), (2, .one (.ptr 2 0))], [(1, [.int .i64 a.1, .int .i64 a.2.1, .slc .sh 9 (eL a.2.2.1), .str a.2.2.2.1, .int .i64 a.2.2.2.2]), (2, [.int .i64 0, .int .i64 0, .slc .emp 0 [], .str ⟨#[]⟩, .int .i64 0])]⟩) (obs := []) tt_ok [] [1, 2] [1, 2] (by kernel_rfl) (trivial) ?_
  refine awp_seq ?_
  refine awp_regionK (s' := ⟨[(1, .one (.ptr 1 0)), (2, .one (.ptr 2 0)), (3, .one (.slc (.own true 384) 9 []))], [(1, [.int .i64 a.1, .int .i64 a.2.1, .slc .sh 9 (eL a.2.2.1), .str a.2.2.2.1, .int .i64 a.2.2.2.2]), (2, [.int .i64 0, .int .i64 0, .slc .emp 0 [], .str ⟨#[]⟩, .int .i64 0])]⟩) (obs := []) tt_ok [] [1, 2, 3] [1, 2] (by kernel_rfl) (trivial) ?_
  refine awp_seq ?_
  refine awp_seq ?_
  refine awp_regionK (s' := ⟨[(1, .one (.ptr 1 0)), (2, .one (.ptr 2 0)), (3, .one (.slc (.own true 384) 9 [])), (4, .one (.int .i64 0))], [(1, [.int .i64 a.1, .int .i64 a.2.1, .slc .sh 9 (eL a.2.2.1), .str a.2.2.2.1, .int .i64 a.2.2.2.2]), (2, [.int .i64 0, .int .i64 0, .slc .emp 0 [], .str ⟨#[]⟩, .int .i64 0])]⟩) (obs := []) tt_ok [] [1, 2, 3, 4] [1, 2] (by kernel_rfl) (trivial) ?_
  refine awp_block ?_
  refine awp_for (a.2.2.1.length) (fun k : Nat => (⟨[(1, .one (.ptr 1 0)), (2, .one (.ptr 2 0)), (3, .one (.slc (.own true 57600) 9 (eL (List.take k a.2.2.1)))), (4, .one (.int .i64 ((k : Nat) : Int)))], [(1, [.int .i64 a.1, .int .i64 a.2.1, .slc .sh 9 (eL a.2.2.1), .str a.2.2.2.1, .int .i64 a.2.2.2.2]), (2, [.int .i64 0, .int .i64 0, .slc .emp 0 [], .str ⟨#[]⟩, .int .i64 0])]⟩ : St)) (weak_to [(384, 57600)] [1, 2, 3, 4] [1, 2] (by kernel_rfl)) (fun k hk => ?_) ?_
  · -- round
    refine awp_seq ?_
    refine awp_seq ?_
    have hl1 : List.length a.2.2.1 ≤ 1048576 := sz_len (sz_fst (sz_snd (sz_snd (sa))))
    refine awp_regionK (s' := ⟨[(1, .one (.ptr 1 0)), (2, .one (.ptr 2 0)), (3, .one (.slc (.own true 57600) 9 (eL (List.take k a.2.2.1)))), (4, .one (.int .i64 ((k : Nat) : Int))), (11, .one (.bool true))], [(1, [.int .i64 a.1, .int .i64 a.2.1, .slc .sh 9 (eL a.2.2.1), .str a.2.2.2.1, .int .i64 a.2.2.2.2]), (2, [.int .i64 0, .int .i64 0, .slc .emp 0 [], .str ⟨#[]⟩, .int .i64 0])]⟩) (obs := [.eq (.one (.int .i64 (((eL a.2.2.1) : List (List PV)).length : Int))) (.one (.int .i64 (a.2.2.1.length : Int))), .eq (.one (.bool (decide (((k : Nat) : Int) < (a.2.2.1.length : Int))))) (.one (.bool true))]) tt_ok [(3, .val (.one (.int .i64 (a.2.2.1.length : Int)))), (4, .val (.one (.bool true)))] [1, 2, 3, 4, 11] [1, 2] (by kernel_rfl) (obc (ob_eq (by simp [eL_length])) (ob1 (ob_eq (congrArg (fun b => AV.one (C.bool b)) (decide_eq_true (by omega)))))) ?_
    refine awp_cond (b := true) rfl (fun _ => ?_) (fun h => by cases h)
    refine awp_skip ?_
    refine awp_seq ?_
    refine awp_block ?_
    refine awp_seq ?_
    obtain ⟨x2, hx3⟩ := get_some (l := a.2.2.1) (i := k) (by omega)
    refine awp_regionK (s' := ⟨[(1, .one (.ptr 1 0)), (2, .one (.ptr 2 0)), (3, .one (.slc (.own true 57600) 9 (eL (List.take k a.2.2.1)))), (4, .one (.int .i64 ((k : Nat) : Int))), (5, .one (.ptr 5 0))], [(1, [.int .i64 a.1, .int .i64 a.2.1, .slc .sh 9 (eL a.2.2.1), .str a.2.2.2.1, .int .i64 a.2.2.2.2]), (2, [.int .i64 0, .int .i64 0, .slc .emp 0 [], .str ⟨#[]⟩, .int .i64 0]), (5, [.int .i64 x2.1, .int .i64 x2.2.1.1, .int .i64 x2.2.1.2.1, .bool x2.2.1.2.2.1, .int .i64 x2.2.1.2.2.2.1, .slc .sh 4 (eL x2.2.1.2.2.2.2), .int .i64 x2.2.2.1, .str x2.2.2.2.1, .slc .sh 7 (eL x2.2.2.2.2)])]⟩) (obs := [.elem (eL a.2.2.1) ((k : Nat) : Int) [.int .i64 x2.1, .int .i64 x2.2.1.1, .int .i64 x2.2.1.2.1, .bool x2.2.1.2.2.1, .int .i64 x2.2.1.2.2.2.1, .slc 4 (eL x2.2.1.2.2.2.2), .int .i64 x2.2.2.1, .str x2.2.2.2.1, .slc 7 (eL x2.2.2.2.2)]]) tt_ok [(3, .row [.int .i64 x2.1, .int .i64 x2.2.1.1, .int .i64 x2.2.1.2.1, .bool x2.2.1.2.2.1, .int .i64 x2.2.1.2.2.2.1, .slc 4 (eL x2.2.1.2.2.2.2), .int .i64 x2.2.2.1, .str x2.2.2.2.1, .slc 7 (eL x2.2.2.2.2)])] [1, 2, 3, 4, 5] [1, 2, 5] (by kernel_rfl) (ob1 (ob_elem (⟨by omega, eL_get (by simpa using hx3)⟩))) ?_
    refine awp_seq ?_
    refine awp_regionK (s' := ⟨[(1, .one (.ptr 1 0)), (2, .one (.ptr 2 0)), (3, .one (.slc (.own true 57600) 9 (eL (List.take k a.2.2.1)))), (4, .one (.int .i64 ((k : Nat) : Int))), (5, .one (.ptr 5 0))], [(1, [.int .i64 a.1, .int .i64 a.2.1, .slc .sh 9 (eL a.2.2.1), .str a.2.2.2.1, .int .i64 a.2.2.2.2]), (2, [.int .i64 0, .int .i64 0, .slc .emp 0 [], .str ⟨#[]⟩, .int .i64 0]), (5, [.int .i64 x2.1, .int .i64 x2.2.1.1, .int .i64 x2.2.1.2.1, .bool x2.2.1.2.2.1, .int .i64 x2.2.1.2.2.2.1, .slc (.own true 1344) 4 (eL x2.2.1.2.2.2.2), .int .i64 x2.2.2.1, .str x2.2.2.2.1, .slc .sh 7 (eL x2.2.2.2.2)])]⟩) (obs := [.call 82 [.agg [.int .i64 x2.2.1.1, .int .i64 x2.2.1.2.1, .bool x2.2.1.2.2.1, .int .i64 x2.2.1.2.2.2.1, .slc .sh 4 (eL x2.2.1.2.2.2.2)]] (.agg [.int .i64 x2.2.1.1, .int .i64 x2.2.1.2.1, .bool x2.2.1.2.2.1, .int .i64 x2.2.1.2.2.2.1, .slc (.own true 0) 4 (eL x2.2.1.2.2.2.2)])]) tt_ok [(2, .val (.agg [.int .i64 x2.2.1.1, .int .i64 x2.2.1.2.1, .bool x2.2.1.2.2.1, .int .i64 x2.2.1.2.2.2.1, .slc (.own true 0) 4 (eL x2.2.1.2.2.2.2)]))] [1, 2, 3, 4, 5] [1, 2, 5] (by kernel_rfl) (ob1 (ob_call (l04Copy_a x2.2.1 (sz_fst (sz_snd (sz_get hx3 (sz_fst (sz_snd (sz_snd (sa)))))))))) ?_
    refine awp_seq ?_
    have hl4 : List.length x2.2.2.2.2 ≤ 1048576 := sz_len (sz_snd (sz_snd (sz_snd (sz_snd (sz_get hx3 (sz_fst (sz_snd (sz_snd (sa)))))))))
    refine awp_regionK (s' := ⟨[(1, .one (.ptr 1 0)), (2, .one (.ptr 2 0)), (3, .one (.slc (.own true 57600) 9 (eL (List.take k a.2.2.1)))), (4, .one (.int .i64 ((k : Nat) : Int))), (5, .one (.ptr 5 0))], [(1, [.int .i64 a.1, .int .i64 a.2.1, .slc .sh 9 (eL a.2.2.1), .str a.2.2.2.1, .int .i64 a.2.2.2.2]), (2, [.int .i64 0, .int .i64 0, .slc .emp 0 [], .str ⟨#[]⟩, .int .i64 0]), (5, [.int .i64 x2.1, .int .i64 x2.2.1.1, .int .i64 x2.2.1.2.1, .bool x2.2.1.2.2.1, .int .i64 x2.2.1.2.2.2.1, .slc (.own true 1344) 4 (eL x2.2.1.2.2.2.2), .int .i64 x2.2.2.1, .str x2.2.2.2.1, .slc (.own true 1728) 7 ([] ++ (eL x2.2.2.2.2))])]⟩) (obs := [.len (([] : List (List PV)).length + ((eL x2.2.2.2.2) : List (List PV)).length), .flat (eL x2.2.2.2.2)]) tt_ok [(4, .flat)] [1, 2, 3, 4, 5] [1, 2, 5] (by kernel_rfl) (obc (ob_len (by simp [eL_length]; omega)) (ob1 (ob_flat (flat_eL _)))) ?_
    refine awp_regionK (s' := ⟨[(1, .one (.ptr 1 0)), (2, .one (.ptr 2 0)), (3, .one (.slc (.own true 2112) 9 ((eL (List.take k a.2.2.1)) ++ [[.int .i64 x2.1, .int .i64 x2.2.1.1, .int .i64 x2.2.1.2.1, .bool x2.2.1.2.2.1, .int .i64 x2.2.1.2.2.2.1, .slc 4 (eL x2.2.1.2.2.2.2), .int .i64 x2.2.2.1, .str x2.2.2.2.1, .slc 7 ([] ++ (eL x2.2.2.2.2))]]))), (4, .one (.int .i64 ((k : Nat) : Int)))], [(1, [.int .i64 a.1, .int .i64 a.2.1, .slc .sh 9 (eL a.2.2.1), .str a.2.2.2.1, .int .i64 a.2.2.2.2]), (2, [.int .i64 0, .int .i64 0, .slc .emp 0 [], .str ⟨#[]⟩, .int .i64 0])]⟩) (obs := [.len (((eL (List.take k a.2.2.1)) : List (List PV)).length + ([[.int .i64 x2.1, .int .i64 x2.2.1.1, .int .i64 x2.2.1.2.1, .bool x2.2.1.2.2.1, .int .i64 x2.2.1.2.2.2.1, .slc 4 (eL x2.2.1.2.2.2.2), .int .i64 x2.2.2.1, .str x2.2.2.2.1, .slc 7 ([] ++ (eL x2.2.2.2.2))]] : List (List PV)).length)]) tt_ok [] [1, 2, 3, 4] [1, 2] (by kernel_rfl) (ob1 (ob_len (by simp [eL_length]; omega))) ?_
    refine awp_regionK (s' := ⟨[(1, .one (.ptr 1 0)), (2, .one (.ptr 2 0)), (3, .one (.slc (.own true 2112) 9 ((eL (List.take k a.2.2.1)) ++ [[.int .i64 x2.1, .int .i64 x2.2.1.1, .int .i64 x2.2.1.2.1, .bool x2.2.1.2.2.1, .int .i64 x2.2.1.2.2.2.1, .slc 4 (eL x2.2.1.2.2.2.2), .int .i64 x2.2.2.1, .str x2.2.2.2.1, .slc 7 ([] ++ (eL x2.2.2.2.2))]]))), (4, .one (.int .i64 (((k : Nat) : Int) + 1)))], [(1, [.int .i64 a.1, .int .i64 a.2.1, .slc .sh 9 (eL a.2.2.1), .str a.2.2.2.1, .int .i64 a.2.2.2.2]), (2, [.int .i64 0, .int .i64 0, .slc .emp 0 [], .str ⟨#[]⟩, .int .i64 0])]⟩) (obs := [.eq (.one (.int .i64 (IntKind.i64.wrap (((k : Nat) : Int) + 1)))) (.one (.int .i64 (((k : Nat) : Int) + 1)))]) tt_ok [(1, .val (.one (.int .i64 (((k : Nat) : Int) + 1))))] [1, 2, 3, 4] [1, 2] (by kernel_rfl) (ob1 (ob_eq (congrArg (fun n => AV.one (.int .i64 n)) (IntWalk.i64_in _ (by omega))))) ?_
    exact weak_to [(2112, 57600)] [1, 2, 3, 4] [1, 2] (Eq.trans (b := (⟨[(1, .one (.ptr 1 0)), (2, .one (.ptr 2 0)), (3, .one (.slc (.own true 57600) 9 ((eL (List.take k a.2.2.1)) ++ [[.int .i64 x2.1, .int .i64 x2.2.1.1, .int .i64 x2.2.1.2.1, .bool x2.2.1.2.2.1, .int .i64 x2.2.1.2.2.2.1, .slc 4 (eL x2.2.1.2.2.2.2), .int .i64 x2.2.2.1, .str x2.2.2.2.1, .slc 7 ([] ++ (eL x2.2.2.2.2))]]))), (4, .one (.int .i64 (((k : Nat) : Int) + 1)))], [(1, [.int .i64 a.1, .int .i64 a.2.1, .slc .sh 9 (eL a.2.2.1), .str a.2.2.2.1, .int .i64 a.2.2.2.2]), (2, [.int .i64 0, .int .i64 0, .slc .emp 0 [], .str ⟨#[]⟩, .int .i64 0])]⟩ : St)) (by kernel_rfl) (by rw [← eL_take_succ hx3]; rfl))
  · -- exit
    refine awp_seq ?_
    refine awp_seq ?_
    have hl5 : List.length a.2.2.1 ≤ 1048576 := sz_len (sz_fst (sz_snd (sz_snd (sa))))
    refine awp_regionK (s' := ⟨[(1, .one (.ptr 1 0)), (2, .one (.ptr 2 0)), (3, .one (.slc (.own true 57600) 9 (eL (List.take a.2.2.1.length a.2.2.1)))), (4, .one (.int .i64 ((a.2.2.1.length : Nat) : Int))), (11, .one (.bool false))], [(1, [.int .i64 a.1, .int .i64 a.2.1, .slc .sh 9 (eL a.2.2.1), .str a.2.2.2.1, .int .i64 a.2.2.2.2]), (2, [.int .i64 0, .int .i64 0, .slc .emp 0 [], .str ⟨#[]⟩, .int .i64 0])]⟩) (obs := [.eq (.one (.int .i64 (((eL a.2.2.1) : List (List PV)).length : Int))) (.one (.int .i64 (a.2.2.1.length : Int))), .eq (.one (.bool (decide (((a.2.2.1.length : Nat) : Int) < (a.2.2.1.length : Int))))) (.one (.bool false))]) tt_ok [(3, .val (.one (.int .i64 (a.2.2.1.length : Int)))), (4, .val (.one (.bool false)))] [1, 2, 3, 4, 11] [1, 2] (by kernel_rfl) (obc (ob_eq (by simp [eL_length])) (ob1 (ob_eq (congrArg (fun b => AV.one (C.bool b)) (decide_eq_false (by omega)))))) ?_
    refine awp_cond (b := false) rfl (fun h => by cases h) (fun _ => ?_)
    refine awp_exit ?_
    refine awp_seq ?_
    refine awp_regionK (s' := ⟨[(1, .one (.ptr 1 0)), (2, .one (.ptr 2 0))], [(1, [.int .i64 a.1, .int .i64 a.2.1, .slc (.own true 57600) 9 (eL (List.take a.2.2.1.length a.2.2.1)), .str a.2.2.2.1, .int .i64 a.2.2.2.2]), (2, [.int .i64 0, .int .i64 0, .slc .emp 0 [], .str ⟨#[]⟩, .int .i64 0])]⟩) (obs := []) tt_ok [] [1, 2] [1, 2] (by kernel_rfl) (trivial) ?_
    refine awp_seq ?_
    refine awp_regionK (s' := ⟨[(2, .one (.ptr 2 0))], [(2, [.int .i64 a.1, .int .i64 a.2.1, .slc (.own true 57600) 9 (eL (List.take a.2.2.1.length a.2.2.1)), .str a.2.2.2.1, .int .i64 a.2.2.2.2])]⟩) (obs := []) tt_ok [] [2] [2] (by kernel_rfl) (trivial) ?_
    refine awp_ret ?_
    refine post_ret [] (b := .agg [.int .i64 a.1, .int .i64 a.2.1, .slc (.own true 0) 9 (eL (List.take a.2.2.1.length a.2.2.1)), .str a.2.2.2.1, .int .i64 a.2.2.2.2]) (by kernel_rfl) ?_
    rw [List.take_length]
theorem implSucceededActions_a (a : (List ActionD)) (b : (List Bool)) (sa : GoD.size a ≤ 1048576) (sb : GoD.size b ≤ 1048576)  : ACalls Try.prog 16 [.one (.slc .sh 5 (eL a)), .one (.slc .sh 1 (eL b))] (.one (.slc (.own true 0) 5 (eL (succ a b)))) := by
  refine acalls_of (tt := tt) tt_ok Try.func16 (fn := Try.f16) rfl (by unfold FnOk; kernel_rfl) (Nat.le_of_ble_eq_true rfl) fun w0 F0 => ?_
  refine awp_seq ?_
  refine awp_regionK (s' := ⟨[(0, .one (.slc .sh 5 (eL a))), (1, .one (.slc .sh 1 (eL b))), (4, .one (.slc .emp 0 []))], []⟩) (obs := []) tt_ok [] [0, 1, 4] [] (by kernel_rfl) (trivial) ?_
  refine awp_seq ?_
  refine awp_regionK (s' := ⟨[(0, .one (.slc .sh 5 (eL a))), (1, .one (.slc .sh 1 (eL b))), (4, .one (.slc .emp 0 [])), (5, .one (.slc (.own true 512) 5 []))], []⟩) (obs := []) tt_ok [] [0, 1, 4, 5] [] (by kernel_rfl) (trivial) ?_
  refine awp_seq ?_
  refine awp_seq ?_
  have hl1 : List.length a ≤ 1048576 := sz_len (sa)
  refine awp_regionK (s' := ⟨[(1, .one (.slc .sh 1 (eL b))), (4, .one (.slc .emp 0 [])), (5, .one (.slc (.own true 512) 5 [])), (9, .one (.slc .sh 5 (eL a))), (10, .one (.int .i64 (a.length : Int))), (11, .one (.int .i64 0))], []⟩) (obs := [.eq (.one (.int .i64 (((eL a) : List (List PV)).length : Int))) (.one (.int .i64 (a.length : Int)))]) tt_ok [(1, .val (.one (.int .i64 (a.length : Int))))] [1, 4, 5, 9, 10, 11] [] (by kernel_rfl) (ob1 (ob_eq (by simp [eL_length]))) ?_
  refine awp_block ?_
  refine awp_for (a.length) (fun k : Nat => (⟨[(1, .one (.slc .sh 1 (eL b))), (4, .one (.slc .emp 0 [])), (5, .one (.slc (.own true 57600) 5 (eL (succ (List.take k a) b)))), (9, .one (.slc .sh 5 (eL a))), (10, .one (.int .i64 (a.length : Int))), (11, .one (.int .i64 ((k : Nat) : Int)))], []⟩ : St)) (weak_to [(512, 57600)] [1, 4, 5, 9, 10, 11] [] (by kernel_rfl)) (fun k hk => ?_) ?_
  · -- round
    have hsl : (succ (List.take k a) b).length ≤ k := Nat.le_trans (succ_len _ _) (List.length_take_le k a)
    refine awp_seq ?_
    refine awp_regionK (s' := ⟨[(1, .one (.slc .sh 1 (eL b))), (4, .one (.slc .emp 0 [])), (5, .one (.slc (.own true 57600) 5 (eL (succ (List.take k a) b)))), (9, .one (.slc .sh 5 (eL a))), (10, .one (.int .i64 (a.length : Int))), (11, .one (.int .i64 ((k : Nat) : Int))), (12, .one (.bool true))], []⟩) (obs := [.eq (.one (.bool (decide (((k : Nat) : Int) < (a.length : Int))))) (.one (.bool true))]) tt_ok [(0, .val (.one (.bool true)))] [1, 4, 5, 9, 10, 11, 12] [] (by kernel_rfl) (ob1 (ob_eq (congrArg (fun b => AV.one (C.bool b)) (decide_eq_true (by omega))))) ?_
    refine awp_seq ?_
    refine awp_cond (b := true) rfl (fun _ => ?_) (fun h => by cases h)
    refine awp_skip ?_
    refine awp_seq ?_
    refine awp_block ?_
    refine awp_seq ?_
    obtain ⟨x2, hx3⟩ := get_some (l := a) (i := k) (by omega)
    refine awp_regionK (s' := ⟨[(1, .one (.slc .sh 1 (eL b))), (4, .one (.slc .emp 0 [])), (5, .one (.slc (.own true 57600) 5 (eL (succ (List.take k a) b)))), (6, .one (.int .i64 ((k : Nat) : Int))), (7, .one (.ptr 7 0)), (9, .one (.slc .sh 5 (eL a))), (10, .one (.int .i64 (a.length : Int))), (11, .one (.int .i64 ((k : Nat) : Int)))], [(7, [.int .i64 x2.1, .int .i64 x2.2.1, .slc .sh 9 (eL x2.2.2.1), .str x2.2.2.2.1, .int .i64 x2.2.2.2.2])]⟩) (obs := [.elem (eL a) ((k : Nat) : Int) [.int .i64 x2.1, .int .i64 x2.2.1, .slc 9 (eL x2.2.2.1), .str x2.2.2.2.1, .int .i64 x2.2.2.2.2]]) tt_ok [(1, .row [.int .i64 x2.1, .int .i64 x2.2.1, .slc 9 (eL x2.2.2.1), .str x2.2.2.2.1, .int .i64 x2.2.2.2.2])] [1, 4, 5, 6, 7, 9, 10, 11] [7] (by kernel_rfl) (ob1 (ob_elem (⟨by omega, eL_get (by simpa using hx3)⟩))) ?_
    refine awp_seq ?_
    rcases Bool.eq_false_or_eq_true (decide (((k : Nat) : Int) < (b.length : Int))) with h4 | h4
    · -- decide (((k : Nat) : Int) < (b.length : Int)) is True
      have h4d := of_decide_eq_true h4
      have hl5 : List.length b ≤ 1048576 := sz_len (sb)
      obtain ⟨x6, hx7⟩ := get_some (l := b) (i := k) (by omega)
      refine awp_regionK (s' := ⟨[(1, .one (.slc .sh 1 (eL b))), (4, .one (.slc .emp 0 [])), (5, .one (.slc (.own true 57600) 5 (eL (succ (List.take k a) b)))), (7, .one (.ptr 7 0)), (9, .one (.slc .sh 5 (eL a))), (10, .one (.int .i64 (a.length : Int))), (11, .one (.int .i64 ((k : Nat) : Int))), (25, .one (.bool x6))], [(7, [.int .i64 x2.1, .int .i64 x2.2.1, .slc .sh 9 (eL x2.2.2.1), .str x2.2.2.2.1, .int .i64 x2.2.2.2.2])]⟩) (obs := [.eq (.one (.int .i64 (((eL b) : List (List PV)).length : Int))) (.one (.int .i64 (b.length : Int))), .eq (.one (.bool (decide (((k : Nat) : Int) < (b.length : Int))))) (.one (.bool true)), .elem (eL b) ((k : Nat) : Int) [.bool x6]]) tt_ok [(2, .val (.one (.int .i64 (b.length : Int)))), (3, .val (.one (.bool true))), (7, .row [.bool x6])] [1, 4, 5, 7, 9, 10, 11, 25] [7] (by kernel_rfl) (obc (ob_eq (by simp [eL_length])) (obc (ob_eq (congrArg (fun b => AV.one (C.bool b)) h4)) (ob1 (ob_elem (⟨by omega, eL_get (by simpa using hx7)⟩))))) ?_
      refine awp_cond (b := x6) rfl (fun h8 => ?_) (fun h8 => ?_)
      · -- x6 is True
        refine awp_regionK (s' := ⟨[(1, .one (.slc .sh 1 (eL b))), (4, .one (.slc .emp 0 [])), (5, .one (.slc (.own true 1920) 5 ((eL (succ (List.take k a) b)) ++ [[.int .i64 x2.1, .int .i64 x2.2.1, .slc 9 (eL x2.2.2.1), .str x2.2.2.2.1, .int .i64 x2.2.2.2.2]]))), (9, .one (.slc .sh 5 (eL a))), (10, .one (.int .i64 (a.length : Int))), (11, .one (.int .i64 ((k : Nat) : Int)))], []⟩) (obs := [.call 46 [.agg [.int .i64 x2.1, .int .i64 x2.2.1, .slc .sh 9 (eL x2.2.2.1), .str x2.2.2.2.1, .int .i64 x2.2.2.2.2]] (.agg [.int .i64 x2.1, .int .i64 x2.2.1, .slc (.own true 0) 9 (eL x2.2.2.1), .str x2.2.2.2.1, .int .i64 x2.2.2.2.2]), .len (((eL (succ (List.take k a) b)) : List (List PV)).length + ([[.int .i64 x2.1, .int .i64 x2.2.1, .slc 9 (eL x2.2.2.1), .str x2.2.2.2.1, .int .i64 x2.2.2.2.2]] : List (List PV)).length)]) tt_ok [(2, .val (.agg [.int .i64 x2.1, .int .i64 x2.2.1, .slc (.own true 0) 9 (eL x2.2.2.1), .str x2.2.2.2.1, .int .i64 x2.2.2.2.2]))] [1, 4, 5, 9, 10, 11] [] (by kernel_rfl) (obc (ob_call (copyAction_a x2 (sz_get hx3 (sa)))) (ob1 (ob_len (by simp [eL_length]; omega)))) ?_
        refine awp_regionK (s' := ⟨[(1, .one (.slc .sh 1 (eL b))), (4, .one (.slc .emp 0 [])), (5, .one (.slc (.own true 1920) 5 ((eL (succ (List.take k a) b)) ++ [[.int .i64 x2.1, .int .i64 x2.2.1, .slc 9 (eL x2.2.2.1), .str x2.2.2.2.1, .int .i64 x2.2.2.2.2]]))), (9, .one (.slc .sh 5 (eL a))), (10, .one (.int .i64 (a.length : Int))), (11, .one (.int .i64 (((k : Nat) : Int) + 1)))], []⟩) (obs := [.eq (.one (.int .i64 (IntKind.i64.wrap (((k : Nat) : Int) + 1)))) (.one (.int .i64 (((k : Nat) : Int) + 1)))]) tt_ok [(0, .val (.one (.int .i64 (((k : Nat) : Int) + 1))))] [1, 4, 5, 9, 10, 11] [] (by kernel_rfl) (ob1 (ob_eq (congrArg (fun n => AV.one (.int .i64 n)) (IntWalk.i64_in _ (by omega))))) ?_
        exact weak_to [(1920, 57600)] [1, 4, 5, 9, 10, 11] [] (Eq.trans (b := (⟨[(1, .one (.slc .sh 1 (eL b))), (4, .one (.slc .emp 0 [])), (5, .one (.slc (.own true 57600) 5 ((eL (succ (List.take k a) b)) ++ [[.int .i64 x2.1, .int .i64 x2.2.1, .slc 9 (eL x2.2.2.1), .str x2.2.2.2.1, .int .i64 x2.2.2.2.2]]))), (9, .one (.slc .sh 5 (eL a))), (10, .one (.int .i64 (a.length : Int))), (11, .one (.int .i64 (((k : Nat) : Int) + 1)))], []⟩ : St)) (by kernel_rfl) (by rw [succ_yes hx3 hx7 h8, eL_append] <;> rfl))
      · -- x6 is False
        refine awp_skip ?_
        refine awp_regionK (s' := ⟨[(1, .one (.slc .sh 1 (eL b))), (4, .one (.slc .emp 0 [])), (5, .one (.slc (.own true 57600) 5 (eL (succ (List.take k a) b)))), (9, .one (.slc .sh 5 (eL a))), (10, .one (.int .i64 (a.length : Int))), (11, .one (.int .i64 (((k : Nat) : Int) + 1)))], []⟩) (obs := [.eq (.one (.int .i64 (IntKind.i64.wrap (((k : Nat) : Int) + 1)))) (.one (.int .i64 (((k : Nat) : Int) + 1)))]) tt_ok [(0, .val (.one (.int .i64 (((k : Nat) : Int) + 1))))] [1, 4, 5, 9, 10, 11] [] (by kernel_rfl) (ob1 (ob_eq (congrArg (fun n => AV.one (.int .i64 n)) (IntWalk.i64_in _ (by omega))))) ?_
        exact weak_to [] [1, 4, 5, 9, 10, 11] [] (Eq.trans (b := (⟨[(1, .one (.slc .sh 1 (eL b))), (4, .one (.slc .emp 0 [])), (5, .one (.slc (.own true 57600) 5 (eL (succ (List.take k a) b)))), (9, .one (.slc .sh 5 (eL a))), (10, .one (.int .i64 (a.length : Int))), (11, .one (.int .i64 (((k : Nat) : Int) + 1)))], []⟩ : St)) (by kernel_rfl) (by rw [succ_no' hx7 h8] <;> rfl))
    · -- decide (((k : Nat) : Int) < (b.length : Int)) is False
      have h4d := of_decide_eq_false h4
      have hl9 : List.length b ≤ 1048576 := sz_len (sb)
      refine awp_regionK (s' := ⟨[(1, .one (.slc .sh 1 (eL b))), (4, .one (.slc .emp 0 [])), (5, .one (.slc (.own true 57600) 5 (eL (succ (List.take k a) b)))), (7, .one (.ptr 7 0)), (9, .one (.slc .sh 5 (eL a))), (10, .one (.int .i64 (a.length : Int))), (11, .one (.int .i64 ((k : Nat) : Int))), (25, .one (.bool false))], [(7, [.int .i64 x2.1, .int .i64 x2.2.1, .slc .sh 9 (eL x2.2.2.1), .str x2.2.2.2.1, .int .i64 x2.2.2.2.2])]⟩) (obs := [.eq (.one (.int .i64 (((eL b) : List (List PV)).length : Int))) (.one (.int .i64 (b.length : Int))), .eq (.one (.bool (decide (((k : Nat) : Int) < (b.length : Int))))) (.one (.bool false))]) tt_ok [(2, .val (.one (.int .i64 (b.length : Int)))), (3, .val (.one (.bool false)))] [1, 4, 5, 7, 9, 10, 11, 25] [7] (by kernel_rfl) (obc (ob_eq (by simp [eL_length])) (ob1 (ob_eq (congrArg (fun b => AV.one (C.bool b)) h4)))) ?_
      refine awp_cond (b := false) rfl (fun h => by cases h) (fun _ => ?_)
      refine awp_skip ?_
      refine awp_regionK (s' := ⟨[(1, .one (.slc .sh 1 (eL b))), (4, .one (.slc .emp 0 [])), (5, .one (.slc (.own true 57600) 5 (eL (succ (List.take k a) b)))), (9, .one (.slc .sh 5 (eL a))), (10, .one (.int .i64 (a.length : Int))), (11, .one (.int .i64 (((k : Nat) : Int) + 1)))], []⟩) (obs := [.eq (.one (.int .i64 (IntKind.i64.wrap (((k : Nat) : Int) + 1)))) (.one (.int .i64 (((k : Nat) : Int) + 1)))]) tt_ok [(0, .val (.one (.int .i64 (((k : Nat) : Int) + 1))))] [1, 4, 5, 9, 10, 11] [] (by kernel_rfl) (ob1 (ob_eq (congrArg (fun n => AV.one (.int .i64 n)) (IntWalk.i64_in _ (by omega))))) ?_
      exact weak_to [] [1, 4, 5, 9, 10, 11] [] (Eq.trans (b := (⟨[(1, .one (.slc .sh 1 (eL b))), (4, .one (.slc .emp 0 [])), (5, .one (.slc (.own true 57600) 5 (eL (succ (List.take k a) b)))), (9, .one (.slc .sh 5 (eL a))), (10, .one (.int .i64 (a.length : Int))), (11, .one (.int .i64 (((k : Nat) : Int) + 1)))], []⟩ : St)) (by kernel_rfl) (by rw [succ_past (by omega)] <;> rfl))
  · -- exit
    refine awp_seq ?_
    refine awp_regionK (s' := ⟨[(1, .one (.slc .sh 1 (eL b))), (4, .one (.slc .emp 0 [])), (5, .one (.slc (.own true 57600) 5 (eL (succ (List.take a.length a) b)))), (9, .one (.slc .sh 5 (eL a))), (10, .one (.int .i64 (a.length : Int))), (11, .one (.int .i64 ((a.length : Nat) : Int))), (12, .one (.bool false))], []⟩) (obs := [.eq (.one (.bool (decide (((a.length : Nat) : Int) < (a.length : Int))))) (.one (.bool false))]) tt_ok [(0, .val (.one (.bool false)))] [1, 4, 5, 9, 10, 11, 12] [] (by kernel_rfl) (ob1 (ob_eq (congrArg (fun b => AV.one (C.bool b)) (decide_eq_false (by omega))))) ?_
    refine awp_seq ?_
    refine awp_cond (b := false) rfl (fun h => by cases h) (fun _ => ?_)
    refine awp_exit ?_
    refine awp_seq ?_
    refine awp_regionK (s' := ⟨[(4, .one (.slc (.own true 57600) 5 (eL (succ (List.take a.length a) b))))], []⟩) (obs := []) tt_ok [] [4] [] (by kernel_rfl) (trivial) ?_
    refine awp_ret ?_
    refine post_ret [] (b := .one (.slc (.own true 0) 5 (eL (succ (List.take a.length a) b)))) (by kernel_rfl) ?_
    rw [List.take_length]
theorem specSucceededActions_a (a : (List ActionD)) (b : (List Bool)) (sa : GoD.size a ≤ 1048576) (sb : GoD.size b ≤ 1048576)  : ACalls Try.prog 13 [.one (.slc .sh 5 (eL a)), .one (.slc .sh 1 (eL b))] (.one (.slc (.own true 0) 5 (eL (succ a b)))) := by
  refine acalls_of (tt := tt) tt_ok Try.func13 (fn := Try.f13) rfl (by unfold FnOk; kernel_rfl) (Nat.le_of_ble_eq_true rfl) fun w0 F0 => ?_
  refine awp_seq ?_
  refine awp_regionK (s' := ⟨[(0, .one (.slc .sh 5 (eL a))), (1, .one (.slc .sh 1 (eL b))), (4, .one (.slc .emp 0 []))], []⟩) (obs := []) tt_ok [] [0, 1, 4] [] (by kernel_rfl) (trivial) ?_
  refine awp_seq ?_
  refine awp_regionK (s' := ⟨[(0, .one (.slc .sh 5 (eL a))), (1, .one (.slc .sh 1 (eL b))), (4, .one (.slc .emp 0 [])), (5, .one (.slc (.own true 448) 5 []))], []⟩) (obs := []) tt_ok [] [0, 1, 4, 5] [] (by kernel_rfl) (trivial) ?_
  refine awp_seq ?_
  refine awp_seq ?_
  refine awp_regionK (s' := ⟨[(0, .one (.slc .sh 5 (eL a))), (1, .one (.slc .sh 1 (eL b))), (4, .one (.slc .emp 0 [])), (5, .one (.slc (.own true 448) 5 [])), (6, .one (.int .i64 0))], []⟩) (obs := []) tt_ok [] [0, 1, 4, 5, 6] [] (by kernel_rfl) (trivial) ?_
  refine awp_block ?_
  refine awp_for ((min a.length b.length)) (fun k : Nat => (⟨[(0, .one (.slc .sh 5 (eL a))), (1, .one (.slc .sh 1 (eL b))), (4, .one (.slc .emp 0 [])), (5, .one (.slc (.own true 57600) 5 (eL (succ (List.take k a) b)))), (6, .one (.int .i64 ((k : Nat) : Int)))], []⟩ : St)) (weak_to [(448, 57600)] [0, 1, 4, 5, 6] [] (by kernel_rfl)) (fun k hk => ?_) ?_
  · -- round
    have hsl : (succ (List.take k a) b).length ≤ k := Nat.le_trans (succ_len _ _) (List.length_take_le k a)
    refine awp_seq ?_
    refine awp_seq ?_
    have hl1 : List.length a ≤ 1048576 := sz_len (sa)
    have hl2 : List.length b ≤ 1048576 := sz_len (sb)
    refine awp_regionK (s' := ⟨[(0, .one (.slc .sh 5 (eL a))), (1, .one (.slc .sh 1 (eL b))), (4, .one (.slc .emp 0 [])), (5, .one (.slc (.own true 57600) 5 (eL (succ (List.take k a) b)))), (6, .one (.int .i64 ((k : Nat) : Int))), (17, .one (.bool true))], []⟩) (obs := [.eq (.one (.int .i64 (((eL a) : List (List PV)).length : Int))) (.one (.int .i64 (a.length : Int))), .eq (.one (.bool (decide (((k : Nat) : Int) < (a.length : Int))))) (.one (.bool true)), .eq (.one (.int .i64 (((eL b) : List (List PV)).length : Int))) (.one (.int .i64 (b.length : Int))), .eq (.one (.bool (decide (((k : Nat) : Int) < (b.length : Int))))) (.one (.bool true))]) tt_ok [(2, .val (.one (.int .i64 (a.length : Int)))), (3, .val (.one (.bool true))), (7, .val (.one (.int .i64 (b.length : Int)))), (8, .val (.one (.bool true)))] [0, 1, 4, 5, 6, 17] [] (by kernel_rfl) (obc (ob_eq (by simp [eL_length])) (obc (ob_eq (congrArg (fun b => AV.one (C.bool b)) (decide_eq_true (by omega)))) (obc (ob_eq (by simp [eL_length])) (ob1 (ob_eq (congrArg (fun b => AV.one (C.bool b)) (decide_eq_true (by omega)))))))) ?_
    refine awp_cond (b := true) rfl (fun _ => ?_) (fun h => by cases h)
    refine awp_skip ?_
    refine awp_seq ?_
    refine awp_block ?_
    refine awp_seq ?_
    obtain ⟨x3, hx4⟩ := get_some (l := b) (i := k) (by omega)
    refine awp_regionK (s' := ⟨[(0, .one (.slc .sh 5 (eL a))), (1, .one (.slc .sh 1 (eL b))), (4, .one (.slc .emp 0 [])), (5, .one (.slc (.own true 57600) 5 (eL (succ (List.take k a) b)))), (6, .one (.int .i64 ((k : Nat) : Int))), (23, .one (.bool x3))], []⟩) (obs := [.elem (eL b) ((k : Nat) : Int) [.bool x3]]) tt_ok [(2, .row [.bool x3])] [0, 1, 4, 5, 6, 23] [] (by kernel_rfl) (ob1 (ob_elem (⟨by omega, eL_get (by simpa using hx4)⟩))) ?_
    refine awp_cond (b := x3) rfl (fun h5 => ?_) (fun h5 => ?_)
    · -- x3 is True
      obtain ⟨x6, hx7⟩ := get_some (l := a) (i := k) (by omega)
      refine awp_regionK (s' := ⟨[(0, .one (.slc .sh 5 (eL a))), (1, .one (.slc .sh 1 (eL b))), (4, .one (.slc .emp 0 [])), (5, .one (.slc (.own true 1984) 5 ((eL (succ (List.take k a) b)) ++ [[.int .i64 x6.1, .int .i64 x6.2.1, .slc 9 (eL x6.2.2.1), .str x6.2.2.2.1, .int .i64 x6.2.2.2.2]]))), (6, .one (.int .i64 ((k : Nat) : Int)))], []⟩) (obs := [.elem (eL a) ((k : Nat) : Int) [.int .i64 x6.1, .int .i64 x6.2.1, .slc 9 (eL x6.2.2.1), .str x6.2.2.2.1, .int .i64 x6.2.2.2.2], .call 44 [.agg [.int .i64 x6.1, .int .i64 x6.2.1, .slc .sh 9 (eL x6.2.2.1), .str x6.2.2.2.1, .int .i64 x6.2.2.2.2]] (.agg [.int .i64 x6.1, .int .i64 x6.2.1, .slc (.own true 0) 9 (eL x6.2.2.1), .str x6.2.2.2.1, .int .i64 x6.2.2.2.2]), .len (((eL (succ (List.take k a) b)) : List (List PV)).length + ([[.int .i64 x6.1, .int .i64 x6.2.1, .slc 9 (eL x6.2.2.1), .str x6.2.2.2.1, .int .i64 x6.2.2.2.2]] : List (List PV)).length)]) tt_ok [(3, .row [.int .i64 x6.1, .int .i64 x6.2.1, .slc 9 (eL x6.2.2.1), .str x6.2.2.2.1, .int .i64 x6.2.2.2.2]), (5, .val (.agg [.int .i64 x6.1, .int .i64 x6.2.1, .slc (.own true 0) 9 (eL x6.2.2.1), .str x6.2.2.2.1, .int .i64 x6.2.2.2.2]))] [0, 1, 4, 5, 6] [] (by kernel_rfl) (obc (ob_elem (⟨by omega, eL_get (by simpa using hx7)⟩)) (obc (ob_call (l35Act_a x6 (sz_get hx7 (sa)))) (ob1 (ob_len (by simp [eL_length]; omega))))) ?_
      refine awp_regionK (s' := ⟨[(0, .one (.slc .sh 5 (eL a))), (1, .one (.slc .sh 1 (eL b))), (4, .one (.slc .emp 0 [])), (5, .one (.slc (.own true 1984) 5 ((eL (succ (List.take k a) b)) ++ [[.int .i64 x6.1, .int .i64 x6.2.1, .slc 9 (eL x6.2.2.1), .str x6.2.2.2.1, .int .i64 x6.2.2.2.2]]))), (6, .one (.int .i64 (((k : Nat) : Int) + 1)))], []⟩) (obs := [.eq (.one (.int .i64 (IntKind.i64.wrap (((k : Nat) : Int) + 1)))) (.one (.int .i64 (((k : Nat) : Int) + 1)))]) tt_ok [(1, .val (.one (.int .i64 (((k : Nat) : Int) + 1))))] [0, 1, 4, 5, 6] [] (by kernel_rfl) (ob1 (ob_eq (congrArg (fun n => AV.one (.int .i64 n)) (IntWalk.i64_in _ (by omega))))) ?_
      exact weak_to [(1984, 57600)] [0, 1, 4, 5, 6] [] (Eq.trans (b := (⟨[(0, .one (.slc .sh 5 (eL a))), (1, .one (.slc .sh 1 (eL b))), (4, .one (.slc .emp 0 [])), (5, .one (.slc (.own true 57600) 5 ((eL (succ (List.take k a) b)) ++ [[.int .i64 x6.1, .int .i64 x6.2.1, .slc 9 (eL x6.2.2.1), .str x6.2.2.2.1, .int .i64 x6.2.2.2.2]]))), (6, .one (.int .i64 (((k : Nat) : Int) + 1)))], []⟩ : St)) (by kernel_rfl) (by rw [succ_yes hx7 hx4 h5, eL_append] <;> rfl))
    · -- x3 is False
      refine awp_skip ?_
      refine awp_regionK (s' := ⟨[(0, .one (.slc .sh 5 (eL a))), (1, .one (.slc .sh 1 (eL b))), (4, .one (.slc .emp 0 [])), (5, .one (.slc (.own true 57600) 5 (eL (succ (List.take k a) b)))), (6, .one (.int .i64 (((k : Nat) : Int) + 1)))], []⟩) (obs := [.eq (.one (.int .i64 (IntKind.i64.wrap (((k : Nat) : Int) + 1)))) (.one (.int .i64 (((k : Nat) : Int) + 1)))]) tt_ok [(1, .val (.one (.int .i64 (((k : Nat) : Int) + 1))))] [0, 1, 4, 5, 6] [] (by kernel_rfl) (ob1 (ob_eq (congrArg (fun n => AV.one (.int .i64 n)) (IntWalk.i64_in _ (by omega))))) ?_
      exact weak_to [] [0, 1, 4, 5, 6] [] (Eq.trans (b := (⟨[(0, .one (.slc .sh 5 (eL a))), (1, .one (.slc .sh 1 (eL b))), (4, .one (.slc .emp 0 [])), (5, .one (.slc (.own true 57600) 5 (eL (succ (List.take k a) b)))), (6, .one (.int .i64 (((k : Nat) : Int) + 1)))], []⟩ : St)) (by kernel_rfl) (by rw [succ_no' hx4 h5] <;> rfl))
  · -- exit
    refine awp_seq ?_
    refine awp_seq ?_
    rcases Bool.eq_false_or_eq_true (decide ((((min a.length b.length) : Nat) : Int) < (a.length : Int))) with h8 | h8
    · -- decide ((((min a.length b.length) : Nat) : Int) < (a.length : Int)) is True
      have h8d := of_decide_eq_true h8
      have hl9 : List.length a ≤ 1048576 := sz_len (sa)
      have hl10 : List.length b ≤ 1048576 := sz_len (sb)
      refine awp_regionK (s' := ⟨[(0, .one (.slc .sh 5 (eL a))), (1, .one (.slc .sh 1 (eL b))), (4, .one (.slc .emp 0 [])), (5, .one (.slc (.own true 57600) 5 (eL (succ (List.take (min a.length b.length) a) b)))), (6, .one (.int .i64 (((min a.length b.length) : Nat) : Int))), (17, .one (.bool false))], []⟩) (obs := [.eq (.one (.int .i64 (((eL a) : List (List PV)).length : Int))) (.one (.int .i64 (a.length : Int))), .eq (.one (.bool (decide ((((min a.length b.length) : Nat) : Int) < (a.length : Int))))) (.one (.bool true)), .eq (.one (.int .i64 (((eL b) : List (List PV)).length : Int))) (.one (.int .i64 (b.length : Int))), .eq (.one (.bool (decide ((((min a.length b.length) : Nat) : Int) < (b.length : Int))))) (.one (.bool false))]) tt_ok [(2, .val (.one (.int .i64 (a.length : Int)))), (3, .val (.one (.bool true))), (7, .val (.one (.int .i64 (b.length : Int)))), (8, .val (.one (.bool false)))] [0, 1, 4, 5, 6, 17] [] (by kernel_rfl) (obc (ob_eq (by simp [eL_length])) (obc (ob_eq (congrArg (fun b => AV.one (C.bool b)) h8)) (obc (ob_eq (by simp [eL_length])) (ob1 (ob_eq (congrArg (fun b => AV.one (C.bool b)) (decide_eq_false (by omega)))))))) ?_
      refine awp_cond (b := false) rfl (fun h => by cases h) (fun _ => ?_)
      refine awp_exit ?_
      refine awp_seq ?_
      refine awp_regionK (s' := ⟨[(4, .one (.slc (.own true 57600) 5 (eL (succ (List.take (min a.length b.length) a) b))))], []⟩) (obs := []) tt_ok [] [4] [] (by kernel_rfl) (trivial) ?_
      refine awp_ret ?_
      refine post_ret [] (b := .one (.slc (.own true 0) 5 (eL (succ (List.take (min a.length b.length) a) b)))) (by kernel_rfl) ?_
      rw [succ_min]
    · -- decide ((((min a.length b.length) : Nat) : Int) < (a.length : Int)) is False
      have h8d := of_decide_eq_false h8
      have hl11 : List.length a ≤ 1048576 := sz_len (sa)
      refine awp_regionK (s' := ⟨[(0, .one (.slc .sh 5 (eL a))), (1, .one (.slc .sh 1 (eL b))), (4, .one (.slc .emp 0 [])), (5, .one (.slc (.own true 57600) 5 (eL (succ (List.take (min a.length b.length) a) b)))), (6, .one (.int .i64 (((min a.length b.length) : Nat) : Int))), (17, .one (.bool false))], []⟩) (obs := [.eq (.one (.int .i64 (((eL a) : List (List PV)).length : Int))) (.one (.int .i64 (a.length : Int))), .eq (.one (.bool (decide ((((min a.length b.length) : Nat) : Int) < (a.length : Int))))) (.one (.bool false))]) tt_ok [(2, .val (.one (.int .i64 (a.length : Int)))), (3, .val (.one (.bool false)))] [0, 1, 4, 5, 6, 17] [] (by kernel_rfl) (obc (ob_eq (by simp [eL_length])) (ob1 (ob_eq (congrArg (fun b => AV.one (C.bool b)) h8)))) ?_
      refine awp_cond (b := false) rfl (fun h => by cases h) (fun _ => ?_)
      refine awp_exit ?_
      refine awp_seq ?_
      refine awp_regionK (s' := ⟨[(4, .one (.slc (.own true 57600) 5 (eL (succ (List.take (min a.length b.length) a) b))))], []⟩) (obs := []) tt_ok [] [4] [] (by kernel_rfl) (trivial) ?_
      refine awp_ret ?_
      refine post_ret [] (b := .one (.slc (.own true 0) 5 (eL (succ (List.take (min a.length b.length) a) b)))) (by kernel_rfl) ?_
      rw [succ_min]
end Go.Proofs.Ytdhagfpgijcfbaa
