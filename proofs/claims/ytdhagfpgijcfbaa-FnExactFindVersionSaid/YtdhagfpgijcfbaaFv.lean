/- Contracts of functions, by the abstract machine (printed by am.py): what each makes of its arguments, for arguments of the size that the laws bound. -/
import Derived.Test.YtdhagfpgijcfbaaEq
import Derived.Test.YtdhagfpgijcfbaaKn
import Derived.Test.YtdhagfpgijcfbaaPl
import Derived.Test.YtdhagfpgijcfbaaDx
import Derived.KernelRfl
namespace Go.Proofs.Ytdhagfpgijcfbaa
open Go.RowKit
def tt : List (Nat × TI) := [(3, ⟨.int .i64, 1, [.int .i64 0], []⟩),
  (9, ⟨.str, 1, [.str ⟨#[]⟩], []⟩),
  (25, ⟨.sli 74, 1, [.slc .emp 0 []], []⟩),
  (48, ⟨.sli 143, 1, [.slc .emp 0 []], []⟩),
  (49, ⟨.sli 119, 1, [.slc .emp 0 []], []⟩),
  (51, ⟨.struct [(0, 1, false), (1, 1, false), (2, 1, false)], 3, [.slc .emp 0 [], .slc .emp 0 [], .int .i64 0], []⟩),
  (58, ⟨.sli 122, 1, [.slc .emp 0 []], []⟩),
  (60, ⟨.struct [(0, 3, true), (3, 1, false)], 4, [.slc .emp 0 [], .slc .emp 0 [], .int .i64 0, .slc .emp 0 []], []⟩),
  (74, ⟨.struct [(0, 1, false), (1, 4, true), (5, 1, false)], 6, [.int .i64 0, .slc .emp 0 [], .slc .emp 0 [], .int .i64 0, .slc .emp 0 [], .int .i64 0], []⟩),
  (117, ⟨.sli 172, 1, [.slc .emp 0 []], []⟩),
  (119, ⟨.struct [(0, 1, false), (1, 1, false), (2, 1, false), (3, 1, false), (4, 1, false)], 5, [.int .i64 0, .int .i64 0, .bool false, .int .i64 0, .slc .emp 0 []], []⟩),
  (120, ⟨.sli 174, 1, [.slc .emp 0 []], []⟩),
  (122, ⟨.struct [(0, 1, false), (1, 1, false)], 2, [.str ⟨#[]⟩, .slc .emp 0 []], []⟩),
  (143, ⟨.struct [(0, 1, false), (1, 1, false)], 2, [.str ⟨#[]⟩, .int .i64 0], []⟩),
  (172, ⟨.struct [(0, 1, false), (1, 3, true)], 4, [.str ⟨#[]⟩, .int .i64 0, .int .i64 0, .str ⟨#[]⟩], []⟩),
  (174, ⟨.struct [(0, 1, false), (1, 1, false), (2, 1, false), (3, 1, false), (4, 3, true)], 7, [.int .i64 0, .int .i64 0, .int .i64 0, .str ⟨#[]⟩, .int .i64 0, .int .i64 0, .str ⟨#[]⟩], []⟩)]

theorem tt_ok : ttOk Try.prog tt = true := by kernel_rfl
theorem tt_mx : Try.prog.follows .mixedOrders = true := by kernel_rfl
theorem eqb_prod' {α β : Type} [GoD α] [GoD β] (p q : α × β) : eqb p q = (eqb p.1 q.1 && eqb p.2 q.2) := by obtain ⟨a, b⟩ := p; obtain ⟨c, d⟩ := q; exact eqb_prod a c b d
theorem eql_int (a b : Int) : (a == b) = eqb a b := (eqb_int a b).symm
theorem neq_int (a b : Int) : (a != b) = !(eqb a b) := by rw [eqb_int]; rfl
theorem eql_bool (a b : Bool) : (a == b) = eqb a b := (eqb_bool a b).symm
theorem neq_bool (a b : Bool) : (!(a == b)) = !(eqb a b) := by rw [eqb_bool]
theorem eql_str (a b : ByteArray) : (a.toList == b.toList) = eqb a b := eqb_str a b
theorem neq_str (a b : ByteArray) : (!(a.toList == b.toList)) = !(eqb a b) := by rw [eqb_str]
theorem bnot_t {b : Bool} (h : (!b) = true) : b = false := by cases b <;> simp_all
theorem bnot_f {b : Bool} (h : (!b) = false) : b = true := by cases b <;> simp_all
def isV (n : Int) : VersionD → Bool := fun x => eqb x.1 n
def fvAt (a : List VersionD) (n : Int) : Int := idxI (isV n) a
def fv (a : List VersionD) (n : Int) : SnapshotD × Bool := match a.find? (isV n) with
  | some x => (x.2.1, true)
  | none => ((([], [], 0), []), false)
theorem fv_no {a : List VersionD} {n : Int} (h : fvAt a n < 0) : fv a n = ((([], [], 0), []), false) := by unfold fv; rw [idx_no h]
theorem fv_yes {a : List VersionD} {n : Int} {x : VersionD} (h : ¬ fvAt a n < 0) (hx : a[(fvAt a n).toNat]? = some x) : fv a n = (x.2.1, true) := by unfold fv; rw [(idx_yes h hx).2.2]
theorem fvAt_lt (a : List VersionD) (n : Int) : fvAt a n < (a.length : Int) ∧ -1 ≤ fvAt a n := idx_lt _ _
theorem l04Copy_a (a : FileD) (sa : GoD.size a ≤ 1048576)  : ACalls Try.prog 82 [.agg [.int .i64 a.1, .int .i64 a.2.1, .bool a.2.2.1, .int .i64 a.2.2.2.1, .slc .sh 4 (eL a.2.2.2.2)]] (.agg [.int .i64 a.1, .int .i64 a.2.1, .bool a.2.2.1, .int .i64 a.2.2.2.1, .slc (.own true 0) 4 (eL a.2.2.2.2)]) := by
  refine acalls_of (tt := tt) tt_ok Try.func82 (fn := Try.f82) rfl (by unfold FnOk; kernel_rfl) (Nat.le_of_ble_eq_true rfl) fun w0 F0 => ?_
  refine awp_seq ?_
  refine awp_regionK (s' := ⟨[(1, .one (.ptr 1 0)), (2, .one (.ptr 2 0))], [(1, [.int .i64 a.1, .int .i64 a.2.1, .bool a.2.2.1, .int .i64 a.2.2.2.1, .slc .sh 4 (eL a.2.2.2.2)]), (2, [.int .i64 0, .int .i64 0, .bool false, .int .i64 0, .slc .emp 0 []])]⟩) (obs := []) tt_ok [] [1, 2] [1, 2] (by kernel_rfl) (trivial) ?_
  refine awp_seq ?_
  have hl1 : List.length a.2.2.2.2 ≤ 1048576 := sz_len (sz_snd (sz_snd (sz_snd (sz_snd (sa)))))
  refine awp_regionK (s' := ⟨[(1, .one (.ptr 1 0)), (2, .one (.ptr 2 0))], [(1, [.int .i64 a.1, .int .i64 a.2.1, .bool a.2.2.1, .int .i64 a.2.2.2.1, .slc (.own true 384) 4 ([] ++ (eL a.2.2.2.2))]), (2, [.int .i64 0, .int .i64 0, .bool false, .int .i64 0, .slc .emp 0 []])]⟩) (obs := [.len (([] : List (List PV)).length + ((eL a.2.2.2.2) : List (List PV)).length), .flat (eL a.2.2.2.2)]) tt_ok [(3, .flat)] [1, 2] [1, 2] (by kernel_rfl) (obc (ob_len (by simp [eL_length]; omega)) (ob1 (ob_flat (flat_eL _)))) ?_
  refine awp_seq ?_
  refine awp_regionK (s' := ⟨[(2, .one (.ptr 2 0))], [(2, [.int .i64 a.1, .int .i64 a.2.1, .bool a.2.2.1, .int .i64 a.2.2.2.1, .slc (.own true 384) 4 ([] ++ (eL a.2.2.2.2))])]⟩) (obs := []) tt_ok [] [2] [2] (by kernel_rfl) (trivial) ?_
  refine awp_ret ?_
  refine post_ret [] (b := .agg [.int .i64 a.1, .int .i64 a.2.1, .bool a.2.2.1, .int .i64 a.2.2.2.1, .slc (.own true 0) 4 ([] ++ (eL a.2.2.2.2))]) (by kernel_rfl) ?_
  rfl
theorem l05Copy_a (a : StoreD) (sa : GoD.size a ≤ 1048576)  : ACalls Try.prog 108 [.agg [.slc .sh 2 (eL a.1), .slc .sh 5 (eL a.2.1), .int .i64 a.2.2]] (.agg [.slc (.own true 0) 2 (eL a.1), .slc (.own true 1) 5 (eL a.2.1), .int .i64 a.2.2]) := by
  refine acalls_of (tt := tt) tt_ok Try.func108 (fn := Try.f108) rfl (by unfold FnOk; kernel_rfl) (Nat.le_of_ble_eq_true rfl) fun w0 F0 => ?_
  refine awp_seq ?_
  refine awp_regionK (s' := ⟨[(1, .one (.ptr 1 0)), (2, .one (.ptr 2 0))], [(1, [.slc .sh 2 (eL a.1), .slc .sh 5 (eL a.2.1), .int .i64 a.2.2]), (2, [.slc .emp 0 [], .slc .emp 0 [], .int .i64 0])]⟩) (obs := []) tt_ok [] [1, 2] [1, 2] (by kernel_rfl) (trivial) ?_
  refine awp_seq ?_
  have hl1 : List.length a.1 ≤ 1048576 := sz_len (sz_fst (sa))
  refine awp_draw (s' := ⟨[(1, .one (.ptr 1 0)), (2, .one (.ptr 2 0)), (3, .one (.ptr 3 0))], [(1, [.slc .sh 2 (eL a.1), .slc .sh 5 (eL a.2.1), .int .i64 a.2.2]), (2, [.slc .emp 0 [], .slc .emp 0 [], .int .i64 0]), (3, [.slc (.own true 512) 2 ([] ++ (eL a.1)), .slc .emp 0 [], .int .i64 a.2.2])]⟩) (obs := [.len (([] : List (List PV)).length + ((eL a.1) : List (List PV)).length), .flat (eL a.1)]) tt_ok tt_mx [(3, .flat)] [1, 2, 3] [1, 2, 3] (by kernel_rfl) (obc (ob_len (by simp [eL_length]; omega)) (ob1 (ob_flat (flat_eL _)))) ?_
  refine awp_seq ?_
  refine awp_seq ?_
  refine awp_regionK (s' := ⟨[(1, .one (.ptr 1 0)), (2, .one (.ptr 2 0)), (3, .one (.ptr 3 0)), (4, .one (.int .i64 0))], [(1, [.slc .sh 2 (eL a.1), .slc .sh 5 (eL a.2.1), .int .i64 a.2.2]), (2, [.slc .emp 0 [], .slc .emp 0 [], .int .i64 0]), (3, [.slc (.own true 512) 2 ([] ++ (eL a.1)), .slc .emp 0 [], .int .i64 a.2.2])]⟩) (obs := []) tt_ok [] [1, 2, 3, 4] [1, 2, 3] (by kernel_rfl) (trivial) ?_
  refine awp_block ?_
  refine awp_for (a.2.1.length) (fun k : Nat => (⟨[(1, .one (.ptr 1 0)), (2, .one (.ptr 2 0)), (3, .one (.ptr 3 0)), (4, .one (.int .i64 ((k : Nat) : Int)))], [(1, [.slc .sh 2 (eL a.1), .slc .sh 5 (eL a.2.1), .int .i64 a.2.2]), (2, [.slc .emp 0 [], .slc .emp 0 [], .int .i64 0]), (3, [.slc (.own true 57600) 2 (eL a.1), .slc (.own true 57601) 5 (eL (List.take k a.2.1)), .int .i64 a.2.2])]⟩ : St)) (weak_too [(true, 3, 1, true, 10, 5)] [(512, 57600), (10, 57601)] [1, 2, 3, 4] [1, 2, 3] (by kernel_rfl)) (fun k hk => ?_) ?_
  · -- round
    refine awp_seq ?_
    refine awp_seq ?_
    have hl2 : List.length a.2.1 ≤ 1048576 := sz_len (sz_fst (sz_snd (sa)))
    refine awp_regionK (s' := ⟨[(1, .one (.ptr 1 0)), (2, .one (.ptr 2 0)), (3, .one (.ptr 3 0)), (4, .one (.int .i64 ((k : Nat) : Int))), (16, .one (.bool true))], [(1, [.slc .sh 2 (eL a.1), .slc .sh 5 (eL a.2.1), .int .i64 a.2.2]), (2, [.slc .emp 0 [], .slc .emp 0 [], .int .i64 0]), (3, [.slc (.own true 57600) 2 (eL a.1), .slc (.own true 57601) 5 (eL (List.take k a.2.1)), .int .i64 a.2.2])]⟩) (obs := [.eq (.one (.int .i64 (((eL a.2.1) : List (List PV)).length : Int))) (.one (.int .i64 (a.2.1.length : Int))), .eq (.one (.bool (decide (((k : Nat) : Int) < (a.2.1.length : Int))))) (.one (.bool true))]) tt_ok [(3, .val (.one (.int .i64 (a.2.1.length : Int)))), (4, .val (.one (.bool true)))] [1, 2, 3, 4, 16] [1, 2, 3] (by kernel_rfl) (obc (ob_eq (by simp [eL_length])) (ob1 (ob_eq (congrArg (fun b => AV.one (C.bool b)) (decide_eq_true (by omega)))))) ?_
    refine awp_cond (b := true) rfl (fun _ => ?_) (fun h => by cases h)
    refine awp_skip ?_
    refine awp_seq ?_
    refine awp_block ?_
    obtain ⟨x3, hx4⟩ := get_some (l := a.2.1) (i := k) (by omega)
    refine awp_draw (s' := ⟨[(1, .one (.ptr 1 0)), (2, .one (.ptr 2 0)), (3, .one (.ptr 3 0)), (4, .one (.int .i64 ((k : Nat) : Int)))], [(1, [.slc .sh 2 (eL a.1), .slc .sh 5 (eL a.2.1), .int .i64 a.2.2]), (2, [.slc .emp 0 [], .slc .emp 0 [], .int .i64 0]), (3, [.slc (.own true 57600) 2 (eL a.1), .slc (.own true 1792) 5 ((eL (List.take k a.2.1)) ++ [[.int .i64 x3.1, .int .i64 x3.2.1, .bool x3.2.2.1, .int .i64 x3.2.2.2.1, .slc 4 (eL x3.2.2.2.2)]]), .int .i64 a.2.2])]⟩) (obs := [.elem (eL a.2.1) ((k : Nat) : Int) [.int .i64 x3.1, .int .i64 x3.2.1, .bool x3.2.2.1, .int .i64 x3.2.2.2.1, .slc 4 (eL x3.2.2.2.2)], .call 82 [.agg [.int .i64 x3.1, .int .i64 x3.2.1, .bool x3.2.2.1, .int .i64 x3.2.2.2.1, .slc .sh 4 (eL x3.2.2.2.2)]] (.agg [.int .i64 x3.1, .int .i64 x3.2.1, .bool x3.2.2.1, .int .i64 x3.2.2.2.1, .slc (.own true 0) 4 (eL x3.2.2.2.2)]), .len (((eL (List.take k a.2.1)) : List (List PV)).length + ([[.int .i64 x3.1, .int .i64 x3.2.1, .bool x3.2.2.1, .int .i64 x3.2.2.2.1, .slc 4 (eL x3.2.2.2.2)]] : List (List PV)).length)]) tt_ok tt_mx [(5, .row [.int .i64 x3.1, .int .i64 x3.2.1, .bool x3.2.2.1, .int .i64 x3.2.2.2.1, .slc 4 (eL x3.2.2.2.2)]), (7, .val (.agg [.int .i64 x3.1, .int .i64 x3.2.1, .bool x3.2.2.1, .int .i64 x3.2.2.2.1, .slc (.own true 0) 4 (eL x3.2.2.2.2)]))] [1, 2, 3, 4] [1, 2, 3] (by kernel_rfl) (obc (ob_elem (⟨by omega, eL_get (by simpa using hx4)⟩)) (obc (ob_call (l04Copy_a x3 (sz_get hx4 (sz_fst (sz_snd (sa)))))) (ob1 (ob_len (by simp [eL_length]; omega))))) ?_
    refine awp_regionK (s' := ⟨[(1, .one (.ptr 1 0)), (2, .one (.ptr 2 0)), (3, .one (.ptr 3 0)), (4, .one (.int .i64 (((k : Nat) : Int) + 1)))], [(1, [.slc .sh 2 (eL a.1), .slc .sh 5 (eL a.2.1), .int .i64 a.2.2]), (2, [.slc .emp 0 [], .slc .emp 0 [], .int .i64 0]), (3, [.slc (.own true 57600) 2 (eL a.1), .slc (.own true 1792) 5 ((eL (List.take k a.2.1)) ++ [[.int .i64 x3.1, .int .i64 x3.2.1, .bool x3.2.2.1, .int .i64 x3.2.2.2.1, .slc 4 (eL x3.2.2.2.2)]]), .int .i64 a.2.2])]⟩) (obs := [.eq (.one (.int .i64 (IntKind.i64.wrap (((k : Nat) : Int) + 1)))) (.one (.int .i64 (((k : Nat) : Int) + 1)))]) tt_ok [(1, .val (.one (.int .i64 (((k : Nat) : Int) + 1))))] [1, 2, 3, 4] [1, 2, 3] (by kernel_rfl) (ob1 (ob_eq (congrArg (fun n => AV.one (.int .i64 n)) (IntWalk.i64_in _ (by omega))))) ?_
    exact weak_to [(1792, 57601)] [1, 2, 3, 4] [1, 2, 3] (Eq.trans (b := (⟨[(1, .one (.ptr 1 0)), (2, .one (.ptr 2 0)), (3, .one (.ptr 3 0)), (4, .one (.int .i64 (((k : Nat) : Int) + 1)))], [(1, [.slc .sh 2 (eL a.1), .slc .sh 5 (eL a.2.1), .int .i64 a.2.2]), (2, [.slc .emp 0 [], .slc .emp 0 [], .int .i64 0]), (3, [.slc (.own true 57600) 2 (eL a.1), .slc (.own true 57601) 5 ((eL (List.take k a.2.1)) ++ [[.int .i64 x3.1, .int .i64 x3.2.1, .bool x3.2.2.1, .int .i64 x3.2.2.2.1, .slc 4 (eL x3.2.2.2.2)]]), .int .i64 a.2.2])]⟩ : St)) (by kernel_rfl) (by rw [← eL_take_succ hx4]; rfl))
  · -- exit
    refine awp_seq ?_
    refine awp_seq ?_
    have hl5 : List.length a.2.1 ≤ 1048576 := sz_len (sz_fst (sz_snd (sa)))
    refine awp_regionK (s' := ⟨[(1, .one (.ptr 1 0)), (2, .one (.ptr 2 0)), (3, .one (.ptr 3 0)), (4, .one (.int .i64 ((a.2.1.length : Nat) : Int))), (16, .one (.bool false))], [(1, [.slc .sh 2 (eL a.1), .slc .sh 5 (eL a.2.1), .int .i64 a.2.2]), (2, [.slc .emp 0 [], .slc .emp 0 [], .int .i64 0]), (3, [.slc (.own true 57600) 2 (eL a.1), .slc (.own true 57601) 5 (eL (List.take a.2.1.length a.2.1)), .int .i64 a.2.2])]⟩) (obs := [.eq (.one (.int .i64 (((eL a.2.1) : List (List PV)).length : Int))) (.one (.int .i64 (a.2.1.length : Int))), .eq (.one (.bool (decide (((a.2.1.length : Nat) : Int) < (a.2.1.length : Int))))) (.one (.bool false))]) tt_ok [(3, .val (.one (.int .i64 (a.2.1.length : Int)))), (4, .val (.one (.bool false)))] [1, 2, 3, 4, 16] [1, 2, 3] (by kernel_rfl) (obc (ob_eq (by simp [eL_length])) (ob1 (ob_eq (congrArg (fun b => AV.one (C.bool b)) (decide_eq_false (by omega)))))) ?_
    refine awp_cond (b := false) rfl (fun h => by cases h) (fun _ => ?_)
    refine awp_exit ?_
    refine awp_seq ?_
    refine awp_regionK (s' := ⟨[(2, .one (.ptr 2 0))], [(2, [.slc (.own true 57600) 2 (eL a.1), .slc (.own true 57601) 5 (eL (List.take a.2.1.length a.2.1)), .int .i64 a.2.2])]⟩) (obs := []) tt_ok [] [2] [2] (by kernel_rfl) (trivial) ?_
    refine awp_ret ?_
    refine post_ret [] (b := .agg [.slc (.own true 0) 2 (eL a.1), .slc (.own true 1) 5 (eL (List.take a.2.1.length a.2.1)), .int .i64 a.2.2]) (by kernel_rfl) ?_
    rw [List.take_length]
theorem l11Copy_a (a : (List DirD)) (sa : GoD.size a ≤ 1048576)  : ACalls Try.prog 109 [.one (.slc .sh 2 (eL a))] (.one (.slc (.own true 0) 2 (eL a))) := by
  refine acalls_of (tt := tt) tt_ok Try.func109 (fn := Try.f109) rfl (by unfold FnOk; kernel_rfl) (Nat.le_of_ble_eq_true rfl) fun w0 F0 => ?_
  refine awp_seq ?_
  refine awp_regionK (s' := ⟨[(0, .one (.slc .sh 2 (eL a))), (2, .one (.slc .emp 0 []))], []⟩) (obs := []) tt_ok [] [0, 2] [] (by kernel_rfl) (trivial) ?_
  refine awp_seq ?_
  refine awp_regionK (s' := ⟨[(0, .one (.slc .sh 2 (eL a))), (2, .one (.slc .emp 0 [])), (3, .one (.slc (.own true 320) 2 []))], []⟩) (obs := []) tt_ok [] [0, 2, 3] [] (by kernel_rfl) (trivial) ?_
  refine awp_seq ?_
  refine awp_seq ?_
  refine awp_regionK (s' := ⟨[(0, .one (.slc .sh 2 (eL a))), (2, .one (.slc .emp 0 [])), (3, .one (.slc (.own true 320) 2 [])), (4, .one (.int .i64 0))], []⟩) (obs := []) tt_ok [] [0, 2, 3, 4] [] (by kernel_rfl) (trivial) ?_
  refine awp_block ?_
  refine awp_for (a.length) (fun k : Nat => (⟨[(0, .one (.slc .sh 2 (eL a))), (2, .one (.slc .emp 0 [])), (3, .one (.slc (.own true 57600) 2 (eL (List.take k a)))), (4, .one (.int .i64 ((k : Nat) : Int)))], []⟩ : St)) (weak_to [(320, 57600)] [0, 2, 3, 4] [] (by kernel_rfl)) (fun k hk => ?_) ?_
  · -- round
    refine awp_seq ?_
    refine awp_seq ?_
    have hl1 : List.length a ≤ 1048576 := sz_len (sa)
    refine awp_regionK (s' := ⟨[(0, .one (.slc .sh 2 (eL a))), (2, .one (.slc .emp 0 [])), (3, .one (.slc (.own true 57600) 2 (eL (List.take k a)))), (4, .one (.int .i64 ((k : Nat) : Int))), (9, .one (.bool true))], []⟩) (obs := [.eq (.one (.int .i64 (((eL a) : List (List PV)).length : Int))) (.one (.int .i64 (a.length : Int))), .eq (.one (.bool (decide (((k : Nat) : Int) < (a.length : Int))))) (.one (.bool true))]) tt_ok [(2, .val (.one (.int .i64 (a.length : Int)))), (3, .val (.one (.bool true)))] [0, 2, 3, 4, 9] [] (by kernel_rfl) (obc (ob_eq (by simp [eL_length])) (ob1 (ob_eq (congrArg (fun b => AV.one (C.bool b)) (decide_eq_true (by omega)))))) ?_
    refine awp_cond (b := true) rfl (fun _ => ?_) (fun h => by cases h)
    refine awp_skip ?_
    refine awp_seq ?_
    refine awp_block ?_
    obtain ⟨x2, hx3⟩ := get_some (l := a) (i := k) (by omega)
    have hl4 : List.length x2.2 ≤ 1048576 := sz_len (sz_snd (sz_get hx3 (sa)))
    refine awp_draw (s' := ⟨[(0, .one (.slc .sh 2 (eL a))), (2, .one (.slc .emp 0 [])), (3, .one (.slc (.own true 1728) 2 ((eL (List.take k a)) ++ [[.str x2.1, .slc 7 ([] ++ (eL x2.2))]]))), (4, .one (.int .i64 ((k : Nat) : Int)))], []⟩) (obs := [.elem (eL a) ((k : Nat) : Int) [.str x2.1, .slc 7 (eL x2.2)], .elem (eL a) ((k : Nat) : Int) [.str x2.1, .slc 7 (eL x2.2)], .len (([] : List (List PV)).length + ((eL x2.2) : List (List PV)).length), .flat (eL x2.2), .len (((eL (List.take k a)) : List (List PV)).length + ([[.str x2.1, .slc 7 ([] ++ (eL x2.2))]] : List (List PV)).length)]) tt_ok tt_mx [(3, .row [.str x2.1, .slc 7 (eL x2.2)]), (9, .row [.str x2.1, .slc 7 (eL x2.2)]), (12, .flat)] [0, 2, 3, 4] [] (by kernel_rfl) (obc (ob_elem (⟨by omega, eL_get (by simpa using hx3)⟩)) (obc (ob_elem (⟨by omega, eL_get (by simpa using hx3)⟩)) (obc (ob_len (by simp [eL_length]; omega)) (obc (ob_flat (flat_eL _)) (ob1 (ob_len (by simp [eL_length]; omega))))))) ?_
    refine awp_regionK (s' := ⟨[(0, .one (.slc .sh 2 (eL a))), (2, .one (.slc .emp 0 [])), (3, .one (.slc (.own true 1728) 2 ((eL (List.take k a)) ++ [[.str x2.1, .slc 7 ([] ++ (eL x2.2))]]))), (4, .one (.int .i64 (((k : Nat) : Int) + 1)))], []⟩) (obs := [.eq (.one (.int .i64 (IntKind.i64.wrap (((k : Nat) : Int) + 1)))) (.one (.int .i64 (((k : Nat) : Int) + 1)))]) tt_ok [(1, .val (.one (.int .i64 (((k : Nat) : Int) + 1))))] [0, 2, 3, 4] [] (by kernel_rfl) (ob1 (ob_eq (congrArg (fun n => AV.one (.int .i64 n)) (IntWalk.i64_in _ (by omega))))) ?_
    exact weak_to [(1728, 57600)] [0, 2, 3, 4] [] (Eq.trans (b := (⟨[(0, .one (.slc .sh 2 (eL a))), (2, .one (.slc .emp 0 [])), (3, .one (.slc (.own true 57600) 2 ((eL (List.take k a)) ++ [[.str x2.1, .slc 7 ([] ++ (eL x2.2))]]))), (4, .one (.int .i64 (((k : Nat) : Int) + 1)))], []⟩ : St)) (by kernel_rfl) (by rw [← eL_take_succ hx3]; rfl))
  · -- exit
    refine awp_seq ?_
    refine awp_seq ?_
    have hl5 : List.length a ≤ 1048576 := sz_len (sa)
    refine awp_regionK (s' := ⟨[(0, .one (.slc .sh 2 (eL a))), (2, .one (.slc .emp 0 [])), (3, .one (.slc (.own true 57600) 2 (eL (List.take a.length a)))), (4, .one (.int .i64 ((a.length : Nat) : Int))), (9, .one (.bool false))], []⟩) (obs := [.eq (.one (.int .i64 (((eL a) : List (List PV)).length : Int))) (.one (.int .i64 (a.length : Int))), .eq (.one (.bool (decide (((a.length : Nat) : Int) < (a.length : Int))))) (.one (.bool false))]) tt_ok [(2, .val (.one (.int .i64 (a.length : Int)))), (3, .val (.one (.bool false)))] [0, 2, 3, 4, 9] [] (by kernel_rfl) (obc (ob_eq (by simp [eL_length])) (ob1 (ob_eq (congrArg (fun b => AV.one (C.bool b)) (decide_eq_false (by omega)))))) ?_
    refine awp_cond (b := false) rfl (fun h => by cases h) (fun _ => ?_)
    refine awp_exit ?_
    refine awp_seq ?_
    refine awp_regionK (s' := ⟨[(2, .one (.slc (.own true 57600) 2 (eL (List.take a.length a))))], []⟩) (obs := []) tt_ok [] [2] [] (by kernel_rfl) (trivial) ?_
    refine awp_ret ?_
    refine post_ret [] (b := .one (.slc (.own true 0) 2 (eL (List.take a.length a)))) (by kernel_rfl) ?_
    rw [List.take_length]
theorem l28State_a (a : SnapshotD) (sa : GoD.size a ≤ 1048576)  : ACalls Try.prog 65 [.agg [.slc .sh 2 (eL a.1.1), .slc .sh 5 (eL a.1.2.1), .int .i64 a.1.2.2, .slc .sh 2 (eL a.2)]] (.agg [.slc (.own true 0) 2 (eL a.1.1), .slc (.own true 1) 5 (eL a.1.2.1), .int .i64 a.1.2.2, .slc (.own true 2) 2 (eL a.2)]) := by
  refine acalls_of (tt := tt) tt_ok Try.func65 (fn := Try.f65) rfl (by unfold FnOk; kernel_rfl) (Nat.le_of_ble_eq_true rfl) fun w0 F0 => ?_
  refine awp_seq ?_
  refine awp_regionK (s' := ⟨[(1, .one (.ptr 1 0)), (2, .one (.ptr 2 0))], [(1, [.slc .sh 2 (eL a.1.1), .slc .sh 5 (eL a.1.2.1), .int .i64 a.1.2.2, .slc .sh 2 (eL a.2)]), (2, [.slc .emp 0 [], .slc .emp 0 [], .int .i64 0, .slc .emp 0 []])]⟩) (obs := []) tt_ok [] [1, 2] [1, 2] (by kernel_rfl) (trivial) ?_
  refine awp_seq ?_
  refine awp_draw (s' := ⟨[(2, .one (.ptr 2 0))], [(2, [.slc (.own true 320) 2 (eL a.1.1), .slc (.own true 321) 5 (eL a.1.2.1), .int .i64 a.1.2.2, .slc (.own true 512) 2 (eL a.2)])]⟩) (obs := [.call 108 [.agg [.slc .sh 2 (eL a.1.1), .slc .sh 5 (eL a.1.2.1), .int .i64 a.1.2.2]] (.agg [.slc (.own true 0) 2 (eL a.1.1), .slc (.own true 1) 5 (eL a.1.2.1), .int .i64 a.1.2.2]), .call 109 [.one (.slc .sh 2 (eL a.2))] (.one (.slc (.own true 0) 2 (eL a.2)))]) tt_ok tt_mx [(2, .val (.agg [.slc (.own true 0) 2 (eL a.1.1), .slc (.own true 1) 5 (eL a.1.2.1), .int .i64 a.1.2.2])), (5, .val (.one (.slc (.own true 0) 2 (eL a.2))))] [2] [2] (by kernel_rfl) (obc (ob_call (l05Copy_a a.1 (sz_fst (sa)))) (ob1 (ob_call (l11Copy_a a.2 (sz_snd (sa)))))) ?_
  refine awp_ret ?_
  refine post_ret [] (b := .agg [.slc (.own true 0) 2 (eL a.1.1), .slc (.own true 1) 5 (eL a.1.2.1), .int .i64 a.1.2.2, .slc (.own true 2) 2 (eL a.2)]) (by kernel_rfl) ?_
  rfl
theorem copyFile_a (a : FileD) (sa : GoD.size a ≤ 1048576)  : ACalls Try.prog 130 [.agg [.int .i64 a.1, .int .i64 a.2.1, .bool a.2.2.1, .int .i64 a.2.2.2.1, .slc .sh 4 (eL a.2.2.2.2)]] (.agg [.int .i64 a.1, .int .i64 a.2.1, .bool a.2.2.1, .int .i64 a.2.2.2.1, .slc (.own true 0) 4 (eL a.2.2.2.2)]) := by
  refine acalls_of (tt := tt) tt_ok Try.func130 (fn := Try.f130) rfl (by unfold FnOk; kernel_rfl) (Nat.le_of_ble_eq_true rfl) fun w0 F0 => ?_
  refine awp_seq ?_
  refine awp_regionK (s' := ⟨[(1, .one (.ptr 1 0)), (2, .one (.ptr 2 0))], [(1, [.int .i64 a.1, .int .i64 a.2.1, .bool a.2.2.1, .int .i64 a.2.2.2.1, .slc .sh 4 (eL a.2.2.2.2)]), (2, [.int .i64 0, .int .i64 0, .bool false, .int .i64 0, .slc .emp 0 []])]⟩) (obs := []) tt_ok [] [1, 2] [1, 2] (by kernel_rfl) (trivial) ?_
  refine awp_seq ?_
  refine awp_regionK (s' := ⟨[(1, .one (.ptr 1 0)), (2, .one (.ptr 2 0))], [(1, [.int .i64 a.1, .int .i64 a.2.1, .bool a.2.2.1, .int .i64 a.2.2.2.1, .slc (.own true 320) 4 (eL a.2.2.2.2)]), (2, [.int .i64 0, .int .i64 0, .bool false, .int .i64 0, .slc .emp 0 []])]⟩) (obs := [.call 157 [.one (.slc .sh 4 (eL a.2.2.2.2))] (.one (.slc (.own true 0) 4 (eL a.2.2.2.2)))]) tt_ok [(2, .val (.one (.slc (.own true 0) 4 (eL a.2.2.2.2))))] [1, 2] [1, 2] (by kernel_rfl) (ob1 (ob_call (cloneAttr_a a.2.2.2.2 (sz_snd (sz_snd (sz_snd (sz_snd (sa)))))))) ?_
  refine awp_seq ?_
  refine awp_regionK (s' := ⟨[(2, .one (.ptr 2 0))], [(2, [.int .i64 a.1, .int .i64 a.2.1, .bool a.2.2.1, .int .i64 a.2.2.2.1, .slc (.own true 320) 4 (eL a.2.2.2.2)])]⟩) (obs := []) tt_ok [] [2] [2] (by kernel_rfl) (trivial) ?_
  refine awp_ret ?_
  refine post_ret [] (b := .agg [.int .i64 a.1, .int .i64 a.2.1, .bool a.2.2.1, .int .i64 a.2.2.2.1, .slc (.own true 0) 4 (eL a.2.2.2.2)]) (by kernel_rfl) ?_
  rfl
theorem copyFiles_a (a : (List FileD)) (sa : GoD.size a ≤ 1048576)  : ACalls Try.prog 151 [.one (.slc .sh 5 (eL a))] (.one (.slc (.own true 0) 5 (eL a))) := by
  refine acalls_of (tt := tt) tt_ok Try.func151 (fn := Try.f151) rfl (by unfold FnOk; kernel_rfl) (Nat.le_of_ble_eq_true rfl) fun w0 F0 => ?_
  refine awp_seq ?_
  refine awp_regionK (s' := ⟨[(0, .one (.slc .sh 5 (eL a))), (2, .one (.slc .emp 0 []))], []⟩) (obs := []) tt_ok [] [0, 2] [] (by kernel_rfl) (trivial) ?_
  refine awp_seq ?_
  refine awp_regionK (s' := ⟨[(0, .one (.slc .sh 5 (eL a))), (2, .one (.slc .emp 0 [])), (3, .one (.slc (.own true 384) 5 []))], []⟩) (obs := []) tt_ok [] [0, 2, 3] [] (by kernel_rfl) (trivial) ?_
  refine awp_seq ?_
  refine awp_seq ?_
  have hl1 : List.length a ≤ 1048576 := sz_len (sa)
  refine awp_regionK (s' := ⟨[(2, .one (.slc .emp 0 [])), (3, .one (.slc (.own true 384) 5 [])), (7, .one (.slc .sh 5 (eL a))), (8, .one (.int .i64 (a.length : Int))), (9, .one (.int .i64 0))], []⟩) (obs := [.eq (.one (.int .i64 (((eL a) : List (List PV)).length : Int))) (.one (.int .i64 (a.length : Int)))]) tt_ok [(1, .val (.one (.int .i64 (a.length : Int))))] [2, 3, 7, 8, 9] [] (by kernel_rfl) (ob1 (ob_eq (by simp [eL_length]))) ?_
  refine awp_block ?_
  refine awp_for (a.length) (fun k : Nat => (⟨[(2, .one (.slc .emp 0 [])), (3, .one (.slc (.own true 57600) 5 (eL (List.take k a)))), (7, .one (.slc .sh 5 (eL a))), (8, .one (.int .i64 (a.length : Int))), (9, .one (.int .i64 ((k : Nat) : Int)))], []⟩ : St)) (weak_to [(384, 57600)] [2, 3, 7, 8, 9] [] (by kernel_rfl)) (fun k hk => ?_) ?_
  · -- round
    refine awp_seq ?_
    refine awp_regionK (s' := ⟨[(2, .one (.slc .emp 0 [])), (3, .one (.slc (.own true 57600) 5 (eL (List.take k a)))), (7, .one (.slc .sh 5 (eL a))), (8, .one (.int .i64 (a.length : Int))), (9, .one (.int .i64 ((k : Nat) : Int))), (10, .one (.bool true))], []⟩) (obs := [.eq (.one (.bool (decide (((k : Nat) : Int) < (a.length : Int))))) (.one (.bool true))]) tt_ok [(0, .val (.one (.bool true)))] [2, 3, 7, 8, 9, 10] [] (by kernel_rfl) (ob1 (ob_eq (congrArg (fun b => AV.one (C.bool b)) (decide_eq_true (by omega))))) ?_
    refine awp_seq ?_
    refine awp_cond (b := true) rfl (fun _ => ?_) (fun h => by cases h)
    refine awp_skip ?_
    refine awp_seq ?_
    refine awp_block ?_
    refine awp_seq ?_
    obtain ⟨x2, hx3⟩ := get_some (l := a) (i := k) (by omega)
    refine awp_regionK (s' := ⟨[(2, .one (.slc .emp 0 [])), (3, .one (.slc (.own true 57600) 5 (eL (List.take k a)))), (5, .one (.ptr 5 0)), (7, .one (.slc .sh 5 (eL a))), (8, .one (.int .i64 (a.length : Int))), (9, .one (.int .i64 ((k : Nat) : Int)))], [(5, [.int .i64 x2.1, .int .i64 x2.2.1, .bool x2.2.2.1, .int .i64 x2.2.2.2.1, .slc .sh 4 (eL x2.2.2.2.2)])]⟩) (obs := [.elem (eL a) ((k : Nat) : Int) [.int .i64 x2.1, .int .i64 x2.2.1, .bool x2.2.2.1, .int .i64 x2.2.2.2.1, .slc 4 (eL x2.2.2.2.2)]]) tt_ok [(0, .row [.int .i64 x2.1, .int .i64 x2.2.1, .bool x2.2.2.1, .int .i64 x2.2.2.2.1, .slc 4 (eL x2.2.2.2.2)])] [2, 3, 5, 7, 8, 9] [5] (by kernel_rfl) (ob1 (ob_elem (⟨by omega, eL_get (by simpa using hx3)⟩))) ?_
    refine awp_regionK (s' := ⟨[(2, .one (.slc .emp 0 [])), (3, .one (.slc (.own true 1088) 5 ((eL (List.take k a)) ++ [[.int .i64 x2.1, .int .i64 x2.2.1, .bool x2.2.2.1, .int .i64 x2.2.2.2.1, .slc 4 (eL x2.2.2.2.2)]]))), (7, .one (.slc .sh 5 (eL a))), (8, .one (.int .i64 (a.length : Int))), (9, .one (.int .i64 ((k : Nat) : Int)))], []⟩) (obs := [.call 130 [.agg [.int .i64 x2.1, .int .i64 x2.2.1, .bool x2.2.2.1, .int .i64 x2.2.2.2.1, .slc .sh 4 (eL x2.2.2.2.2)]] (.agg [.int .i64 x2.1, .int .i64 x2.2.1, .bool x2.2.2.1, .int .i64 x2.2.2.2.1, .slc (.own true 0) 4 (eL x2.2.2.2.2)]), .len (((eL (List.take k a)) : List (List PV)).length + ([[.int .i64 x2.1, .int .i64 x2.2.1, .bool x2.2.2.1, .int .i64 x2.2.2.2.1, .slc 4 (eL x2.2.2.2.2)]] : List (List PV)).length)]) tt_ok [(2, .val (.agg [.int .i64 x2.1, .int .i64 x2.2.1, .bool x2.2.2.1, .int .i64 x2.2.2.2.1, .slc (.own true 0) 4 (eL x2.2.2.2.2)]))] [2, 3, 7, 8, 9] [] (by kernel_rfl) (obc (ob_call (copyFile_a x2 (sz_get hx3 (sa)))) (ob1 (ob_len (by simp [eL_length]; omega)))) ?_
    refine awp_regionK (s' := ⟨[(2, .one (.slc .emp 0 [])), (3, .one (.slc (.own true 1088) 5 ((eL (List.take k a)) ++ [[.int .i64 x2.1, .int .i64 x2.2.1, .bool x2.2.2.1, .int .i64 x2.2.2.2.1, .slc 4 (eL x2.2.2.2.2)]]))), (7, .one (.slc .sh 5 (eL a))), (8, .one (.int .i64 (a.length : Int))), (9, .one (.int .i64 (((k : Nat) : Int) + 1)))], []⟩) (obs := [.eq (.one (.int .i64 (IntKind.i64.wrap (((k : Nat) : Int) + 1)))) (.one (.int .i64 (((k : Nat) : Int) + 1)))]) tt_ok [(0, .val (.one (.int .i64 (((k : Nat) : Int) + 1))))] [2, 3, 7, 8, 9] [] (by kernel_rfl) (ob1 (ob_eq (congrArg (fun n => AV.one (.int .i64 n)) (IntWalk.i64_in _ (by omega))))) ?_
    exact weak_to [(1088, 57600)] [2, 3, 7, 8, 9] [] (Eq.trans (b := (⟨[(2, .one (.slc .emp 0 [])), (3, .one (.slc (.own true 57600) 5 ((eL (List.take k a)) ++ [[.int .i64 x2.1, .int .i64 x2.2.1, .bool x2.2.2.1, .int .i64 x2.2.2.2.1, .slc 4 (eL x2.2.2.2.2)]]))), (7, .one (.slc .sh 5 (eL a))), (8, .one (.int .i64 (a.length : Int))), (9, .one (.int .i64 (((k : Nat) : Int) + 1)))], []⟩ : St)) (by kernel_rfl) (by rw [← eL_take_succ hx3]; rfl))
  · -- exit
    refine awp_seq ?_
    refine awp_regionK (s' := ⟨[(2, .one (.slc .emp 0 [])), (3, .one (.slc (.own true 57600) 5 (eL (List.take a.length a)))), (7, .one (.slc .sh 5 (eL a))), (8, .one (.int .i64 (a.length : Int))), (9, .one (.int .i64 ((a.length : Nat) : Int))), (10, .one (.bool false))], []⟩) (obs := [.eq (.one (.bool (decide (((a.length : Nat) : Int) < (a.length : Int))))) (.one (.bool false))]) tt_ok [(0, .val (.one (.bool false)))] [2, 3, 7, 8, 9, 10] [] (by kernel_rfl) (ob1 (ob_eq (congrArg (fun b => AV.one (C.bool b)) (decide_eq_false (by omega))))) ?_
    refine awp_seq ?_
    refine awp_cond (b := false) rfl (fun h => by cases h) (fun _ => ?_)
    refine awp_exit ?_
    refine awp_seq ?_
    refine awp_regionK (s' := ⟨[(2, .one (.slc (.own true 57600) 5 (eL (List.take a.length a))))], []⟩) (obs := []) tt_ok [] [2] [] (by kernel_rfl) (trivial) ?_
    refine awp_ret ?_
    refine post_ret [] (b := .one (.slc (.own true 0) 5 (eL (List.take a.length a)))) (by kernel_rfl) ?_
    rw [List.take_length]
theorem copyStore_a (a : StoreD) (sa : GoD.size a ≤ 1048576)  : ACalls Try.prog 112 [.agg [.slc .sh 2 (eL a.1), .slc .sh 5 (eL a.2.1), .int .i64 a.2.2]] (.agg [.slc (.own true 0) 2 (eL a.1), .slc (.own true 1) 5 (eL a.2.1), .int .i64 a.2.2]) := by
  refine acalls_of (tt := tt) tt_ok Try.func112 (fn := Try.f112) rfl (by unfold FnOk; kernel_rfl) (Nat.le_of_ble_eq_true rfl) fun w0 F0 => ?_
  refine awp_seq ?_
  refine awp_regionK (s' := ⟨[(1, .one (.ptr 1 0)), (2, .one (.ptr 2 0))], [(1, [.slc .sh 2 (eL a.1), .slc .sh 5 (eL a.2.1), .int .i64 a.2.2]), (2, [.slc .emp 0 [], .slc .emp 0 [], .int .i64 0])]⟩) (obs := []) tt_ok [] [1, 2] [1, 2] (by kernel_rfl) (trivial) ?_
  refine awp_seq ?_
  refine awp_draw (s' := ⟨[(2, .one (.ptr 2 0))], [(2, [.slc (.own true 320) 2 (eL a.1), .slc (.own true 512) 5 (eL a.2.1), .int .i64 a.2.2])]⟩) (obs := [.call 150 [.one (.slc .sh 2 (eL a.1))] (.one (.slc (.own true 0) 2 (eL a.1))), .call 151 [.one (.slc .sh 5 (eL a.2.1))] (.one (.slc (.own true 0) 5 (eL a.2.1)))]) tt_ok tt_mx [(2, .val (.one (.slc (.own true 0) 2 (eL a.1)))), (5, .val (.one (.slc (.own true 0) 5 (eL a.2.1))))] [2] [2] (by kernel_rfl) (obc (ob_call (cloneField_a a.1 (sz_fst (sa)))) (ob1 (ob_call (copyFiles_a a.2.1 (sz_fst (sz_snd (sa))))))) ?_
  refine awp_ret ?_
  refine post_ret [] (b := .agg [.slc (.own true 0) 2 (eL a.1), .slc (.own true 1) 5 (eL a.2.1), .int .i64 a.2.2]) (by kernel_rfl) ?_
  rfl
theorem copyDir_a (a : DirD) (sa : GoD.size a ≤ 1048576)  : ACalls Try.prog 131 [.agg [.str a.1, .slc .sh 7 (eL a.2)]] (.agg [.str a.1, .slc (.own true 0) 7 (eL a.2)]) := by
  refine acalls_of (tt := tt) tt_ok Try.func131 (fn := Try.f131) rfl (by unfold FnOk; kernel_rfl) (Nat.le_of_ble_eq_true rfl) fun w0 F0 => ?_
  refine awp_seq ?_
  refine awp_regionK (s' := ⟨[(1, .one (.ptr 1 0)), (2, .one (.ptr 2 0))], [(1, [.str a.1, .slc .sh 7 (eL a.2)]), (2, [.str ⟨#[]⟩, .slc .emp 0 []])]⟩) (obs := []) tt_ok [] [1, 2] [1, 2] (by kernel_rfl) (trivial) ?_
  refine awp_seq ?_
  refine awp_regionK (s' := ⟨[(1, .one (.ptr 1 0)), (2, .one (.ptr 2 0))], [(1, [.str a.1, .slc (.own true 320) 7 (eL a.2)]), (2, [.str ⟨#[]⟩, .slc .emp 0 []])]⟩) (obs := [.call 158 [.one (.slc .sh 7 (eL a.2))] (.one (.slc (.own true 0) 7 (eL a.2)))]) tt_ok [(2, .val (.one (.slc (.own true 0) 7 (eL a.2))))] [1, 2] [1, 2] (by kernel_rfl) (ob1 (ob_call (cloneNode_a a.2 (sz_snd (sa))))) ?_
  refine awp_seq ?_
  refine awp_regionK (s' := ⟨[(2, .one (.ptr 2 0))], [(2, [.str a.1, .slc (.own true 320) 7 (eL a.2)])]⟩) (obs := []) tt_ok [] [2] [2] (by kernel_rfl) (trivial) ?_
  refine awp_ret ?_
  refine post_ret [] (b := .agg [.str a.1, .slc (.own true 0) 7 (eL a.2)]) (by kernel_rfl) ?_
  rfl
theorem copyDirs_a (a : (List DirD)) (sa : GoD.size a ≤ 1048576)  : ACalls Try.prog 113 [.one (.slc .sh 2 (eL a))] (.one (.slc (.own true 0) 2 (eL a))) := by
  refine acalls_of (tt := tt) tt_ok Try.func113 (fn := Try.f113) rfl (by unfold FnOk; kernel_rfl) (Nat.le_of_ble_eq_true rfl) fun w0 F0 => ?_
  refine awp_seq ?_
  refine awp_regionK (s' := ⟨[(0, .one (.slc .sh 2 (eL a))), (2, .one (.slc .emp 0 []))], []⟩) (obs := []) tt_ok [] [0, 2] [] (by kernel_rfl) (trivial) ?_
  refine awp_seq ?_
  refine awp_regionK (s' := ⟨[(0, .one (.slc .sh 2 (eL a))), (2, .one (.slc .emp 0 [])), (3, .one (.slc (.own true 384) 2 []))], []⟩) (obs := []) tt_ok [] [0, 2, 3] [] (by kernel_rfl) (trivial) ?_
  refine awp_seq ?_
  refine awp_seq ?_
  have hl1 : List.length a ≤ 1048576 := sz_len (sa)
  refine awp_regionK (s' := ⟨[(2, .one (.slc .emp 0 [])), (3, .one (.slc (.own true 384) 2 [])), (7, .one (.slc .sh 2 (eL a))), (8, .one (.int .i64 (a.length : Int))), (9, .one (.int .i64 0))], []⟩) (obs := [.eq (.one (.int .i64 (((eL a) : List (List PV)).length : Int))) (.one (.int .i64 (a.length : Int)))]) tt_ok [(1, .val (.one (.int .i64 (a.length : Int))))] [2, 3, 7, 8, 9] [] (by kernel_rfl) (ob1 (ob_eq (by simp [eL_length]))) ?_
  refine awp_block ?_
  refine awp_for (a.length) (fun k : Nat => (⟨[(2, .one (.slc .emp 0 [])), (3, .one (.slc (.own true 57600) 2 (eL (List.take k a)))), (7, .one (.slc .sh 2 (eL a))), (8, .one (.int .i64 (a.length : Int))), (9, .one (.int .i64 ((k : Nat) : Int)))], []⟩ : St)) (weak_to [(384, 57600)] [2, 3, 7, 8, 9] [] (by kernel_rfl)) (fun k hk => ?_) ?_
  · -- round
    refine awp_seq ?_
    refine awp_regionK (s' := ⟨[(2, .one (.slc .emp 0 [])), (3, .one (.slc (.own true 57600) 2 (eL (List.take k a)))), (7, .one (.slc .sh 2 (eL a))), (8, .one (.int .i64 (a.length : Int))), (9, .one (.int .i64 ((k : Nat) : Int))), (10, .one (.bool true))], []⟩) (obs := [.eq (.one (.bool (decide (((k : Nat) : Int) < (a.length : Int))))) (.one (.bool true))]) tt_ok [(0, .val (.one (.bool true)))] [2, 3, 7, 8, 9, 10] [] (by kernel_rfl) (ob1 (ob_eq (congrArg (fun b => AV.one (C.bool b)) (decide_eq_true (by omega))))) ?_
    refine awp_seq ?_
    refine awp_cond (b := true) rfl (fun _ => ?_) (fun h => by cases h)
    refine awp_skip ?_
    refine awp_seq ?_
    refine awp_block ?_
    refine awp_seq ?_
    obtain ⟨x2, hx3⟩ := get_some (l := a) (i := k) (by omega)
    refine awp_regionK (s' := ⟨[(2, .one (.slc .emp 0 [])), (3, .one (.slc (.own true 57600) 2 (eL (List.take k a)))), (5, .one (.ptr 5 0)), (7, .one (.slc .sh 2 (eL a))), (8, .one (.int .i64 (a.length : Int))), (9, .one (.int .i64 ((k : Nat) : Int)))], [(5, [.str x2.1, .slc .sh 7 (eL x2.2)])]⟩) (obs := [.elem (eL a) ((k : Nat) : Int) [.str x2.1, .slc 7 (eL x2.2)]]) tt_ok [(0, .row [.str x2.1, .slc 7 (eL x2.2)])] [2, 3, 5, 7, 8, 9] [5] (by kernel_rfl) (ob1 (ob_elem (⟨by omega, eL_get (by simpa using hx3)⟩))) ?_
    refine awp_regionK (s' := ⟨[(2, .one (.slc .emp 0 [])), (3, .one (.slc (.own true 1088) 2 ((eL (List.take k a)) ++ [[.str x2.1, .slc 7 (eL x2.2)]]))), (7, .one (.slc .sh 2 (eL a))), (8, .one (.int .i64 (a.length : Int))), (9, .one (.int .i64 ((k : Nat) : Int)))], []⟩) (obs := [.call 131 [.agg [.str x2.1, .slc .sh 7 (eL x2.2)]] (.agg [.str x2.1, .slc (.own true 0) 7 (eL x2.2)]), .len (((eL (List.take k a)) : List (List PV)).length + ([[.str x2.1, .slc 7 (eL x2.2)]] : List (List PV)).length)]) tt_ok [(2, .val (.agg [.str x2.1, .slc (.own true 0) 7 (eL x2.2)]))] [2, 3, 7, 8, 9] [] (by kernel_rfl) (obc (ob_call (copyDir_a x2 (sz_get hx3 (sa)))) (ob1 (ob_len (by simp [eL_length]; omega)))) ?_
    refine awp_regionK (s' := ⟨[(2, .one (.slc .emp 0 [])), (3, .one (.slc (.own true 1088) 2 ((eL (List.take k a)) ++ [[.str x2.1, .slc 7 (eL x2.2)]]))), (7, .one (.slc .sh 2 (eL a))), (8, .one (.int .i64 (a.length : Int))), (9, .one (.int .i64 (((k : Nat) : Int) + 1)))], []⟩) (obs := [.eq (.one (.int .i64 (IntKind.i64.wrap (((k : Nat) : Int) + 1)))) (.one (.int .i64 (((k : Nat) : Int) + 1)))]) tt_ok [(0, .val (.one (.int .i64 (((k : Nat) : Int) + 1))))] [2, 3, 7, 8, 9] [] (by kernel_rfl) (ob1 (ob_eq (congrArg (fun n => AV.one (.int .i64 n)) (IntWalk.i64_in _ (by omega))))) ?_
    exact weak_to [(1088, 57600)] [2, 3, 7, 8, 9] [] (Eq.trans (b := (⟨[(2, .one (.slc .emp 0 [])), (3, .one (.slc (.own true 57600) 2 ((eL (List.take k a)) ++ [[.str x2.1, .slc 7 (eL x2.2)]]))), (7, .one (.slc .sh 2 (eL a))), (8, .one (.int .i64 (a.length : Int))), (9, .one (.int .i64 (((k : Nat) : Int) + 1)))], []⟩ : St)) (by kernel_rfl) (by rw [← eL_take_succ hx3]; rfl))
  · -- exit
    refine awp_seq ?_
    refine awp_regionK (s' := ⟨[(2, .one (.slc .emp 0 [])), (3, .one (.slc (.own true 57600) 2 (eL (List.take a.length a)))), (7, .one (.slc .sh 2 (eL a))), (8, .one (.int .i64 (a.length : Int))), (9, .one (.int .i64 ((a.length : Nat) : Int))), (10, .one (.bool false))], []⟩) (obs := [.eq (.one (.bool (decide (((a.length : Nat) : Int) < (a.length : Int))))) (.one (.bool false))]) tt_ok [(0, .val (.one (.bool false)))] [2, 3, 7, 8, 9, 10] [] (by kernel_rfl) (ob1 (ob_eq (congrArg (fun b => AV.one (C.bool b)) (decide_eq_false (by omega))))) ?_
    refine awp_seq ?_
    refine awp_cond (b := false) rfl (fun h => by cases h) (fun _ => ?_)
    refine awp_exit ?_
    refine awp_seq ?_
    refine awp_regionK (s' := ⟨[(2, .one (.slc (.own true 57600) 2 (eL (List.take a.length a))))], []⟩) (obs := []) tt_ok [] [2] [] (by kernel_rfl) (trivial) ?_
    refine awp_ret ?_
    refine post_ret [] (b := .one (.slc (.own true 0) 2 (eL (List.take a.length a)))) (by kernel_rfl) ?_
    rw [List.take_length]
theorem copySnapshot_a (a : SnapshotD) (sa : GoD.size a ≤ 1048576)  : ACalls Try.prog 67 [.agg [.slc .sh 2 (eL a.1.1), .slc .sh 5 (eL a.1.2.1), .int .i64 a.1.2.2, .slc .sh 2 (eL a.2)]] (.agg [.slc (.own true 0) 2 (eL a.1.1), .slc (.own true 1) 5 (eL a.1.2.1), .int .i64 a.1.2.2, .slc (.own true 2) 2 (eL a.2)]) := by
  refine acalls_of (tt := tt) tt_ok Try.func67 (fn := Try.f67) rfl (by unfold FnOk; kernel_rfl) (Nat.le_of_ble_eq_true rfl) fun w0 F0 => ?_
  refine awp_seq ?_
  refine awp_regionK (s' := ⟨[(1, .one (.ptr 1 0)), (2, .one (.ptr 2 0))], [(1, [.slc .sh 2 (eL a.1.1), .slc .sh 5 (eL a.1.2.1), .int .i64 a.1.2.2, .slc .sh 2 (eL a.2)]), (2, [.slc .emp 0 [], .slc .emp 0 [], .int .i64 0, .slc .emp 0 []])]⟩) (obs := []) tt_ok [] [1, 2] [1, 2] (by kernel_rfl) (trivial) ?_
  refine awp_seq ?_
  refine awp_draw (s' := ⟨[(2, .one (.ptr 2 0))], [(2, [.slc (.own true 320) 2 (eL a.1.1), .slc (.own true 321) 5 (eL a.1.2.1), .int .i64 a.1.2.2, .slc (.own true 512) 2 (eL a.2)])]⟩) (obs := [.call 112 [.agg [.slc .sh 2 (eL a.1.1), .slc .sh 5 (eL a.1.2.1), .int .i64 a.1.2.2]] (.agg [.slc (.own true 0) 2 (eL a.1.1), .slc (.own true 1) 5 (eL a.1.2.1), .int .i64 a.1.2.2]), .call 113 [.one (.slc .sh 2 (eL a.2))] (.one (.slc (.own true 0) 2 (eL a.2)))]) tt_ok tt_mx [(2, .val (.agg [.slc (.own true 0) 2 (eL a.1.1), .slc (.own true 1) 5 (eL a.1.2.1), .int .i64 a.1.2.2])), (5, .val (.one (.slc (.own true 0) 2 (eL a.2))))] [2] [2] (by kernel_rfl) (obc (ob_call (copyStore_a a.1 (sz_fst (sa)))) (ob1 (ob_call (copyDirs_a a.2 (sz_snd (sa)))))) ?_
  refine awp_ret ?_
  refine post_ret [] (b := .agg [.slc (.own true 0) 2 (eL a.1.1), .slc (.own true 1) 5 (eL a.1.2.1), .int .i64 a.1.2.2, .slc (.own true 2) 2 (eL a.2)]) (by kernel_rfl) ?_
  rfl
theorem l28Place_a (a : (List VersionD)) (n : Int) (sa : GoD.size a ≤ 1048576)  : ACalls Try.prog 64 [.one (.slc .sh 6 (eL a)), .one (.int .i64 n)] (.one (.int .i64 (fvAt a n))) := by
  refine acalls_of (tt := tt) tt_ok Try.func64 (fn := Try.f64) rfl (by unfold FnOk; kernel_rfl) (Nat.le_of_ble_eq_true rfl) fun w0 F0 => ?_
  refine awp_seq ?_
  refine awp_regionK (s' := ⟨[(0, .one (.slc .sh 6 (eL a))), (1, .one (.int .i64 n)), (4, .one (.int .i64 0))], []⟩) (obs := []) tt_ok [] [0, 1, 4] [] (by kernel_rfl) (trivial) ?_
  refine awp_seq ?_
  refine awp_seq ?_
  refine awp_regionK (s' := ⟨[(0, .one (.slc .sh 6 (eL a))), (1, .one (.int .i64 n)), (4, .one (.int .i64 0)), (5, .one (.int .i64 0))], []⟩) (obs := []) tt_ok [] [0, 1, 4, 5] [] (by kernel_rfl) (trivial) ?_
  refine awp_block ?_
  refine awp_forI (a.length) (fun k : Nat => (⟨[(0, .one (.slc .sh 6 (eL a))), (1, .one (.int .i64 n)), (4, .one (.int .i64 0)), (5, .one (.int .i64 ((k : Nat) : Int)))], []⟩ : St)) (fun k : Nat => NoP (isV n) a k) (weak_to [] [0, 1, 4, 5] [] (by kernel_rfl)) (noP_zero) (fun k hk hinv => ?_) (fun hinv => ?_)
  · -- round
    refine awp_seq ?_
    refine awp_seq ?_
    have hl1 : List.length a ≤ 1048576 := sz_len (sa)
    refine awp_regionK (s' := ⟨[(0, .one (.slc .sh 6 (eL a))), (1, .one (.int .i64 n)), (4, .one (.int .i64 0)), (5, .one (.int .i64 ((k : Nat) : Int))), (9, .one (.bool true))], []⟩) (obs := [.eq (.one (.int .i64 (((eL a) : List (List PV)).length : Int))) (.one (.int .i64 (a.length : Int))), .eq (.one (.bool (decide (((k : Nat) : Int) < (a.length : Int))))) (.one (.bool true))]) tt_ok [(2, .val (.one (.int .i64 (a.length : Int)))), (3, .val (.one (.bool true)))] [0, 1, 4, 5, 9] [] (by kernel_rfl) (obc (ob_eq (by simp [eL_length])) (ob1 (ob_eq (congrArg (fun b => AV.one (C.bool b)) (decide_eq_true (by omega)))))) ?_
    refine awp_cond (b := true) rfl (fun _ => ?_) (fun h => by cases h)
    refine awp_skip ?_
    refine awp_seq ?_
    refine awp_block ?_
    refine awp_seq ?_
    obtain ⟨x2, hx3⟩ := get_some (l := a) (i := k) (by omega)
    refine awp_regionK (s' := ⟨[(0, .one (.slc .sh 6 (eL a))), (1, .one (.int .i64 n)), (4, .one (.int .i64 0)), (5, .one (.int .i64 ((k : Nat) : Int))), (18, .one (.bool (eqb x2.1 n)))], []⟩) (obs := [.elem (eL a) ((k : Nat) : Int) [.int .i64 x2.1, .slc 2 (eL x2.2.1.1.1), .slc 5 (eL x2.2.1.1.2.1), .int .i64 x2.2.1.1.2.2, .slc 2 (eL x2.2.1.2), .int .i64 x2.2.2], .eq (.one (.bool (x2.1 == n))) (.one (.bool (eqb x2.1 n)))]) tt_ok [(2, .row [.int .i64 x2.1, .slc 2 (eL x2.2.1.1.1), .slc 5 (eL x2.2.1.1.2.1), .int .i64 x2.2.1.1.2.2, .slc 2 (eL x2.2.1.2), .int .i64 x2.2.2]), (6, .val (.one (.bool (eqb x2.1 n))))] [0, 1, 4, 5, 18] [] (by kernel_rfl) (obc (ob_elem (⟨by omega, eL_get (by simpa using hx3)⟩)) (ob1 (ob_eq (congrArg (fun b => AV.one (C.bool b)) (eql_int x2.1 n))))) ?_
    refine awp_cond (b := eqb x2.1 n) rfl (fun h4 => ?_) (fun h4 => ?_)
    · -- eqb x2.1 n is True
      refine awp_seq ?_
      refine awp_regionK (s' := ⟨[(0, .one (.slc .sh 6 (eL a))), (1, .one (.int .i64 n)), (4, .one (.int .i64 ((k : Nat) : Int))), (5, .one (.int .i64 ((k : Nat) : Int)))], []⟩) (obs := []) tt_ok [] [0, 1, 4, 5] [] (by kernel_rfl) (trivial) ?_
      refine awp_ret ?_
      refine post_ret [] (b := .one (.int .i64 ((k : Nat) : Int))) (by kernel_rfl) ?_
      exact congrArg (fun b => AV.one (C.int .i64 b)) (idx_hit hinv hx3 h4).symm
    · -- eqb x2.1 n is False
      refine awp_skip ?_
      refine awp_regionK (s' := ⟨[(0, .one (.slc .sh 6 (eL a))), (1, .one (.int .i64 n)), (4, .one (.int .i64 0)), (5, .one (.int .i64 (((k : Nat) : Int) + 1)))], []⟩) (obs := [.eq (.one (.int .i64 (IntKind.i64.wrap (((k : Nat) : Int) + 1)))) (.one (.int .i64 (((k : Nat) : Int) + 1)))]) tt_ok [(1, .val (.one (.int .i64 (((k : Nat) : Int) + 1))))] [0, 1, 4, 5] [] (by kernel_rfl) (ob1 (ob_eq (congrArg (fun n => AV.one (.int .i64 n)) (IntWalk.i64_in _ (by omega))))) ?_
      exact ⟨weak_to [] [0, 1, 4, 5] [] (by kernel_rfl), noP_step hinv hx3 h4⟩
  · -- exit
    refine awp_seq ?_
    refine awp_seq ?_
    have hl5 : List.length a ≤ 1048576 := sz_len (sa)
    refine awp_regionK (s' := ⟨[(0, .one (.slc .sh 6 (eL a))), (1, .one (.int .i64 n)), (4, .one (.int .i64 0)), (5, .one (.int .i64 ((a.length : Nat) : Int))), (9, .one (.bool false))], []⟩) (obs := [.eq (.one (.int .i64 (((eL a) : List (List PV)).length : Int))) (.one (.int .i64 (a.length : Int))), .eq (.one (.bool (decide (((a.length : Nat) : Int) < (a.length : Int))))) (.one (.bool false))]) tt_ok [(2, .val (.one (.int .i64 (a.length : Int)))), (3, .val (.one (.bool false)))] [0, 1, 4, 5, 9] [] (by kernel_rfl) (obc (ob_eq (by simp [eL_length])) (ob1 (ob_eq (congrArg (fun b => AV.one (C.bool b)) (decide_eq_false (by omega)))))) ?_
    refine awp_cond (b := false) rfl (fun h => by cases h) (fun _ => ?_)
    refine awp_exit ?_
    refine awp_seq ?_
    refine awp_regionK (s' := ⟨[(4, .one (.int .i64 (-1)))], []⟩) (obs := []) tt_ok [] [4] [] (by kernel_rfl) (trivial) ?_
    refine awp_ret ?_
    refine post_ret [] (b := .one (.int .i64 (-1))) (by kernel_rfl) ?_
    exact congrArg (fun b => AV.one (C.int .i64 b)) (idx_none hinv).symm
theorem versionAt1_a (x : VersionD) (n : Int) (sx : GoD.size x ≤ 1048576)  : ACalls Try.prog 111 [.agg [.int .i64 x.1, .slc .sh 2 (eL x.2.1.1.1), .slc .sh 5 (eL x.2.1.1.2.1), .int .i64 x.2.1.1.2.2, .slc .sh 2 (eL x.2.1.2), .int .i64 x.2.2], .one (.rptr .sh [.int .i64 n])] (.one (.bool (eqb x.1 n))) := by
  refine acalls_of (tt := tt) tt_ok Try.func111 (fn := Try.f111) rfl (by unfold FnOk; kernel_rfl) (Nat.le_of_ble_eq_true rfl) fun w0 F0 => ?_
  refine awp_seq ?_
  refine awp_regionK (s' := ⟨[(1, .one (.rptr .sh [.int .i64 n])), (2, .one (.ptr 2 0)), (3, .one (.bool false))], [(2, [.int .i64 x.1, .slc .sh 2 (eL x.2.1.1.1), .slc .sh 5 (eL x.2.1.1.2.1), .int .i64 x.2.1.1.2.2, .slc .sh 2 (eL x.2.1.2), .int .i64 x.2.2])]⟩) (obs := []) tt_ok [] [1, 2, 3] [2] (by kernel_rfl) (trivial) ?_
  refine awp_seq ?_
  refine awp_regionK (s' := ⟨[(3, .one (.bool (eqb x.1 n)))], []⟩) (obs := [.eq (.one (.bool (x.1 == n))) (.one (.bool (eqb x.1 n)))]) tt_ok [(3, .val (.one (.bool (eqb x.1 n))))] [3] [] (by kernel_rfl) (ob1 (ob_eq (congrArg (fun b => AV.one (C.bool b)) (eql_int x.1 n)))) ?_
  refine awp_ret ?_
  refine post_ret [] (b := .one (.bool (eqb x.1 n))) (by kernel_rfl) ?_
  rfl
theorem indexVersion_a (a : (List VersionD)) (n : Int) (sa : GoD.size a ≤ 1048576)  : ACalls Try.prog 110 [.one (.slc .sh 6 (eL a)), .one (.fnr 111 [[.int .i64 n]])] (.one (.int .i64 (fvAt a n))) := by
  refine acalls_of (tt := tt) tt_ok Try.func110 (fn := Try.f110) rfl (by unfold FnOk; kernel_rfl) (Nat.le_of_ble_eq_true rfl) fun w0 F0 => ?_
  refine awp_seq ?_
  refine awp_regionK (s' := ⟨[(0, .one (.slc .sh 6 (eL a))), (1, .one (.fnr 111 [[.int .i64 n]])), (4, .one (.int .i64 0))], []⟩) (obs := []) tt_ok [] [0, 1, 4] [] (by kernel_rfl) (trivial) ?_
  refine awp_seq ?_
  refine awp_seq ?_
  have hl1 : List.length a ≤ 1048576 := sz_len (sa)
  refine awp_regionK (s' := ⟨[(0, .one (.slc .sh 6 (eL a))), (1, .one (.fnr 111 [[.int .i64 n]])), (4, .one (.int .i64 0)), (7, .one (.int .i64 (a.length : Int))), (8, .one (.int .i64 0))], []⟩) (obs := [.eq (.one (.int .i64 (((eL a) : List (List PV)).length : Int))) (.one (.int .i64 (a.length : Int)))]) tt_ok [(1, .val (.one (.int .i64 (a.length : Int))))] [0, 1, 4, 7, 8] [] (by kernel_rfl) (ob1 (ob_eq (by simp [eL_length]))) ?_
  refine awp_block ?_
  refine awp_forI (a.length) (fun k : Nat => (⟨[(0, .one (.slc .sh 6 (eL a))), (1, .one (.fnr 111 [[.int .i64 n]])), (4, .one (.int .i64 0)), (7, .one (.int .i64 (a.length : Int))), (8, .one (.int .i64 ((k : Nat) : Int)))], []⟩ : St)) (fun k : Nat => NoP (isV n) a k) (weak_to [] [0, 1, 4, 7, 8] [] (by kernel_rfl)) (noP_zero) (fun k hk hinv => ?_) (fun hinv => ?_)
  · -- round
    refine awp_seq ?_
    refine awp_regionK (s' := ⟨[(0, .one (.slc .sh 6 (eL a))), (1, .one (.fnr 111 [[.int .i64 n]])), (4, .one (.int .i64 0)), (7, .one (.int .i64 (a.length : Int))), (8, .one (.int .i64 ((k : Nat) : Int))), (9, .one (.bool true))], []⟩) (obs := [.eq (.one (.bool (decide (((k : Nat) : Int) < (a.length : Int))))) (.one (.bool true))]) tt_ok [(0, .val (.one (.bool true)))] [0, 1, 4, 7, 8, 9] [] (by kernel_rfl) (ob1 (ob_eq (congrArg (fun b => AV.one (C.bool b)) (decide_eq_true (by omega))))) ?_
    refine awp_seq ?_
    refine awp_cond (b := true) rfl (fun _ => ?_) (fun h => by cases h)
    refine awp_skip ?_
    refine awp_seq ?_
    refine awp_block ?_
    refine awp_seq ?_
    refine awp_regionK (s' := ⟨[(0, .one (.slc .sh 6 (eL a))), (1, .one (.fnr 111 [[.int .i64 n]])), (4, .one (.int .i64 0)), (5, .one (.int .i64 ((k : Nat) : Int))), (7, .one (.int .i64 (a.length : Int))), (8, .one (.int .i64 ((k : Nat) : Int)))], []⟩) (obs := []) tt_ok [] [0, 1, 4, 5, 7, 8] [] (by kernel_rfl) (trivial) ?_
    refine awp_seq ?_
    obtain ⟨x2, hx3⟩ := get_some (l := a) (i := k) (by omega)
    refine awp_regionK (s' := ⟨[(0, .one (.slc .sh 6 (eL a))), (1, .one (.fnr 111 [[.int .i64 n]])), (4, .one (.int .i64 0)), (5, .one (.int .i64 ((k : Nat) : Int))), (7, .one (.int .i64 (a.length : Int))), (8, .one (.int .i64 ((k : Nat) : Int))), (16, .one (.bool (eqb x2.1 n)))], []⟩) (obs := [.elem (eL a) ((k : Nat) : Int) [.int .i64 x2.1, .slc 2 (eL x2.2.1.1.1), .slc 5 (eL x2.2.1.1.2.1), .int .i64 x2.2.1.1.2.2, .slc 2 (eL x2.2.1.2), .int .i64 x2.2.2], .call 111 [.agg [.int .i64 x2.1, .slc .sh 2 (eL x2.2.1.1.1), .slc .sh 5 (eL x2.2.1.1.2.1), .int .i64 x2.2.1.1.2.2, .slc .sh 2 (eL x2.2.1.2), .int .i64 x2.2.2], .one (.rptr .sh [.int .i64 n])] (.one (.bool (eqb x2.1 n)))]) tt_ok [(3, .row [.int .i64 x2.1, .slc 2 (eL x2.2.1.1.1), .slc 5 (eL x2.2.1.1.2.1), .int .i64 x2.2.1.1.2.2, .slc 2 (eL x2.2.1.2), .int .i64 x2.2.2]), (5, .val (.one (.bool (eqb x2.1 n))))] [0, 1, 4, 5, 7, 8, 16] [] (by kernel_rfl) (obc (ob_elem (⟨by omega, eL_get (by simpa using hx3)⟩)) (ob1 (ob_call (versionAt1_a x2 n (sz_get hx3 (sa)))))) ?_
    refine awp_cond (b := eqb x2.1 n) rfl (fun h4 => ?_) (fun h4 => ?_)
    · -- eqb x2.1 n is True
      refine awp_seq ?_
      refine awp_regionK (s' := ⟨[(0, .one (.slc .sh 6 (eL a))), (1, .one (.fnr 111 [[.int .i64 n]])), (4, .one (.int .i64 ((k : Nat) : Int))), (7, .one (.int .i64 (a.length : Int))), (8, .one (.int .i64 ((k : Nat) : Int)))], []⟩) (obs := []) tt_ok [] [0, 1, 4, 7, 8] [] (by kernel_rfl) (trivial) ?_
      refine awp_ret ?_
      refine post_ret [] (b := .one (.int .i64 ((k : Nat) : Int))) (by kernel_rfl) ?_
      exact congrArg (fun b => AV.one (C.int .i64 b)) (idx_hit hinv hx3 h4).symm
    · -- eqb x2.1 n is False
      refine awp_skip ?_
      refine awp_regionK (s' := ⟨[(0, .one (.slc .sh 6 (eL a))), (1, .one (.fnr 111 [[.int .i64 n]])), (4, .one (.int .i64 0)), (7, .one (.int .i64 (a.length : Int))), (8, .one (.int .i64 (((k : Nat) : Int) + 1)))], []⟩) (obs := [.eq (.one (.int .i64 (IntKind.i64.wrap (((k : Nat) : Int) + 1)))) (.one (.int .i64 (((k : Nat) : Int) + 1)))]) tt_ok [(0, .val (.one (.int .i64 (((k : Nat) : Int) + 1))))] [0, 1, 4, 7, 8] [] (by kernel_rfl) (ob1 (ob_eq (congrArg (fun n => AV.one (.int .i64 n)) (IntWalk.i64_in _ (by omega))))) ?_
      exact ⟨weak_to [] [0, 1, 4, 7, 8] [] (by kernel_rfl), noP_step hinv hx3 h4⟩
  · -- exit
    refine awp_seq ?_
    refine awp_regionK (s' := ⟨[(0, .one (.slc .sh 6 (eL a))), (1, .one (.fnr 111 [[.int .i64 n]])), (4, .one (.int .i64 0)), (7, .one (.int .i64 (a.length : Int))), (8, .one (.int .i64 ((a.length : Nat) : Int))), (9, .one (.bool false))], []⟩) (obs := [.eq (.one (.bool (decide (((a.length : Nat) : Int) < (a.length : Int))))) (.one (.bool false))]) tt_ok [(0, .val (.one (.bool false)))] [0, 1, 4, 7, 8, 9] [] (by kernel_rfl) (ob1 (ob_eq (congrArg (fun b => AV.one (C.bool b)) (decide_eq_false (by omega))))) ?_
    refine awp_seq ?_
    refine awp_cond (b := false) rfl (fun h => by cases h) (fun _ => ?_)
    refine awp_exit ?_
    refine awp_seq ?_
    refine awp_regionK (s' := ⟨[(4, .one (.int .i64 (-1)))], []⟩) (obs := []) tt_ok [] [4] [] (by kernel_rfl) (trivial) ?_
    refine awp_ret ?_
    refine post_ret [] (b := .one (.int .i64 (-1))) (by kernel_rfl) ?_
    exact congrArg (fun b => AV.one (C.int .i64 b)) (idx_none hinv).symm
theorem versionAt_a (a : (List VersionD)) (n : Int) (sa : GoD.size a ≤ 1048576)  : ACalls Try.prog 66 [.one (.slc .sh 6 (eL a)), .one (.int .i64 n)] (.one (.int .i64 (fvAt a n))) := by
  refine acalls_of (tt := tt) tt_ok Try.func66 (fn := Try.f66) rfl (by unfold FnOk; kernel_rfl) (Nat.le_of_ble_eq_true rfl) fun w0 F0 => ?_
  refine awp_seq ?_
  refine awp_regionK (s' := ⟨[(0, .one (.slc .sh 6 (eL a))), (3, .one (.ptr 3 0)), (4, .one (.int .i64 0))], [(3, [.int .i64 n])]⟩) (obs := []) tt_ok [] [0, 3, 4] [3] (by kernel_rfl) (trivial) ?_
  refine awp_seq ?_
  refine awp_regionK (s' := ⟨[(4, .one (.int .i64 (fvAt a n)))], []⟩) (obs := [.call 110 [.one (.slc .sh 6 (eL a)), .one (.fnr 111 [[.int .i64 n]])] (.one (.int .i64 (fvAt a n)))]) tt_ok [(2, .val (.one (.int .i64 (fvAt a n))))] [4] [] (by kernel_rfl) (ob1 (ob_call (indexVersion_a a n (sa)))) ?_
  refine awp_ret ?_
  refine post_ret [] (b := .one (.int .i64 (fvAt a n))) (by kernel_rfl) ?_
  rfl
theorem specFindVersion_a (a : (List VersionD)) (n : Int) (sa : GoD.size a ≤ 1048576)  : ACalls Try.prog 30 [.one (.slc .sh 6 (eL a)), .one (.int .i64 n)] (.tup [(true, [.slc (.own true 0) 2 (eL (((fv a n).1).1.1)), .slc (.own true 1) 5 (eL (((fv a n).1).1.2.1)), .int .i64 (((fv a n).1).1.2.2), .slc (.own true 2) 2 (eL (((fv a n).1).2))]), (false, [.bool ((fv a n).2)])]) := by
  refine acalls_of (tt := tt) tt_ok Try.func30 (fn := Try.f30) rfl (by unfold FnOk; kernel_rfl) (Nat.le_of_ble_eq_true rfl) fun w0 F0 => ?_
  have hfv := fvAt_lt a n
  refine awp_seq ?_
  refine awp_regionK (s' := ⟨[(0, .one (.slc .sh 6 (eL a))), (1, .one (.int .i64 n)), (4, .one (.ptr 4 0)), (5, .one (.bool false))], [(4, [.slc .emp 0 [], .slc .emp 0 [], .int .i64 0, .slc .emp 0 []])]⟩) (obs := []) tt_ok [] [0, 1, 4, 5] [4] (by kernel_rfl) (trivial) ?_
  refine awp_seq ?_
  refine awp_regionK (s' := ⟨[(0, .one (.slc .sh 6 (eL a))), (4, .one (.ptr 4 0)), (5, .one (.bool false)), (6, .one (.int .i64 (fvAt a n)))], [(4, [.slc .emp 0 [], .slc .emp 0 [], .int .i64 0, .slc .emp 0 []])]⟩) (obs := [.call 64 [.one (.slc .sh 6 (eL a)), .one (.int .i64 n)] (.one (.int .i64 (fvAt a n)))]) tt_ok [(2, .val (.one (.int .i64 (fvAt a n))))] [0, 4, 5, 6] [4] (by kernel_rfl) (ob1 (ob_call (l28Place_a a n (sa)))) ?_
  refine awp_seq ?_
  refine awp_seq ?_
  refine awp_regionK (s' := ⟨[(0, .one (.slc .sh 6 (eL a))), (4, .one (.ptr 4 0)), (5, .one (.bool false)), (6, .one (.int .i64 (fvAt a n))), (11, .one (.bool (decide (fvAt a n < (0 : Int)))))], [(4, [.slc .emp 0 [], .slc .emp 0 [], .int .i64 0, .slc .emp 0 []])]⟩) (obs := []) tt_ok [] [0, 4, 5, 6, 11] [4] (by kernel_rfl) (trivial) ?_
  refine awp_cond (b := decide (fvAt a n < (0 : Int))) rfl (fun h1 => ?_) (fun h1 => ?_)
  · -- decide (fvAt a n < (0 : Int)) is True
    have h1d := of_decide_eq_true h1
    refine awp_seq ?_
    refine awp_regionK (s' := ⟨[(0, .one (.slc .sh 6 (eL a))), (4, .one (.ptr 4 0)), (5, .one (.bool false)), (6, .one (.int .i64 (fvAt a n)))], [(4, [.slc .emp 0 [], .slc .emp 0 [], .int .i64 0, .slc .emp 0 []])]⟩) (obs := []) tt_ok [] [0, 4, 5, 6] [4] (by kernel_rfl) (trivial) ?_
    refine awp_opens [(true, 4, 0, true, 10, 2), (true, 4, 1, true, 11, 5), (true, 4, 3, true, 12, 2)] (s' := ⟨[(0, .one (.slc .sh 6 (eL a))), (4, .one (.ptr 4 0)), (5, .one (.bool false)), (6, .one (.int .i64 (fvAt a n)))], [(4, [.slc (.own true 10) 2 [], .slc (.own true 11) 5 [], .int .i64 0, .slc (.own true 12) 2 []])]⟩) (by kernel_rfl) ?_
    refine awp_ret ?_
    refine post_ret [] (b := .tup [(true, [.slc (.own true 0) 2 [], .slc (.own true 1) 5 [], .int .i64 0, .slc (.own true 2) 2 []]), (false, [.bool false])]) (by kernel_rfl) ?_
    rw [fv_no (by omega)]; rfl
  · -- decide (fvAt a n < (0 : Int)) is False
    have h1d := of_decide_eq_false h1
    refine awp_skip ?_
    refine awp_seq ?_
    have hl2 : List.length a ≤ 1048576 := sz_len (sa)
    obtain ⟨x3, hx4⟩ := get_some (l := a) (i := Int.toNat (fvAt a n)) (by omega)
    refine awp_regionK (s' := ⟨[(4, .one (.ptr 4 0)), (5, .one (.bool true))], [(4, [.slc (.own true 1152) 2 (eL x3.2.1.1.1), .slc (.own true 1153) 5 (eL x3.2.1.1.2.1), .int .i64 x3.2.1.1.2.2, .slc (.own true 1154) 2 (eL x3.2.1.2)])]⟩) (obs := [.elem (eL a) (fvAt a n) [.int .i64 x3.1, .slc 2 (eL x3.2.1.1.1), .slc 5 (eL x3.2.1.1.2.1), .int .i64 x3.2.1.1.2.2, .slc 2 (eL x3.2.1.2), .int .i64 x3.2.2], .call 65 [.agg [.slc .sh 2 (eL x3.2.1.1.1), .slc .sh 5 (eL x3.2.1.1.2.1), .int .i64 x3.2.1.1.2.2, .slc .sh 2 (eL x3.2.1.2)]] (.agg [.slc (.own true 0) 2 (eL x3.2.1.1.1), .slc (.own true 1) 5 (eL x3.2.1.1.2.1), .int .i64 x3.2.1.1.2.2, .slc (.own true 2) 2 (eL x3.2.1.2)])]) tt_ok [(2, .row [.int .i64 x3.1, .slc 2 (eL x3.2.1.1.1), .slc 5 (eL x3.2.1.1.2.1), .int .i64 x3.2.1.1.2.2, .slc 2 (eL x3.2.1.2), .int .i64 x3.2.2]), (5, .val (.agg [.slc (.own true 0) 2 (eL x3.2.1.1.1), .slc (.own true 1) 5 (eL x3.2.1.1.2.1), .int .i64 x3.2.1.1.2.2, .slc (.own true 2) 2 (eL x3.2.1.2)]))] [4, 5] [4] (by kernel_rfl) (obc (ob_elem (⟨by omega, eL_get (by simpa using hx4)⟩)) (ob1 (ob_call (l28State_a x3.2.1 (sz_fst (sz_snd (sz_get hx4 (sa)))))))) ?_
    refine awp_ret ?_
    refine post_ret [] (b := .tup [(true, [.slc (.own true 0) 2 (eL x3.2.1.1.1), .slc (.own true 1) 5 (eL x3.2.1.1.2.1), .int .i64 x3.2.1.1.2.2, .slc (.own true 2) 2 (eL x3.2.1.2)]), (false, [.bool true])]) (by kernel_rfl) ?_
    rw [fv_yes (by omega) hx4]
theorem implFindVersion_a (a : (List VersionD)) (n : Int) (sa : GoD.size a ≤ 1048576)  : ACalls Try.prog 31 [.one (.slc .sh 6 (eL a)), .one (.int .i64 n)] (.tup [(true, [.slc (.own true 0) 2 (eL (((fv a n).1).1.1)), .slc (.own true 1) 5 (eL (((fv a n).1).1.2.1)), .int .i64 (((fv a n).1).1.2.2), .slc (.own true 2) 2 (eL (((fv a n).1).2))]), (false, [.bool ((fv a n).2)])]) := by
  refine acalls_of (tt := tt) tt_ok Try.func31 (fn := Try.f31) rfl (by unfold FnOk; kernel_rfl) (Nat.le_of_ble_eq_true rfl) fun w0 F0 => ?_
  have hfv := fvAt_lt a n
  refine awp_seq ?_
  refine awp_regionK (s' := ⟨[(0, .one (.slc .sh 6 (eL a))), (1, .one (.int .i64 n)), (4, .one (.ptr 4 0)), (5, .one (.bool false))], [(4, [.slc .emp 0 [], .slc .emp 0 [], .int .i64 0, .slc .emp 0 []])]⟩) (obs := []) tt_ok [] [0, 1, 4, 5] [4] (by kernel_rfl) (trivial) ?_
  refine awp_seq ?_
  refine awp_seq ?_
  refine awp_regionK (s' := ⟨[(0, .one (.slc .sh 6 (eL a))), (4, .one (.ptr 4 0)), (5, .one (.bool false)), (6, .one (.int .i64 (fvAt a n)))], [(4, [.slc .emp 0 [], .slc .emp 0 [], .int .i64 0, .slc .emp 0 []])]⟩) (obs := [.call 66 [.one (.slc .sh 6 (eL a)), .one (.int .i64 n)] (.one (.int .i64 (fvAt a n)))]) tt_ok [(2, .val (.one (.int .i64 (fvAt a n))))] [0, 4, 5, 6] [4] (by kernel_rfl) (ob1 (ob_call (versionAt_a a n (sa)))) ?_
  refine awp_seq ?_
  refine awp_regionK (s' := ⟨[(0, .one (.slc .sh 6 (eL a))), (4, .one (.ptr 4 0)), (5, .one (.bool false)), (6, .one (.int .i64 (fvAt a n))), (11, .one (.bool (decide (fvAt a n ≥ (0 : Int)))))], [(4, [.slc .emp 0 [], .slc .emp 0 [], .int .i64 0, .slc .emp 0 []])]⟩) (obs := []) tt_ok [] [0, 4, 5, 6, 11] [4] (by kernel_rfl) (trivial) ?_
  refine awp_cond (b := decide (fvAt a n ≥ (0 : Int))) rfl (fun h1 => ?_) (fun h1 => ?_)
  · -- decide (fvAt a n ≥ (0 : Int)) is True
    have h1d := of_decide_eq_true h1
    refine awp_seq ?_
    have hl2 : List.length a ≤ 1048576 := sz_len (sa)
    obtain ⟨x3, hx4⟩ := get_some (l := a) (i := Int.toNat (fvAt a n)) (by omega)
    refine awp_regionK (s' := ⟨[(4, .one (.ptr 4 0)), (5, .one (.bool true))], [(4, [.slc (.own true 1088) 2 (eL x3.2.1.1.1), .slc (.own true 1089) 5 (eL x3.2.1.1.2.1), .int .i64 x3.2.1.1.2.2, .slc (.own true 1090) 2 (eL x3.2.1.2)])]⟩) (obs := [.elem (eL a) (fvAt a n) [.int .i64 x3.1, .slc 2 (eL x3.2.1.1.1), .slc 5 (eL x3.2.1.1.2.1), .int .i64 x3.2.1.1.2.2, .slc 2 (eL x3.2.1.2), .int .i64 x3.2.2], .call 67 [.agg [.slc .sh 2 (eL x3.2.1.1.1), .slc .sh 5 (eL x3.2.1.1.2.1), .int .i64 x3.2.1.1.2.2, .slc .sh 2 (eL x3.2.1.2)]] (.agg [.slc (.own true 0) 2 (eL x3.2.1.1.1), .slc (.own true 1) 5 (eL x3.2.1.1.2.1), .int .i64 x3.2.1.1.2.2, .slc (.own true 2) 2 (eL x3.2.1.2)])]) tt_ok [(2, .row [.int .i64 x3.1, .slc 2 (eL x3.2.1.1.1), .slc 5 (eL x3.2.1.1.2.1), .int .i64 x3.2.1.1.2.2, .slc 2 (eL x3.2.1.2), .int .i64 x3.2.2]), (5, .val (.agg [.slc (.own true 0) 2 (eL x3.2.1.1.1), .slc (.own true 1) 5 (eL x3.2.1.1.2.1), .int .i64 x3.2.1.1.2.2, .slc (.own true 2) 2 (eL x3.2.1.2)]))] [4, 5] [4] (by kernel_rfl) (obc (ob_elem (⟨by omega, eL_get (by simpa using hx4)⟩)) (ob1 (ob_call (copySnapshot_a x3.2.1 (sz_fst (sz_snd (sz_get hx4 (sa)))))))) ?_
    refine awp_ret ?_
    refine post_ret [] (b := .tup [(true, [.slc (.own true 0) 2 (eL x3.2.1.1.1), .slc (.own true 1) 5 (eL x3.2.1.1.2.1), .int .i64 x3.2.1.1.2.2, .slc (.own true 2) 2 (eL x3.2.1.2)]), (false, [.bool true])]) (by kernel_rfl) ?_
    rw [fv_yes (by omega) hx4]
  · -- decide (fvAt a n ≥ (0 : Int)) is False
    have h1d := of_decide_eq_false h1
    refine awp_skip ?_
    refine awp_seq ?_
    refine awp_regionK (s' := ⟨[(4, .one (.ptr 4 0)), (5, .one (.bool false))], [(4, [.slc .emp 0 [], .slc .emp 0 [], .int .i64 0, .slc .emp 0 []])]⟩) (obs := []) tt_ok [] [4, 5] [4] (by kernel_rfl) (trivial) ?_
    refine awp_opens [(true, 4, 0, true, 10, 2), (true, 4, 1, true, 11, 5), (true, 4, 3, true, 12, 2)] (s' := ⟨[(4, .one (.ptr 4 0)), (5, .one (.bool false))], [(4, [.slc (.own true 10) 2 [], .slc (.own true 11) 5 [], .int .i64 0, .slc (.own true 12) 2 []])]⟩) (by kernel_rfl) ?_
    refine awp_ret ?_
    refine post_ret [] (b := .tup [(true, [.slc (.own true 0) 2 [], .slc (.own true 1) 5 [], .int .i64 0, .slc (.own true 2) 2 []]), (false, [.bool false])]) (by kernel_rfl) ?_
    rw [fv_no (by omega)]; rfl
end Go.Proofs.Ytdhagfpgijcfbaa
