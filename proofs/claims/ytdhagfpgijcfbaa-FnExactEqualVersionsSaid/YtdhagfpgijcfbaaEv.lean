/- Contracts of functions, by the abstract machine (printed by am.py): what each makes of its arguments, for arguments of the size that the laws bound. -/
import Derived.Test.YtdhagfpgijcfbaaEq
import Derived.Test.YtdhagfpgijcfbaaDx
import Derived.KernelRfl
namespace Go.Proofs.Ytdhagfpgijcfbaa
open Go.RowKit
def tt : List (Nat × TI) := [(3, ⟨.int .i64, 1, [.int .i64 0], []⟩),
  (4, ⟨.bool, 1, [.bool false], []⟩),
  (9, ⟨.str, 1, [.str ⟨#[]⟩], []⟩),
  (25, ⟨.sli 74, 1, [.slc .emp 0 []], []⟩),
  (48, ⟨.sli 143, 1, [.slc .emp 0 []], []⟩),
  (49, ⟨.sli 119, 1, [.slc .emp 0 []], []⟩),
  (51, ⟨.struct [(0, 1, false), (1, 1, false), (2, 1, false)], 3, [.slc .emp 0 [], .slc .emp 0 [], .int .i64 0], []⟩),
  (58, ⟨.sli 122, 1, [.slc .emp 0 []], []⟩),
  (60, ⟨.struct [(0, 3, true), (3, 1, false)], 4, [.slc .emp 0 [], .slc .emp 0 [], .int .i64 0, .slc .emp 0 []], []⟩),
  (74, ⟨.struct [(0, 1, false), (1, 4, true), (5, 1, false)], 6, [.int .i64 0, .slc .emp 0 [], .slc .emp 0 [], .int .i64 0, .slc .emp 0 [], .int .i64 0], []⟩),
  (117, ⟨.sli 172, 1, [.slc .emp 0 []], []⟩),
  (119, ⟨.struct [(0, 1, false), (1, 1, false), (2, 1, false), (3, 1, false), (4, 1, false)], 5, [.int .i64 0, .int .i64 0, .bool false, .int .i64 0, .slc .emp 0 []], []⟩),
  (120, ⟨.sli 174, 1, [.slc .emp 0 []], []⟩),
  (122, ⟨.struct [(0, 1, false), (1, 1, false)], 2, [.str ⟨#[]⟩, .slc .emp 0 []], []⟩),
  (143, ⟨.struct [(0, 1, false), (1, 1, false)], 2, [.str ⟨#[]⟩, .int .i64 0], [.str, .int]⟩),
  (172, ⟨.struct [(0, 1, false), (1, 3, true)], 4, [.str ⟨#[]⟩, .int .i64 0, .int .i64 0, .str ⟨#[]⟩], [.str, .int, .int, .str]⟩),
  (174, ⟨.struct [(0, 1, false), (1, 1, false), (2, 1, false), (3, 1, false), (4, 3, true)], 7, [.int .i64 0, .int .i64 0, .int .i64 0, .str ⟨#[]⟩, .int .i64 0, .int .i64 0, .str ⟨#[]⟩], [.int, .int, .int, .str, .int, .int, .str]⟩)]

theorem tt_ok : ttOk Try.prog tt = true := by kernel_rfl
theorem tt_mx : Try.prog.follows .mixedOrders = true := by kernel_rfl
theorem eqb_prod' {α β : Type} [GoD α] [GoD β] (p q : α × β) : eqb p q = (eqb p.1 q.1 && eqb p.2 q.2) := by obtain ⟨a, b⟩ := p; obtain ⟨c, d⟩ := q; exact eqb_prod a c b d
theorem eql_int (a b : Int) : (a == b) = eqb a b := (eqb_int a b).symm
theorem neq_int (a b : Int) : (a != b) = !(eqb a b) := by rw [eqb_int]; rfl
theorem eql_bool (a b : Bool) : (a == b) = eqb a b := (eqb_bool a b).symm
theorem neq_bool (a b : Bool) : (!(a == b)) = !(eqb a b) := by rw [eqb_bool]
theorem eql_str (a b : ByteArray) : (a.toList == b.toList) = eqb a b := eqb_str a b
theorem neq_str (a b : ByteArray) : (!(a.toList == b.toList)) = !(eqb a b) := by rw [eqb_str]
theorem bnot_t {b : Bool} (h : (!b) = true) : b = false := by cases b <;> simp_all
theorem bnot_f {b : Bool} (h : (!b) = false) : b = true := by cases b <;> simp_all
theorem specEqualFiles_a (a : FileD) (b : FileD) (sa : GoD.size a ≤ 1048576) (sb : GoD.size b ≤ 1048576)  : ACalls Try.prog 119 [.agg [.int .i64 a.1, .int .i64 a.2.1, .bool a.2.2.1, .int .i64 a.2.2.2.1, .slc .sh 4 (eL a.2.2.2.2)], .agg [.int .i64 b.1, .int .i64 b.2.1, .bool b.2.2.1, .int .i64 b.2.2.2.1, .slc .sh 4 (eL b.2.2.2.2)]] (.one (.bool (eqb a b))) := by
  refine acalls_of (tt := tt) tt_ok Try.func119 (fn := Try.f119) rfl (by unfold FnOk; kernel_rfl) (Nat.le_of_ble_eq_true rfl) fun w0 F0 => ?_
  refine awp_seq ?_
  refine awp_regionK (s' := ⟨[(2, .one (.ptr 2 0)), (3, .one (.ptr 3 0)), (4, .one (.bool false))], [(2, [.int .i64 a.1, .int .i64 a.2.1, .bool a.2.2.1, .int .i64 a.2.2.2.1, .slc .sh 4 (eL a.2.2.2.2)]), (3, [.int .i64 b.1, .int .i64 b.2.1, .bool b.2.2.1, .int .i64 b.2.2.2.1, .slc .sh 4 (eL b.2.2.2.2)])]⟩) (obs := []) tt_ok [] [2, 3, 4] [2, 3] (by kernel_rfl) (trivial) ?_
  refine awp_seq ?_
  refine awp_seq ?_
  rcases Bool.eq_false_or_eq_true (!(eqb a.1 b.1)) with h1 | h1
  · -- (!(eqb a.1 b.1)) is True
    have h1n : (eqb a.1 b.1) = false := bnot_t h1
    refine awp_regionK (s' := ⟨[(2, .one (.ptr 2 0)), (3, .one (.ptr 3 0)), (4, .one (.bool false)), (40, .one (.bool true))], [(2, [.int .i64 a.1, .int .i64 a.2.1, .bool a.2.2.1, .int .i64 a.2.2.2.1, .slc .sh 4 (eL a.2.2.2.2)]), (3, [.int .i64 b.1, .int .i64 b.2.1, .bool b.2.2.1, .int .i64 b.2.2.2.1, .slc .sh 4 (eL b.2.2.2.2)])]⟩) (obs := [.eq (.one (.bool (a.1 != b.1))) (.one (.bool true))]) tt_ok [(4, .val (.one (.bool true)))] [2, 3, 4, 40] [2, 3] (by kernel_rfl) (ob1 (ob_eq ((congrArg (fun b => AV.one (C.bool b)) (neq_int a.1 b.1)).trans (congrArg (fun b => AV.one (C.bool b)) h1)))) ?_
    refine awp_cond (b := true) rfl (fun _ => ?_) (fun h => by cases h)
    refine awp_seq ?_
    refine awp_regionK (s' := ⟨[(2, .one (.ptr 2 0)), (3, .one (.ptr 3 0)), (4, .one (.bool false))], [(2, [.int .i64 a.1, .int .i64 a.2.1, .bool a.2.2.1, .int .i64 a.2.2.2.1, .slc .sh 4 (eL a.2.2.2.2)]), (3, [.int .i64 b.1, .int .i64 b.2.1, .bool b.2.2.1, .int .i64 b.2.2.2.1, .slc .sh 4 (eL b.2.2.2.2)])]⟩) (obs := []) tt_ok [] [2, 3, 4] [2, 3] (by kernel_rfl) (trivial) ?_
    refine awp_ret ?_
    refine post_ret [] (b := .one (.bool false)) (by kernel_rfl) ?_
    exact congrArg (fun b => AV.one (C.bool b)) (show false = eqb a b from by rw [eqb_prod' a b, eqb_prod' a.2 b.2, eqb_prod' a.2.2 b.2.2, eqb_prod' a.2.2.2 b.2.2.2, h1n]; first | done | rfl | exact (Bool.and_true _).symm | simp)
  · -- (!(eqb a.1 b.1)) is False
    have h1n : (eqb a.1 b.1) = true := bnot_f h1
    rcases Bool.eq_false_or_eq_true (!(eqb a.2.1 b.2.1)) with h2 | h2
    · -- (!(eqb a.2.1 b.2.1)) is True
      have h2n : (eqb a.2.1 b.2.1) = false := bnot_t h2
      refine awp_regionK (s' := ⟨[(2, .one (.ptr 2 0)), (3, .one (.ptr 3 0)), (4, .one (.bool false)), (40, .one (.bool true))], [(2, [.int .i64 a.1, .int .i64 a.2.1, .bool a.2.2.1, .int .i64 a.2.2.2.1, .slc .sh 4 (eL a.2.2.2.2)]), (3, [.int .i64 b.1, .int .i64 b.2.1, .bool b.2.2.1, .int .i64 b.2.2.2.1, .slc .sh 4 (eL b.2.2.2.2)])]⟩) (obs := [.eq (.one (.bool (a.1 != b.1))) (.one (.bool false)), .eq (.one (.bool (a.2.1 != b.2.1))) (.one (.bool true))]) tt_ok [(4, .val (.one (.bool false))), (10, .val (.one (.bool true)))] [2, 3, 4, 40] [2, 3] (by kernel_rfl) (obc (ob_eq ((congrArg (fun b => AV.one (C.bool b)) (neq_int a.1 b.1)).trans (congrArg (fun b => AV.one (C.bool b)) h1))) (ob1 (ob_eq ((congrArg (fun b => AV.one (C.bool b)) (neq_int a.2.1 b.2.1)).trans (congrArg (fun b => AV.one (C.bool b)) h2))))) ?_
      refine awp_cond (b := true) rfl (fun _ => ?_) (fun h => by cases h)
      refine awp_seq ?_
      refine awp_regionK (s' := ⟨[(2, .one (.ptr 2 0)), (3, .one (.ptr 3 0)), (4, .one (.bool false))], [(2, [.int .i64 a.1, .int .i64 a.2.1, .bool a.2.2.1, .int .i64 a.2.2.2.1, .slc .sh 4 (eL a.2.2.2.2)]), (3, [.int .i64 b.1, .int .i64 b.2.1, .bool b.2.2.1, .int .i64 b.2.2.2.1, .slc .sh 4 (eL b.2.2.2.2)])]⟩) (obs := []) tt_ok [] [2, 3, 4] [2, 3] (by kernel_rfl) (trivial) ?_
      refine awp_ret ?_
      refine post_ret [] (b := .one (.bool false)) (by kernel_rfl) ?_
      exact congrArg (fun b => AV.one (C.bool b)) (show false = eqb a b from by rw [eqb_prod' a b, eqb_prod' a.2 b.2, eqb_prod' a.2.2 b.2.2, eqb_prod' a.2.2.2 b.2.2.2, h1n, h2n]; first | done | rfl | exact (Bool.and_true _).symm | simp)
    · -- (!(eqb a.2.1 b.2.1)) is False
      have h2n : (eqb a.2.1 b.2.1) = true := bnot_f h2
      rcases Bool.eq_false_or_eq_true (!(eqb a.2.2.1 b.2.2.1)) with h3 | h3
      · -- (!(eqb a.2.2.1 b.2.2.1)) is True
        have h3n : (eqb a.2.2.1 b.2.2.1) = false := bnot_t h3
        refine awp_regionK (s' := ⟨[(2, .one (.ptr 2 0)), (3, .one (.ptr 3 0)), (4, .one (.bool false)), (40, .one (.bool true))], [(2, [.int .i64 a.1, .int .i64 a.2.1, .bool a.2.2.1, .int .i64 a.2.2.2.1, .slc .sh 4 (eL a.2.2.2.2)]), (3, [.int .i64 b.1, .int .i64 b.2.1, .bool b.2.2.1, .int .i64 b.2.2.2.1, .slc .sh 4 (eL b.2.2.2.2)])]⟩) (obs := [.eq (.one (.bool (a.1 != b.1))) (.one (.bool false)), .eq (.one (.bool (a.2.1 != b.2.1))) (.one (.bool false)), .eq (.one (.bool (!(a.2.2.1 == b.2.2.1)))) (.one (.bool true))]) tt_ok [(4, .val (.one (.bool false))), (10, .val (.one (.bool false))), (17, .val (.one (.bool true)))] [2, 3, 4, 40] [2, 3] (by kernel_rfl) (obc (ob_eq ((congrArg (fun b => AV.one (C.bool b)) (neq_int a.1 b.1)).trans (congrArg (fun b => AV.one (C.bool b)) h1))) (obc (ob_eq ((congrArg (fun b => AV.one (C.bool b)) (neq_int a.2.1 b.2.1)).trans (congrArg (fun b => AV.one (C.bool b)) h2))) (ob1 (ob_eq ((congrArg (fun b => AV.one (C.bool b)) (neq_bool a.2.2.1 b.2.2.1)).trans (congrArg (fun b => AV.one (C.bool b)) h3)))))) ?_
        refine awp_cond (b := true) rfl (fun _ => ?_) (fun h => by cases h)
        refine awp_seq ?_
        refine awp_regionK (s' := ⟨[(2, .one (.ptr 2 0)), (3, .one (.ptr 3 0)), (4, .one (.bool false))], [(2, [.int .i64 a.1, .int .i64 a.2.1, .bool a.2.2.1, .int .i64 a.2.2.2.1, .slc .sh 4 (eL a.2.2.2.2)]), (3, [.int .i64 b.1, .int .i64 b.2.1, .bool b.2.2.1, .int .i64 b.2.2.2.1, .slc .sh 4 (eL b.2.2.2.2)])]⟩) (obs := []) tt_ok [] [2, 3, 4] [2, 3] (by kernel_rfl) (trivial) ?_
        refine awp_ret ?_
        refine post_ret [] (b := .one (.bool false)) (by kernel_rfl) ?_
        exact congrArg (fun b => AV.one (C.bool b)) (show false = eqb a b from by rw [eqb_prod' a b, eqb_prod' a.2 b.2, eqb_prod' a.2.2 b.2.2, eqb_prod' a.2.2.2 b.2.2.2, h1n, h2n, h3n]; first | done | rfl | exact (Bool.and_true _).symm | simp)
      · -- (!(eqb a.2.2.1 b.2.2.1)) is False
        have h3n : (eqb a.2.2.1 b.2.2.1) = true := bnot_f h3
        rcases Bool.eq_false_or_eq_true (!(eqb a.2.2.2.1 b.2.2.2.1)) with h4 | h4
        · -- (!(eqb a.2.2.2.1 b.2.2.2.1)) is True
          have h4n : (eqb a.2.2.2.1 b.2.2.2.1) = false := bnot_t h4
          refine awp_regionK (s' := ⟨[(2, .one (.ptr 2 0)), (3, .one (.ptr 3 0)), (4, .one (.bool false)), (40, .one (.bool true))], [(2, [.int .i64 a.1, .int .i64 a.2.1, .bool a.2.2.1, .int .i64 a.2.2.2.1, .slc .sh 4 (eL a.2.2.2.2)]), (3, [.int .i64 b.1, .int .i64 b.2.1, .bool b.2.2.1, .int .i64 b.2.2.2.1, .slc .sh 4 (eL b.2.2.2.2)])]⟩) (obs := [.eq (.one (.bool (a.1 != b.1))) (.one (.bool false)), .eq (.one (.bool (a.2.1 != b.2.1))) (.one (.bool false)), .eq (.one (.bool (!(a.2.2.1 == b.2.2.1)))) (.one (.bool false)), .eq (.one (.bool (a.2.2.2.1 != b.2.2.2.1))) (.one (.bool true))]) tt_ok [(4, .val (.one (.bool false))), (10, .val (.one (.bool false))), (17, .val (.one (.bool false))), (24, .val (.one (.bool true)))] [2, 3, 4, 40] [2, 3] (by kernel_rfl) (obc (ob_eq ((congrArg (fun b => AV.one (C.bool b)) (neq_int a.1 b.1)).trans (congrArg (fun b => AV.one (C.bool b)) h1))) (obc (ob_eq ((congrArg (fun b => AV.one (C.bool b)) (neq_int a.2.1 b.2.1)).trans (congrArg (fun b => AV.one (C.bool b)) h2))) (obc (ob_eq ((congrArg (fun b => AV.one (C.bool b)) (neq_bool a.2.2.1 b.2.2.1)).trans (congrArg (fun b => AV.one (C.bool b)) h3))) (ob1 (ob_eq ((congrArg (fun b => AV.one (C.bool b)) (neq_int a.2.2.2.1 b.2.2.2.1)).trans (congrArg (fun b => AV.one (C.bool b)) h4))))))) ?_
          refine awp_cond (b := true) rfl (fun _ => ?_) (fun h => by cases h)
          refine awp_seq ?_
          refine awp_regionK (s' := ⟨[(2, .one (.ptr 2 0)), (3, .one (.ptr 3 0)), (4, .one (.bool false))], [(2, [.int .i64 a.1, .int .i64 a.2.1, .bool a.2.2.1, .int .i64 a.2.2.2.1, .slc .sh 4 (eL a.2.2.2.2)]), (3, [.int .i64 b.1, .int .i64 b.2.1, .bool b.2.2.1, .int .i64 b.2.2.2.1, .slc .sh 4 (eL b.2.2.2.2)])]⟩) (obs := []) tt_ok [] [2, 3, 4] [2, 3] (by kernel_rfl) (trivial) ?_
          refine awp_ret ?_
          refine post_ret [] (b := .one (.bool false)) (by kernel_rfl) ?_
          exact congrArg (fun b => AV.one (C.bool b)) (show false = eqb a b from by rw [eqb_prod' a b, eqb_prod' a.2 b.2, eqb_prod' a.2.2 b.2.2, eqb_prod' a.2.2.2 b.2.2.2, h1n, h2n, h3n, h4n]; first | done | rfl | exact (Bool.and_true _).symm | simp)
        · -- (!(eqb a.2.2.2.1 b.2.2.2.1)) is False
          have h4n : (eqb a.2.2.2.1 b.2.2.2.1) = true := bnot_f h4
          have hl5 : List.length a.2.2.2.2 ≤ 1048576 := sz_len (sz_snd (sz_snd (sz_snd (sz_snd (sa)))))
          have hl6 : List.length b.2.2.2.2 ≤ 1048576 := sz_len (sz_snd (sz_snd (sz_snd (sz_snd (sb)))))
          refine awp_regionK (s' := ⟨[(2, .one (.ptr 2 0)), (3, .one (.ptr 3 0)), (4, .one (.bool false)), (40, .one (.bool ((a.2.2.2.2.length : Int) != (b.2.2.2.2.length : Int))))], [(2, [.int .i64 a.1, .int .i64 a.2.1, .bool a.2.2.1, .int .i64 a.2.2.2.1, .slc .sh 4 (eL a.2.2.2.2)]), (3, [.int .i64 b.1, .int .i64 b.2.1, .bool b.2.2.1, .int .i64 b.2.2.2.1, .slc .sh 4 (eL b.2.2.2.2)])]⟩) (obs := [.eq (.one (.bool (a.1 != b.1))) (.one (.bool false)), .eq (.one (.bool (a.2.1 != b.2.1))) (.one (.bool false)), .eq (.one (.bool (!(a.2.2.1 == b.2.2.1)))) (.one (.bool false)), .eq (.one (.bool (a.2.2.2.1 != b.2.2.2.1))) (.one (.bool false)), .eq (.one (.int .i64 (((eL a.2.2.2.2) : List (List PV)).length : Int))) (.one (.int .i64 (a.2.2.2.2.length : Int))), .eq (.one (.int .i64 (((eL b.2.2.2.2) : List (List PV)).length : Int))) (.one (.int .i64 (b.2.2.2.2.length : Int)))]) tt_ok [(4, .val (.one (.bool false))), (10, .val (.one (.bool false))), (17, .val (.one (.bool false))), (24, .val (.one (.bool false))), (29, .val (.one (.int .i64 (a.2.2.2.2.length : Int)))), (32, .val (.one (.int .i64 (b.2.2.2.2.length : Int))))] [2, 3, 4, 40] [2, 3] (by kernel_rfl) (obc (ob_eq ((congrArg (fun b => AV.one (C.bool b)) (neq_int a.1 b.1)).trans (congrArg (fun b => AV.one (C.bool b)) h1))) (obc (ob_eq ((congrArg (fun b => AV.one (C.bool b)) (neq_int a.2.1 b.2.1)).trans (congrArg (fun b => AV.one (C.bool b)) h2))) (obc (ob_eq ((congrArg (fun b => AV.one (C.bool b)) (neq_bool a.2.2.1 b.2.2.1)).trans (congrArg (fun b => AV.one (C.bool b)) h3))) (obc (ob_eq ((congrArg (fun b => AV.one (C.bool b)) (neq_int a.2.2.2.1 b.2.2.2.1)).trans (congrArg (fun b => AV.one (C.bool b)) h4))) (obc (ob_eq (by simp [eL_length])) (ob1 (ob_eq (by simp [eL_length])))))))) ?_
          refine awp_cond (b := ((a.2.2.2.2.length : Int) != (b.2.2.2.2.length : Int))) rfl (fun h7 => ?_) (fun h7 => ?_)
          · -- ((a.2.2.2.2.length : Int) != (b.2.2.2.2.length : Int)) is True
            have h7d := by simpa using h7
            refine awp_seq ?_
            refine awp_regionK (s' := ⟨[(2, .one (.ptr 2 0)), (3, .one (.ptr 3 0)), (4, .one (.bool false))], [(2, [.int .i64 a.1, .int .i64 a.2.1, .bool a.2.2.1, .int .i64 a.2.2.2.1, .slc .sh 4 (eL a.2.2.2.2)]), (3, [.int .i64 b.1, .int .i64 b.2.1, .bool b.2.2.1, .int .i64 b.2.2.2.1, .slc .sh 4 (eL b.2.2.2.2)])]⟩) (obs := []) tt_ok [] [2, 3, 4] [2, 3] (by kernel_rfl) (trivial) ?_
            refine awp_ret ?_
            have he : eqb a.2.2.2.2 b.2.2.2.2 = false := eqS_len (by omega)
            refine post_ret [] (b := .one (.bool false)) (by kernel_rfl) ?_
            exact congrArg (fun b => AV.one (C.bool b)) (show false = eqb a b from by rw [eqb_prod' a b, eqb_prod' a.2 b.2, eqb_prod' a.2.2 b.2.2, eqb_prod' a.2.2.2 b.2.2.2, h1n, h2n, h3n, h4n, he]; first | done | rfl | exact (Bool.and_true _).symm | simp)
          · -- ((a.2.2.2.2.length : Int) != (b.2.2.2.2.length : Int)) is False
            have h7d := by simpa using h7
            refine awp_skip ?_
            refine awp_seq ?_
            refine awp_seq ?_
            refine awp_regionK (s' := ⟨[(2, .one (.ptr 2 0)), (3, .one (.ptr 3 0)), (4, .one (.bool false)), (5, .one (.int .i64 0))], [(2, [.int .i64 a.1, .int .i64 a.2.1, .bool a.2.2.1, .int .i64 a.2.2.2.1, .slc .sh 4 (eL a.2.2.2.2)]), (3, [.int .i64 b.1, .int .i64 b.2.1, .bool b.2.2.1, .int .i64 b.2.2.2.1, .slc .sh 4 (eL b.2.2.2.2)])]⟩) (obs := []) tt_ok [] [2, 3, 4, 5] [2, 3] (by kernel_rfl) (trivial) ?_
            refine awp_block ?_
            refine awp_forI (a.2.2.2.2.length) (fun k : Nat => (⟨[(2, .one (.ptr 2 0)), (3, .one (.ptr 3 0)), (4, .one (.bool false)), (5, .one (.int .i64 ((k : Nat) : Int)))], [(2, [.int .i64 a.1, .int .i64 a.2.1, .bool a.2.2.1, .int .i64 a.2.2.2.1, .slc .sh 4 (eL a.2.2.2.2)]), (3, [.int .i64 b.1, .int .i64 b.2.1, .bool b.2.2.1, .int .i64 b.2.2.2.1, .slc .sh 4 (eL b.2.2.2.2)])]⟩ : St)) (fun k : Nat => List.take k a.2.2.2.2 = List.take k b.2.2.2.2) (weak_to [] [2, 3, 4, 5] [2, 3] (by kernel_rfl)) (by simp) (fun k hk hinv => ?_) (fun hinv => ?_)
            · -- round
              refine awp_seq ?_
              refine awp_seq ?_
              refine awp_regionK (s' := ⟨[(2, .one (.ptr 2 0)), (3, .one (.ptr 3 0)), (4, .one (.bool false)), (5, .one (.int .i64 ((k : Nat) : Int))), (45, .one (.bool true))], [(2, [.int .i64 a.1, .int .i64 a.2.1, .bool a.2.2.1, .int .i64 a.2.2.2.1, .slc .sh 4 (eL a.2.2.2.2)]), (3, [.int .i64 b.1, .int .i64 b.2.1, .bool b.2.2.1, .int .i64 b.2.2.2.1, .slc .sh 4 (eL b.2.2.2.2)])]⟩) (obs := [.eq (.one (.int .i64 (((eL a.2.2.2.2) : List (List PV)).length : Int))) (.one (.int .i64 (a.2.2.2.2.length : Int))), .eq (.one (.bool (decide (((k : Nat) : Int) < (a.2.2.2.2.length : Int))))) (.one (.bool true))]) tt_ok [(3, .val (.one (.int .i64 (a.2.2.2.2.length : Int)))), (4, .val (.one (.bool true)))] [2, 3, 4, 5, 45] [2, 3] (by kernel_rfl) (obc (ob_eq (by simp [eL_length])) (ob1 (ob_eq (congrArg (fun b => AV.one (C.bool b)) (decide_eq_true (by omega)))))) ?_
              refine awp_cond (b := true) rfl (fun _ => ?_) (fun h => by cases h)
              refine awp_skip ?_
              refine awp_seq ?_
              refine awp_block ?_
              refine awp_seq ?_
              obtain ⟨x8, hx9⟩ := get_some (l := a.2.2.2.2) (i := k) (by omega)
              obtain ⟨x10, hx11⟩ := get_some (l := b.2.2.2.2) (i := k) (by omega)
              refine awp_draw (s' := ⟨[(2, .one (.ptr 2 0)), (3, .one (.ptr 3 0)), (4, .one (.bool false)), (5, .one (.int .i64 ((k : Nat) : Int))), (58, .one (.bool (!(eqb x8 x10))))], [(2, [.int .i64 a.1, .int .i64 a.2.1, .bool a.2.2.1, .int .i64 a.2.2.2.1, .slc .sh 4 (eL a.2.2.2.2)]), (3, [.int .i64 b.1, .int .i64 b.2.1, .bool b.2.2.1, .int .i64 b.2.2.2.1, .slc .sh 4 (eL b.2.2.2.2)])]⟩) (obs := [.elem (eL a.2.2.2.2) ((k : Nat) : Int) [.str x8.1, .int .i64 x8.2.1, .int .i64 x8.2.2.1, .str x8.2.2.2], .elem (eL b.2.2.2.2) ((k : Nat) : Int) [.str x10.1, .int .i64 x10.2.1, .int .i64 x10.2.2.1, .str x10.2.2.2], .eq (.one (.bool (!((x8.1.toList == x10.1.toList) && ((x8.2.1 == x10.2.1) && ((x8.2.2.1 == x10.2.2.1) && ((x8.2.2.2.toList == x10.2.2.2.toList) && true))))))) (.one (.bool (!(eqb x8 x10))))]) tt_ok tt_mx [(3, .row [.str x8.1, .int .i64 x8.2.1, .int .i64 x8.2.2.1, .str x8.2.2.2]), (8, .row [.str x10.1, .int .i64 x10.2.1, .int .i64 x10.2.2.1, .str x10.2.2.2]), (10, .val (.one (.bool (!(eqb x8 x10)))))] [2, 3, 4, 5, 58] [2, 3] (by kernel_rfl) (obc (ob_elem (⟨by omega, eL_get (by simpa using hx9)⟩)) (obc (ob_elem (⟨by omega, eL_get (by simpa using hx11)⟩)) (ob1 (ob_eq (by simp only [eqb_prod', eqb_int, ← eqb_str, Bool.and_true]))))) ?_
              refine awp_cond (b := (!(eqb x8 x10))) rfl (fun h12 => ?_) (fun h12 => ?_)
              · -- (!(eqb x8 x10)) is True
                have h12n : (eqb x8 x10) = false := bnot_t h12
                refine awp_seq ?_
                refine awp_regionK (s' := ⟨[(2, .one (.ptr 2 0)), (3, .one (.ptr 3 0)), (4, .one (.bool false)), (5, .one (.int .i64 ((k : Nat) : Int)))], [(2, [.int .i64 a.1, .int .i64 a.2.1, .bool a.2.2.1, .int .i64 a.2.2.2.1, .slc .sh 4 (eL a.2.2.2.2)]), (3, [.int .i64 b.1, .int .i64 b.2.1, .bool b.2.2.1, .int .i64 b.2.2.2.1, .slc .sh 4 (eL b.2.2.2.2)])]⟩) (obs := []) tt_ok [] [2, 3, 4, 5] [2, 3] (by kernel_rfl) (trivial) ?_
                refine awp_ret ?_
                have he : eqb a.2.2.2.2 b.2.2.2.2 = false := eqS_no hx9 hx11 (show eqb x8 x10 = false from h12n)
                refine post_ret [] (b := .one (.bool false)) (by kernel_rfl) ?_
                exact congrArg (fun b => AV.one (C.bool b)) (show false = eqb a b from by rw [eqb_prod' a b, eqb_prod' a.2 b.2, eqb_prod' a.2.2 b.2.2, eqb_prod' a.2.2.2 b.2.2.2, h1n, h2n, h3n, h4n, he]; first | done | rfl | exact (Bool.and_true _).symm | simp)
              · -- (!(eqb x8 x10)) is False
                have h12n : (eqb x8 x10) = true := bnot_f h12
                refine awp_skip ?_
                refine awp_regionK (s' := ⟨[(2, .one (.ptr 2 0)), (3, .one (.ptr 3 0)), (4, .one (.bool false)), (5, .one (.int .i64 (((k : Nat) : Int) + 1)))], [(2, [.int .i64 a.1, .int .i64 a.2.1, .bool a.2.2.1, .int .i64 a.2.2.2.1, .slc .sh 4 (eL a.2.2.2.2)]), (3, [.int .i64 b.1, .int .i64 b.2.1, .bool b.2.2.1, .int .i64 b.2.2.2.1, .slc .sh 4 (eL b.2.2.2.2)])]⟩) (obs := [.eq (.one (.int .i64 (IntKind.i64.wrap (((k : Nat) : Int) + 1)))) (.one (.int .i64 (((k : Nat) : Int) + 1)))]) tt_ok [(1, .val (.one (.int .i64 (((k : Nat) : Int) + 1))))] [2, 3, 4, 5] [2, 3] (by kernel_rfl) (ob1 (ob_eq (congrArg (fun n => AV.one (.int .i64 n)) (IntWalk.i64_in _ (by omega))))) ?_
                exact ⟨weak_to [] [2, 3, 4, 5] [2, 3] (by kernel_rfl), (eqS_step hinv hx9 hx11 (show eqb x8 x10 = true from h12n)).out⟩
            · -- exit
              refine awp_seq ?_
              refine awp_seq ?_
              refine awp_regionK (s' := ⟨[(2, .one (.ptr 2 0)), (3, .one (.ptr 3 0)), (4, .one (.bool false)), (5, .one (.int .i64 ((a.2.2.2.2.length : Nat) : Int))), (45, .one (.bool false))], [(2, [.int .i64 a.1, .int .i64 a.2.1, .bool a.2.2.1, .int .i64 a.2.2.2.1, .slc .sh 4 (eL a.2.2.2.2)]), (3, [.int .i64 b.1, .int .i64 b.2.1, .bool b.2.2.1, .int .i64 b.2.2.2.1, .slc .sh 4 (eL b.2.2.2.2)])]⟩) (obs := [.eq (.one (.int .i64 (((eL a.2.2.2.2) : List (List PV)).length : Int))) (.one (.int .i64 (a.2.2.2.2.length : Int))), .eq (.one (.bool (decide (((a.2.2.2.2.length : Nat) : Int) < (a.2.2.2.2.length : Int))))) (.one (.bool false))]) tt_ok [(3, .val (.one (.int .i64 (a.2.2.2.2.length : Int)))), (4, .val (.one (.bool false)))] [2, 3, 4, 5, 45] [2, 3] (by kernel_rfl) (obc (ob_eq (by simp [eL_length])) (ob1 (ob_eq (congrArg (fun b => AV.one (C.bool b)) (decide_eq_false (by omega)))))) ?_
              refine awp_cond (b := false) rfl (fun h => by cases h) (fun _ => ?_)
              refine awp_exit ?_
              refine awp_seq ?_
              refine awp_regionK (s' := ⟨[(4, .one (.bool true))], []⟩) (obs := []) tt_ok [] [4] [] (by kernel_rfl) (trivial) ?_
              refine awp_ret ?_
              have he : eqb a.2.2.2.2 b.2.2.2.2 = true := eqS_end hinv (by omega)
              refine post_ret [] (b := .one (.bool true)) (by kernel_rfl) ?_
              exact congrArg (fun b => AV.one (C.bool b)) (show true = eqb a b from by rw [eqb_prod' a b, eqb_prod' a.2 b.2, eqb_prod' a.2.2 b.2.2, eqb_prod' a.2.2.2 b.2.2.2, h1n, h2n, h3n, h4n, he]; first | done | rfl | exact (Bool.and_true _).symm | simp)
theorem l05Fields_a (a : (List FieldD)) (b : (List FieldD)) (sa : GoD.size a ≤ 1048576) (sb : GoD.size b ≤ 1048576)  : ACalls Try.prog 118 [.one (.slc .sh 2 (eL a)), .one (.slc .sh 2 (eL b))] (.one (.bool (eqb a b))) := by
  refine acalls_of (tt := tt) tt_ok Try.func118 (fn := Try.f118) rfl (by unfold FnOk; kernel_rfl) (Nat.le_of_ble_eq_true rfl) fun w0 F0 => ?_
  refine awp_seq ?_
  refine awp_regionK (s' := ⟨[(0, .one (.slc .sh 2 (eL a))), (1, .one (.slc .sh 2 (eL b))), (4, .one (.bool false))], []⟩) (obs := []) tt_ok [] [0, 1, 4] [] (by kernel_rfl) (trivial) ?_
  refine awp_seq ?_
  refine awp_seq ?_
  have hl1 : List.length a ≤ 1048576 := sz_len (sa)
  have hl2 : List.length b ≤ 1048576 := sz_len (sb)
  refine awp_regionK (s' := ⟨[(0, .one (.slc .sh 2 (eL a))), (1, .one (.slc .sh 2 (eL b))), (4, .one (.bool false)), (10, .one (.bool ((a.length : Int) != (b.length : Int))))], []⟩) (obs := [.eq (.one (.int .i64 (((eL a) : List (List PV)).length : Int))) (.one (.int .i64 (a.length : Int))), .eq (.one (.int .i64 (((eL b) : List (List PV)).length : Int))) (.one (.int .i64 (b.length : Int)))]) tt_ok [(1, .val (.one (.int .i64 (a.length : Int)))), (3, .val (.one (.int .i64 (b.length : Int))))] [0, 1, 4, 10] [] (by kernel_rfl) (obc (ob_eq (by simp [eL_length])) (ob1 (ob_eq (by simp [eL_length])))) ?_
  refine awp_cond (b := ((a.length : Int) != (b.length : Int))) rfl (fun h3 => ?_) (fun h3 => ?_)
  · -- ((a.length : Int) != (b.length : Int)) is True
    have h3d := by simpa using h3
    refine awp_seq ?_
    refine awp_regionK (s' := ⟨[(0, .one (.slc .sh 2 (eL a))), (1, .one (.slc .sh 2 (eL b))), (4, .one (.bool false))], []⟩) (obs := []) tt_ok [] [0, 1, 4] [] (by kernel_rfl) (trivial) ?_
    refine awp_ret ?_
    have he : eqb a b = false := eqS_len (by omega)
    refine post_ret [] (b := .one (.bool false)) (by kernel_rfl) ?_
    exact congrArg (fun b => AV.one (C.bool b)) he.symm
  · -- ((a.length : Int) != (b.length : Int)) is False
    have h3d := by simpa using h3
    refine awp_skip ?_
    refine awp_seq ?_
    refine awp_seq ?_
    refine awp_regionK (s' := ⟨[(0, .one (.slc .sh 2 (eL a))), (1, .one (.slc .sh 2 (eL b))), (4, .one (.bool false)), (5, .one (.int .i64 0))], []⟩) (obs := []) tt_ok [] [0, 1, 4, 5] [] (by kernel_rfl) (trivial) ?_
    refine awp_block ?_
    refine awp_forI (a.length) (fun k : Nat => (⟨[(0, .one (.slc .sh 2 (eL a))), (1, .one (.slc .sh 2 (eL b))), (4, .one (.bool false)), (5, .one (.int .i64 ((k : Nat) : Int)))], []⟩ : St)) (fun k : Nat => List.take k a = List.take k b) (weak_to [] [0, 1, 4, 5] [] (by kernel_rfl)) (by simp) (fun k hk hinv => ?_) (fun hinv => ?_)
    · -- round
      refine awp_seq ?_
      refine awp_seq ?_
      refine awp_regionK (s' := ⟨[(0, .one (.slc .sh 2 (eL a))), (1, .one (.slc .sh 2 (eL b))), (4, .one (.bool false)), (5, .one (.int .i64 ((k : Nat) : Int))), (14, .one (.bool true))], []⟩) (obs := [.eq (.one (.int .i64 (((eL a) : List (List PV)).length : Int))) (.one (.int .i64 (a.length : Int))), .eq (.one (.bool (decide (((k : Nat) : Int) < (a.length : Int))))) (.one (.bool true))]) tt_ok [(2, .val (.one (.int .i64 (a.length : Int)))), (3, .val (.one (.bool true)))] [0, 1, 4, 5, 14] [] (by kernel_rfl) (obc (ob_eq (by simp [eL_length])) (ob1 (ob_eq (congrArg (fun b => AV.one (C.bool b)) (decide_eq_true (by omega)))))) ?_
      refine awp_cond (b := true) rfl (fun _ => ?_) (fun h => by cases h)
      refine awp_skip ?_
      refine awp_seq ?_
      refine awp_block ?_
      refine awp_seq ?_
      obtain ⟨x4, hx5⟩ := get_some (l := a) (i := k) (by omega)
      obtain ⟨x6, hx7⟩ := get_some (l := b) (i := k) (by omega)
      refine awp_draw (s' := ⟨[(0, .one (.slc .sh 2 (eL a))), (1, .one (.slc .sh 2 (eL b))), (4, .one (.bool false)), (5, .one (.int .i64 ((k : Nat) : Int))), (25, .one (.bool (!(eqb x4 x6))))], []⟩) (obs := [.elem (eL a) ((k : Nat) : Int) [.str x4.1, .int .i64 x4.2], .elem (eL b) ((k : Nat) : Int) [.str x6.1, .int .i64 x6.2], .eq (.one (.bool (!((x4.1.toList == x6.1.toList) && ((x4.2 == x6.2) && true))))) (.one (.bool (!(eqb x4 x6))))]) tt_ok tt_mx [(2, .row [.str x4.1, .int .i64 x4.2]), (6, .row [.str x6.1, .int .i64 x6.2]), (8, .val (.one (.bool (!(eqb x4 x6)))))] [0, 1, 4, 5, 25] [] (by kernel_rfl) (obc (ob_elem (⟨by omega, eL_get (by simpa using hx5)⟩)) (obc (ob_elem (⟨by omega, eL_get (by simpa using hx7)⟩)) (ob1 (ob_eq (by simp only [eqb_prod', eqb_int, ← eqb_str, Bool.and_true]))))) ?_
      refine awp_cond (b := (!(eqb x4 x6))) rfl (fun h8 => ?_) (fun h8 => ?_)
      · -- (!(eqb x4 x6)) is True
        have h8n : (eqb x4 x6) = false := bnot_t h8
        refine awp_seq ?_
        refine awp_regionK (s' := ⟨[(0, .one (.slc .sh 2 (eL a))), (1, .one (.slc .sh 2 (eL b))), (4, .one (.bool false)), (5, .one (.int .i64 ((k : Nat) : Int)))], []⟩) (obs := []) tt_ok [] [0, 1, 4, 5] [] (by kernel_rfl) (trivial) ?_
        refine awp_ret ?_
        have he : eqb a b = false := eqS_no hx5 hx7 (show eqb x4 x6 = false from h8n)
        refine post_ret [] (b := .one (.bool false)) (by kernel_rfl) ?_
        exact congrArg (fun b => AV.one (C.bool b)) he.symm
      · -- (!(eqb x4 x6)) is False
        have h8n : (eqb x4 x6) = true := bnot_f h8
        refine awp_skip ?_
        refine awp_regionK (s' := ⟨[(0, .one (.slc .sh 2 (eL a))), (1, .one (.slc .sh 2 (eL b))), (4, .one (.bool false)), (5, .one (.int .i64 (((k : Nat) : Int) + 1)))], []⟩) (obs := [.eq (.one (.int .i64 (IntKind.i64.wrap (((k : Nat) : Int) + 1)))) (.one (.int .i64 (((k : Nat) : Int) + 1)))]) tt_ok [(1, .val (.one (.int .i64 (((k : Nat) : Int) + 1))))] [0, 1, 4, 5] [] (by kernel_rfl) (ob1 (ob_eq (congrArg (fun n => AV.one (.int .i64 n)) (IntWalk.i64_in _ (by omega))))) ?_
        exact ⟨weak_to [] [0, 1, 4, 5] [] (by kernel_rfl), (eqS_step hinv hx5 hx7 (show eqb x4 x6 = true from h8n)).out⟩
    · -- exit
      refine awp_seq ?_
      refine awp_seq ?_
      refine awp_regionK (s' := ⟨[(0, .one (.slc .sh 2 (eL a))), (1, .one (.slc .sh 2 (eL b))), (4, .one (.bool false)), (5, .one (.int .i64 ((a.length : Nat) : Int))), (14, .one (.bool false))], []⟩) (obs := [.eq (.one (.int .i64 (((eL a) : List (List PV)).length : Int))) (.one (.int .i64 (a.length : Int))), .eq (.one (.bool (decide (((a.length : Nat) : Int) < (a.length : Int))))) (.one (.bool false))]) tt_ok [(2, .val (.one (.int .i64 (a.length : Int)))), (3, .val (.one (.bool false)))] [0, 1, 4, 5, 14] [] (by kernel_rfl) (obc (ob_eq (by simp [eL_length])) (ob1 (ob_eq (congrArg (fun b => AV.one (C.bool b)) (decide_eq_false (by omega)))))) ?_
      refine awp_cond (b := false) rfl (fun h => by cases h) (fun _ => ?_)
      refine awp_exit ?_
      refine awp_seq ?_
      refine awp_regionK (s' := ⟨[(4, .one (.bool true))], []⟩) (obs := []) tt_ok [] [4] [] (by kernel_rfl) (trivial) ?_
      refine awp_ret ?_
      have he : eqb a b = true := eqS_end hinv (by omega)
      refine post_ret [] (b := .one (.bool true)) (by kernel_rfl) ?_
      exact congrArg (fun b => AV.one (C.bool b)) he.symm
theorem specEqualStores_a (a : StoreD) (b : StoreD) (sa : GoD.size a ≤ 1048576) (sb : GoD.size b ≤ 1048576)  : ACalls Try.prog 76 [.agg [.slc .sh 2 (eL a.1), .slc .sh 5 (eL a.2.1), .int .i64 a.2.2], .agg [.slc .sh 2 (eL b.1), .slc .sh 5 (eL b.2.1), .int .i64 b.2.2]] (.one (.bool (eqb a b))) := by
  refine acalls_of (tt := tt) tt_ok Try.func76 (fn := Try.f76) rfl (by unfold FnOk; kernel_rfl) (Nat.le_of_ble_eq_true rfl) fun w0 F0 => ?_
  refine awp_seq ?_
  refine awp_regionK (s' := ⟨[(2, .one (.ptr 2 0)), (3, .one (.ptr 3 0)), (4, .one (.bool false))], [(2, [.slc .sh 2 (eL a.1), .slc .sh 5 (eL a.2.1), .int .i64 a.2.2]), (3, [.slc .sh 2 (eL b.1), .slc .sh 5 (eL b.2.1), .int .i64 b.2.2])]⟩) (obs := []) tt_ok [] [2, 3, 4] [2, 3] (by kernel_rfl) (trivial) ?_
  refine awp_seq ?_
  refine awp_seq ?_
  rcases Bool.eq_false_or_eq_true (!(eqb a.1 b.1)) with h1 | h1
  · -- (!(eqb a.1 b.1)) is True
    have h1n : (eqb a.1 b.1) = false := bnot_t h1
    refine awp_regionK (s' := ⟨[(2, .one (.ptr 2 0)), (3, .one (.ptr 3 0)), (4, .one (.bool false)), (27, .one (.bool true))], [(2, [.slc .sh 2 (eL a.1), .slc .sh 5 (eL a.2.1), .int .i64 a.2.2]), (3, [.slc .sh 2 (eL b.1), .slc .sh 5 (eL b.2.1), .int .i64 b.2.2])]⟩) (obs := [.call 118 [.one (.slc .sh 2 (eL a.1)), .one (.slc .sh 2 (eL b.1))] (.one (.bool (eqb a.1 b.1))), .eq (.one (.bool (!(eqb a.1 b.1)))) (.one (.bool true))]) tt_ok [(4, .val (.one (.bool (eqb a.1 b.1)))), (5, .val (.one (.bool true)))] [2, 3, 4, 27] [2, 3] (by kernel_rfl) (obc (ob_call (l05Fields_a a.1 b.1 (sz_fst (sa)) (sz_fst (sb)))) (ob1 (ob_eq (congrArg (fun b => AV.one (C.bool b)) h1)))) ?_
    refine awp_cond (b := true) rfl (fun _ => ?_) (fun h => by cases h)
    refine awp_seq ?_
    refine awp_regionK (s' := ⟨[(2, .one (.ptr 2 0)), (3, .one (.ptr 3 0)), (4, .one (.bool false))], [(2, [.slc .sh 2 (eL a.1), .slc .sh 5 (eL a.2.1), .int .i64 a.2.2]), (3, [.slc .sh 2 (eL b.1), .slc .sh 5 (eL b.2.1), .int .i64 b.2.2])]⟩) (obs := []) tt_ok [] [2, 3, 4] [2, 3] (by kernel_rfl) (trivial) ?_
    refine awp_ret ?_
    refine post_ret [] (b := .one (.bool false)) (by kernel_rfl) ?_
    exact congrArg (fun b => AV.one (C.bool b)) (show false = eqb a b from by rw [eqb_prod' a b, eqb_prod' a.2 b.2, h1n]; first | done | rfl | exact (Bool.and_true _).symm | simp)
  · -- (!(eqb a.1 b.1)) is False
    have h1n : (eqb a.1 b.1) = true := bnot_f h1
    rcases Bool.eq_false_or_eq_true (!(eqb a.2.2 b.2.2)) with h2 | h2
    · -- (!(eqb a.2.2 b.2.2)) is True
      have h2n : (eqb a.2.2 b.2.2) = false := bnot_t h2
      refine awp_regionK (s' := ⟨[(2, .one (.ptr 2 0)), (3, .one (.ptr 3 0)), (4, .one (.bool false)), (27, .one (.bool true))], [(2, [.slc .sh 2 (eL a.1), .slc .sh 5 (eL a.2.1), .int .i64 a.2.2]), (3, [.slc .sh 2 (eL b.1), .slc .sh 5 (eL b.2.1), .int .i64 b.2.2])]⟩) (obs := [.call 118 [.one (.slc .sh 2 (eL a.1)), .one (.slc .sh 2 (eL b.1))] (.one (.bool (eqb a.1 b.1))), .eq (.one (.bool (!(eqb a.1 b.1)))) (.one (.bool false)), .eq (.one (.bool (a.2.2 != b.2.2))) (.one (.bool true))]) tt_ok [(4, .val (.one (.bool (eqb a.1 b.1)))), (5, .val (.one (.bool false))), (11, .val (.one (.bool true)))] [2, 3, 4, 27] [2, 3] (by kernel_rfl) (obc (ob_call (l05Fields_a a.1 b.1 (sz_fst (sa)) (sz_fst (sb)))) (obc (ob_eq (congrArg (fun b => AV.one (C.bool b)) h1)) (ob1 (ob_eq ((congrArg (fun b => AV.one (C.bool b)) (neq_int a.2.2 b.2.2)).trans (congrArg (fun b => AV.one (C.bool b)) h2)))))) ?_
      refine awp_cond (b := true) rfl (fun _ => ?_) (fun h => by cases h)
      refine awp_seq ?_
      refine awp_regionK (s' := ⟨[(2, .one (.ptr 2 0)), (3, .one (.ptr 3 0)), (4, .one (.bool false))], [(2, [.slc .sh 2 (eL a.1), .slc .sh 5 (eL a.2.1), .int .i64 a.2.2]), (3, [.slc .sh 2 (eL b.1), .slc .sh 5 (eL b.2.1), .int .i64 b.2.2])]⟩) (obs := []) tt_ok [] [2, 3, 4] [2, 3] (by kernel_rfl) (trivial) ?_
      refine awp_ret ?_
      refine post_ret [] (b := .one (.bool false)) (by kernel_rfl) ?_
      exact congrArg (fun b => AV.one (C.bool b)) (show false = eqb a b from by rw [eqb_prod' a b, eqb_prod' a.2 b.2, h1n, h2n]; first | done | rfl | exact (Bool.and_true _).symm | simp)
    · -- (!(eqb a.2.2 b.2.2)) is False
      have h2n : (eqb a.2.2 b.2.2) = true := bnot_f h2
      have hl3 : List.length a.2.1 ≤ 1048576 := sz_len (sz_fst (sz_snd (sa)))
      have hl4 : List.length b.2.1 ≤ 1048576 := sz_len (sz_fst (sz_snd (sb)))
      refine awp_regionK (s' := ⟨[(2, .one (.ptr 2 0)), (3, .one (.ptr 3 0)), (4, .one (.bool false)), (27, .one (.bool ((a.2.1.length : Int) != (b.2.1.length : Int))))], [(2, [.slc .sh 2 (eL a.1), .slc .sh 5 (eL a.2.1), .int .i64 a.2.2]), (3, [.slc .sh 2 (eL b.1), .slc .sh 5 (eL b.2.1), .int .i64 b.2.2])]⟩) (obs := [.call 118 [.one (.slc .sh 2 (eL a.1)), .one (.slc .sh 2 (eL b.1))] (.one (.bool (eqb a.1 b.1))), .eq (.one (.bool (!(eqb a.1 b.1)))) (.one (.bool false)), .eq (.one (.bool (a.2.2 != b.2.2))) (.one (.bool false)), .eq (.one (.int .i64 (((eL a.2.1) : List (List PV)).length : Int))) (.one (.int .i64 (a.2.1.length : Int))), .eq (.one (.int .i64 (((eL b.2.1) : List (List PV)).length : Int))) (.one (.int .i64 (b.2.1.length : Int)))]) tt_ok [(4, .val (.one (.bool (eqb a.1 b.1)))), (5, .val (.one (.bool false))), (11, .val (.one (.bool false))), (16, .val (.one (.int .i64 (a.2.1.length : Int)))), (19, .val (.one (.int .i64 (b.2.1.length : Int))))] [2, 3, 4, 27] [2, 3] (by kernel_rfl) (obc (ob_call (l05Fields_a a.1 b.1 (sz_fst (sa)) (sz_fst (sb)))) (obc (ob_eq (congrArg (fun b => AV.one (C.bool b)) h1)) (obc (ob_eq ((congrArg (fun b => AV.one (C.bool b)) (neq_int a.2.2 b.2.2)).trans (congrArg (fun b => AV.one (C.bool b)) h2))) (obc (ob_eq (by simp [eL_length])) (ob1 (ob_eq (by simp [eL_length]))))))) ?_
      refine awp_cond (b := ((a.2.1.length : Int) != (b.2.1.length : Int))) rfl (fun h5 => ?_) (fun h5 => ?_)
      · -- ((a.2.1.length : Int) != (b.2.1.length : Int)) is True
        have h5d := by simpa using h5
        refine awp_seq ?_
        refine awp_regionK (s' := ⟨[(2, .one (.ptr 2 0)), (3, .one (.ptr 3 0)), (4, .one (.bool false))], [(2, [.slc .sh 2 (eL a.1), .slc .sh 5 (eL a.2.1), .int .i64 a.2.2]), (3, [.slc .sh 2 (eL b.1), .slc .sh 5 (eL b.2.1), .int .i64 b.2.2])]⟩) (obs := []) tt_ok [] [2, 3, 4] [2, 3] (by kernel_rfl) (trivial) ?_
        refine awp_ret ?_
        have he : eqb a.2.1 b.2.1 = false := eqS_len (by omega)
        refine post_ret [] (b := .one (.bool false)) (by kernel_rfl) ?_
        exact congrArg (fun b => AV.one (C.bool b)) (show false = eqb a b from by rw [eqb_prod' a b, eqb_prod' a.2 b.2, h1n, he, h2n]; first | done | rfl | exact (Bool.and_true _).symm | simp)
      · -- ((a.2.1.length : Int) != (b.2.1.length : Int)) is False
        have h5d := by simpa using h5
        refine awp_skip ?_
        refine awp_seq ?_
        refine awp_seq ?_
        refine awp_regionK (s' := ⟨[(2, .one (.ptr 2 0)), (3, .one (.ptr 3 0)), (4, .one (.bool false)), (5, .one (.int .i64 0))], [(2, [.slc .sh 2 (eL a.1), .slc .sh 5 (eL a.2.1), .int .i64 a.2.2]), (3, [.slc .sh 2 (eL b.1), .slc .sh 5 (eL b.2.1), .int .i64 b.2.2])]⟩) (obs := []) tt_ok [] [2, 3, 4, 5] [2, 3] (by kernel_rfl) (trivial) ?_
        refine awp_block ?_
        refine awp_forI (a.2.1.length) (fun k : Nat => (⟨[(2, .one (.ptr 2 0)), (3, .one (.ptr 3 0)), (4, .one (.bool false)), (5, .one (.int .i64 ((k : Nat) : Int)))], [(2, [.slc .sh 2 (eL a.1), .slc .sh 5 (eL a.2.1), .int .i64 a.2.2]), (3, [.slc .sh 2 (eL b.1), .slc .sh 5 (eL b.2.1), .int .i64 b.2.2])]⟩ : St)) (fun k : Nat => List.take k a.2.1 = List.take k b.2.1) (weak_to [] [2, 3, 4, 5] [2, 3] (by kernel_rfl)) (by simp) (fun k hk hinv => ?_) (fun hinv => ?_)
        · -- round
          refine awp_seq ?_
          refine awp_seq ?_
          refine awp_regionK (s' := ⟨[(2, .one (.ptr 2 0)), (3, .one (.ptr 3 0)), (4, .one (.bool false)), (5, .one (.int .i64 ((k : Nat) : Int))), (32, .one (.bool true))], [(2, [.slc .sh 2 (eL a.1), .slc .sh 5 (eL a.2.1), .int .i64 a.2.2]), (3, [.slc .sh 2 (eL b.1), .slc .sh 5 (eL b.2.1), .int .i64 b.2.2])]⟩) (obs := [.eq (.one (.int .i64 (((eL a.2.1) : List (List PV)).length : Int))) (.one (.int .i64 (a.2.1.length : Int))), .eq (.one (.bool (decide (((k : Nat) : Int) < (a.2.1.length : Int))))) (.one (.bool true))]) tt_ok [(3, .val (.one (.int .i64 (a.2.1.length : Int)))), (4, .val (.one (.bool true)))] [2, 3, 4, 5, 32] [2, 3] (by kernel_rfl) (obc (ob_eq (by simp [eL_length])) (ob1 (ob_eq (congrArg (fun b => AV.one (C.bool b)) (decide_eq_true (by omega)))))) ?_
          refine awp_cond (b := true) rfl (fun _ => ?_) (fun h => by cases h)
          refine awp_skip ?_
          refine awp_seq ?_
          refine awp_block ?_
          refine awp_seq ?_
          obtain ⟨x6, hx7⟩ := get_some (l := a.2.1) (i := k) (by omega)
          obtain ⟨x8, hx9⟩ := get_some (l := b.2.1) (i := k) (by omega)
          refine awp_draw (s' := ⟨[(2, .one (.ptr 2 0)), (3, .one (.ptr 3 0)), (4, .one (.bool false)), (5, .one (.int .i64 ((k : Nat) : Int))), (46, .one (.bool (!(eqb x6 x8))))], [(2, [.slc .sh 2 (eL a.1), .slc .sh 5 (eL a.2.1), .int .i64 a.2.2]), (3, [.slc .sh 2 (eL b.1), .slc .sh 5 (eL b.2.1), .int .i64 b.2.2])]⟩) (obs := [.elem (eL a.2.1) ((k : Nat) : Int) [.int .i64 x6.1, .int .i64 x6.2.1, .bool x6.2.2.1, .int .i64 x6.2.2.2.1, .slc 4 (eL x6.2.2.2.2)], .elem (eL b.2.1) ((k : Nat) : Int) [.int .i64 x8.1, .int .i64 x8.2.1, .bool x8.2.2.1, .int .i64 x8.2.2.2.1, .slc 4 (eL x8.2.2.2.2)], .call 119 [.agg [.int .i64 x6.1, .int .i64 x6.2.1, .bool x6.2.2.1, .int .i64 x6.2.2.2.1, .slc .sh 4 (eL x6.2.2.2.2)], .agg [.int .i64 x8.1, .int .i64 x8.2.1, .bool x8.2.2.1, .int .i64 x8.2.2.2.1, .slc .sh 4 (eL x8.2.2.2.2)]] (.one (.bool (eqb x6 x8)))]) tt_ok tt_mx [(3, .row [.int .i64 x6.1, .int .i64 x6.2.1, .bool x6.2.2.1, .int .i64 x6.2.2.2.1, .slc 4 (eL x6.2.2.2.2)]), (8, .row [.int .i64 x8.1, .int .i64 x8.2.1, .bool x8.2.2.1, .int .i64 x8.2.2.2.1, .slc 4 (eL x8.2.2.2.2)]), (10, .val (.one (.bool (eqb x6 x8))))] [2, 3, 4, 5, 46] [2, 3] (by kernel_rfl) (obc (ob_elem (⟨by omega, eL_get (by simpa using hx7)⟩)) (obc (ob_elem (⟨by omega, eL_get (by simpa using hx9)⟩)) (ob1 (ob_call (specEqualFiles_a x6 x8 (sz_get hx7 (sz_fst (sz_snd (sa)))) (sz_get hx9 (sz_fst (sz_snd (sb))))))))) ?_
          refine awp_cond (b := (!(eqb x6 x8))) rfl (fun h10 => ?_) (fun h10 => ?_)
          · -- (!(eqb x6 x8)) is True
            have h10n : (eqb x6 x8) = false := bnot_t h10
            refine awp_seq ?_
            refine awp_regionK (s' := ⟨[(2, .one (.ptr 2 0)), (3, .one (.ptr 3 0)), (4, .one (.bool false)), (5, .one (.int .i64 ((k : Nat) : Int)))], [(2, [.slc .sh 2 (eL a.1), .slc .sh 5 (eL a.2.1), .int .i64 a.2.2]), (3, [.slc .sh 2 (eL b.1), .slc .sh 5 (eL b.2.1), .int .i64 b.2.2])]⟩) (obs := []) tt_ok [] [2, 3, 4, 5] [2, 3] (by kernel_rfl) (trivial) ?_
            refine awp_ret ?_
            have he : eqb a.2.1 b.2.1 = false := eqS_no hx7 hx9 (show eqb x6 x8 = false from h10n)
            refine post_ret [] (b := .one (.bool false)) (by kernel_rfl) ?_
            exact congrArg (fun b => AV.one (C.bool b)) (show false = eqb a b from by rw [eqb_prod' a b, eqb_prod' a.2 b.2, h1n, he, h2n]; first | done | rfl | exact (Bool.and_true _).symm | simp)
          · -- (!(eqb x6 x8)) is False
            have h10n : (eqb x6 x8) = true := bnot_f h10
            refine awp_skip ?_
            refine awp_regionK (s' := ⟨[(2, .one (.ptr 2 0)), (3, .one (.ptr 3 0)), (4, .one (.bool false)), (5, .one (.int .i64 (((k : Nat) : Int) + 1)))], [(2, [.slc .sh 2 (eL a.1), .slc .sh 5 (eL a.2.1), .int .i64 a.2.2]), (3, [.slc .sh 2 (eL b.1), .slc .sh 5 (eL b.2.1), .int .i64 b.2.2])]⟩) (obs := [.eq (.one (.int .i64 (IntKind.i64.wrap (((k : Nat) : Int) + 1)))) (.one (.int .i64 (((k : Nat) : Int) + 1)))]) tt_ok [(1, .val (.one (.int .i64 (((k : Nat) : Int) + 1))))] [2, 3, 4, 5] [2, 3] (by kernel_rfl) (ob1 (ob_eq (congrArg (fun n => AV.one (.int .i64 n)) (IntWalk.i64_in _ (by omega))))) ?_
            exact ⟨weak_to [] [2, 3, 4, 5] [2, 3] (by kernel_rfl), (eqS_step hinv hx7 hx9 (show eqb x6 x8 = true from h10n)).out⟩
        · -- exit
          refine awp_seq ?_
          refine awp_seq ?_
          refine awp_regionK (s' := ⟨[(2, .one (.ptr 2 0)), (3, .one (.ptr 3 0)), (4, .one (.bool false)), (5, .one (.int .i64 ((a.2.1.length : Nat) : Int))), (32, .one (.bool false))], [(2, [.slc .sh 2 (eL a.1), .slc .sh 5 (eL a.2.1), .int .i64 a.2.2]), (3, [.slc .sh 2 (eL b.1), .slc .sh 5 (eL b.2.1), .int .i64 b.2.2])]⟩) (obs := [.eq (.one (.int .i64 (((eL a.2.1) : List (List PV)).length : Int))) (.one (.int .i64 (a.2.1.length : Int))), .eq (.one (.bool (decide (((a.2.1.length : Nat) : Int) < (a.2.1.length : Int))))) (.one (.bool false))]) tt_ok [(3, .val (.one (.int .i64 (a.2.1.length : Int)))), (4, .val (.one (.bool false)))] [2, 3, 4, 5, 32] [2, 3] (by kernel_rfl) (obc (ob_eq (by simp [eL_length])) (ob1 (ob_eq (congrArg (fun b => AV.one (C.bool b)) (decide_eq_false (by omega)))))) ?_
          refine awp_cond (b := false) rfl (fun h => by cases h) (fun _ => ?_)
          refine awp_exit ?_
          refine awp_seq ?_
          refine awp_regionK (s' := ⟨[(4, .one (.bool true))], []⟩) (obs := []) tt_ok [] [4] [] (by kernel_rfl) (trivial) ?_
          refine awp_ret ?_
          have he : eqb a.2.1 b.2.1 = true := eqS_end hinv (by omega)
          refine post_ret [] (b := .one (.bool true)) (by kernel_rfl) ?_
          exact congrArg (fun b => AV.one (C.bool b)) (show true = eqb a b from by rw [eqb_prod' a b, eqb_prod' a.2 b.2, h1n, he, h2n]; first | done | rfl | exact (Bool.and_true _).symm | simp)
theorem specEqualQueries_a (a : (List NodeD)) (b : (List NodeD)) (sa : GoD.size a ≤ 1048576) (sb : GoD.size b ≤ 1048576)  : ACalls Try.prog 120 [.one (.slc .sh 7 (eL a)), .one (.slc .sh 7 (eL b))] (.one (.bool (eqb a b))) := by
  refine acalls_of (tt := tt) tt_ok Try.func120 (fn := Try.f120) rfl (by unfold FnOk; kernel_rfl) (Nat.le_of_ble_eq_true rfl) fun w0 F0 => ?_
  refine awp_seq ?_
  refine awp_regionK (s' := ⟨[(0, .one (.slc .sh 7 (eL a))), (1, .one (.slc .sh 7 (eL b))), (4, .one (.bool false))], []⟩) (obs := []) tt_ok [] [0, 1, 4] [] (by kernel_rfl) (trivial) ?_
  refine awp_seq ?_
  refine awp_seq ?_
  have hl1 : List.length a ≤ 1048576 := sz_len (sa)
  have hl2 : List.length b ≤ 1048576 := sz_len (sb)
  refine awp_regionK (s' := ⟨[(0, .one (.slc .sh 7 (eL a))), (1, .one (.slc .sh 7 (eL b))), (4, .one (.bool false)), (10, .one (.bool ((a.length : Int) != (b.length : Int))))], []⟩) (obs := [.eq (.one (.int .i64 (((eL a) : List (List PV)).length : Int))) (.one (.int .i64 (a.length : Int))), .eq (.one (.int .i64 (((eL b) : List (List PV)).length : Int))) (.one (.int .i64 (b.length : Int)))]) tt_ok [(1, .val (.one (.int .i64 (a.length : Int)))), (3, .val (.one (.int .i64 (b.length : Int))))] [0, 1, 4, 10] [] (by kernel_rfl) (obc (ob_eq (by simp [eL_length])) (ob1 (ob_eq (by simp [eL_length])))) ?_
  refine awp_cond (b := ((a.length : Int) != (b.length : Int))) rfl (fun h3 => ?_) (fun h3 => ?_)
  · -- ((a.length : Int) != (b.length : Int)) is True
    have h3d := by simpa using h3
    refine awp_seq ?_
    refine awp_regionK (s' := ⟨[(0, .one (.slc .sh 7 (eL a))), (1, .one (.slc .sh 7 (eL b))), (4, .one (.bool false))], []⟩) (obs := []) tt_ok [] [0, 1, 4] [] (by kernel_rfl) (trivial) ?_
    refine awp_ret ?_
    have he : eqb a b = false := eqS_len (by omega)
    refine post_ret [] (b := .one (.bool false)) (by kernel_rfl) ?_
    exact congrArg (fun b => AV.one (C.bool b)) he.symm
  · -- ((a.length : Int) != (b.length : Int)) is False
    have h3d := by simpa using h3
    refine awp_skip ?_
    refine awp_seq ?_
    refine awp_seq ?_
    refine awp_regionK (s' := ⟨[(0, .one (.slc .sh 7 (eL a))), (1, .one (.slc .sh 7 (eL b))), (4, .one (.bool false)), (5, .one (.int .i64 0))], []⟩) (obs := []) tt_ok [] [0, 1, 4, 5] [] (by kernel_rfl) (trivial) ?_
    refine awp_block ?_
    refine awp_forI (a.length) (fun k : Nat => (⟨[(0, .one (.slc .sh 7 (eL a))), (1, .one (.slc .sh 7 (eL b))), (4, .one (.bool false)), (5, .one (.int .i64 ((k : Nat) : Int)))], []⟩ : St)) (fun k : Nat => List.take k a = List.take k b) (weak_to [] [0, 1, 4, 5] [] (by kernel_rfl)) (by simp) (fun k hk hinv => ?_) (fun hinv => ?_)
    · -- round
      refine awp_seq ?_
      refine awp_seq ?_
      refine awp_regionK (s' := ⟨[(0, .one (.slc .sh 7 (eL a))), (1, .one (.slc .sh 7 (eL b))), (4, .one (.bool false)), (5, .one (.int .i64 ((k : Nat) : Int))), (14, .one (.bool true))], []⟩) (obs := [.eq (.one (.int .i64 (((eL a) : List (List PV)).length : Int))) (.one (.int .i64 (a.length : Int))), .eq (.one (.bool (decide (((k : Nat) : Int) < (a.length : Int))))) (.one (.bool true))]) tt_ok [(2, .val (.one (.int .i64 (a.length : Int)))), (3, .val (.one (.bool true)))] [0, 1, 4, 5, 14] [] (by kernel_rfl) (obc (ob_eq (by simp [eL_length])) (ob1 (ob_eq (congrArg (fun b => AV.one (C.bool b)) (decide_eq_true (by omega)))))) ?_
      refine awp_cond (b := true) rfl (fun _ => ?_) (fun h => by cases h)
      refine awp_skip ?_
      refine awp_seq ?_
      refine awp_block ?_
      refine awp_seq ?_
      obtain ⟨x4, hx5⟩ := get_some (l := a) (i := k) (by omega)
      obtain ⟨x6, hx7⟩ := get_some (l := b) (i := k) (by omega)
      refine awp_draw (s' := ⟨[(0, .one (.slc .sh 7 (eL a))), (1, .one (.slc .sh 7 (eL b))), (4, .one (.bool false)), (5, .one (.int .i64 ((k : Nat) : Int))), (25, .one (.bool (!(eqb x4 x6))))], []⟩) (obs := [.elem (eL a) ((k : Nat) : Int) [.int .i64 x4.1, .int .i64 x4.2.1, .int .i64 x4.2.2.1, .str x4.2.2.2.1, .int .i64 x4.2.2.2.2.1, .int .i64 x4.2.2.2.2.2.1, .str x4.2.2.2.2.2.2], .elem (eL b) ((k : Nat) : Int) [.int .i64 x6.1, .int .i64 x6.2.1, .int .i64 x6.2.2.1, .str x6.2.2.2.1, .int .i64 x6.2.2.2.2.1, .int .i64 x6.2.2.2.2.2.1, .str x6.2.2.2.2.2.2], .eq (.one (.bool (!((x4.1 == x6.1) && ((x4.2.1 == x6.2.1) && ((x4.2.2.1 == x6.2.2.1) && ((x4.2.2.2.1.toList == x6.2.2.2.1.toList) && ((x4.2.2.2.2.1 == x6.2.2.2.2.1) && ((x4.2.2.2.2.2.1 == x6.2.2.2.2.2.1) && ((x4.2.2.2.2.2.2.toList == x6.2.2.2.2.2.2.toList) && true)))))))))) (.one (.bool (!(eqb x4 x6))))]) tt_ok tt_mx [(2, .row [.int .i64 x4.1, .int .i64 x4.2.1, .int .i64 x4.2.2.1, .str x4.2.2.2.1, .int .i64 x4.2.2.2.2.1, .int .i64 x4.2.2.2.2.2.1, .str x4.2.2.2.2.2.2]), (6, .row [.int .i64 x6.1, .int .i64 x6.2.1, .int .i64 x6.2.2.1, .str x6.2.2.2.1, .int .i64 x6.2.2.2.2.1, .int .i64 x6.2.2.2.2.2.1, .str x6.2.2.2.2.2.2]), (8, .val (.one (.bool (!(eqb x4 x6)))))] [0, 1, 4, 5, 25] [] (by kernel_rfl) (obc (ob_elem (⟨by omega, eL_get (by simpa using hx5)⟩)) (obc (ob_elem (⟨by omega, eL_get (by simpa using hx7)⟩)) (ob1 (ob_eq (by simp only [eqb_prod', eqb_int, ← eqb_str, Bool.and_true]))))) ?_
      refine awp_cond (b := (!(eqb x4 x6))) rfl (fun h8 => ?_) (fun h8 => ?_)
      · -- (!(eqb x4 x6)) is True
        have h8n : (eqb x4 x6) = false := bnot_t h8
        refine awp_seq ?_
        refine awp_regionK (s' := ⟨[(0, .one (.slc .sh 7 (eL a))), (1, .one (.slc .sh 7 (eL b))), (4, .one (.bool false)), (5, .one (.int .i64 ((k : Nat) : Int)))], []⟩) (obs := []) tt_ok [] [0, 1, 4, 5] [] (by kernel_rfl) (trivial) ?_
        refine awp_ret ?_
        have he : eqb a b = false := eqS_no hx5 hx7 (show eqb x4 x6 = false from h8n)
        refine post_ret [] (b := .one (.bool false)) (by kernel_rfl) ?_
        exact congrArg (fun b => AV.one (C.bool b)) he.symm
      · -- (!(eqb x4 x6)) is False
        have h8n : (eqb x4 x6) = true := bnot_f h8
        refine awp_skip ?_
        refine awp_regionK (s' := ⟨[(0, .one (.slc .sh 7 (eL a))), (1, .one (.slc .sh 7 (eL b))), (4, .one (.bool false)), (5, .one (.int .i64 (((k : Nat) : Int) + 1)))], []⟩) (obs := [.eq (.one (.int .i64 (IntKind.i64.wrap (((k : Nat) : Int) + 1)))) (.one (.int .i64 (((k : Nat) : Int) + 1)))]) tt_ok [(1, .val (.one (.int .i64 (((k : Nat) : Int) + 1))))] [0, 1, 4, 5] [] (by kernel_rfl) (ob1 (ob_eq (congrArg (fun n => AV.one (.int .i64 n)) (IntWalk.i64_in _ (by omega))))) ?_
        exact ⟨weak_to [] [0, 1, 4, 5] [] (by kernel_rfl), (eqS_step hinv hx5 hx7 (show eqb x4 x6 = true from h8n)).out⟩
    · -- exit
      refine awp_seq ?_
      refine awp_seq ?_
      refine awp_regionK (s' := ⟨[(0, .one (.slc .sh 7 (eL a))), (1, .one (.slc .sh 7 (eL b))), (4, .one (.bool false)), (5, .one (.int .i64 ((a.length : Nat) : Int))), (14, .one (.bool false))], []⟩) (obs := [.eq (.one (.int .i64 (((eL a) : List (List PV)).length : Int))) (.one (.int .i64 (a.length : Int))), .eq (.one (.bool (decide (((a.length : Nat) : Int) < (a.length : Int))))) (.one (.bool false))]) tt_ok [(2, .val (.one (.int .i64 (a.length : Int)))), (3, .val (.one (.bool false)))] [0, 1, 4, 5, 14] [] (by kernel_rfl) (obc (ob_eq (by simp [eL_length])) (ob1 (ob_eq (congrArg (fun b => AV.one (C.bool b)) (decide_eq_false (by omega)))))) ?_
      refine awp_cond (b := false) rfl (fun h => by cases h) (fun _ => ?_)
      refine awp_exit ?_
      refine awp_seq ?_
      refine awp_regionK (s' := ⟨[(4, .one (.bool true))], []⟩) (obs := []) tt_ok [] [4] [] (by kernel_rfl) (trivial) ?_
      refine awp_ret ?_
      have he : eqb a b = true := eqS_end hinv (by omega)
      refine post_ret [] (b := .one (.bool true)) (by kernel_rfl) ?_
      exact congrArg (fun b => AV.one (C.bool b)) he.symm
theorem specEqualDirs_a (a : (List DirD)) (b : (List DirD)) (sa : GoD.size a ≤ 1048576) (sb : GoD.size b ≤ 1048576)  : ACalls Try.prog 77 [.one (.slc .sh 2 (eL a)), .one (.slc .sh 2 (eL b))] (.one (.bool (eqb a b))) := by
  refine acalls_of (tt := tt) tt_ok Try.func77 (fn := Try.f77) rfl (by unfold FnOk; kernel_rfl) (Nat.le_of_ble_eq_true rfl) fun w0 F0 => ?_
  refine awp_seq ?_
  refine awp_regionK (s' := ⟨[(0, .one (.slc .sh 2 (eL a))), (1, .one (.slc .sh 2 (eL b))), (4, .one (.bool false))], []⟩) (obs := []) tt_ok [] [0, 1, 4] [] (by kernel_rfl) (trivial) ?_
  refine awp_seq ?_
  refine awp_seq ?_
  have hl1 : List.length a ≤ 1048576 := sz_len (sa)
  have hl2 : List.length b ≤ 1048576 := sz_len (sb)
  refine awp_regionK (s' := ⟨[(0, .one (.slc .sh 2 (eL a))), (1, .one (.slc .sh 2 (eL b))), (4, .one (.bool false)), (10, .one (.bool ((a.length : Int) != (b.length : Int))))], []⟩) (obs := [.eq (.one (.int .i64 (((eL a) : List (List PV)).length : Int))) (.one (.int .i64 (a.length : Int))), .eq (.one (.int .i64 (((eL b) : List (List PV)).length : Int))) (.one (.int .i64 (b.length : Int)))]) tt_ok [(1, .val (.one (.int .i64 (a.length : Int)))), (3, .val (.one (.int .i64 (b.length : Int))))] [0, 1, 4, 10] [] (by kernel_rfl) (obc (ob_eq (by simp [eL_length])) (ob1 (ob_eq (by simp [eL_length])))) ?_
  refine awp_cond (b := ((a.length : Int) != (b.length : Int))) rfl (fun h3 => ?_) (fun h3 => ?_)
  · -- ((a.length : Int) != (b.length : Int)) is True
    have h3d := by simpa using h3
    refine awp_seq ?_
    refine awp_regionK (s' := ⟨[(0, .one (.slc .sh 2 (eL a))), (1, .one (.slc .sh 2 (eL b))), (4, .one (.bool false))], []⟩) (obs := []) tt_ok [] [0, 1, 4] [] (by kernel_rfl) (trivial) ?_
    refine awp_ret ?_
    have he : eqb a b = false := eqS_len (by omega)
    refine post_ret [] (b := .one (.bool false)) (by kernel_rfl) ?_
    exact congrArg (fun b => AV.one (C.bool b)) he.symm
  · -- ((a.length : Int) != (b.length : Int)) is False
    have h3d := by simpa using h3
    refine awp_skip ?_
    refine awp_seq ?_
    refine awp_seq ?_
    refine awp_regionK (s' := ⟨[(0, .one (.slc .sh 2 (eL a))), (1, .one (.slc .sh 2 (eL b))), (4, .one (.bool false)), (5, .one (.int .i64 0))], []⟩) (obs := []) tt_ok [] [0, 1, 4, 5] [] (by kernel_rfl) (trivial) ?_
    refine awp_block ?_
    refine awp_forI (a.length) (fun k : Nat => (⟨[(0, .one (.slc .sh 2 (eL a))), (1, .one (.slc .sh 2 (eL b))), (4, .one (.bool false)), (5, .one (.int .i64 ((k : Nat) : Int)))], []⟩ : St)) (fun k : Nat => List.take k a = List.take k b) (weak_to [] [0, 1, 4, 5] [] (by kernel_rfl)) (by simp) (fun k hk hinv => ?_) (fun hinv => ?_)
    · -- round
      refine awp_seq ?_
      refine awp_seq ?_
      refine awp_regionK (s' := ⟨[(0, .one (.slc .sh 2 (eL a))), (1, .one (.slc .sh 2 (eL b))), (4, .one (.bool false)), (5, .one (.int .i64 ((k : Nat) : Int))), (14, .one (.bool true))], []⟩) (obs := [.eq (.one (.int .i64 (((eL a) : List (List PV)).length : Int))) (.one (.int .i64 (a.length : Int))), .eq (.one (.bool (decide (((k : Nat) : Int) < (a.length : Int))))) (.one (.bool true))]) tt_ok [(2, .val (.one (.int .i64 (a.length : Int)))), (3, .val (.one (.bool true)))] [0, 1, 4, 5, 14] [] (by kernel_rfl) (obc (ob_eq (by simp [eL_length])) (ob1 (ob_eq (congrArg (fun b => AV.one (C.bool b)) (decide_eq_true (by omega)))))) ?_
      refine awp_cond (b := true) rfl (fun _ => ?_) (fun h => by cases h)
      refine awp_skip ?_
      refine awp_seq ?_
      refine awp_block ?_
      refine awp_seq ?_
      obtain ⟨x4, hx5⟩ := get_some (l := a) (i := k) (by omega)
      obtain ⟨x6, hx7⟩ := get_some (l := b) (i := k) (by omega)
      rcases Bool.eq_false_or_eq_true (!(eqb x4.1 x6.1)) with h8 | h8
      · -- (!(eqb x4.1 x6.1)) is True
        have h8n : (eqb x4.1 x6.1) = false := bnot_t h8
        refine awp_draw (s' := ⟨[(0, .one (.slc .sh 2 (eL a))), (1, .one (.slc .sh 2 (eL b))), (4, .one (.bool false)), (5, .one (.int .i64 ((k : Nat) : Int))), (41, .one (.bool true))], []⟩) (obs := [.elem (eL a) ((k : Nat) : Int) [.str x4.1, .slc 7 (eL x4.2)], .elem (eL b) ((k : Nat) : Int) [.str x6.1, .slc 7 (eL x6.2)], .eq (.one (.bool (!(x4.1.toList == x6.1.toList)))) (.one (.bool true))]) tt_ok tt_mx [(2, .row [.str x4.1, .slc 7 (eL x4.2)]), (7, .row [.str x6.1, .slc 7 (eL x6.2)]), (10, .val (.one (.bool true)))] [0, 1, 4, 5, 41] [] (by kernel_rfl) (obc (ob_elem (⟨by omega, eL_get (by simpa using hx5)⟩)) (obc (ob_elem (⟨by omega, eL_get (by simpa using hx7)⟩)) (ob1 (ob_eq ((congrArg (fun b => AV.one (C.bool b)) (neq_str x4.1 x6.1)).trans (congrArg (fun b => AV.one (C.bool b)) h8)))))) ?_
        refine awp_cond (b := true) rfl (fun _ => ?_) (fun h => by cases h)
        refine awp_seq ?_
        refine awp_regionK (s' := ⟨[(0, .one (.slc .sh 2 (eL a))), (1, .one (.slc .sh 2 (eL b))), (4, .one (.bool false)), (5, .one (.int .i64 ((k : Nat) : Int)))], []⟩) (obs := []) tt_ok [] [0, 1, 4, 5] [] (by kernel_rfl) (trivial) ?_
        refine awp_ret ?_
        have he : eqb a b = false := eqS_no hx5 hx7 (show eqb x4 x6 = false from by rw [eqb_prod' x4 x6, h8n]; first | done | rfl | exact (Bool.and_true _).symm | simp)
        refine post_ret [] (b := .one (.bool false)) (by kernel_rfl) ?_
        exact congrArg (fun b => AV.one (C.bool b)) he.symm
      · -- (!(eqb x4.1 x6.1)) is False
        have h8n : (eqb x4.1 x6.1) = true := bnot_f h8
        refine awp_draw (s' := ⟨[(0, .one (.slc .sh 2 (eL a))), (1, .one (.slc .sh 2 (eL b))), (4, .one (.bool false)), (5, .one (.int .i64 ((k : Nat) : Int))), (41, .one (.bool (!(eqb x4.2 x6.2))))], []⟩) (obs := [.elem (eL a) ((k : Nat) : Int) [.str x4.1, .slc 7 (eL x4.2)], .elem (eL b) ((k : Nat) : Int) [.str x6.1, .slc 7 (eL x6.2)], .eq (.one (.bool (!(x4.1.toList == x6.1.toList)))) (.one (.bool false)), .elem (eL a) ((k : Nat) : Int) [.str x4.1, .slc 7 (eL x4.2)], .elem (eL b) ((k : Nat) : Int) [.str x6.1, .slc 7 (eL x6.2)], .call 120 [.one (.slc .sh 7 (eL x4.2)), .one (.slc .sh 7 (eL x6.2))] (.one (.bool (eqb x4.2 x6.2)))]) tt_ok tt_mx [(2, .row [.str x4.1, .slc 7 (eL x4.2)]), (7, .row [.str x6.1, .slc 7 (eL x6.2)]), (10, .val (.one (.bool false))), (14, .row [.str x4.1, .slc 7 (eL x4.2)]), (19, .row [.str x6.1, .slc 7 (eL x6.2)]), (22, .val (.one (.bool (eqb x4.2 x6.2))))] [0, 1, 4, 5, 41] [] (by kernel_rfl) (obc (ob_elem (⟨by omega, eL_get (by simpa using hx5)⟩)) (obc (ob_elem (⟨by omega, eL_get (by simpa using hx7)⟩)) (obc (ob_eq ((congrArg (fun b => AV.one (C.bool b)) (neq_str x4.1 x6.1)).trans (congrArg (fun b => AV.one (C.bool b)) h8))) (obc (ob_elem (⟨by omega, eL_get (by simpa using hx5)⟩)) (obc (ob_elem (⟨by omega, eL_get (by simpa using hx7)⟩)) (ob1 (ob_call (specEqualQueries_a x4.2 x6.2 (sz_snd (sz_get hx5 (sa))) (sz_snd (sz_get hx7 (sb))))))))))) ?_
        refine awp_cond (b := (!(eqb x4.2 x6.2))) rfl (fun h9 => ?_) (fun h9 => ?_)
        · -- (!(eqb x4.2 x6.2)) is True
          have h9n : (eqb x4.2 x6.2) = false := bnot_t h9
          refine awp_seq ?_
          refine awp_regionK (s' := ⟨[(0, .one (.slc .sh 2 (eL a))), (1, .one (.slc .sh 2 (eL b))), (4, .one (.bool false)), (5, .one (.int .i64 ((k : Nat) : Int)))], []⟩) (obs := []) tt_ok [] [0, 1, 4, 5] [] (by kernel_rfl) (trivial) ?_
          refine awp_ret ?_
          have he : eqb a b = false := eqS_no hx5 hx7 (show eqb x4 x6 = false from by rw [eqb_prod' x4 x6, h8n, h9n]; first | done | rfl | exact (Bool.and_true _).symm | simp)
          refine post_ret [] (b := .one (.bool false)) (by kernel_rfl) ?_
          exact congrArg (fun b => AV.one (C.bool b)) he.symm
        · -- (!(eqb x4.2 x6.2)) is False
          have h9n : (eqb x4.2 x6.2) = true := bnot_f h9
          refine awp_skip ?_
          refine awp_regionK (s' := ⟨[(0, .one (.slc .sh 2 (eL a))), (1, .one (.slc .sh 2 (eL b))), (4, .one (.bool false)), (5, .one (.int .i64 (((k : Nat) : Int) + 1)))], []⟩) (obs := [.eq (.one (.int .i64 (IntKind.i64.wrap (((k : Nat) : Int) + 1)))) (.one (.int .i64 (((k : Nat) : Int) + 1)))]) tt_ok [(1, .val (.one (.int .i64 (((k : Nat) : Int) + 1))))] [0, 1, 4, 5] [] (by kernel_rfl) (ob1 (ob_eq (congrArg (fun n => AV.one (.int .i64 n)) (IntWalk.i64_in _ (by omega))))) ?_
          exact ⟨weak_to [] [0, 1, 4, 5] [] (by kernel_rfl), (eqS_step hinv hx5 hx7 (show eqb x4 x6 = true from by rw [eqb_prod' x4 x6, h8n, h9n]; first | done | rfl | exact (Bool.and_true _).symm | simp)).out⟩
    · -- exit
      refine awp_seq ?_
      refine awp_seq ?_
      refine awp_regionK (s' := ⟨[(0, .one (.slc .sh 2 (eL a))), (1, .one (.slc .sh 2 (eL b))), (4, .one (.bool false)), (5, .one (.int .i64 ((a.length : Nat) : Int))), (14, .one (.bool false))], []⟩) (obs := [.eq (.one (.int .i64 (((eL a) : List (List PV)).length : Int))) (.one (.int .i64 (a.length : Int))), .eq (.one (.bool (decide (((a.length : Nat) : Int) < (a.length : Int))))) (.one (.bool false))]) tt_ok [(2, .val (.one (.int .i64 (a.length : Int)))), (3, .val (.one (.bool false)))] [0, 1, 4, 5, 14] [] (by kernel_rfl) (obc (ob_eq (by simp [eL_length])) (ob1 (ob_eq (congrArg (fun b => AV.one (C.bool b)) (decide_eq_false (by omega)))))) ?_
      refine awp_cond (b := false) rfl (fun h => by cases h) (fun _ => ?_)
      refine awp_exit ?_
      refine awp_seq ?_
      refine awp_regionK (s' := ⟨[(4, .one (.bool true))], []⟩) (obs := []) tt_ok [] [4] [] (by kernel_rfl) (trivial) ?_
      refine awp_ret ?_
      have he : eqb a b = true := eqS_end hinv (by omega)
      refine post_ret [] (b := .one (.bool true)) (by kernel_rfl) ?_
      exact congrArg (fun b => AV.one (C.bool b)) he.symm
theorem specEqualSnapshots_a (a : SnapshotD) (b : SnapshotD) (sa : GoD.size a ≤ 1048576) (sb : GoD.size b ≤ 1048576)  : ACalls Try.prog 37 [.agg [.slc .sh 2 (eL a.1.1), .slc .sh 5 (eL a.1.2.1), .int .i64 a.1.2.2, .slc .sh 2 (eL a.2)], .agg [.slc .sh 2 (eL b.1.1), .slc .sh 5 (eL b.1.2.1), .int .i64 b.1.2.2, .slc .sh 2 (eL b.2)]] (.one (.bool (eqb a b))) := by
  refine acalls_of (tt := tt) tt_ok Try.func37 (fn := Try.f37) rfl (by unfold FnOk; kernel_rfl) (Nat.le_of_ble_eq_true rfl) fun w0 F0 => ?_
  refine awp_seq ?_
  refine awp_regionK (s' := ⟨[(2, .one (.ptr 2 0)), (3, .one (.ptr 3 0)), (4, .one (.bool false))], [(2, [.slc .sh 2 (eL a.1.1), .slc .sh 5 (eL a.1.2.1), .int .i64 a.1.2.2, .slc .sh 2 (eL a.2)]), (3, [.slc .sh 2 (eL b.1.1), .slc .sh 5 (eL b.1.2.1), .int .i64 b.1.2.2, .slc .sh 2 (eL b.2)])]⟩) (obs := []) tt_ok [] [2, 3, 4] [2, 3] (by kernel_rfl) (trivial) ?_
  refine awp_seq ?_
  rcases Bool.eq_false_or_eq_true (eqb a.1 b.1) with h1 | h1
  · -- eqb a.1 b.1 is True
    refine awp_regionK (s' := ⟨[(4, .one (.bool (eqb a.2 b.2)))], []⟩) (obs := [.call 76 [.agg [.slc .sh 2 (eL a.1.1), .slc .sh 5 (eL a.1.2.1), .int .i64 a.1.2.2], .agg [.slc .sh 2 (eL b.1.1), .slc .sh 5 (eL b.1.2.1), .int .i64 b.1.2.2]] (.one (.bool (eqb a.1 b.1))), .eq (.one (.bool (eqb a.1 b.1))) (.one (.bool true)), .call 77 [.one (.slc .sh 2 (eL a.2)), .one (.slc .sh 2 (eL b.2))] (.one (.bool (eqb a.2 b.2)))]) tt_ok [(4, .val (.one (.bool (eqb a.1 b.1)))), (5, .val (.one (.bool true))), (10, .val (.one (.bool (eqb a.2 b.2))))] [4] [] (by kernel_rfl) (obc (ob_call (specEqualStores_a a.1 b.1 (sz_fst (sa)) (sz_fst (sb)))) (obc (ob_eq (congrArg (fun b => AV.one (C.bool b)) h1)) (ob1 (ob_call (specEqualDirs_a a.2 b.2 (sz_snd (sa)) (sz_snd (sb))))))) ?_
    refine awp_ret ?_
    refine post_ret [] (b := .one (.bool (eqb a.2 b.2))) (by kernel_rfl) ?_
    exact congrArg (fun b => AV.one (C.bool b)) (show eqb a.2 b.2 = eqb a b from by rw [eqb_prod' a b, h1]; first | done | rfl | exact (Bool.and_true _).symm | simp)
  · -- eqb a.1 b.1 is False
    refine awp_regionK (s' := ⟨[(4, .one (.bool false))], []⟩) (obs := [.call 76 [.agg [.slc .sh 2 (eL a.1.1), .slc .sh 5 (eL a.1.2.1), .int .i64 a.1.2.2], .agg [.slc .sh 2 (eL b.1.1), .slc .sh 5 (eL b.1.2.1), .int .i64 b.1.2.2]] (.one (.bool (eqb a.1 b.1))), .eq (.one (.bool (eqb a.1 b.1))) (.one (.bool false))]) tt_ok [(4, .val (.one (.bool (eqb a.1 b.1)))), (5, .val (.one (.bool false)))] [4] [] (by kernel_rfl) (obc (ob_call (specEqualStores_a a.1 b.1 (sz_fst (sa)) (sz_fst (sb)))) (ob1 (ob_eq (congrArg (fun b => AV.one (C.bool b)) h1)))) ?_
    refine awp_ret ?_
    refine post_ret [] (b := .one (.bool false)) (by kernel_rfl) ?_
    exact congrArg (fun b => AV.one (C.bool b)) (show false = eqb a b from by rw [eqb_prod' a b, h1]; first | done | rfl | exact (Bool.and_true _).symm | simp)
theorem specEqualVersions_a (a : (List VersionD)) (b : (List VersionD)) (sa : GoD.size a ≤ 1048576) (sb : GoD.size b ≤ 1048576)  : ACalls Try.prog 8 [.one (.slc .sh 6 (eL a)), .one (.slc .sh 6 (eL b))] (.one (.bool (eqb a b))) := by
  refine acalls_of (tt := tt) tt_ok Try.func8 (fn := Try.f8) rfl (by unfold FnOk; kernel_rfl) (Nat.le_of_ble_eq_true rfl) fun w0 F0 => ?_
  refine awp_seq ?_
  refine awp_regionK (s' := ⟨[(0, .one (.slc .sh 6 (eL a))), (1, .one (.slc .sh 6 (eL b))), (4, .one (.bool false))], []⟩) (obs := []) tt_ok [] [0, 1, 4] [] (by kernel_rfl) (trivial) ?_
  refine awp_seq ?_
  refine awp_seq ?_
  have hl1 : List.length a ≤ 1048576 := sz_len (sa)
  have hl2 : List.length b ≤ 1048576 := sz_len (sb)
  refine awp_regionK (s' := ⟨[(0, .one (.slc .sh 6 (eL a))), (1, .one (.slc .sh 6 (eL b))), (4, .one (.bool false)), (10, .one (.bool ((a.length : Int) != (b.length : Int))))], []⟩) (obs := [.eq (.one (.int .i64 (((eL a) : List (List PV)).length : Int))) (.one (.int .i64 (a.length : Int))), .eq (.one (.int .i64 (((eL b) : List (List PV)).length : Int))) (.one (.int .i64 (b.length : Int)))]) tt_ok [(1, .val (.one (.int .i64 (a.length : Int)))), (3, .val (.one (.int .i64 (b.length : Int))))] [0, 1, 4, 10] [] (by kernel_rfl) (obc (ob_eq (by simp [eL_length])) (ob1 (ob_eq (by simp [eL_length])))) ?_
  refine awp_cond (b := ((a.length : Int) != (b.length : Int))) rfl (fun h3 => ?_) (fun h3 => ?_)
  · -- ((a.length : Int) != (b.length : Int)) is True
    have h3d := by simpa using h3
    refine awp_seq ?_
    refine awp_regionK (s' := ⟨[(0, .one (.slc .sh 6 (eL a))), (1, .one (.slc .sh 6 (eL b))), (4, .one (.bool false))], []⟩) (obs := []) tt_ok [] [0, 1, 4] [] (by kernel_rfl) (trivial) ?_
    refine awp_ret ?_
    have he : eqb a b = false := eqS_len (by omega)
    refine post_ret [] (b := .one (.bool false)) (by kernel_rfl) ?_
    exact congrArg (fun b => AV.one (C.bool b)) he.symm
  · -- ((a.length : Int) != (b.length : Int)) is False
    have h3d := by simpa using h3
    refine awp_skip ?_
    refine awp_seq ?_
    refine awp_seq ?_
    refine awp_regionK (s' := ⟨[(0, .one (.slc .sh 6 (eL a))), (1, .one (.slc .sh 6 (eL b))), (4, .one (.bool false)), (5, .one (.int .i64 0))], []⟩) (obs := []) tt_ok [] [0, 1, 4, 5] [] (by kernel_rfl) (trivial) ?_
    refine awp_block ?_
    refine awp_forI (a.length) (fun k : Nat => (⟨[(0, .one (.slc .sh 6 (eL a))), (1, .one (.slc .sh 6 (eL b))), (4, .one (.bool false)), (5, .one (.int .i64 ((k : Nat) : Int)))], []⟩ : St)) (fun k : Nat => List.take k a = List.take k b) (weak_to [] [0, 1, 4, 5] [] (by kernel_rfl)) (by simp) (fun k hk hinv => ?_) (fun hinv => ?_)
    · -- round
      refine awp_seq ?_
      refine awp_seq ?_
      refine awp_regionK (s' := ⟨[(0, .one (.slc .sh 6 (eL a))), (1, .one (.slc .sh 6 (eL b))), (4, .one (.bool false)), (5, .one (.int .i64 ((k : Nat) : Int))), (14, .one (.bool true))], []⟩) (obs := [.eq (.one (.int .i64 (((eL a) : List (List PV)).length : Int))) (.one (.int .i64 (a.length : Int))), .eq (.one (.bool (decide (((k : Nat) : Int) < (a.length : Int))))) (.one (.bool true))]) tt_ok [(2, .val (.one (.int .i64 (a.length : Int)))), (3, .val (.one (.bool true)))] [0, 1, 4, 5, 14] [] (by kernel_rfl) (obc (ob_eq (by simp [eL_length])) (ob1 (ob_eq (congrArg (fun b => AV.one (C.bool b)) (decide_eq_true (by omega)))))) ?_
      refine awp_cond (b := true) rfl (fun _ => ?_) (fun h => by cases h)
      refine awp_skip ?_
      refine awp_seq ?_
      refine awp_block ?_
      refine awp_seq ?_
      obtain ⟨x4, hx5⟩ := get_some (l := a) (i := k) (by omega)
      obtain ⟨x6, hx7⟩ := get_some (l := b) (i := k) (by omega)
      rcases Bool.eq_false_or_eq_true (!(eqb x4.1 x6.1)) with h8 | h8
      · -- (!(eqb x4.1 x6.1)) is True
        have h8n : (eqb x4.1 x6.1) = false := bnot_t h8
        refine awp_draw (s' := ⟨[(0, .one (.slc .sh 6 (eL a))), (1, .one (.slc .sh 6 (eL b))), (4, .one (.bool false)), (5, .one (.int .i64 ((k : Nat) : Int))), (54, .one (.bool true))], []⟩) (obs := [.elem (eL a) ((k : Nat) : Int) [.int .i64 x4.1, .slc 2 (eL x4.2.1.1.1), .slc 5 (eL x4.2.1.1.2.1), .int .i64 x4.2.1.1.2.2, .slc 2 (eL x4.2.1.2), .int .i64 x4.2.2], .elem (eL b) ((k : Nat) : Int) [.int .i64 x6.1, .slc 2 (eL x6.2.1.1.1), .slc 5 (eL x6.2.1.1.2.1), .int .i64 x6.2.1.1.2.2, .slc 2 (eL x6.2.1.2), .int .i64 x6.2.2], .eq (.one (.bool (x4.1 != x6.1))) (.one (.bool true))]) tt_ok tt_mx [(2, .row [.int .i64 x4.1, .slc 2 (eL x4.2.1.1.1), .slc 5 (eL x4.2.1.1.2.1), .int .i64 x4.2.1.1.2.2, .slc 2 (eL x4.2.1.2), .int .i64 x4.2.2]), (7, .row [.int .i64 x6.1, .slc 2 (eL x6.2.1.1.1), .slc 5 (eL x6.2.1.1.2.1), .int .i64 x6.2.1.1.2.2, .slc 2 (eL x6.2.1.2), .int .i64 x6.2.2]), (10, .val (.one (.bool true)))] [0, 1, 4, 5, 54] [] (by kernel_rfl) (obc (ob_elem (⟨by omega, eL_get (by simpa using hx5)⟩)) (obc (ob_elem (⟨by omega, eL_get (by simpa using hx7)⟩)) (ob1 (ob_eq ((congrArg (fun b => AV.one (C.bool b)) (neq_int x4.1 x6.1)).trans (congrArg (fun b => AV.one (C.bool b)) h8)))))) ?_
        refine awp_cond (b := true) rfl (fun _ => ?_) (fun h => by cases h)
        refine awp_seq ?_
        refine awp_regionK (s' := ⟨[(0, .one (.slc .sh 6 (eL a))), (1, .one (.slc .sh 6 (eL b))), (4, .one (.bool false)), (5, .one (.int .i64 ((k : Nat) : Int)))], []⟩) (obs := []) tt_ok [] [0, 1, 4, 5] [] (by kernel_rfl) (trivial) ?_
        refine awp_ret ?_
        have he : eqb a b = false := eqS_no hx5 hx7 (show eqb x4 x6 = false from by rw [eqb_prod' x4 x6, eqb_prod' x4.2 x6.2, h8n]; first | done | rfl | exact (Bool.and_true _).symm | simp)
        refine post_ret [] (b := .one (.bool false)) (by kernel_rfl) ?_
        exact congrArg (fun b => AV.one (C.bool b)) he.symm
      · -- (!(eqb x4.1 x6.1)) is False
        have h8n : (eqb x4.1 x6.1) = true := bnot_f h8
        rcases Bool.eq_false_or_eq_true (!(eqb x4.2.2 x6.2.2)) with h9 | h9
        · -- (!(eqb x4.2.2 x6.2.2)) is True
          have h9n : (eqb x4.2.2 x6.2.2) = false := bnot_t h9
          refine awp_draw (s' := ⟨[(0, .one (.slc .sh 6 (eL a))), (1, .one (.slc .sh 6 (eL b))), (4, .one (.bool false)), (5, .one (.int .i64 ((k : Nat) : Int))), (54, .one (.bool true))], []⟩) (obs := [.elem (eL a) ((k : Nat) : Int) [.int .i64 x4.1, .slc 2 (eL x4.2.1.1.1), .slc 5 (eL x4.2.1.1.2.1), .int .i64 x4.2.1.1.2.2, .slc 2 (eL x4.2.1.2), .int .i64 x4.2.2], .elem (eL b) ((k : Nat) : Int) [.int .i64 x6.1, .slc 2 (eL x6.2.1.1.1), .slc 5 (eL x6.2.1.1.2.1), .int .i64 x6.2.1.1.2.2, .slc 2 (eL x6.2.1.2), .int .i64 x6.2.2], .eq (.one (.bool (x4.1 != x6.1))) (.one (.bool false)), .elem (eL a) ((k : Nat) : Int) [.int .i64 x4.1, .slc 2 (eL x4.2.1.1.1), .slc 5 (eL x4.2.1.1.2.1), .int .i64 x4.2.1.1.2.2, .slc 2 (eL x4.2.1.2), .int .i64 x4.2.2], .elem (eL b) ((k : Nat) : Int) [.int .i64 x6.1, .slc 2 (eL x6.2.1.1.1), .slc 5 (eL x6.2.1.1.2.1), .int .i64 x6.2.1.1.2.2, .slc 2 (eL x6.2.1.2), .int .i64 x6.2.2], .eq (.one (.bool (x4.2.2 != x6.2.2))) (.one (.bool true))]) tt_ok tt_mx [(2, .row [.int .i64 x4.1, .slc 2 (eL x4.2.1.1.1), .slc 5 (eL x4.2.1.1.2.1), .int .i64 x4.2.1.1.2.2, .slc 2 (eL x4.2.1.2), .int .i64 x4.2.2]), (7, .row [.int .i64 x6.1, .slc 2 (eL x6.2.1.1.1), .slc 5 (eL x6.2.1.1.2.1), .int .i64 x6.2.1.1.2.2, .slc 2 (eL x6.2.1.2), .int .i64 x6.2.2]), (10, .val (.one (.bool false))), (14, .row [.int .i64 x4.1, .slc 2 (eL x4.2.1.1.1), .slc 5 (eL x4.2.1.1.2.1), .int .i64 x4.2.1.1.2.2, .slc 2 (eL x4.2.1.2), .int .i64 x4.2.2]), (19, .row [.int .i64 x6.1, .slc 2 (eL x6.2.1.1.1), .slc 5 (eL x6.2.1.1.2.1), .int .i64 x6.2.1.1.2.2, .slc 2 (eL x6.2.1.2), .int .i64 x6.2.2]), (22, .val (.one (.bool true)))] [0, 1, 4, 5, 54] [] (by kernel_rfl) (obc (ob_elem (⟨by omega, eL_get (by simpa using hx5)⟩)) (obc (ob_elem (⟨by omega, eL_get (by simpa using hx7)⟩)) (obc (ob_eq ((congrArg (fun b => AV.one (C.bool b)) (neq_int x4.1 x6.1)).trans (congrArg (fun b => AV.one (C.bool b)) h8))) (obc (ob_elem (⟨by omega, eL_get (by simpa using hx5)⟩)) (obc (ob_elem (⟨by omega, eL_get (by simpa using hx7)⟩)) (ob1 (ob_eq ((congrArg (fun b => AV.one (C.bool b)) (neq_int x4.2.2 x6.2.2)).trans (congrArg (fun b => AV.one (C.bool b)) h9))))))))) ?_
          refine awp_cond (b := true) rfl (fun _ => ?_) (fun h => by cases h)
          refine awp_seq ?_
          refine awp_regionK (s' := ⟨[(0, .one (.slc .sh 6 (eL a))), (1, .one (.slc .sh 6 (eL b))), (4, .one (.bool false)), (5, .one (.int .i64 ((k : Nat) : Int)))], []⟩) (obs := []) tt_ok [] [0, 1, 4, 5] [] (by kernel_rfl) (trivial) ?_
          refine awp_ret ?_
          have he : eqb a b = false := eqS_no hx5 hx7 (show eqb x4 x6 = false from by rw [eqb_prod' x4 x6, eqb_prod' x4.2 x6.2, h8n, h9n]; first | done | rfl | exact (Bool.and_true _).symm | simp)
          refine post_ret [] (b := .one (.bool false)) (by kernel_rfl) ?_
          exact congrArg (fun b => AV.one (C.bool b)) he.symm
        · -- (!(eqb x4.2.2 x6.2.2)) is False
          have h9n : (eqb x4.2.2 x6.2.2) = true := bnot_f h9
          refine awp_draw (s' := ⟨[(0, .one (.slc .sh 6 (eL a))), (1, .one (.slc .sh 6 (eL b))), (4, .one (.bool false)), (5, .one (.int .i64 ((k : Nat) : Int))), (54, .one (.bool (!(eqb x4.2.1 x6.2.1))))], []⟩) (obs := [.elem (eL a) ((k : Nat) : Int) [.int .i64 x4.1, .slc 2 (eL x4.2.1.1.1), .slc 5 (eL x4.2.1.1.2.1), .int .i64 x4.2.1.1.2.2, .slc 2 (eL x4.2.1.2), .int .i64 x4.2.2], .elem (eL b) ((k : Nat) : Int) [.int .i64 x6.1, .slc 2 (eL x6.2.1.1.1), .slc 5 (eL x6.2.1.1.2.1), .int .i64 x6.2.1.1.2.2, .slc 2 (eL x6.2.1.2), .int .i64 x6.2.2], .eq (.one (.bool (x4.1 != x6.1))) (.one (.bool false)), .elem (eL a) ((k : Nat) : Int) [.int .i64 x4.1, .slc 2 (eL x4.2.1.1.1), .slc 5 (eL x4.2.1.1.2.1), .int .i64 x4.2.1.1.2.2, .slc 2 (eL x4.2.1.2), .int .i64 x4.2.2], .elem (eL b) ((k : Nat) : Int) [.int .i64 x6.1, .slc 2 (eL x6.2.1.1.1), .slc 5 (eL x6.2.1.1.2.1), .int .i64 x6.2.1.1.2.2, .slc 2 (eL x6.2.1.2), .int .i64 x6.2.2], .eq (.one (.bool (x4.2.2 != x6.2.2))) (.one (.bool false)), .elem (eL a) ((k : Nat) : Int) [.int .i64 x4.1, .slc 2 (eL x4.2.1.1.1), .slc 5 (eL x4.2.1.1.2.1), .int .i64 x4.2.1.1.2.2, .slc 2 (eL x4.2.1.2), .int .i64 x4.2.2], .elem (eL b) ((k : Nat) : Int) [.int .i64 x6.1, .slc 2 (eL x6.2.1.1.1), .slc 5 (eL x6.2.1.1.2.1), .int .i64 x6.2.1.1.2.2, .slc 2 (eL x6.2.1.2), .int .i64 x6.2.2], .call 37 [.agg [.slc .sh 2 (eL x4.2.1.1.1), .slc .sh 5 (eL x4.2.1.1.2.1), .int .i64 x4.2.1.1.2.2, .slc .sh 2 (eL x4.2.1.2)], .agg [.slc .sh 2 (eL x6.2.1.1.1), .slc .sh 5 (eL x6.2.1.1.2.1), .int .i64 x6.2.1.1.2.2, .slc .sh 2 (eL x6.2.1.2)]] (.one (.bool (eqb x4.2.1 x6.2.1)))]) tt_ok tt_mx [(2, .row [.int .i64 x4.1, .slc 2 (eL x4.2.1.1.1), .slc 5 (eL x4.2.1.1.2.1), .int .i64 x4.2.1.1.2.2, .slc 2 (eL x4.2.1.2), .int .i64 x4.2.2]), (7, .row [.int .i64 x6.1, .slc 2 (eL x6.2.1.1.1), .slc 5 (eL x6.2.1.1.2.1), .int .i64 x6.2.1.1.2.2, .slc 2 (eL x6.2.1.2), .int .i64 x6.2.2]), (10, .val (.one (.bool false))), (14, .row [.int .i64 x4.1, .slc 2 (eL x4.2.1.1.1), .slc 5 (eL x4.2.1.1.2.1), .int .i64 x4.2.1.1.2.2, .slc 2 (eL x4.2.1.2), .int .i64 x4.2.2]), (19, .row [.int .i64 x6.1, .slc 2 (eL x6.2.1.1.1), .slc 5 (eL x6.2.1.1.2.1), .int .i64 x6.2.1.1.2.2, .slc 2 (eL x6.2.1.2), .int .i64 x6.2.2]), (22, .val (.one (.bool false))), (27, .row [.int .i64 x4.1, .slc 2 (eL x4.2.1.1.1), .slc 5 (eL x4.2.1.1.2.1), .int .i64 x4.2.1.1.2.2, .slc 2 (eL x4.2.1.2), .int .i64 x4.2.2]), (32, .row [.int .i64 x6.1, .slc 2 (eL x6.2.1.1.1), .slc 5 (eL x6.2.1.1.2.1), .int .i64 x6.2.1.1.2.2, .slc 2 (eL x6.2.1.2), .int .i64 x6.2.2]), (35, .val (.one (.bool (eqb x4.2.1 x6.2.1))))] [0, 1, 4, 5, 54] [] (by kernel_rfl) (obc (ob_elem (⟨by omega, eL_get (by simpa using hx5)⟩)) (obc (ob_elem (⟨by omega, eL_get (by simpa using hx7)⟩)) (obc (ob_eq ((congrArg (fun b => AV.one (C.bool b)) (neq_int x4.1 x6.1)).trans (congrArg (fun b => AV.one (C.bool b)) h8))) (obc (ob_elem (⟨by omega, eL_get (by simpa using hx5)⟩)) (obc (ob_elem (⟨by omega, eL_get (by simpa using hx7)⟩)) (obc (ob_eq ((congrArg (fun b => AV.one (C.bool b)) (neq_int x4.2.2 x6.2.2)).trans (congrArg (fun b => AV.one (C.bool b)) h9))) (obc (ob_elem (⟨by omega, eL_get (by simpa using hx5)⟩)) (obc (ob_elem (⟨by omega, eL_get (by simpa using hx7)⟩)) (ob1 (ob_call (specEqualSnapshots_a x4.2.1 x6.2.1 (sz_fst (sz_snd (sz_get hx5 (sa)))) (sz_fst (sz_snd (sz_get hx7 (sb))))))))))))))) ?_
          refine awp_cond (b := (!(eqb x4.2.1 x6.2.1))) rfl (fun h10 => ?_) (fun h10 => ?_)
          · -- (!(eqb x4.2.1 x6.2.1)) is True
            have h10n : (eqb x4.2.1 x6.2.1) = false := bnot_t h10
            refine awp_seq ?_
            refine awp_regionK (s' := ⟨[(0, .one (.slc .sh 6 (eL a))), (1, .one (.slc .sh 6 (eL b))), (4, .one (.bool false)), (5, .one (.int .i64 ((k : Nat) : Int)))], []⟩) (obs := []) tt_ok [] [0, 1, 4, 5] [] (by kernel_rfl) (trivial) ?_
            refine awp_ret ?_
            have he : eqb a b = false := eqS_no hx5 hx7 (show eqb x4 x6 = false from by rw [eqb_prod' x4 x6, eqb_prod' x4.2 x6.2, h8n, h10n, h9n]; first | done | rfl | exact (Bool.and_true _).symm | simp)
            refine post_ret [] (b := .one (.bool false)) (by kernel_rfl) ?_
            exact congrArg (fun b => AV.one (C.bool b)) he.symm
          · -- (!(eqb x4.2.1 x6.2.1)) is False
            have h10n : (eqb x4.2.1 x6.2.1) = true := bnot_f h10
            refine awp_skip ?_
            refine awp_regionK (s' := ⟨[(0, .one (.slc .sh 6 (eL a))), (1, .one (.slc .sh 6 (eL b))), (4, .one (.bool false)), (5, .one (.int .i64 (((k : Nat) : Int) + 1)))], []⟩) (obs := [.eq (.one (.int .i64 (IntKind.i64.wrap (((k : Nat) : Int) + 1)))) (.one (.int .i64 (((k : Nat) : Int) + 1)))]) tt_ok [(1, .val (.one (.int .i64 (((k : Nat) : Int) + 1))))] [0, 1, 4, 5] [] (by kernel_rfl) (ob1 (ob_eq (congrArg (fun n => AV.one (.int .i64 n)) (IntWalk.i64_in _ (by omega))))) ?_
            exact ⟨weak_to [] [0, 1, 4, 5] [] (by kernel_rfl), (eqS_step hinv hx5 hx7 (show eqb x4 x6 = true from by rw [eqb_prod' x4 x6, eqb_prod' x4.2 x6.2, h8n, h10n, h9n]; first | done | rfl | exact (Bool.and_true _).symm | simp)).out⟩
    · -- exit
      refine awp_seq ?_
      refine awp_seq ?_
      refine awp_regionK (s' := ⟨[(0, .one (.slc .sh 6 (eL a))), (1, .one (.slc .sh 6 (eL b))), (4, .one (.bool false)), (5, .one (.int .i64 ((a.length : Nat) : Int))), (14, .one (.bool false))], []⟩) (obs := [.eq (.one (.int .i64 (((eL a) : List (List PV)).length : Int))) (.one (.int .i64 (a.length : Int))), .eq (.one (.bool (decide (((a.length : Nat) : Int) < (a.length : Int))))) (.one (.bool false))]) tt_ok [(2, .val (.one (.int .i64 (a.length : Int)))), (3, .val (.one (.bool false)))] [0, 1, 4, 5, 14] [] (by kernel_rfl) (obc (ob_eq (by simp [eL_length])) (ob1 (ob_eq (congrArg (fun b => AV.one (C.bool b)) (decide_eq_false (by omega)))))) ?_
      refine awp_cond (b := false) rfl (fun h => by cases h) (fun _ => ?_)
      refine awp_exit ?_
      refine awp_seq ?_
      refine awp_regionK (s' := ⟨[(4, .one (.bool true))], []⟩) (obs := []) tt_ok [] [4] [] (by kernel_rfl) (trivial) ?_
      refine awp_ret ?_
      have he : eqb a b = true := eqS_end hinv (by omega)
      refine post_ret [] (b := .one (.bool true)) (by kernel_rfl) ?_
      exact congrArg (fun b => AV.one (C.bool b)) he.symm
theorem equalAttr_a (a : (List AttrD)) (b : (List AttrD)) (sa : GoD.size a ≤ 1048576) (sb : GoD.size b ≤ 1048576)  : ACalls Try.prog 155 [.one (.slc .sh 4 (eL a)), .one (.slc .sh 4 (eL b))] (.one (.bool (eqb a b))) := by
  refine acalls_of (tt := tt) tt_ok Try.func155 (fn := Try.f155) rfl (by unfold FnOk; kernel_rfl) (Nat.le_of_ble_eq_true rfl) fun w0 F0 => ?_
  refine awp_seq ?_
  refine awp_regionK (s' := ⟨[(0, .one (.slc .sh 4 (eL a))), (1, .one (.slc .sh 4 (eL b))), (4, .one (.bool false))], []⟩) (obs := []) tt_ok [] [0, 1, 4] [] (by kernel_rfl) (trivial) ?_
  refine awp_seq ?_
  refine awp_seq ?_
  have hl1 : List.length a ≤ 1048576 := sz_len (sa)
  have hl2 : List.length b ≤ 1048576 := sz_len (sb)
  refine awp_regionK (s' := ⟨[(0, .one (.slc .sh 4 (eL a))), (1, .one (.slc .sh 4 (eL b))), (4, .one (.bool false)), (10, .one (.bool ((a.length : Int) != (b.length : Int))))], []⟩) (obs := [.eq (.one (.int .i64 (((eL a) : List (List PV)).length : Int))) (.one (.int .i64 (a.length : Int))), .eq (.one (.int .i64 (((eL b) : List (List PV)).length : Int))) (.one (.int .i64 (b.length : Int)))]) tt_ok [(1, .val (.one (.int .i64 (a.length : Int)))), (3, .val (.one (.int .i64 (b.length : Int))))] [0, 1, 4, 10] [] (by kernel_rfl) (obc (ob_eq (by simp [eL_length])) (ob1 (ob_eq (by simp [eL_length])))) ?_
  refine awp_cond (b := ((a.length : Int) != (b.length : Int))) rfl (fun h3 => ?_) (fun h3 => ?_)
  · -- ((a.length : Int) != (b.length : Int)) is True
    have h3d := by simpa using h3
    refine awp_seq ?_
    refine awp_regionK (s' := ⟨[(0, .one (.slc .sh 4 (eL a))), (1, .one (.slc .sh 4 (eL b))), (4, .one (.bool false))], []⟩) (obs := []) tt_ok [] [0, 1, 4] [] (by kernel_rfl) (trivial) ?_
    refine awp_ret ?_
    have he : eqb a b = false := eqS_len (by omega)
    refine post_ret [] (b := .one (.bool false)) (by kernel_rfl) ?_
    exact congrArg (fun b => AV.one (C.bool b)) he.symm
  · -- ((a.length : Int) != (b.length : Int)) is False
    have h3d := by simpa using h3
    refine awp_skip ?_
    refine awp_seq ?_
    refine awp_seq ?_
    refine awp_regionK (s' := ⟨[(0, .one (.slc .sh 4 (eL a))), (1, .one (.slc .sh 4 (eL b))), (4, .one (.bool false)), (12, .one (.int .i64 (a.length : Int))), (13, .one (.int .i64 0))], []⟩) (obs := [.eq (.one (.int .i64 (((eL a) : List (List PV)).length : Int))) (.one (.int .i64 (a.length : Int)))]) tt_ok [(1, .val (.one (.int .i64 (a.length : Int))))] [0, 1, 4, 12, 13] [] (by kernel_rfl) (ob1 (ob_eq (by simp [eL_length]))) ?_
    refine awp_block ?_
    refine awp_forI (a.length) (fun k : Nat => (⟨[(0, .one (.slc .sh 4 (eL a))), (1, .one (.slc .sh 4 (eL b))), (4, .one (.bool false)), (12, .one (.int .i64 (a.length : Int))), (13, .one (.int .i64 ((k : Nat) : Int)))], []⟩ : St)) (fun k : Nat => List.take k a = List.take k b) (weak_to [] [0, 1, 4, 12, 13] [] (by kernel_rfl)) (by simp) (fun k hk hinv => ?_) (fun hinv => ?_)
    · -- round
      refine awp_seq ?_
      refine awp_regionK (s' := ⟨[(0, .one (.slc .sh 4 (eL a))), (1, .one (.slc .sh 4 (eL b))), (4, .one (.bool false)), (12, .one (.int .i64 (a.length : Int))), (13, .one (.int .i64 ((k : Nat) : Int))), (14, .one (.bool true))], []⟩) (obs := [.eq (.one (.bool (decide (((k : Nat) : Int) < (a.length : Int))))) (.one (.bool true))]) tt_ok [(0, .val (.one (.bool true)))] [0, 1, 4, 12, 13, 14] [] (by kernel_rfl) (ob1 (ob_eq (congrArg (fun b => AV.one (C.bool b)) (decide_eq_true (by omega))))) ?_
      refine awp_seq ?_
      refine awp_cond (b := true) rfl (fun _ => ?_) (fun h => by cases h)
      refine awp_skip ?_
      refine awp_seq ?_
      refine awp_block ?_
      refine awp_seq ?_
      refine awp_regionK (s' := ⟨[(0, .one (.slc .sh 4 (eL a))), (1, .one (.slc .sh 4 (eL b))), (4, .one (.bool false)), (5, .one (.int .i64 ((k : Nat) : Int))), (12, .one (.int .i64 (a.length : Int))), (13, .one (.int .i64 ((k : Nat) : Int)))], []⟩) (obs := []) tt_ok [] [0, 1, 4, 5, 12, 13] [] (by kernel_rfl) (trivial) ?_
      refine awp_seq ?_
      obtain ⟨x4, hx5⟩ := get_some (l := a) (i := k) (by omega)
      obtain ⟨x6, hx7⟩ := get_some (l := b) (i := k) (by omega)
      refine awp_draw (s' := ⟨[(0, .one (.slc .sh 4 (eL a))), (1, .one (.slc .sh 4 (eL b))), (4, .one (.bool false)), (12, .one (.int .i64 (a.length : Int))), (13, .one (.int .i64 ((k : Nat) : Int))), (24, .one (.bool (!(eqb x4 x6))))], []⟩) (obs := [.elem (eL a) ((k : Nat) : Int) [.str x4.1, .int .i64 x4.2.1, .int .i64 x4.2.2.1, .str x4.2.2.2], .elem (eL b) ((k : Nat) : Int) [.str x6.1, .int .i64 x6.2.1, .int .i64 x6.2.2.1, .str x6.2.2.2], .eq (.one (.bool (!((x4.1.toList == x6.1.toList) && ((x4.2.1 == x6.2.1) && ((x4.2.2.1 == x6.2.2.1) && ((x4.2.2.2.toList == x6.2.2.2.toList) && true))))))) (.one (.bool (!(eqb x4 x6))))]) tt_ok tt_mx [(2, .row [.str x4.1, .int .i64 x4.2.1, .int .i64 x4.2.2.1, .str x4.2.2.2]), (6, .row [.str x6.1, .int .i64 x6.2.1, .int .i64 x6.2.2.1, .str x6.2.2.2]), (8, .val (.one (.bool (!(eqb x4 x6)))))] [0, 1, 4, 12, 13, 24] [] (by kernel_rfl) (obc (ob_elem (⟨by omega, eL_get (by simpa using hx5)⟩)) (obc (ob_elem (⟨by omega, eL_get (by simpa using hx7)⟩)) (ob1 (ob_eq (by simp only [eqb_prod', eqb_int, ← eqb_str, Bool.and_true]))))) ?_
      refine awp_cond (b := (!(eqb x4 x6))) rfl (fun h8 => ?_) (fun h8 => ?_)
      · -- (!(eqb x4 x6)) is True
        have h8n : (eqb x4 x6) = false := bnot_t h8
        refine awp_seq ?_
        refine awp_regionK (s' := ⟨[(0, .one (.slc .sh 4 (eL a))), (1, .one (.slc .sh 4 (eL b))), (4, .one (.bool false)), (12, .one (.int .i64 (a.length : Int))), (13, .one (.int .i64 ((k : Nat) : Int)))], []⟩) (obs := []) tt_ok [] [0, 1, 4, 12, 13] [] (by kernel_rfl) (trivial) ?_
        refine awp_ret ?_
        have he : eqb a b = false := eqS_no hx5 hx7 (show eqb x4 x6 = false from h8n)
        refine post_ret [] (b := .one (.bool false)) (by kernel_rfl) ?_
        exact congrArg (fun b => AV.one (C.bool b)) he.symm
      · -- (!(eqb x4 x6)) is False
        have h8n : (eqb x4 x6) = true := bnot_f h8
        refine awp_skip ?_
        refine awp_regionK (s' := ⟨[(0, .one (.slc .sh 4 (eL a))), (1, .one (.slc .sh 4 (eL b))), (4, .one (.bool false)), (12, .one (.int .i64 (a.length : Int))), (13, .one (.int .i64 (((k : Nat) : Int) + 1)))], []⟩) (obs := [.eq (.one (.int .i64 (IntKind.i64.wrap (((k : Nat) : Int) + 1)))) (.one (.int .i64 (((k : Nat) : Int) + 1)))]) tt_ok [(0, .val (.one (.int .i64 (((k : Nat) : Int) + 1))))] [0, 1, 4, 12, 13] [] (by kernel_rfl) (ob1 (ob_eq (congrArg (fun n => AV.one (.int .i64 n)) (IntWalk.i64_in _ (by omega))))) ?_
        exact ⟨weak_to [] [0, 1, 4, 12, 13] [] (by kernel_rfl), (eqS_step hinv hx5 hx7 (show eqb x4 x6 = true from h8n)).out⟩
    · -- exit
      refine awp_seq ?_
      refine awp_regionK (s' := ⟨[(0, .one (.slc .sh 4 (eL a))), (1, .one (.slc .sh 4 (eL b))), (4, .one (.bool false)), (12, .one (.int .i64 (a.length : Int))), (13, .one (.int .i64 ((a.length : Nat) : Int))), (14, .one (.bool false))], []⟩) (obs := [.eq (.one (.bool (decide (((a.length : Nat) : Int) < (a.length : Int))))) (.one (.bool false))]) tt_ok [(0, .val (.one (.bool false)))] [0, 1, 4, 12, 13, 14] [] (by kernel_rfl) (ob1 (ob_eq (congrArg (fun b => AV.one (C.bool b)) (decide_eq_false (by omega))))) ?_
      refine awp_seq ?_
      refine awp_cond (b := false) rfl (fun h => by cases h) (fun _ => ?_)
      refine awp_exit ?_
      refine awp_seq ?_
      refine awp_regionK (s' := ⟨[(4, .one (.bool true))], []⟩) (obs := []) tt_ok [] [4] [] (by kernel_rfl) (trivial) ?_
      refine awp_ret ?_
      have he : eqb a b = true := eqS_end hinv (by omega)
      refine post_ret [] (b := .one (.bool true)) (by kernel_rfl) ?_
      exact congrArg (fun b => AV.one (C.bool b)) he.symm
theorem implEqualFiles_a (a : FileD) (b : FileD) (sa : GoD.size a ≤ 1048576) (sb : GoD.size b ≤ 1048576)  : ACalls Try.prog 124 [.agg [.int .i64 a.1, .int .i64 a.2.1, .bool a.2.2.1, .int .i64 a.2.2.2.1, .slc .sh 4 (eL a.2.2.2.2)], .agg [.int .i64 b.1, .int .i64 b.2.1, .bool b.2.2.1, .int .i64 b.2.2.2.1, .slc .sh 4 (eL b.2.2.2.2)]] (.one (.bool (eqb a b))) := by
  refine acalls_of (tt := tt) tt_ok Try.func124 (fn := Try.f124) rfl (by unfold FnOk; kernel_rfl) (Nat.le_of_ble_eq_true rfl) fun w0 F0 => ?_
  refine awp_seq ?_
  refine awp_regionK (s' := ⟨[(2, .one (.ptr 2 0)), (3, .one (.ptr 3 0)), (4, .one (.bool false))], [(2, [.int .i64 a.1, .int .i64 a.2.1, .bool a.2.2.1, .int .i64 a.2.2.2.1, .slc .sh 4 (eL a.2.2.2.2)]), (3, [.int .i64 b.1, .int .i64 b.2.1, .bool b.2.2.1, .int .i64 b.2.2.2.1, .slc .sh 4 (eL b.2.2.2.2)])]⟩) (obs := []) tt_ok [] [2, 3, 4] [2, 3] (by kernel_rfl) (trivial) ?_
  refine awp_seq ?_
  rcases Bool.eq_false_or_eq_true (eqb a.1 b.1) with h1 | h1
  · -- eqb a.1 b.1 is True
    rcases Bool.eq_false_or_eq_true (eqb a.2.1 b.2.1) with h2 | h2
    · -- eqb a.2.1 b.2.1 is True
      rcases Bool.eq_false_or_eq_true (eqb a.2.2.1 b.2.2.1) with h3 | h3
      · -- eqb a.2.2.1 b.2.2.1 is True
        rcases Bool.eq_false_or_eq_true (eqb a.2.2.2.1 b.2.2.2.1) with h4 | h4
        · -- eqb a.2.2.2.1 b.2.2.2.1 is True
          refine awp_regionK (s' := ⟨[(4, .one (.bool (eqb a.2.2.2.2 b.2.2.2.2)))], []⟩) (obs := [.eq (.one (.bool (a.1 == b.1))) (.one (.bool true)), .eq (.one (.bool (a.2.1 == b.2.1))) (.one (.bool true)), .eq (.one (.bool (a.2.2.1 == b.2.2.1))) (.one (.bool true)), .eq (.one (.bool (a.2.2.2.1 == b.2.2.2.1))) (.one (.bool true)), .call 155 [.one (.slc .sh 4 (eL a.2.2.2.2)), .one (.slc .sh 4 (eL b.2.2.2.2))] (.one (.bool (eqb a.2.2.2.2 b.2.2.2.2)))]) tt_ok [(4, .val (.one (.bool true))), (10, .val (.one (.bool true))), (17, .val (.one (.bool true))), (24, .val (.one (.bool true))), (31, .val (.one (.bool (eqb a.2.2.2.2 b.2.2.2.2))))] [4] [] (by kernel_rfl) (obc (ob_eq ((congrArg (fun b => AV.one (C.bool b)) (eql_int a.1 b.1)).trans (congrArg (fun b => AV.one (C.bool b)) h1))) (obc (ob_eq ((congrArg (fun b => AV.one (C.bool b)) (eql_int a.2.1 b.2.1)).trans (congrArg (fun b => AV.one (C.bool b)) h2))) (obc (ob_eq ((congrArg (fun b => AV.one (C.bool b)) (eql_bool a.2.2.1 b.2.2.1)).trans (congrArg (fun b => AV.one (C.bool b)) h3))) (obc (ob_eq ((congrArg (fun b => AV.one (C.bool b)) (eql_int a.2.2.2.1 b.2.2.2.1)).trans (congrArg (fun b => AV.one (C.bool b)) h4))) (ob1 (ob_call (equalAttr_a a.2.2.2.2 b.2.2.2.2 (sz_snd (sz_snd (sz_snd (sz_snd (sa))))) (sz_snd (sz_snd (sz_snd (sz_snd (sb)))))))))))) ?_
          refine awp_ret ?_
          refine post_ret [] (b := .one (.bool (eqb a.2.2.2.2 b.2.2.2.2))) (by kernel_rfl) ?_
          exact congrArg (fun b => AV.one (C.bool b)) (show eqb a.2.2.2.2 b.2.2.2.2 = eqb a b from by rw [eqb_prod' a b, eqb_prod' a.2 b.2, eqb_prod' a.2.2 b.2.2, eqb_prod' a.2.2.2 b.2.2.2, h1, h2, h3, h4]; first | done | rfl | exact (Bool.and_true _).symm | simp)
        · -- eqb a.2.2.2.1 b.2.2.2.1 is False
          refine awp_regionK (s' := ⟨[(4, .one (.bool false))], []⟩) (obs := [.eq (.one (.bool (a.1 == b.1))) (.one (.bool true)), .eq (.one (.bool (a.2.1 == b.2.1))) (.one (.bool true)), .eq (.one (.bool (a.2.2.1 == b.2.2.1))) (.one (.bool true)), .eq (.one (.bool (a.2.2.2.1 == b.2.2.2.1))) (.one (.bool false))]) tt_ok [(4, .val (.one (.bool true))), (10, .val (.one (.bool true))), (17, .val (.one (.bool true))), (24, .val (.one (.bool false)))] [4] [] (by kernel_rfl) (obc (ob_eq ((congrArg (fun b => AV.one (C.bool b)) (eql_int a.1 b.1)).trans (congrArg (fun b => AV.one (C.bool b)) h1))) (obc (ob_eq ((congrArg (fun b => AV.one (C.bool b)) (eql_int a.2.1 b.2.1)).trans (congrArg (fun b => AV.one (C.bool b)) h2))) (obc (ob_eq ((congrArg (fun b => AV.one (C.bool b)) (eql_bool a.2.2.1 b.2.2.1)).trans (congrArg (fun b => AV.one (C.bool b)) h3))) (ob1 (ob_eq ((congrArg (fun b => AV.one (C.bool b)) (eql_int a.2.2.2.1 b.2.2.2.1)).trans (congrArg (fun b => AV.one (C.bool b)) h4))))))) ?_
          refine awp_ret ?_
          refine post_ret [] (b := .one (.bool false)) (by kernel_rfl) ?_
          exact congrArg (fun b => AV.one (C.bool b)) (show false = eqb a b from by rw [eqb_prod' a b, eqb_prod' a.2 b.2, eqb_prod' a.2.2 b.2.2, eqb_prod' a.2.2.2 b.2.2.2, h1, h2, h3, h4]; first | done | rfl | exact (Bool.and_true _).symm | simp)
      · -- eqb a.2.2.1 b.2.2.1 is False
        refine awp_regionK (s' := ⟨[(4, .one (.bool false))], []⟩) (obs := [.eq (.one (.bool (a.1 == b.1))) (.one (.bool true)), .eq (.one (.bool (a.2.1 == b.2.1))) (.one (.bool true)), .eq (.one (.bool (a.2.2.1 == b.2.2.1))) (.one (.bool false))]) tt_ok [(4, .val (.one (.bool true))), (10, .val (.one (.bool true))), (17, .val (.one (.bool false)))] [4] [] (by kernel_rfl) (obc (ob_eq ((congrArg (fun b => AV.one (C.bool b)) (eql_int a.1 b.1)).trans (congrArg (fun b => AV.one (C.bool b)) h1))) (obc (ob_eq ((congrArg (fun b => AV.one (C.bool b)) (eql_int a.2.1 b.2.1)).trans (congrArg (fun b => AV.one (C.bool b)) h2))) (ob1 (ob_eq ((congrArg (fun b => AV.one (C.bool b)) (eql_bool a.2.2.1 b.2.2.1)).trans (congrArg (fun b => AV.one (C.bool b)) h3)))))) ?_
        refine awp_ret ?_
        refine post_ret [] (b := .one (.bool false)) (by kernel_rfl) ?_
        exact congrArg (fun b => AV.one (C.bool b)) (show false = eqb a b from by rw [eqb_prod' a b, eqb_prod' a.2 b.2, eqb_prod' a.2.2 b.2.2, eqb_prod' a.2.2.2 b.2.2.2, h1, h2, h3]; first | done | rfl | exact (Bool.and_true _).symm | simp)
    · -- eqb a.2.1 b.2.1 is False
      refine awp_regionK (s' := ⟨[(4, .one (.bool false))], []⟩) (obs := [.eq (.one (.bool (a.1 == b.1))) (.one (.bool true)), .eq (.one (.bool (a.2.1 == b.2.1))) (.one (.bool false))]) tt_ok [(4, .val (.one (.bool true))), (10, .val (.one (.bool false)))] [4] [] (by kernel_rfl) (obc (ob_eq ((congrArg (fun b => AV.one (C.bool b)) (eql_int a.1 b.1)).trans (congrArg (fun b => AV.one (C.bool b)) h1))) (ob1 (ob_eq ((congrArg (fun b => AV.one (C.bool b)) (eql_int a.2.1 b.2.1)).trans (congrArg (fun b => AV.one (C.bool b)) h2))))) ?_
      refine awp_ret ?_
      refine post_ret [] (b := .one (.bool false)) (by kernel_rfl) ?_
      exact congrArg (fun b => AV.one (C.bool b)) (show false = eqb a b from by rw [eqb_prod' a b, eqb_prod' a.2 b.2, eqb_prod' a.2.2 b.2.2, eqb_prod' a.2.2.2 b.2.2.2, h1, h2]; first | done | rfl | exact (Bool.and_true _).symm | simp)
  · -- eqb a.1 b.1 is False
    refine awp_regionK (s' := ⟨[(4, .one (.bool false))], []⟩) (obs := [.eq (.one (.bool (a.1 == b.1))) (.one (.bool false))]) tt_ok [(4, .val (.one (.bool false)))] [4] [] (by kernel_rfl) (ob1 (ob_eq ((congrArg (fun b => AV.one (C.bool b)) (eql_int a.1 b.1)).trans (congrArg (fun b => AV.one (C.bool b)) h1)))) ?_
    refine awp_ret ?_
    refine post_ret [] (b := .one (.bool false)) (by kernel_rfl) ?_
    exact congrArg (fun b => AV.one (C.bool b)) (show false = eqb a b from by rw [eqb_prod' a b, eqb_prod' a.2 b.2, eqb_prod' a.2.2 b.2.2, eqb_prod' a.2.2.2 b.2.2.2, h1]; first | done | rfl | exact (Bool.and_true _).symm | simp)
theorem equalField_a (a : (List FieldD)) (b : (List FieldD)) (sa : GoD.size a ≤ 1048576) (sb : GoD.size b ≤ 1048576)  : ACalls Try.prog 122 [.one (.slc .sh 2 (eL a)), .one (.slc .sh 2 (eL b))] (.one (.bool (eqb a b))) := by
  refine acalls_of (tt := tt) tt_ok Try.func122 (fn := Try.f122) rfl (by unfold FnOk; kernel_rfl) (Nat.le_of_ble_eq_true rfl) fun w0 F0 => ?_
  refine awp_seq ?_
  refine awp_regionK (s' := ⟨[(0, .one (.slc .sh 2 (eL a))), (1, .one (.slc .sh 2 (eL b))), (4, .one (.bool false))], []⟩) (obs := []) tt_ok [] [0, 1, 4] [] (by kernel_rfl) (trivial) ?_
  refine awp_seq ?_
  refine awp_seq ?_
  have hl1 : List.length a ≤ 1048576 := sz_len (sa)
  have hl2 : List.length b ≤ 1048576 := sz_len (sb)
  refine awp_regionK (s' := ⟨[(0, .one (.slc .sh 2 (eL a))), (1, .one (.slc .sh 2 (eL b))), (4, .one (.bool false)), (10, .one (.bool ((a.length : Int) != (b.length : Int))))], []⟩) (obs := [.eq (.one (.int .i64 (((eL a) : List (List PV)).length : Int))) (.one (.int .i64 (a.length : Int))), .eq (.one (.int .i64 (((eL b) : List (List PV)).length : Int))) (.one (.int .i64 (b.length : Int)))]) tt_ok [(1, .val (.one (.int .i64 (a.length : Int)))), (3, .val (.one (.int .i64 (b.length : Int))))] [0, 1, 4, 10] [] (by kernel_rfl) (obc (ob_eq (by simp [eL_length])) (ob1 (ob_eq (by simp [eL_length])))) ?_
  refine awp_cond (b := ((a.length : Int) != (b.length : Int))) rfl (fun h3 => ?_) (fun h3 => ?_)
  · -- ((a.length : Int) != (b.length : Int)) is True
    have h3d := by simpa using h3
    refine awp_seq ?_
    refine awp_regionK (s' := ⟨[(0, .one (.slc .sh 2 (eL a))), (1, .one (.slc .sh 2 (eL b))), (4, .one (.bool false))], []⟩) (obs := []) tt_ok [] [0, 1, 4] [] (by kernel_rfl) (trivial) ?_
    refine awp_ret ?_
    have he : eqb a b = false := eqS_len (by omega)
    refine post_ret [] (b := .one (.bool false)) (by kernel_rfl) ?_
    exact congrArg (fun b => AV.one (C.bool b)) he.symm
  · -- ((a.length : Int) != (b.length : Int)) is False
    have h3d := by simpa using h3
    refine awp_skip ?_
    refine awp_seq ?_
    refine awp_seq ?_
    refine awp_regionK (s' := ⟨[(0, .one (.slc .sh 2 (eL a))), (1, .one (.slc .sh 2 (eL b))), (4, .one (.bool false)), (12, .one (.int .i64 (a.length : Int))), (13, .one (.int .i64 0))], []⟩) (obs := [.eq (.one (.int .i64 (((eL a) : List (List PV)).length : Int))) (.one (.int .i64 (a.length : Int)))]) tt_ok [(1, .val (.one (.int .i64 (a.length : Int))))] [0, 1, 4, 12, 13] [] (by kernel_rfl) (ob1 (ob_eq (by simp [eL_length]))) ?_
    refine awp_block ?_
    refine awp_forI (a.length) (fun k : Nat => (⟨[(0, .one (.slc .sh 2 (eL a))), (1, .one (.slc .sh 2 (eL b))), (4, .one (.bool false)), (12, .one (.int .i64 (a.length : Int))), (13, .one (.int .i64 ((k : Nat) : Int)))], []⟩ : St)) (fun k : Nat => List.take k a = List.take k b) (weak_to [] [0, 1, 4, 12, 13] [] (by kernel_rfl)) (by simp) (fun k hk hinv => ?_) (fun hinv => ?_)
    · -- round
      refine awp_seq ?_
      refine awp_regionK (s' := ⟨[(0, .one (.slc .sh 2 (eL a))), (1, .one (.slc .sh 2 (eL b))), (4, .one (.bool false)), (12, .one (.int .i64 (a.length : Int))), (13, .one (.int .i64 ((k : Nat) : Int))), (14, .one (.bool true))], []⟩) (obs := [.eq (.one (.bool (decide (((k : Nat) : Int) < (a.length : Int))))) (.one (.bool true))]) tt_ok [(0, .val (.one (.bool true)))] [0, 1, 4, 12, 13, 14] [] (by kernel_rfl) (ob1 (ob_eq (congrArg (fun b => AV.one (C.bool b)) (decide_eq_true (by omega))))) ?_
      refine awp_seq ?_
      refine awp_cond (b := true) rfl (fun _ => ?_) (fun h => by cases h)
      refine awp_skip ?_
      refine awp_seq ?_
      refine awp_block ?_
      refine awp_seq ?_
      refine awp_regionK (s' := ⟨[(0, .one (.slc .sh 2 (eL a))), (1, .one (.slc .sh 2 (eL b))), (4, .one (.bool false)), (5, .one (.int .i64 ((k : Nat) : Int))), (12, .one (.int .i64 (a.length : Int))), (13, .one (.int .i64 ((k : Nat) : Int)))], []⟩) (obs := []) tt_ok [] [0, 1, 4, 5, 12, 13] [] (by kernel_rfl) (trivial) ?_
      refine awp_seq ?_
      obtain ⟨x4, hx5⟩ := get_some (l := a) (i := k) (by omega)
      obtain ⟨x6, hx7⟩ := get_some (l := b) (i := k) (by omega)
      refine awp_draw (s' := ⟨[(0, .one (.slc .sh 2 (eL a))), (1, .one (.slc .sh 2 (eL b))), (4, .one (.bool false)), (12, .one (.int .i64 (a.length : Int))), (13, .one (.int .i64 ((k : Nat) : Int))), (24, .one (.bool (!(eqb x4 x6))))], []⟩) (obs := [.elem (eL a) ((k : Nat) : Int) [.str x4.1, .int .i64 x4.2], .elem (eL b) ((k : Nat) : Int) [.str x6.1, .int .i64 x6.2], .eq (.one (.bool (!((x4.1.toList == x6.1.toList) && ((x4.2 == x6.2) && true))))) (.one (.bool (!(eqb x4 x6))))]) tt_ok tt_mx [(2, .row [.str x4.1, .int .i64 x4.2]), (6, .row [.str x6.1, .int .i64 x6.2]), (8, .val (.one (.bool (!(eqb x4 x6)))))] [0, 1, 4, 12, 13, 24] [] (by kernel_rfl) (obc (ob_elem (⟨by omega, eL_get (by simpa using hx5)⟩)) (obc (ob_elem (⟨by omega, eL_get (by simpa using hx7)⟩)) (ob1 (ob_eq (by simp only [eqb_prod', eqb_int, ← eqb_str, Bool.and_true]))))) ?_
      refine awp_cond (b := (!(eqb x4 x6))) rfl (fun h8 => ?_) (fun h8 => ?_)
      · -- (!(eqb x4 x6)) is True
        have h8n : (eqb x4 x6) = false := bnot_t h8
        refine awp_seq ?_
        refine awp_regionK (s' := ⟨[(0, .one (.slc .sh 2 (eL a))), (1, .one (.slc .sh 2 (eL b))), (4, .one (.bool false)), (12, .one (.int .i64 (a.length : Int))), (13, .one (.int .i64 ((k : Nat) : Int)))], []⟩) (obs := []) tt_ok [] [0, 1, 4, 12, 13] [] (by kernel_rfl) (trivial) ?_
        refine awp_ret ?_
        have he : eqb a b = false := eqS_no hx5 hx7 (show eqb x4 x6 = false from h8n)
        refine post_ret [] (b := .one (.bool false)) (by kernel_rfl) ?_
        exact congrArg (fun b => AV.one (C.bool b)) he.symm
      · -- (!(eqb x4 x6)) is False
        have h8n : (eqb x4 x6) = true := bnot_f h8
        refine awp_skip ?_
        refine awp_regionK (s' := ⟨[(0, .one (.slc .sh 2 (eL a))), (1, .one (.slc .sh 2 (eL b))), (4, .one (.bool false)), (12, .one (.int .i64 (a.length : Int))), (13, .one (.int .i64 (((k : Nat) : Int) + 1)))], []⟩) (obs := [.eq (.one (.int .i64 (IntKind.i64.wrap (((k : Nat) : Int) + 1)))) (.one (.int .i64 (((k : Nat) : Int) + 1)))]) tt_ok [(0, .val (.one (.int .i64 (((k : Nat) : Int) + 1))))] [0, 1, 4, 12, 13] [] (by kernel_rfl) (ob1 (ob_eq (congrArg (fun n => AV.one (.int .i64 n)) (IntWalk.i64_in _ (by omega))))) ?_
        exact ⟨weak_to [] [0, 1, 4, 12, 13] [] (by kernel_rfl), (eqS_step hinv hx5 hx7 (show eqb x4 x6 = true from h8n)).out⟩
    · -- exit
      refine awp_seq ?_
      refine awp_regionK (s' := ⟨[(0, .one (.slc .sh 2 (eL a))), (1, .one (.slc .sh 2 (eL b))), (4, .one (.bool false)), (12, .one (.int .i64 (a.length : Int))), (13, .one (.int .i64 ((a.length : Nat) : Int))), (14, .one (.bool false))], []⟩) (obs := [.eq (.one (.bool (decide (((a.length : Nat) : Int) < (a.length : Int))))) (.one (.bool false))]) tt_ok [(0, .val (.one (.bool false)))] [0, 1, 4, 12, 13, 14] [] (by kernel_rfl) (ob1 (ob_eq (congrArg (fun b => AV.one (C.bool b)) (decide_eq_false (by omega))))) ?_
      refine awp_seq ?_
      refine awp_cond (b := false) rfl (fun h => by cases h) (fun _ => ?_)
      refine awp_exit ?_
      refine awp_seq ?_
      refine awp_regionK (s' := ⟨[(4, .one (.bool true))], []⟩) (obs := []) tt_ok [] [4] [] (by kernel_rfl) (trivial) ?_
      refine awp_ret ?_
      have he : eqb a b = true := eqS_end hinv (by omega)
      refine post_ret [] (b := .one (.bool true)) (by kernel_rfl) ?_
      exact congrArg (fun b => AV.one (C.bool b)) he.symm
theorem equalFile_a (a : (List FileD)) (b : (List FileD)) (sa : GoD.size a ≤ 1048576) (sb : GoD.size b ≤ 1048576)  : ACalls Try.prog 123 [.one (.slc .sh 5 (eL a)), .one (.slc .sh 5 (eL b)), .one (.fnr 124 [])] (.one (.bool (eqb a b))) := by
  refine acalls_of (tt := tt) tt_ok Try.func123 (fn := Try.f123) rfl (by unfold FnOk; kernel_rfl) (Nat.le_of_ble_eq_true rfl) fun w0 F0 => ?_
  refine awp_seq ?_
  refine awp_regionK (s' := ⟨[(0, .one (.slc .sh 5 (eL a))), (1, .one (.slc .sh 5 (eL b))), (2, .one (.fnr 124 [])), (6, .one (.bool false))], []⟩) (obs := []) tt_ok [] [0, 1, 2, 6] [] (by kernel_rfl) (trivial) ?_
  refine awp_seq ?_
  refine awp_seq ?_
  have hl1 : List.length a ≤ 1048576 := sz_len (sa)
  have hl2 : List.length b ≤ 1048576 := sz_len (sb)
  refine awp_regionK (s' := ⟨[(0, .one (.slc .sh 5 (eL a))), (1, .one (.slc .sh 5 (eL b))), (2, .one (.fnr 124 [])), (6, .one (.bool false)), (14, .one (.bool ((a.length : Int) != (b.length : Int))))], []⟩) (obs := [.eq (.one (.int .i64 (((eL a) : List (List PV)).length : Int))) (.one (.int .i64 (a.length : Int))), .eq (.one (.int .i64 (((eL b) : List (List PV)).length : Int))) (.one (.int .i64 (b.length : Int)))]) tt_ok [(1, .val (.one (.int .i64 (a.length : Int)))), (3, .val (.one (.int .i64 (b.length : Int))))] [0, 1, 2, 6, 14] [] (by kernel_rfl) (obc (ob_eq (by simp [eL_length])) (ob1 (ob_eq (by simp [eL_length])))) ?_
  refine awp_cond (b := ((a.length : Int) != (b.length : Int))) rfl (fun h3 => ?_) (fun h3 => ?_)
  · -- ((a.length : Int) != (b.length : Int)) is True
    have h3d := by simpa using h3
    refine awp_seq ?_
    refine awp_regionK (s' := ⟨[(0, .one (.slc .sh 5 (eL a))), (1, .one (.slc .sh 5 (eL b))), (2, .one (.fnr 124 [])), (6, .one (.bool false))], []⟩) (obs := []) tt_ok [] [0, 1, 2, 6] [] (by kernel_rfl) (trivial) ?_
    refine awp_ret ?_
    have he : eqb a b = false := eqS_len (by omega)
    refine post_ret [] (b := .one (.bool false)) (by kernel_rfl) ?_
    exact congrArg (fun b => AV.one (C.bool b)) he.symm
  · -- ((a.length : Int) != (b.length : Int)) is False
    have h3d := by simpa using h3
    refine awp_skip ?_
    refine awp_seq ?_
    refine awp_seq ?_
    refine awp_regionK (s' := ⟨[(1, .one (.slc .sh 5 (eL b))), (2, .one (.fnr 124 [])), (6, .one (.bool false)), (15, .one (.slc .sh 5 (eL a))), (16, .one (.int .i64 (a.length : Int))), (17, .one (.int .i64 0))], []⟩) (obs := [.eq (.one (.int .i64 (((eL a) : List (List PV)).length : Int))) (.one (.int .i64 (a.length : Int)))]) tt_ok [(1, .val (.one (.int .i64 (a.length : Int))))] [1, 2, 6, 15, 16, 17] [] (by kernel_rfl) (ob1 (ob_eq (by simp [eL_length]))) ?_
    refine awp_block ?_
    refine awp_forI (a.length) (fun k : Nat => (⟨[(1, .one (.slc .sh 5 (eL b))), (2, .one (.fnr 124 [])), (6, .one (.bool false)), (15, .one (.slc .sh 5 (eL a))), (16, .one (.int .i64 (a.length : Int))), (17, .one (.int .i64 ((k : Nat) : Int)))], []⟩ : St)) (fun k : Nat => List.take k a = List.take k b) (weak_to [] [1, 2, 6, 15, 16, 17] [] (by kernel_rfl)) (by simp) (fun k hk hinv => ?_) (fun hinv => ?_)
    · -- round
      refine awp_seq ?_
      refine awp_regionK (s' := ⟨[(1, .one (.slc .sh 5 (eL b))), (2, .one (.fnr 124 [])), (6, .one (.bool false)), (15, .one (.slc .sh 5 (eL a))), (16, .one (.int .i64 (a.length : Int))), (17, .one (.int .i64 ((k : Nat) : Int))), (18, .one (.bool true))], []⟩) (obs := [.eq (.one (.bool (decide (((k : Nat) : Int) < (a.length : Int))))) (.one (.bool true))]) tt_ok [(0, .val (.one (.bool true)))] [1, 2, 6, 15, 16, 17, 18] [] (by kernel_rfl) (ob1 (ob_eq (congrArg (fun b => AV.one (C.bool b)) (decide_eq_true (by omega))))) ?_
      refine awp_seq ?_
      refine awp_cond (b := true) rfl (fun _ => ?_) (fun h => by cases h)
      refine awp_skip ?_
      refine awp_seq ?_
      refine awp_block ?_
      refine awp_seq ?_
      obtain ⟨x4, hx5⟩ := get_some (l := a) (i := k) (by omega)
      refine awp_regionK (s' := ⟨[(1, .one (.slc .sh 5 (eL b))), (2, .one (.fnr 124 [])), (6, .one (.bool false)), (7, .one (.int .i64 ((k : Nat) : Int))), (8, .one (.ptr 8 0)), (15, .one (.slc .sh 5 (eL a))), (16, .one (.int .i64 (a.length : Int))), (17, .one (.int .i64 ((k : Nat) : Int)))], [(8, [.int .i64 x4.1, .int .i64 x4.2.1, .bool x4.2.2.1, .int .i64 x4.2.2.2.1, .slc .sh 4 (eL x4.2.2.2.2)])]⟩) (obs := [.elem (eL a) ((k : Nat) : Int) [.int .i64 x4.1, .int .i64 x4.2.1, .bool x4.2.2.1, .int .i64 x4.2.2.2.1, .slc 4 (eL x4.2.2.2.2)]]) tt_ok [(1, .row [.int .i64 x4.1, .int .i64 x4.2.1, .bool x4.2.2.1, .int .i64 x4.2.2.2.1, .slc 4 (eL x4.2.2.2.2)])] [1, 2, 6, 7, 8, 15, 16, 17] [8] (by kernel_rfl) (ob1 (ob_elem (⟨by omega, eL_get (by simpa using hx5)⟩))) ?_
      refine awp_seq ?_
      obtain ⟨x6, hx7⟩ := get_some (l := b) (i := k) (by omega)
      refine awp_regionK (s' := ⟨[(1, .one (.slc .sh 5 (eL b))), (2, .one (.fnr 124 [])), (6, .one (.bool false)), (8, .one (.ptr 8 0)), (9, .one (.ptr 9 0)), (15, .one (.slc .sh 5 (eL a))), (16, .one (.int .i64 (a.length : Int))), (17, .one (.int .i64 ((k : Nat) : Int)))], [(8, [.int .i64 x4.1, .int .i64 x4.2.1, .bool x4.2.2.1, .int .i64 x4.2.2.2.1, .slc .sh 4 (eL x4.2.2.2.2)]), (9, [.int .i64 x6.1, .int .i64 x6.2.1, .bool x6.2.2.1, .int .i64 x6.2.2.2.1, .slc .sh 4 (eL x6.2.2.2.2)])]⟩) (obs := [.elem (eL b) ((k : Nat) : Int) [.int .i64 x6.1, .int .i64 x6.2.1, .bool x6.2.2.1, .int .i64 x6.2.2.2.1, .slc 4 (eL x6.2.2.2.2)]]) tt_ok [(2, .row [.int .i64 x6.1, .int .i64 x6.2.1, .bool x6.2.2.1, .int .i64 x6.2.2.2.1, .slc 4 (eL x6.2.2.2.2)])] [1, 2, 6, 8, 9, 15, 16, 17] [8, 9] (by kernel_rfl) (ob1 (ob_elem (⟨by omega, eL_get (by simpa using hx7)⟩))) ?_
      refine awp_seq ?_
      refine awp_regionK (s' := ⟨[(1, .one (.slc .sh 5 (eL b))), (2, .one (.fnr 124 [])), (6, .one (.bool false)), (15, .one (.slc .sh 5 (eL a))), (16, .one (.int .i64 (a.length : Int))), (17, .one (.int .i64 ((k : Nat) : Int))), (30, .one (.bool (!(eqb x4 x6))))], []⟩) (obs := [.call 124 [.agg [.int .i64 x4.1, .int .i64 x4.2.1, .bool x4.2.2.1, .int .i64 x4.2.2.2.1, .slc .sh 4 (eL x4.2.2.2.2)], .agg [.int .i64 x6.1, .int .i64 x6.2.1, .bool x6.2.2.1, .int .i64 x6.2.2.2.1, .slc .sh 4 (eL x6.2.2.2.2)]] (.one (.bool (eqb x4 x6)))]) tt_ok [(3, .val (.one (.bool (eqb x4 x6))))] [1, 2, 6, 15, 16, 17, 30] [] (by kernel_rfl) (ob1 (ob_call (implEqualFiles_a x4 x6 (sz_get hx5 (sa)) (sz_get hx7 (sb))))) ?_
      refine awp_cond (b := (!(eqb x4 x6))) rfl (fun h8 => ?_) (fun h8 => ?_)
      · -- (!(eqb x4 x6)) is True
        have h8n : (eqb x4 x6) = false := bnot_t h8
        refine awp_seq ?_
        refine awp_regionK (s' := ⟨[(1, .one (.slc .sh 5 (eL b))), (2, .one (.fnr 124 [])), (6, .one (.bool false)), (15, .one (.slc .sh 5 (eL a))), (16, .one (.int .i64 (a.length : Int))), (17, .one (.int .i64 ((k : Nat) : Int)))], []⟩) (obs := []) tt_ok [] [1, 2, 6, 15, 16, 17] [] (by kernel_rfl) (trivial) ?_
        refine awp_ret ?_
        have he : eqb a b = false := eqS_no hx5 hx7 (show eqb x4 x6 = false from h8n)
        refine post_ret [] (b := .one (.bool false)) (by kernel_rfl) ?_
        exact congrArg (fun b => AV.one (C.bool b)) he.symm
      · -- (!(eqb x4 x6)) is False
        have h8n : (eqb x4 x6) = true := bnot_f h8
        refine awp_skip ?_
        refine awp_regionK (s' := ⟨[(1, .one (.slc .sh 5 (eL b))), (2, .one (.fnr 124 [])), (6, .one (.bool false)), (15, .one (.slc .sh 5 (eL a))), (16, .one (.int .i64 (a.length : Int))), (17, .one (.int .i64 (((k : Nat) : Int) + 1)))], []⟩) (obs := [.eq (.one (.int .i64 (IntKind.i64.wrap (((k : Nat) : Int) + 1)))) (.one (.int .i64 (((k : Nat) : Int) + 1)))]) tt_ok [(0, .val (.one (.int .i64 (((k : Nat) : Int) + 1))))] [1, 2, 6, 15, 16, 17] [] (by kernel_rfl) (ob1 (ob_eq (congrArg (fun n => AV.one (.int .i64 n)) (IntWalk.i64_in _ (by omega))))) ?_
        exact ⟨weak_to [] [1, 2, 6, 15, 16, 17] [] (by kernel_rfl), (eqS_step hinv hx5 hx7 (show eqb x4 x6 = true from h8n)).out⟩
    · -- exit
      refine awp_seq ?_
      refine awp_regionK (s' := ⟨[(1, .one (.slc .sh 5 (eL b))), (2, .one (.fnr 124 [])), (6, .one (.bool false)), (15, .one (.slc .sh 5 (eL a))), (16, .one (.int .i64 (a.length : Int))), (17, .one (.int .i64 ((a.length : Nat) : Int))), (18, .one (.bool false))], []⟩) (obs := [.eq (.one (.bool (decide (((a.length : Nat) : Int) < (a.length : Int))))) (.one (.bool false))]) tt_ok [(0, .val (.one (.bool false)))] [1, 2, 6, 15, 16, 17, 18] [] (by kernel_rfl) (ob1 (ob_eq (congrArg (fun b => AV.one (C.bool b)) (decide_eq_false (by omega))))) ?_
      refine awp_seq ?_
      refine awp_cond (b := false) rfl (fun h => by cases h) (fun _ => ?_)
      refine awp_exit ?_
      refine awp_seq ?_
      refine awp_regionK (s' := ⟨[(6, .one (.bool true))], []⟩) (obs := []) tt_ok [] [6] [] (by kernel_rfl) (trivial) ?_
      refine awp_ret ?_
      have he : eqb a b = true := eqS_end hinv (by omega)
      refine post_ret [] (b := .one (.bool true)) (by kernel_rfl) ?_
      exact congrArg (fun b => AV.one (C.bool b)) he.symm
theorem implEqualStores_a (a : StoreD) (b : StoreD) (sa : GoD.size a ≤ 1048576) (sb : GoD.size b ≤ 1048576)  : ACalls Try.prog 79 [.agg [.slc .sh 2 (eL a.1), .slc .sh 5 (eL a.2.1), .int .i64 a.2.2], .agg [.slc .sh 2 (eL b.1), .slc .sh 5 (eL b.2.1), .int .i64 b.2.2]] (.one (.bool (eqb a b))) := by
  refine acalls_of (tt := tt) tt_ok Try.func79 (fn := Try.f79) rfl (by unfold FnOk; kernel_rfl) (Nat.le_of_ble_eq_true rfl) fun w0 F0 => ?_
  refine awp_seq ?_
  refine awp_regionK (s' := ⟨[(2, .one (.ptr 2 0)), (3, .one (.ptr 3 0)), (4, .one (.bool false))], [(2, [.slc .sh 2 (eL a.1), .slc .sh 5 (eL a.2.1), .int .i64 a.2.2]), (3, [.slc .sh 2 (eL b.1), .slc .sh 5 (eL b.2.1), .int .i64 b.2.2])]⟩) (obs := []) tt_ok [] [2, 3, 4] [2, 3] (by kernel_rfl) (trivial) ?_
  refine awp_seq ?_
  rcases Bool.eq_false_or_eq_true (eqb a.1 b.1) with h1 | h1
  · -- eqb a.1 b.1 is True
    rcases Bool.eq_false_or_eq_true (eqb a.2.1 b.2.1) with h2 | h2
    · -- eqb a.2.1 b.2.1 is True
      refine awp_regionK (s' := ⟨[(4, .one (.bool (eqb a.2.2 b.2.2)))], []⟩) (obs := [.call 122 [.one (.slc .sh 2 (eL a.1)), .one (.slc .sh 2 (eL b.1))] (.one (.bool (eqb a.1 b.1))), .eq (.one (.bool (eqb a.1 b.1))) (.one (.bool true)), .call 123 [.one (.slc .sh 5 (eL a.2.1)), .one (.slc .sh 5 (eL b.2.1)), .one (.fnr 124 [])] (.one (.bool (eqb a.2.1 b.2.1))), .eq (.one (.bool (eqb a.2.1 b.2.1))) (.one (.bool true)), .eq (.one (.bool (a.2.2 == b.2.2))) (.one (.bool (eqb a.2.2 b.2.2)))]) tt_ok [(4, .val (.one (.bool (eqb a.1 b.1)))), (5, .val (.one (.bool true))), (10, .val (.one (.bool (eqb a.2.1 b.2.1)))), (11, .val (.one (.bool true))), (17, .val (.one (.bool (eqb a.2.2 b.2.2))))] [4] [] (by kernel_rfl) (obc (ob_call (equalField_a a.1 b.1 (sz_fst (sa)) (sz_fst (sb)))) (obc (ob_eq (congrArg (fun b => AV.one (C.bool b)) h1)) (obc (ob_call (equalFile_a a.2.1 b.2.1 (sz_fst (sz_snd (sa))) (sz_fst (sz_snd (sb))))) (obc (ob_eq (congrArg (fun b => AV.one (C.bool b)) h2)) (ob1 (ob_eq (congrArg (fun b => AV.one (C.bool b)) (eql_int a.2.2 b.2.2)))))))) ?_
      refine awp_ret ?_
      refine post_ret [] (b := .one (.bool (eqb a.2.2 b.2.2))) (by kernel_rfl) ?_
      exact congrArg (fun b => AV.one (C.bool b)) (show eqb a.2.2 b.2.2 = eqb a b from by rw [eqb_prod' a b, eqb_prod' a.2 b.2, h1, h2]; first | done | rfl | exact (Bool.and_true _).symm | simp)
    · -- eqb a.2.1 b.2.1 is False
      refine awp_regionK (s' := ⟨[(4, .one (.bool false))], []⟩) (obs := [.call 122 [.one (.slc .sh 2 (eL a.1)), .one (.slc .sh 2 (eL b.1))] (.one (.bool (eqb a.1 b.1))), .eq (.one (.bool (eqb a.1 b.1))) (.one (.bool true)), .call 123 [.one (.slc .sh 5 (eL a.2.1)), .one (.slc .sh 5 (eL b.2.1)), .one (.fnr 124 [])] (.one (.bool (eqb a.2.1 b.2.1))), .eq (.one (.bool (eqb a.2.1 b.2.1))) (.one (.bool false))]) tt_ok [(4, .val (.one (.bool (eqb a.1 b.1)))), (5, .val (.one (.bool true))), (10, .val (.one (.bool (eqb a.2.1 b.2.1)))), (11, .val (.one (.bool false)))] [4] [] (by kernel_rfl) (obc (ob_call (equalField_a a.1 b.1 (sz_fst (sa)) (sz_fst (sb)))) (obc (ob_eq (congrArg (fun b => AV.one (C.bool b)) h1)) (obc (ob_call (equalFile_a a.2.1 b.2.1 (sz_fst (sz_snd (sa))) (sz_fst (sz_snd (sb))))) (ob1 (ob_eq (congrArg (fun b => AV.one (C.bool b)) h2)))))) ?_
      refine awp_ret ?_
      refine post_ret [] (b := .one (.bool false)) (by kernel_rfl) ?_
      exact congrArg (fun b => AV.one (C.bool b)) (show false = eqb a b from by rw [eqb_prod' a b, eqb_prod' a.2 b.2, h1, h2]; first | done | rfl | exact (Bool.and_true _).symm | simp)
  · -- eqb a.1 b.1 is False
    refine awp_regionK (s' := ⟨[(4, .one (.bool false))], []⟩) (obs := [.call 122 [.one (.slc .sh 2 (eL a.1)), .one (.slc .sh 2 (eL b.1))] (.one (.bool (eqb a.1 b.1))), .eq (.one (.bool (eqb a.1 b.1))) (.one (.bool false))]) tt_ok [(4, .val (.one (.bool (eqb a.1 b.1)))), (5, .val (.one (.bool false)))] [4] [] (by kernel_rfl) (obc (ob_call (equalField_a a.1 b.1 (sz_fst (sa)) (sz_fst (sb)))) (ob1 (ob_eq (congrArg (fun b => AV.one (C.bool b)) h1)))) ?_
    refine awp_ret ?_
    refine post_ret [] (b := .one (.bool false)) (by kernel_rfl) ?_
    exact congrArg (fun b => AV.one (C.bool b)) (show false = eqb a b from by rw [eqb_prod' a b, eqb_prod' a.2 b.2, h1]; first | done | rfl | exact (Bool.and_true _).symm | simp)
theorem equalNode_a (a : (List NodeD)) (b : (List NodeD)) (sa : GoD.size a ≤ 1048576) (sb : GoD.size b ≤ 1048576)  : ACalls Try.prog 156 [.one (.slc .sh 7 (eL a)), .one (.slc .sh 7 (eL b))] (.one (.bool (eqb a b))) := by
  refine acalls_of (tt := tt) tt_ok Try.func156 (fn := Try.f156) rfl (by unfold FnOk; kernel_rfl) (Nat.le_of_ble_eq_true rfl) fun w0 F0 => ?_
  refine awp_seq ?_
  refine awp_regionK (s' := ⟨[(0, .one (.slc .sh 7 (eL a))), (1, .one (.slc .sh 7 (eL b))), (4, .one (.bool false))], []⟩) (obs := []) tt_ok [] [0, 1, 4] [] (by kernel_rfl) (trivial) ?_
  refine awp_seq ?_
  refine awp_seq ?_
  have hl1 : List.length a ≤ 1048576 := sz_len (sa)
  have hl2 : List.length b ≤ 1048576 := sz_len (sb)
  refine awp_regionK (s' := ⟨[(0, .one (.slc .sh 7 (eL a))), (1, .one (.slc .sh 7 (eL b))), (4, .one (.bool false)), (10, .one (.bool ((a.length : Int) != (b.length : Int))))], []⟩) (obs := [.eq (.one (.int .i64 (((eL a) : List (List PV)).length : Int))) (.one (.int .i64 (a.length : Int))), .eq (.one (.int .i64 (((eL b) : List (List PV)).length : Int))) (.one (.int .i64 (b.length : Int)))]) tt_ok [(1, .val (.one (.int .i64 (a.length : Int)))), (3, .val (.one (.int .i64 (b.length : Int))))] [0, 1, 4, 10] [] (by kernel_rfl) (obc (ob_eq (by simp [eL_length])) (ob1 (ob_eq (by simp [eL_length])))) ?_
  refine awp_cond (b := ((a.length : Int) != (b.length : Int))) rfl (fun h3 => ?_) (fun h3 => ?_)
  · -- ((a.length : Int) != (b.length : Int)) is True
    have h3d := by simpa using h3
    refine awp_seq ?_
    refine awp_regionK (s' := ⟨[(0, .one (.slc .sh 7 (eL a))), (1, .one (.slc .sh 7 (eL b))), (4, .one (.bool false))], []⟩) (obs := []) tt_ok [] [0, 1, 4] [] (by kernel_rfl) (trivial) ?_
    refine awp_ret ?_
    have he : eqb a b = false := eqS_len (by omega)
    refine post_ret [] (b := .one (.bool false)) (by kernel_rfl) ?_
    exact congrArg (fun b => AV.one (C.bool b)) he.symm
  · -- ((a.length : Int) != (b.length : Int)) is False
    have h3d := by simpa using h3
    refine awp_skip ?_
    refine awp_seq ?_
    refine awp_seq ?_
    refine awp_regionK (s' := ⟨[(0, .one (.slc .sh 7 (eL a))), (1, .one (.slc .sh 7 (eL b))), (4, .one (.bool false)), (12, .one (.int .i64 (a.length : Int))), (13, .one (.int .i64 0))], []⟩) (obs := [.eq (.one (.int .i64 (((eL a) : List (List PV)).length : Int))) (.one (.int .i64 (a.length : Int)))]) tt_ok [(1, .val (.one (.int .i64 (a.length : Int))))] [0, 1, 4, 12, 13] [] (by kernel_rfl) (ob1 (ob_eq (by simp [eL_length]))) ?_
    refine awp_block ?_
    refine awp_forI (a.length) (fun k : Nat => (⟨[(0, .one (.slc .sh 7 (eL a))), (1, .one (.slc .sh 7 (eL b))), (4, .one (.bool false)), (12, .one (.int .i64 (a.length : Int))), (13, .one (.int .i64 ((k : Nat) : Int)))], []⟩ : St)) (fun k : Nat => List.take k a = List.take k b) (weak_to [] [0, 1, 4, 12, 13] [] (by kernel_rfl)) (by simp) (fun k hk hinv => ?_) (fun hinv => ?_)
    · -- round
      refine awp_seq ?_
      refine awp_regionK (s' := ⟨[(0, .one (.slc .sh 7 (eL a))), (1, .one (.slc .sh 7 (eL b))), (4, .one (.bool false)), (12, .one (.int .i64 (a.length : Int))), (13, .one (.int .i64 ((k : Nat) : Int))), (14, .one (.bool true))], []⟩) (obs := [.eq (.one (.bool (decide (((k : Nat) : Int) < (a.length : Int))))) (.one (.bool true))]) tt_ok [(0, .val (.one (.bool true)))] [0, 1, 4, 12, 13, 14] [] (by kernel_rfl) (ob1 (ob_eq (congrArg (fun b => AV.one (C.bool b)) (decide_eq_true (by omega))))) ?_
      refine awp_seq ?_
      refine awp_cond (b := true) rfl (fun _ => ?_) (fun h => by cases h)
      refine awp_skip ?_
      refine awp_seq ?_
      refine awp_block ?_
      refine awp_seq ?_
      refine awp_regionK (s' := ⟨[(0, .one (.slc .sh 7 (eL a))), (1, .one (.slc .sh 7 (eL b))), (4, .one (.bool false)), (5, .one (.int .i64 ((k : Nat) : Int))), (12, .one (.int .i64 (a.length : Int))), (13, .one (.int .i64 ((k : Nat) : Int)))], []⟩) (obs := []) tt_ok [] [0, 1, 4, 5, 12, 13] [] (by kernel_rfl) (trivial) ?_
      refine awp_seq ?_
      obtain ⟨x4, hx5⟩ := get_some (l := a) (i := k) (by omega)
      obtain ⟨x6, hx7⟩ := get_some (l := b) (i := k) (by omega)
      refine awp_draw (s' := ⟨[(0, .one (.slc .sh 7 (eL a))), (1, .one (.slc .sh 7 (eL b))), (4, .one (.bool false)), (12, .one (.int .i64 (a.length : Int))), (13, .one (.int .i64 ((k : Nat) : Int))), (24, .one (.bool (!(eqb x4 x6))))], []⟩) (obs := [.elem (eL a) ((k : Nat) : Int) [.int .i64 x4.1, .int .i64 x4.2.1, .int .i64 x4.2.2.1, .str x4.2.2.2.1, .int .i64 x4.2.2.2.2.1, .int .i64 x4.2.2.2.2.2.1, .str x4.2.2.2.2.2.2], .elem (eL b) ((k : Nat) : Int) [.int .i64 x6.1, .int .i64 x6.2.1, .int .i64 x6.2.2.1, .str x6.2.2.2.1, .int .i64 x6.2.2.2.2.1, .int .i64 x6.2.2.2.2.2.1, .str x6.2.2.2.2.2.2], .eq (.one (.bool (!((x4.1 == x6.1) && ((x4.2.1 == x6.2.1) && ((x4.2.2.1 == x6.2.2.1) && ((x4.2.2.2.1.toList == x6.2.2.2.1.toList) && ((x4.2.2.2.2.1 == x6.2.2.2.2.1) && ((x4.2.2.2.2.2.1 == x6.2.2.2.2.2.1) && ((x4.2.2.2.2.2.2.toList == x6.2.2.2.2.2.2.toList) && true)))))))))) (.one (.bool (!(eqb x4 x6))))]) tt_ok tt_mx [(2, .row [.int .i64 x4.1, .int .i64 x4.2.1, .int .i64 x4.2.2.1, .str x4.2.2.2.1, .int .i64 x4.2.2.2.2.1, .int .i64 x4.2.2.2.2.2.1, .str x4.2.2.2.2.2.2]), (6, .row [.int .i64 x6.1, .int .i64 x6.2.1, .int .i64 x6.2.2.1, .str x6.2.2.2.1, .int .i64 x6.2.2.2.2.1, .int .i64 x6.2.2.2.2.2.1, .str x6.2.2.2.2.2.2]), (8, .val (.one (.bool (!(eqb x4 x6)))))] [0, 1, 4, 12, 13, 24] [] (by kernel_rfl) (obc (ob_elem (⟨by omega, eL_get (by simpa using hx5)⟩)) (obc (ob_elem (⟨by omega, eL_get (by simpa using hx7)⟩)) (ob1 (ob_eq (by simp only [eqb_prod', eqb_int, ← eqb_str, Bool.and_true]))))) ?_
      refine awp_cond (b := (!(eqb x4 x6))) rfl (fun h8 => ?_) (fun h8 => ?_)
      · -- (!(eqb x4 x6)) is True
        have h8n : (eqb x4 x6) = false := bnot_t h8
        refine awp_seq ?_
        refine awp_regionK (s' := ⟨[(0, .one (.slc .sh 7 (eL a))), (1, .one (.slc .sh 7 (eL b))), (4, .one (.bool false)), (12, .one (.int .i64 (a.length : Int))), (13, .one (.int .i64 ((k : Nat) : Int)))], []⟩) (obs := []) tt_ok [] [0, 1, 4, 12, 13] [] (by kernel_rfl) (trivial) ?_
        refine awp_ret ?_
        have he : eqb a b = false := eqS_no hx5 hx7 (show eqb x4 x6 = false from h8n)
        refine post_ret [] (b := .one (.bool false)) (by kernel_rfl) ?_
        exact congrArg (fun b => AV.one (C.bool b)) he.symm
      · -- (!(eqb x4 x6)) is False
        have h8n : (eqb x4 x6) = true := bnot_f h8
        refine awp_skip ?_
        refine awp_regionK (s' := ⟨[(0, .one (.slc .sh 7 (eL a))), (1, .one (.slc .sh 7 (eL b))), (4, .one (.bool false)), (12, .one (.int .i64 (a.length : Int))), (13, .one (.int .i64 (((k : Nat) : Int) + 1)))], []⟩) (obs := [.eq (.one (.int .i64 (IntKind.i64.wrap (((k : Nat) : Int) + 1)))) (.one (.int .i64 (((k : Nat) : Int) + 1)))]) tt_ok [(0, .val (.one (.int .i64 (((k : Nat) : Int) + 1))))] [0, 1, 4, 12, 13] [] (by kernel_rfl) (ob1 (ob_eq (congrArg (fun n => AV.one (.int .i64 n)) (IntWalk.i64_in _ (by omega))))) ?_
        exact ⟨weak_to [] [0, 1, 4, 12, 13] [] (by kernel_rfl), (eqS_step hinv hx5 hx7 (show eqb x4 x6 = true from h8n)).out⟩
    · -- exit
      refine awp_seq ?_
      refine awp_regionK (s' := ⟨[(0, .one (.slc .sh 7 (eL a))), (1, .one (.slc .sh 7 (eL b))), (4, .one (.bool false)), (12, .one (.int .i64 (a.length : Int))), (13, .one (.int .i64 ((a.length : Nat) : Int))), (14, .one (.bool false))], []⟩) (obs := [.eq (.one (.bool (decide (((a.length : Nat) : Int) < (a.length : Int))))) (.one (.bool false))]) tt_ok [(0, .val (.one (.bool false)))] [0, 1, 4, 12, 13, 14] [] (by kernel_rfl) (ob1 (ob_eq (congrArg (fun b => AV.one (C.bool b)) (decide_eq_false (by omega))))) ?_
      refine awp_seq ?_
      refine awp_cond (b := false) rfl (fun h => by cases h) (fun _ => ?_)
      refine awp_exit ?_
      refine awp_seq ?_
      refine awp_regionK (s' := ⟨[(4, .one (.bool true))], []⟩) (obs := []) tt_ok [] [4] [] (by kernel_rfl) (trivial) ?_
      refine awp_ret ?_
      have he : eqb a b = true := eqS_end hinv (by omega)
      refine post_ret [] (b := .one (.bool true)) (by kernel_rfl) ?_
      exact congrArg (fun b => AV.one (C.bool b)) he.symm
theorem implEqualQueries_a (a : (List NodeD)) (b : (List NodeD)) (sa : GoD.size a ≤ 1048576) (sb : GoD.size b ≤ 1048576)  : ACalls Try.prog 127 [.one (.slc .sh 7 (eL a)), .one (.slc .sh 7 (eL b))] (.one (.bool (eqb a b))) := by
  refine acalls_of (tt := tt) tt_ok Try.func127 (fn := Try.f127) rfl (by unfold FnOk; kernel_rfl) (Nat.le_of_ble_eq_true rfl) fun w0 F0 => ?_
  refine awp_seq ?_
  refine awp_regionK (s' := ⟨[(0, .one (.slc .sh 7 (eL a))), (1, .one (.slc .sh 7 (eL b))), (4, .one (.bool false))], []⟩) (obs := []) tt_ok [] [0, 1, 4] [] (by kernel_rfl) (trivial) ?_
  refine awp_seq ?_
  refine awp_regionK (s' := ⟨[(4, .one (.bool (eqb a b)))], []⟩) (obs := [.call 156 [.one (.slc .sh 7 (eL a)), .one (.slc .sh 7 (eL b))] (.one (.bool (eqb a b)))]) tt_ok [(2, .val (.one (.bool (eqb a b))))] [4] [] (by kernel_rfl) (ob1 (ob_call (equalNode_a a b (sa) (sb)))) ?_
  refine awp_ret ?_
  refine post_ret [] (b := .one (.bool (eqb a b))) (by kernel_rfl) ?_
  exact congrArg (fun b => AV.one (C.bool b)) (show eqb a b = eqb a b from by rw []; first | done | rfl | exact (Bool.and_true _).symm | simp)
theorem implEqualDir_a (a : DirD) (b : DirD) (sa : GoD.size a ≤ 1048576) (sb : GoD.size b ≤ 1048576)  : ACalls Try.prog 126 [.agg [.str a.1, .slc .sh 7 (eL a.2)], .agg [.str b.1, .slc .sh 7 (eL b.2)]] (.one (.bool (eqb a b))) := by
  refine acalls_of (tt := tt) tt_ok Try.func126 (fn := Try.f126) rfl (by unfold FnOk; kernel_rfl) (Nat.le_of_ble_eq_true rfl) fun w0 F0 => ?_
  refine awp_seq ?_
  refine awp_regionK (s' := ⟨[(2, .one (.ptr 2 0)), (3, .one (.ptr 3 0)), (4, .one (.bool false))], [(2, [.str a.1, .slc .sh 7 (eL a.2)]), (3, [.str b.1, .slc .sh 7 (eL b.2)])]⟩) (obs := []) tt_ok [] [2, 3, 4] [2, 3] (by kernel_rfl) (trivial) ?_
  refine awp_seq ?_
  rcases Bool.eq_false_or_eq_true (eqb a.1 b.1) with h1 | h1
  · -- eqb a.1 b.1 is True
    refine awp_regionK (s' := ⟨[(4, .one (.bool (eqb a.2 b.2)))], []⟩) (obs := [.eq (.one (.bool (a.1.toList == b.1.toList))) (.one (.bool true)), .call 127 [.one (.slc .sh 7 (eL a.2)), .one (.slc .sh 7 (eL b.2))] (.one (.bool (eqb a.2 b.2)))]) tt_ok [(4, .val (.one (.bool true))), (10, .val (.one (.bool (eqb a.2 b.2))))] [4] [] (by kernel_rfl) (obc (ob_eq ((congrArg (fun b => AV.one (C.bool b)) (eql_str a.1 b.1)).trans (congrArg (fun b => AV.one (C.bool b)) h1))) (ob1 (ob_call (implEqualQueries_a a.2 b.2 (sz_snd (sa)) (sz_snd (sb)))))) ?_
    refine awp_ret ?_
    refine post_ret [] (b := .one (.bool (eqb a.2 b.2))) (by kernel_rfl) ?_
    exact congrArg (fun b => AV.one (C.bool b)) (show eqb a.2 b.2 = eqb a b from by rw [eqb_prod' a b, h1]; first | done | rfl | exact (Bool.and_true _).symm | simp)
  · -- eqb a.1 b.1 is False
    refine awp_regionK (s' := ⟨[(4, .one (.bool false))], []⟩) (obs := [.eq (.one (.bool (a.1.toList == b.1.toList))) (.one (.bool false))]) tt_ok [(4, .val (.one (.bool false)))] [4] [] (by kernel_rfl) (ob1 (ob_eq ((congrArg (fun b => AV.one (C.bool b)) (eql_str a.1 b.1)).trans (congrArg (fun b => AV.one (C.bool b)) h1)))) ?_
    refine awp_ret ?_
    refine post_ret [] (b := .one (.bool false)) (by kernel_rfl) ?_
    exact congrArg (fun b => AV.one (C.bool b)) (show false = eqb a b from by rw [eqb_prod' a b, h1]; first | done | rfl | exact (Bool.and_true _).symm | simp)
theorem equalDir_a (a : (List DirD)) (b : (List DirD)) (sa : GoD.size a ≤ 1048576) (sb : GoD.size b ≤ 1048576)  : ACalls Try.prog 125 [.one (.slc .sh 2 (eL a)), .one (.slc .sh 2 (eL b)), .one (.fnr 126 [])] (.one (.bool (eqb a b))) := by
  refine acalls_of (tt := tt) tt_ok Try.func125 (fn := Try.f125) rfl (by unfold FnOk; kernel_rfl) (Nat.le_of_ble_eq_true rfl) fun w0 F0 => ?_
  refine awp_seq ?_
  refine awp_regionK (s' := ⟨[(0, .one (.slc .sh 2 (eL a))), (1, .one (.slc .sh 2 (eL b))), (2, .one (.fnr 126 [])), (6, .one (.bool false))], []⟩) (obs := []) tt_ok [] [0, 1, 2, 6] [] (by kernel_rfl) (trivial) ?_
  refine awp_seq ?_
  refine awp_seq ?_
  have hl1 : List.length a ≤ 1048576 := sz_len (sa)
  have hl2 : List.length b ≤ 1048576 := sz_len (sb)
  refine awp_regionK (s' := ⟨[(0, .one (.slc .sh 2 (eL a))), (1, .one (.slc .sh 2 (eL b))), (2, .one (.fnr 126 [])), (6, .one (.bool false)), (14, .one (.bool ((a.length : Int) != (b.length : Int))))], []⟩) (obs := [.eq (.one (.int .i64 (((eL a) : List (List PV)).length : Int))) (.one (.int .i64 (a.length : Int))), .eq (.one (.int .i64 (((eL b) : List (List PV)).length : Int))) (.one (.int .i64 (b.length : Int)))]) tt_ok [(1, .val (.one (.int .i64 (a.length : Int)))), (3, .val (.one (.int .i64 (b.length : Int))))] [0, 1, 2, 6, 14] [] (by kernel_rfl) (obc (ob_eq (by simp [eL_length])) (ob1 (ob_eq (by simp [eL_length])))) ?_
  refine awp_cond (b := ((a.length : Int) != (b.length : Int))) rfl (fun h3 => ?_) (fun h3 => ?_)
  · -- ((a.length : Int) != (b.length : Int)) is True
    have h3d := by simpa using h3
    refine awp_seq ?_
    refine awp_regionK (s' := ⟨[(0, .one (.slc .sh 2 (eL a))), (1, .one (.slc .sh 2 (eL b))), (2, .one (.fnr 126 [])), (6, .one (.bool false))], []⟩) (obs := []) tt_ok [] [0, 1, 2, 6] [] (by kernel_rfl) (trivial) ?_
    refine awp_ret ?_
    have he : eqb a b = false := eqS_len (by omega)
    refine post_ret [] (b := .one (.bool false)) (by kernel_rfl) ?_
    exact congrArg (fun b => AV.one (C.bool b)) he.symm
  · -- ((a.length : Int) != (b.length : Int)) is False
    have h3d := by simpa using h3
    refine awp_skip ?_
    refine awp_seq ?_
    refine awp_seq ?_
    refine awp_regionK (s' := ⟨[(1, .one (.slc .sh 2 (eL b))), (2, .one (.fnr 126 [])), (6, .one (.bool false)), (15, .one (.slc .sh 2 (eL a))), (16, .one (.int .i64 (a.length : Int))), (17, .one (.int .i64 0))], []⟩) (obs := [.eq (.one (.int .i64 (((eL a) : List (List PV)).length : Int))) (.one (.int .i64 (a.length : Int)))]) tt_ok [(1, .val (.one (.int .i64 (a.length : Int))))] [1, 2, 6, 15, 16, 17] [] (by kernel_rfl) (ob1 (ob_eq (by simp [eL_length]))) ?_
    refine awp_block ?_
    refine awp_forI (a.length) (fun k : Nat => (⟨[(1, .one (.slc .sh 2 (eL b))), (2, .one (.fnr 126 [])), (6, .one (.bool false)), (15, .one (.slc .sh 2 (eL a))), (16, .one (.int .i64 (a.length : Int))), (17, .one (.int .i64 ((k : Nat) : Int)))], []⟩ : St)) (fun k : Nat => List.take k a = List.take k b) (weak_to [] [1, 2, 6, 15, 16, 17] [] (by kernel_rfl)) (by simp) (fun k hk hinv => ?_) (fun hinv => ?_)
    · -- round
      refine awp_seq ?_
      refine awp_regionK (s' := ⟨[(1, .one (.slc .sh 2 (eL b))), (2, .one (.fnr 126 [])), (6, .one (.bool false)), (15, .one (.slc .sh 2 (eL a))), (16, .one (.int .i64 (a.length : Int))), (17, .one (.int .i64 ((k : Nat) : Int))), (18, .one (.bool true))], []⟩) (obs := [.eq (.one (.bool (decide (((k : Nat) : Int) < (a.length : Int))))) (.one (.bool true))]) tt_ok [(0, .val (.one (.bool true)))] [1, 2, 6, 15, 16, 17, 18] [] (by kernel_rfl) (ob1 (ob_eq (congrArg (fun b => AV.one (C.bool b)) (decide_eq_true (by omega))))) ?_
      refine awp_seq ?_
      refine awp_cond (b := true) rfl (fun _ => ?_) (fun h => by cases h)
      refine awp_skip ?_
      refine awp_seq ?_
      refine awp_block ?_
      refine awp_seq ?_
      obtain ⟨x4, hx5⟩ := get_some (l := a) (i := k) (by omega)
      refine awp_regionK (s' := ⟨[(1, .one (.slc .sh 2 (eL b))), (2, .one (.fnr 126 [])), (6, .one (.bool false)), (7, .one (.int .i64 ((k : Nat) : Int))), (8, .one (.ptr 8 0)), (15, .one (.slc .sh 2 (eL a))), (16, .one (.int .i64 (a.length : Int))), (17, .one (.int .i64 ((k : Nat) : Int)))], [(8, [.str x4.1, .slc .sh 7 (eL x4.2)])]⟩) (obs := [.elem (eL a) ((k : Nat) : Int) [.str x4.1, .slc 7 (eL x4.2)]]) tt_ok [(1, .row [.str x4.1, .slc 7 (eL x4.2)])] [1, 2, 6, 7, 8, 15, 16, 17] [8] (by kernel_rfl) (ob1 (ob_elem (⟨by omega, eL_get (by simpa using hx5)⟩))) ?_
      refine awp_seq ?_
      obtain ⟨x6, hx7⟩ := get_some (l := b) (i := k) (by omega)
      refine awp_regionK (s' := ⟨[(1, .one (.slc .sh 2 (eL b))), (2, .one (.fnr 126 [])), (6, .one (.bool false)), (8, .one (.ptr 8 0)), (9, .one (.ptr 9 0)), (15, .one (.slc .sh 2 (eL a))), (16, .one (.int .i64 (a.length : Int))), (17, .one (.int .i64 ((k : Nat) : Int)))], [(8, [.str x4.1, .slc .sh 7 (eL x4.2)]), (9, [.str x6.1, .slc .sh 7 (eL x6.2)])]⟩) (obs := [.elem (eL b) ((k : Nat) : Int) [.str x6.1, .slc 7 (eL x6.2)]]) tt_ok [(2, .row [.str x6.1, .slc 7 (eL x6.2)])] [1, 2, 6, 8, 9, 15, 16, 17] [8, 9] (by kernel_rfl) (ob1 (ob_elem (⟨by omega, eL_get (by simpa using hx7)⟩))) ?_
      refine awp_seq ?_
      refine awp_regionK (s' := ⟨[(1, .one (.slc .sh 2 (eL b))), (2, .one (.fnr 126 [])), (6, .one (.bool false)), (15, .one (.slc .sh 2 (eL a))), (16, .one (.int .i64 (a.length : Int))), (17, .one (.int .i64 ((k : Nat) : Int))), (30, .one (.bool (!(eqb x4 x6))))], []⟩) (obs := [.call 126 [.agg [.str x4.1, .slc .sh 7 (eL x4.2)], .agg [.str x6.1, .slc .sh 7 (eL x6.2)]] (.one (.bool (eqb x4 x6)))]) tt_ok [(3, .val (.one (.bool (eqb x4 x6))))] [1, 2, 6, 15, 16, 17, 30] [] (by kernel_rfl) (ob1 (ob_call (implEqualDir_a x4 x6 (sz_get hx5 (sa)) (sz_get hx7 (sb))))) ?_
      refine awp_cond (b := (!(eqb x4 x6))) rfl (fun h8 => ?_) (fun h8 => ?_)
      · -- (!(eqb x4 x6)) is True
        have h8n : (eqb x4 x6) = false := bnot_t h8
        refine awp_seq ?_
        refine awp_regionK (s' := ⟨[(1, .one (.slc .sh 2 (eL b))), (2, .one (.fnr 126 [])), (6, .one (.bool false)), (15, .one (.slc .sh 2 (eL a))), (16, .one (.int .i64 (a.length : Int))), (17, .one (.int .i64 ((k : Nat) : Int)))], []⟩) (obs := []) tt_ok [] [1, 2, 6, 15, 16, 17] [] (by kernel_rfl) (trivial) ?_
        refine awp_ret ?_
        have he : eqb a b = false := eqS_no hx5 hx7 (show eqb x4 x6 = false from h8n)
        refine post_ret [] (b := .one (.bool false)) (by kernel_rfl) ?_
        exact congrArg (fun b => AV.one (C.bool b)) he.symm
      · -- (!(eqb x4 x6)) is False
        have h8n : (eqb x4 x6) = true := bnot_f h8
        refine awp_skip ?_
        refine awp_regionK (s' := ⟨[(1, .one (.slc .sh 2 (eL b))), (2, .one (.fnr 126 [])), (6, .one (.bool false)), (15, .one (.slc .sh 2 (eL a))), (16, .one (.int .i64 (a.length : Int))), (17, .one (.int .i64 (((k : Nat) : Int) + 1)))], []⟩) (obs := [.eq (.one (.int .i64 (IntKind.i64.wrap (((k : Nat) : Int) + 1)))) (.one (.int .i64 (((k : Nat) : Int) + 1)))]) tt_ok [(0, .val (.one (.int .i64 (((k : Nat) : Int) + 1))))] [1, 2, 6, 15, 16, 17] [] (by kernel_rfl) (ob1 (ob_eq (congrArg (fun n => AV.one (.int .i64 n)) (IntWalk.i64_in _ (by omega))))) ?_
        exact ⟨weak_to [] [1, 2, 6, 15, 16, 17] [] (by kernel_rfl), (eqS_step hinv hx5 hx7 (show eqb x4 x6 = true from h8n)).out⟩
    · -- exit
      refine awp_seq ?_
      refine awp_regionK (s' := ⟨[(1, .one (.slc .sh 2 (eL b))), (2, .one (.fnr 126 [])), (6, .one (.bool false)), (15, .one (.slc .sh 2 (eL a))), (16, .one (.int .i64 (a.length : Int))), (17, .one (.int .i64 ((a.length : Nat) : Int))), (18, .one (.bool false))], []⟩) (obs := [.eq (.one (.bool (decide (((a.length : Nat) : Int) < (a.length : Int))))) (.one (.bool false))]) tt_ok [(0, .val (.one (.bool false)))] [1, 2, 6, 15, 16, 17, 18] [] (by kernel_rfl) (ob1 (ob_eq (congrArg (fun b => AV.one (C.bool b)) (decide_eq_false (by omega))))) ?_
      refine awp_seq ?_
      refine awp_cond (b := false) rfl (fun h => by cases h) (fun _ => ?_)
      refine awp_exit ?_
      refine awp_seq ?_
      refine awp_regionK (s' := ⟨[(6, .one (.bool true))], []⟩) (obs := []) tt_ok [] [6] [] (by kernel_rfl) (trivial) ?_
      refine awp_ret ?_
      have he : eqb a b = true := eqS_end hinv (by omega)
      refine post_ret [] (b := .one (.bool true)) (by kernel_rfl) ?_
      exact congrArg (fun b => AV.one (C.bool b)) he.symm
theorem implEqualDirs_a (a : (List DirD)) (b : (List DirD)) (sa : GoD.size a ≤ 1048576) (sb : GoD.size b ≤ 1048576)  : ACalls Try.prog 80 [.one (.slc .sh 2 (eL a)), .one (.slc .sh 2 (eL b))] (.one (.bool (eqb a b))) := by
  refine acalls_of (tt := tt) tt_ok Try.func80 (fn := Try.f80) rfl (by unfold FnOk; kernel_rfl) (Nat.le_of_ble_eq_true rfl) fun w0 F0 => ?_
  refine awp_seq ?_
  refine awp_regionK (s' := ⟨[(0, .one (.slc .sh 2 (eL a))), (1, .one (.slc .sh 2 (eL b))), (4, .one (.bool false))], []⟩) (obs := []) tt_ok [] [0, 1, 4] [] (by kernel_rfl) (trivial) ?_
  refine awp_seq ?_
  refine awp_regionK (s' := ⟨[(4, .one (.bool (eqb a b)))], []⟩) (obs := [.call 125 [.one (.slc .sh 2 (eL a)), .one (.slc .sh 2 (eL b)), .one (.fnr 126 [])] (.one (.bool (eqb a b)))]) tt_ok [(2, .val (.one (.bool (eqb a b))))] [4] [] (by kernel_rfl) (ob1 (ob_call (equalDir_a a b (sa) (sb)))) ?_
  refine awp_ret ?_
  refine post_ret [] (b := .one (.bool (eqb a b))) (by kernel_rfl) ?_
  exact congrArg (fun b => AV.one (C.bool b)) (show eqb a b = eqb a b from by rw []; first | done | rfl | exact (Bool.and_true _).symm | simp)
theorem implEqualSnapshots_a (a : SnapshotD) (b : SnapshotD) (sa : GoD.size a ≤ 1048576) (sb : GoD.size b ≤ 1048576)  : ACalls Try.prog 41 [.agg [.slc .sh 2 (eL a.1.1), .slc .sh 5 (eL a.1.2.1), .int .i64 a.1.2.2, .slc .sh 2 (eL a.2)], .agg [.slc .sh 2 (eL b.1.1), .slc .sh 5 (eL b.1.2.1), .int .i64 b.1.2.2, .slc .sh 2 (eL b.2)]] (.one (.bool (eqb a b))) := by
  refine acalls_of (tt := tt) tt_ok Try.func41 (fn := Try.f41) rfl (by unfold FnOk; kernel_rfl) (Nat.le_of_ble_eq_true rfl) fun w0 F0 => ?_
  refine awp_seq ?_
  refine awp_regionK (s' := ⟨[(2, .one (.ptr 2 0)), (3, .one (.ptr 3 0)), (4, .one (.bool false))], [(2, [.slc .sh 2 (eL a.1.1), .slc .sh 5 (eL a.1.2.1), .int .i64 a.1.2.2, .slc .sh 2 (eL a.2)]), (3, [.slc .sh 2 (eL b.1.1), .slc .sh 5 (eL b.1.2.1), .int .i64 b.1.2.2, .slc .sh 2 (eL b.2)])]⟩) (obs := []) tt_ok [] [2, 3, 4] [2, 3] (by kernel_rfl) (trivial) ?_
  refine awp_seq ?_
  rcases Bool.eq_false_or_eq_true (eqb a.1 b.1) with h1 | h1
  · -- eqb a.1 b.1 is True
    refine awp_regionK (s' := ⟨[(4, .one (.bool (eqb a.2 b.2)))], []⟩) (obs := [.call 79 [.agg [.slc .sh 2 (eL a.1.1), .slc .sh 5 (eL a.1.2.1), .int .i64 a.1.2.2], .agg [.slc .sh 2 (eL b.1.1), .slc .sh 5 (eL b.1.2.1), .int .i64 b.1.2.2]] (.one (.bool (eqb a.1 b.1))), .eq (.one (.bool (eqb a.1 b.1))) (.one (.bool true)), .call 80 [.one (.slc .sh 2 (eL a.2)), .one (.slc .sh 2 (eL b.2))] (.one (.bool (eqb a.2 b.2)))]) tt_ok [(4, .val (.one (.bool (eqb a.1 b.1)))), (5, .val (.one (.bool true))), (10, .val (.one (.bool (eqb a.2 b.2))))] [4] [] (by kernel_rfl) (obc (ob_call (implEqualStores_a a.1 b.1 (sz_fst (sa)) (sz_fst (sb)))) (obc (ob_eq (congrArg (fun b => AV.one (C.bool b)) h1)) (ob1 (ob_call (implEqualDirs_a a.2 b.2 (sz_snd (sa)) (sz_snd (sb))))))) ?_
    refine awp_ret ?_
    refine post_ret [] (b := .one (.bool (eqb a.2 b.2))) (by kernel_rfl) ?_
    exact congrArg (fun b => AV.one (C.bool b)) (show eqb a.2 b.2 = eqb a b from by rw [eqb_prod' a b, h1]; first | done | rfl | exact (Bool.and_true _).symm | simp)
  · -- eqb a.1 b.1 is False
    refine awp_regionK (s' := ⟨[(4, .one (.bool false))], []⟩) (obs := [.call 79 [.agg [.slc .sh 2 (eL a.1.1), .slc .sh 5 (eL a.1.2.1), .int .i64 a.1.2.2], .agg [.slc .sh 2 (eL b.1.1), .slc .sh 5 (eL b.1.2.1), .int .i64 b.1.2.2]] (.one (.bool (eqb a.1 b.1))), .eq (.one (.bool (eqb a.1 b.1))) (.one (.bool false))]) tt_ok [(4, .val (.one (.bool (eqb a.1 b.1)))), (5, .val (.one (.bool false)))] [4] [] (by kernel_rfl) (obc (ob_call (implEqualStores_a a.1 b.1 (sz_fst (sa)) (sz_fst (sb)))) (ob1 (ob_eq (congrArg (fun b => AV.one (C.bool b)) h1)))) ?_
    refine awp_ret ?_
    refine post_ret [] (b := .one (.bool false)) (by kernel_rfl) ?_
    exact congrArg (fun b => AV.one (C.bool b)) (show false = eqb a b from by rw [eqb_prod' a b, h1]; first | done | rfl | exact (Bool.and_true _).symm | simp)
theorem implEqualVersion_a (a : VersionD) (b : VersionD) (sa : GoD.size a ≤ 1048576) (sb : GoD.size b ≤ 1048576)  : ACalls Try.prog 40 [.agg [.int .i64 a.1, .slc .sh 2 (eL a.2.1.1.1), .slc .sh 5 (eL a.2.1.1.2.1), .int .i64 a.2.1.1.2.2, .slc .sh 2 (eL a.2.1.2), .int .i64 a.2.2], .agg [.int .i64 b.1, .slc .sh 2 (eL b.2.1.1.1), .slc .sh 5 (eL b.2.1.1.2.1), .int .i64 b.2.1.1.2.2, .slc .sh 2 (eL b.2.1.2), .int .i64 b.2.2]] (.one (.bool (eqb a b))) := by
  refine acalls_of (tt := tt) tt_ok Try.func40 (fn := Try.f40) rfl (by unfold FnOk; kernel_rfl) (Nat.le_of_ble_eq_true rfl) fun w0 F0 => ?_
  refine awp_seq ?_
  refine awp_regionK (s' := ⟨[(2, .one (.ptr 2 0)), (3, .one (.ptr 3 0)), (4, .one (.bool false))], [(2, [.int .i64 a.1, .slc .sh 2 (eL a.2.1.1.1), .slc .sh 5 (eL a.2.1.1.2.1), .int .i64 a.2.1.1.2.2, .slc .sh 2 (eL a.2.1.2), .int .i64 a.2.2]), (3, [.int .i64 b.1, .slc .sh 2 (eL b.2.1.1.1), .slc .sh 5 (eL b.2.1.1.2.1), .int .i64 b.2.1.1.2.2, .slc .sh 2 (eL b.2.1.2), .int .i64 b.2.2])]⟩) (obs := []) tt_ok [] [2, 3, 4] [2, 3] (by kernel_rfl) (trivial) ?_
  refine awp_seq ?_
  rcases Bool.eq_false_or_eq_true (eqb a.1 b.1) with h1 | h1
  · -- eqb a.1 b.1 is True
    rcases Bool.eq_false_or_eq_true (eqb a.2.2 b.2.2) with h2 | h2
    · -- eqb a.2.2 b.2.2 is True
      refine awp_regionK (s' := ⟨[(4, .one (.bool (eqb a.2.1 b.2.1)))], []⟩) (obs := [.eq (.one (.bool (a.1 == b.1))) (.one (.bool true)), .eq (.one (.bool (a.2.2 == b.2.2))) (.one (.bool true)), .call 41 [.agg [.slc .sh 2 (eL a.2.1.1.1), .slc .sh 5 (eL a.2.1.1.2.1), .int .i64 a.2.1.1.2.2, .slc .sh 2 (eL a.2.1.2)], .agg [.slc .sh 2 (eL b.2.1.1.1), .slc .sh 5 (eL b.2.1.1.2.1), .int .i64 b.2.1.1.2.2, .slc .sh 2 (eL b.2.1.2)]] (.one (.bool (eqb a.2.1 b.2.1)))]) tt_ok [(4, .val (.one (.bool true))), (10, .val (.one (.bool true))), (17, .val (.one (.bool (eqb a.2.1 b.2.1))))] [4] [] (by kernel_rfl) (obc (ob_eq ((congrArg (fun b => AV.one (C.bool b)) (eql_int a.1 b.1)).trans (congrArg (fun b => AV.one (C.bool b)) h1))) (obc (ob_eq ((congrArg (fun b => AV.one (C.bool b)) (eql_int a.2.2 b.2.2)).trans (congrArg (fun b => AV.one (C.bool b)) h2))) (ob1 (ob_call (implEqualSnapshots_a a.2.1 b.2.1 (sz_fst (sz_snd (sa))) (sz_fst (sz_snd (sb)))))))) ?_
      refine awp_ret ?_
      refine post_ret [] (b := .one (.bool (eqb a.2.1 b.2.1))) (by kernel_rfl) ?_
      exact congrArg (fun b => AV.one (C.bool b)) (show eqb a.2.1 b.2.1 = eqb a b from by rw [eqb_prod' a b, eqb_prod' a.2 b.2, h1, h2]; first | done | rfl | exact (Bool.and_true _).symm | simp)
    · -- eqb a.2.2 b.2.2 is False
      refine awp_regionK (s' := ⟨[(4, .one (.bool false))], []⟩) (obs := [.eq (.one (.bool (a.1 == b.1))) (.one (.bool true)), .eq (.one (.bool (a.2.2 == b.2.2))) (.one (.bool false))]) tt_ok [(4, .val (.one (.bool true))), (10, .val (.one (.bool false)))] [4] [] (by kernel_rfl) (obc (ob_eq ((congrArg (fun b => AV.one (C.bool b)) (eql_int a.1 b.1)).trans (congrArg (fun b => AV.one (C.bool b)) h1))) (ob1 (ob_eq ((congrArg (fun b => AV.one (C.bool b)) (eql_int a.2.2 b.2.2)).trans (congrArg (fun b => AV.one (C.bool b)) h2))))) ?_
      refine awp_ret ?_
      refine post_ret [] (b := .one (.bool false)) (by kernel_rfl) ?_
      exact congrArg (fun b => AV.one (C.bool b)) (show false = eqb a b from by rw [eqb_prod' a b, eqb_prod' a.2 b.2, h1, h2]; first | done | rfl | exact (Bool.and_true _).symm | simp)
  · -- eqb a.1 b.1 is False
    refine awp_regionK (s' := ⟨[(4, .one (.bool false))], []⟩) (obs := [.eq (.one (.bool (a.1 == b.1))) (.one (.bool false))]) tt_ok [(4, .val (.one (.bool false)))] [4] [] (by kernel_rfl) (ob1 (ob_eq ((congrArg (fun b => AV.one (C.bool b)) (eql_int a.1 b.1)).trans (congrArg (fun b => AV.one (C.bool b)) h1)))) ?_
    refine awp_ret ?_
    refine post_ret [] (b := .one (.bool false)) (by kernel_rfl) ?_
    exact congrArg (fun b => AV.one (C.bool b)) (show false = eqb a b from by rw [eqb_prod' a b, eqb_prod' a.2 b.2, h1]; first | done | rfl | exact (Bool.and_true _).symm | simp)
theorem equalVersion_a (a : (List VersionD)) (b : (List VersionD)) (sa : GoD.size a ≤ 1048576) (sb : GoD.size b ≤ 1048576)  : ACalls Try.prog 39 [.one (.slc .sh 6 (eL a)), .one (.slc .sh 6 (eL b)), .one (.fnr 40 [])] (.one (.bool (eqb a b))) := by
  refine acalls_of (tt := tt) tt_ok Try.func39 (fn := Try.f39) rfl (by unfold FnOk; kernel_rfl) (Nat.le_of_ble_eq_true rfl) fun w0 F0 => ?_
  refine awp_seq ?_
  refine awp_regionK (s' := ⟨[(0, .one (.slc .sh 6 (eL a))), (1, .one (.slc .sh 6 (eL b))), (2, .one (.fnr 40 [])), (6, .one (.bool false))], []⟩) (obs := []) tt_ok [] [0, 1, 2, 6] [] (by kernel_rfl) (trivial) ?_
  refine awp_seq ?_
  refine awp_seq ?_
  have hl1 : List.length a ≤ 1048576 := sz_len (sa)
  have hl2 : List.length b ≤ 1048576 := sz_len (sb)
  refine awp_regionK (s' := ⟨[(0, .one (.slc .sh 6 (eL a))), (1, .one (.slc .sh 6 (eL b))), (2, .one (.fnr 40 [])), (6, .one (.bool false)), (14, .one (.bool ((a.length : Int) != (b.length : Int))))], []⟩) (obs := [.eq (.one (.int .i64 (((eL a) : List (List PV)).length : Int))) (.one (.int .i64 (a.length : Int))), .eq (.one (.int .i64 (((eL b) : List (List PV)).length : Int))) (.one (.int .i64 (b.length : Int)))]) tt_ok [(1, .val (.one (.int .i64 (a.length : Int)))), (3, .val (.one (.int .i64 (b.length : Int))))] [0, 1, 2, 6, 14] [] (by kernel_rfl) (obc (ob_eq (by simp [eL_length])) (ob1 (ob_eq (by simp [eL_length])))) ?_
  refine awp_cond (b := ((a.length : Int) != (b.length : Int))) rfl (fun h3 => ?_) (fun h3 => ?_)
  · -- ((a.length : Int) != (b.length : Int)) is True
    have h3d := by simpa using h3
    refine awp_seq ?_
    refine awp_regionK (s' := ⟨[(0, .one (.slc .sh 6 (eL a))), (1, .one (.slc .sh 6 (eL b))), (2, .one (.fnr 40 [])), (6, .one (.bool false))], []⟩) (obs := []) tt_ok [] [0, 1, 2, 6] [] (by kernel_rfl) (trivial) ?_
    refine awp_ret ?_
    have he : eqb a b = false := eqS_len (by omega)
    refine post_ret [] (b := .one (.bool false)) (by kernel_rfl) ?_
    exact congrArg (fun b => AV.one (C.bool b)) he.symm
  · -- ((a.length : Int) != (b.length : Int)) is False
    have h3d := by simpa using h3
    refine awp_skip ?_
    refine awp_seq ?_
    refine awp_seq ?_
    refine awp_regionK (s' := ⟨[(1, .one (.slc .sh 6 (eL b))), (2, .one (.fnr 40 [])), (6, .one (.bool false)), (15, .one (.slc .sh 6 (eL a))), (16, .one (.int .i64 (a.length : Int))), (17, .one (.int .i64 0))], []⟩) (obs := [.eq (.one (.int .i64 (((eL a) : List (List PV)).length : Int))) (.one (.int .i64 (a.length : Int)))]) tt_ok [(1, .val (.one (.int .i64 (a.length : Int))))] [1, 2, 6, 15, 16, 17] [] (by kernel_rfl) (ob1 (ob_eq (by simp [eL_length]))) ?_
    refine awp_block ?_
    refine awp_forI (a.length) (fun k : Nat => (⟨[(1, .one (.slc .sh 6 (eL b))), (2, .one (.fnr 40 [])), (6, .one (.bool false)), (15, .one (.slc .sh 6 (eL a))), (16, .one (.int .i64 (a.length : Int))), (17, .one (.int .i64 ((k : Nat) : Int)))], []⟩ : St)) (fun k : Nat => List.take k a = List.take k b) (weak_to [] [1, 2, 6, 15, 16, 17] [] (by kernel_rfl)) (by simp) (fun k hk hinv => ?_) (fun hinv => ?_)
    · -- round
      refine awp_seq ?_
      refine awp_regionK (s' := ⟨[(1, .one (.slc .sh 6 (eL b))), (2, .one (.fnr 40 [])), (6, .one (.bool false)), (15, .one (.slc .sh 6 (eL a))), (16, .one (.int .i64 (a.length : Int))), (17, .one (.int .i64 ((k : Nat) : Int))), (18, .one (.bool true))], []⟩) (obs := [.eq (.one (.bool (decide (((k : Nat) : Int) < (a.length : Int))))) (.one (.bool true))]) tt_ok [(0, .val (.one (.bool true)))] [1, 2, 6, 15, 16, 17, 18] [] (by kernel_rfl) (ob1 (ob_eq (congrArg (fun b => AV.one (C.bool b)) (decide_eq_true (by omega))))) ?_
      refine awp_seq ?_
      refine awp_cond (b := true) rfl (fun _ => ?_) (fun h => by cases h)
      refine awp_skip ?_
      refine awp_seq ?_
      refine awp_block ?_
      refine awp_seq ?_
      obtain ⟨x4, hx5⟩ := get_some (l := a) (i := k) (by omega)
      refine awp_regionK (s' := ⟨[(1, .one (.slc .sh 6 (eL b))), (2, .one (.fnr 40 [])), (6, .one (.bool false)), (7, .one (.int .i64 ((k : Nat) : Int))), (8, .one (.ptr 8 0)), (15, .one (.slc .sh 6 (eL a))), (16, .one (.int .i64 (a.length : Int))), (17, .one (.int .i64 ((k : Nat) : Int)))], [(8, [.int .i64 x4.1, .slc .sh 2 (eL x4.2.1.1.1), .slc .sh 5 (eL x4.2.1.1.2.1), .int .i64 x4.2.1.1.2.2, .slc .sh 2 (eL x4.2.1.2), .int .i64 x4.2.2])]⟩) (obs := [.elem (eL a) ((k : Nat) : Int) [.int .i64 x4.1, .slc 2 (eL x4.2.1.1.1), .slc 5 (eL x4.2.1.1.2.1), .int .i64 x4.2.1.1.2.2, .slc 2 (eL x4.2.1.2), .int .i64 x4.2.2]]) tt_ok [(1, .row [.int .i64 x4.1, .slc 2 (eL x4.2.1.1.1), .slc 5 (eL x4.2.1.1.2.1), .int .i64 x4.2.1.1.2.2, .slc 2 (eL x4.2.1.2), .int .i64 x4.2.2])] [1, 2, 6, 7, 8, 15, 16, 17] [8] (by kernel_rfl) (ob1 (ob_elem (⟨by omega, eL_get (by simpa using hx5)⟩))) ?_
      refine awp_seq ?_
      obtain ⟨x6, hx7⟩ := get_some (l := b) (i := k) (by omega)
      refine awp_regionK (s' := ⟨[(1, .one (.slc .sh 6 (eL b))), (2, .one (.fnr 40 [])), (6, .one (.bool false)), (8, .one (.ptr 8 0)), (9, .one (.ptr 9 0)), (15, .one (.slc .sh 6 (eL a))), (16, .one (.int .i64 (a.length : Int))), (17, .one (.int .i64 ((k : Nat) : Int)))], [(8, [.int .i64 x4.1, .slc .sh 2 (eL x4.2.1.1.1), .slc .sh 5 (eL x4.2.1.1.2.1), .int .i64 x4.2.1.1.2.2, .slc .sh 2 (eL x4.2.1.2), .int .i64 x4.2.2]), (9, [.int .i64 x6.1, .slc .sh 2 (eL x6.2.1.1.1), .slc .sh 5 (eL x6.2.1.1.2.1), .int .i64 x6.2.1.1.2.2, .slc .sh 2 (eL x6.2.1.2), .int .i64 x6.2.2])]⟩) (obs := [.elem (eL b) ((k : Nat) : Int) [.int .i64 x6.1, .slc 2 (eL x6.2.1.1.1), .slc 5 (eL x6.2.1.1.2.1), .int .i64 x6.2.1.1.2.2, .slc 2 (eL x6.2.1.2), .int .i64 x6.2.2]]) tt_ok [(2, .row [.int .i64 x6.1, .slc 2 (eL x6.2.1.1.1), .slc 5 (eL x6.2.1.1.2.1), .int .i64 x6.2.1.1.2.2, .slc 2 (eL x6.2.1.2), .int .i64 x6.2.2])] [1, 2, 6, 8, 9, 15, 16, 17] [8, 9] (by kernel_rfl) (ob1 (ob_elem (⟨by omega, eL_get (by simpa using hx7)⟩))) ?_
      refine awp_seq ?_
      refine awp_regionK (s' := ⟨[(1, .one (.slc .sh 6 (eL b))), (2, .one (.fnr 40 [])), (6, .one (.bool false)), (15, .one (.slc .sh 6 (eL a))), (16, .one (.int .i64 (a.length : Int))), (17, .one (.int .i64 ((k : Nat) : Int))), (30, .one (.bool (!(eqb x4 x6))))], []⟩) (obs := [.call 40 [.agg [.int .i64 x4.1, .slc .sh 2 (eL x4.2.1.1.1), .slc .sh 5 (eL x4.2.1.1.2.1), .int .i64 x4.2.1.1.2.2, .slc .sh 2 (eL x4.2.1.2), .int .i64 x4.2.2], .agg [.int .i64 x6.1, .slc .sh 2 (eL x6.2.1.1.1), .slc .sh 5 (eL x6.2.1.1.2.1), .int .i64 x6.2.1.1.2.2, .slc .sh 2 (eL x6.2.1.2), .int .i64 x6.2.2]] (.one (.bool (eqb x4 x6)))]) tt_ok [(3, .val (.one (.bool (eqb x4 x6))))] [1, 2, 6, 15, 16, 17, 30] [] (by kernel_rfl) (ob1 (ob_call (implEqualVersion_a x4 x6 (sz_get hx5 (sa)) (sz_get hx7 (sb))))) ?_
      refine awp_cond (b := (!(eqb x4 x6))) rfl (fun h8 => ?_) (fun h8 => ?_)
      · -- (!(eqb x4 x6)) is True
        have h8n : (eqb x4 x6) = false := bnot_t h8
        refine awp_seq ?_
        refine awp_regionK (s' := ⟨[(1, .one (.slc .sh 6 (eL b))), (2, .one (.fnr 40 [])), (6, .one (.bool false)), (15, .one (.slc .sh 6 (eL a))), (16, .one (.int .i64 (a.length : Int))), (17, .one (.int .i64 ((k : Nat) : Int)))], []⟩) (obs := []) tt_ok [] [1, 2, 6, 15, 16, 17] [] (by kernel_rfl) (trivial) ?_
        refine awp_ret ?_
        have he : eqb a b = false := eqS_no hx5 hx7 (show eqb x4 x6 = false from h8n)
        refine post_ret [] (b := .one (.bool false)) (by kernel_rfl) ?_
        exact congrArg (fun b => AV.one (C.bool b)) he.symm
      · -- (!(eqb x4 x6)) is False
        have h8n : (eqb x4 x6) = true := bnot_f h8
        refine awp_skip ?_
        refine awp_regionK (s' := ⟨[(1, .one (.slc .sh 6 (eL b))), (2, .one (.fnr 40 [])), (6, .one (.bool false)), (15, .one (.slc .sh 6 (eL a))), (16, .one (.int .i64 (a.length : Int))), (17, .one (.int .i64 (((k : Nat) : Int) + 1)))], []⟩) (obs := [.eq (.one (.int .i64 (IntKind.i64.wrap (((k : Nat) : Int) + 1)))) (.one (.int .i64 (((k : Nat) : Int) + 1)))]) tt_ok [(0, .val (.one (.int .i64 (((k : Nat) : Int) + 1))))] [1, 2, 6, 15, 16, 17] [] (by kernel_rfl) (ob1 (ob_eq (congrArg (fun n => AV.one (.int .i64 n)) (IntWalk.i64_in _ (by omega))))) ?_
        exact ⟨weak_to [] [1, 2, 6, 15, 16, 17] [] (by kernel_rfl), (eqS_step hinv hx5 hx7 (show eqb x4 x6 = true from h8n)).out⟩
    · -- exit
      refine awp_seq ?_
      refine awp_regionK (s' := ⟨[(1, .one (.slc .sh 6 (eL b))), (2, .one (.fnr 40 [])), (6, .one (.bool false)), (15, .one (.slc .sh 6 (eL a))), (16, .one (.int .i64 (a.length : Int))), (17, .one (.int .i64 ((a.length : Nat) : Int))), (18, .one (.bool false))], []⟩) (obs := [.eq (.one (.bool (decide (((a.length : Nat) : Int) < (a.length : Int))))) (.one (.bool false))]) tt_ok [(0, .val (.one (.bool false)))] [1, 2, 6, 15, 16, 17, 18] [] (by kernel_rfl) (ob1 (ob_eq (congrArg (fun b => AV.one (C.bool b)) (decide_eq_false (by omega))))) ?_
      refine awp_seq ?_
      refine awp_cond (b := false) rfl (fun h => by cases h) (fun _ => ?_)
      refine awp_exit ?_
      refine awp_seq ?_
      refine awp_regionK (s' := ⟨[(6, .one (.bool true))], []⟩) (obs := []) tt_ok [] [6] [] (by kernel_rfl) (trivial) ?_
      refine awp_ret ?_
      have he : eqb a b = true := eqS_end hinv (by omega)
      refine post_ret [] (b := .one (.bool true)) (by kernel_rfl) ?_
      exact congrArg (fun b => AV.one (C.bool b)) he.symm
theorem implEqualVersions_a (a : (List VersionD)) (b : (List VersionD)) (sa : GoD.size a ≤ 1048576) (sb : GoD.size b ≤ 1048576)  : ACalls Try.prog 10 [.one (.slc .sh 6 (eL a)), .one (.slc .sh 6 (eL b))] (.one (.bool (eqb a b))) := by
  refine acalls_of (tt := tt) tt_ok Try.func10 (fn := Try.f10) rfl (by unfold FnOk; kernel_rfl) (Nat.le_of_ble_eq_true rfl) fun w0 F0 => ?_
  refine awp_seq ?_
  refine awp_regionK (s' := ⟨[(0, .one (.slc .sh 6 (eL a))), (1, .one (.slc .sh 6 (eL b))), (4, .one (.bool false))], []⟩) (obs := []) tt_ok [] [0, 1, 4] [] (by kernel_rfl) (trivial) ?_
  refine awp_seq ?_
  refine awp_regionK (s' := ⟨[(4, .one (.bool (eqb a b)))], []⟩) (obs := [.call 39 [.one (.slc .sh 6 (eL a)), .one (.slc .sh 6 (eL b)), .one (.fnr 40 [])] (.one (.bool (eqb a b)))]) tt_ok [(2, .val (.one (.bool (eqb a b))))] [4] [] (by kernel_rfl) (ob1 (ob_call (equalVersion_a a b (sa) (sb)))) ?_
  refine awp_ret ?_
  refine post_ret [] (b := .one (.bool (eqb a b))) (by kernel_rfl) ?_
  exact congrArg (fun b => AV.one (C.bool b)) (show eqb a b = eqb a b from by rw []; first | done | rfl | exact (Bool.and_true _).symm | simp)
end Go.Proofs.Ytdhagfpgijcfbaa
