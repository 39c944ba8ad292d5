/- What functions compute, and that they do (printed by am2.py): each function as a Lean function, then its contract. -/
import Derived.Test.YtjkfmihbmkbjfaaGreatCkd
import Derived.KernelRfl
set_option linter.unusedVariables false
set_option linter.unusedSimpArgs false
namespace Go.Proofs.YtjkfmihbmkbjfaaGreat
open Go.RowKit
open GoE (enc wide)
def implNewCheck : CheckD := (0, [])
theorem implNewCheck_a : ACalls Tryz.prog 128 [] (.a [.i implNewCheck.1, .o 0 implNewCheck.2]) := by
  refine acalls_of (tt := tt) tt_ok Tryz.func128 (fn := Tryz.f128) rfl (by unfold FnOk; kernel_rfl) (Nat.le_of_ble_eq_true rfl) fun w0 F0 => ?_
  refine awp_seq ?_
  refine rk tt_ok [(0, .p 0 0)] [] [(0, [.i 0, .e 0])] [] [] (o0) ?_
  refine awp_seq ?_
  refine rk tt_ok [] [] [] [] [] (o0) ?_
  refine opn [(true, 0, 1, true, 384000, 1)] ?_
  refine awp_ret ?_
  exact pret [] (congrArg (fun z => (.a [.i z.1, .o 0 z.2] : AV)) (show implNewCheck = (0, []) from rfl).symm)
def implCheckAll_f0 (c : CatalogD) (s0 : Bool × CheckD) : Rd ((List ByteArray)) (Bool × CheckD) (CheckD) := (bif s0.1 then (.next (((implCheckStep c s0.2)).2, (((implCheckStep c s0.2)).1))) else (.brk s0.2))
def implCheckAll (c : CatalogD) : (List ByteArray) := (Out.on (whlD (implCheckAll_f0 c) (List.length c.2.1 + 2) (true, implNewCheck)) (fun y0 => y0.2))
theorem implCheckAll_w (c : CatalogD) (hl : c.2.1.length ≤ 1073741824) : (whl (implCheckAll_f0 c) (List.length c.2.1 + 2) (true, implNewCheck)).isSome = true := checkAll_w hl
theorem implCheckAll_a (c : CatalogD) : ACalls Tryz.prog 81 [.a [.h c.1.1, .h c.1.2.1, .i c.1.2.2, .h c.2.1, .h c.2.2]] (.o 0 (implCheckAll c)) := by
  refine acalls_of (tt := tt) tt_ok Tryz.func81 (fn := Tryz.f81) rfl (by unfold FnOk; kernel_rfl) (Nat.le_of_ble_eq_true rfl) fun w0 F0 => ?_
  refine awp_seq ?_
  refine rk tt_ok [(1, .p 1 0), (2, .e 0)] [0] [(1, [.h c.1.1, .h c.1.2.1, .i c.1.2.2, .h c.2.1, .h c.2.2])] [] [] (o0) ?_
  refine awp_seq ?_
  refine rk tt_ok [(3, .p 3 0)] [] [(3, [.i implNewCheck.1, .o 320 implNewCheck.2])] [] [(0, .val (.a [.i implNewCheck.1, .o 0 implNewCheck.2]))] (o1 (ob_call (implNewCheck_a))) ?_
  refine awp_seq ?_
  refine awp_seq ?_
  refine rk tt_ok [(4, .b true)] [] [] [] [] (o0) ?_
  refine wdB 1 3 .sh c.2.1 (fun hw1 => ?_)
  have hl2 : List.length c.2.1 ≤ 1073741824 := wide_len (hw1)
  refine blw (fun (s0 : Bool × CheckD) => [(4, .b s0.1)]) [4] (fun s0 => [(3, [.i s0.2.1, .o 147210 s0.2.2])]) [3] (fun (y0 : CheckD) => []) [1, 4] (fun y0 => [(3, [.i y0.1, .o 147360 y0.2])]) [1, 3] (fun (k0 : Nat) (s0 : Bool × CheckD) => whl (implCheckAll_f0 c) k0 s0 = some (whlD (implCheckAll_f0 c) (List.length c.2.1 + 2) (true, implNewCheck)) ∧ 0 ≤ s0.2.1 ∧ s0.2.1 ≤ (c.2.1.length : Int) ∧ (s0.2.2.length : Int) ≤ s0.2.1) (fun (y0 : CheckD) => (whlD (implCheckAll_f0 c) (List.length c.2.1 + 2) (true, implNewCheck)) = .brk y0) (List.length c.2.1 + 2) (true, implNewCheck) (weak_sf [(320, 147210)] (by kernel_rfl)) ⟨whl_some (implCheckAll_w c hl2), (by simp [implNewCheck]), (by simp [implNewCheck]), (by simp [implNewCheck])⟩ (fun _ h => whl_zero h.1) (fun k0 s0 hI0 => ?_) (fun y0 hD0 => ?_)
  ·
    have hA0_0 := hI0.2.1
    have hA0_1 := hI0.2.2.1
    have hA0_2 := hI0.2.2.2
    refine awp_seq ?_
    refine awp_seq ?_
    refine rk tt_ok [(6, .b s0.1)] [] [] [] [] (o0) ?_
    refine ck s0.1 (fun h3 => ?_) (fun h3 => ?_)
    ·
      refine awp_skip ?_
      refine awp_block ?_
      refine rk tt_ok [(4, .b (((implCheckStep c s0.2)).2))] [4, 6] [(3, [.i ((((implCheckStep c s0.2)).1).1), .o 640 ((((implCheckStep c s0.2)).1).2)])] [3] [(2, .val (.tup [(true, [.i ((((implCheckStep c s0.2)).1).1), .o 0 ((((implCheckStep c s0.2)).1).2)]), (false, [.b (((implCheckStep c s0.2)).2)])]))] (o1 (ob_call (implCheckStep_a c s0.2 (by omega)))) ?_
      exact Exists.intro (((implCheckStep c s0.2)).2, (((implCheckStep c s0.2)).1)) (And.intro (weak_sf [(640, 147210)] (by kernel_rfl)) ⟨whl_next (bif_t h3 (rfl)) hI0.1, (by have hz := implCheckStep_inv (c := c) (k := s0.2) (by omega) (by omega); dsimp only; omega), (by have hz := implCheckStep_inv (c := c) (k := s0.2) (by omega) (by omega); dsimp only; omega), (by have hz := implCheckStep_inv (c := c) (k := s0.2) (by omega) (by omega); dsimp only; omega)⟩)
    ·
      refine awp_exit ?_
      exact Exists.intro s0.2 (And.intro (weak_sf [(147210, 147360)] (by kernel_rfl)) (whl_brk (bif_f h3 (rfl)) hI0.1))
  ·
    refine awp_seq ?_
    refine rk tt_ok [(2, .o 147360 y0.2)] [2, 3] [] [3] [] (o0) ?_
    refine awp_ret ?_
    exact pret [] (congrArg (fun z => (.o 0 z : AV)) (show implCheckAll c = y0.2 from on_b hD0 (rfl)).symm)
def specNewCheck : CheckD := (0, [])
theorem specNewCheck_a : ACalls Tryz.prog 117 [] (.a [.i specNewCheck.1, .o 0 specNewCheck.2]) := by
  refine acalls_of (tt := tt) tt_ok Tryz.func117 (fn := Tryz.f117) rfl (by unfold FnOk; kernel_rfl) (Nat.le_of_ble_eq_true rfl) fun w0 F0 => ?_
  refine awp_seq ?_
  refine rk tt_ok [(0, .p 0 0)] [] [(0, [.i 0, .e 0])] [] [] (o0) ?_
  refine awp_seq ?_
  refine rk tt_ok [] [] [] [] [] (o0) ?_
  refine opn [(true, 0, 1, true, 384000, 1)] ?_
  refine awp_ret ?_
  exact pret [] (congrArg (fun z => (.a [.i z.1, .o 0 z.2] : AV)) (show specNewCheck = (0, []) from rfl).symm)
def specCheckAll_f0 (l : CatalogD) (s0 : Bool × CheckD) : Rd ((List ByteArray)) (Bool × CheckD) (CheckD) := (bif s0.1 then (.next (((specCheckStep l s0.2)).2, (((specCheckStep l s0.2)).1))) else (.brk s0.2))
def specCheckAll (l : CatalogD) : (List ByteArray) := (Out.on (whlD (specCheckAll_f0 l) (List.length l.2.1 + 2) (true, specNewCheck)) (fun y0 => y0.2))
theorem specCheckAll_w (l : CatalogD) (hl : l.2.1.length ≤ 1073741824) : (whl (specCheckAll_f0 l) (List.length l.2.1 + 2) (true, specNewCheck)).isSome = true := by
  have h : specCheckAll_f0 l = implCheckAll_f0 l := by funext s; unfold specCheckAll_f0 implCheckAll_f0; rw [checkStep_eq]
  rw [h]; exact checkAll_w hl
theorem specCheckAll_a (l : CatalogD) : ACalls Tryz.prog 74 [.a [.h l.1.1, .h l.1.2.1, .i l.1.2.2, .h l.2.1, .h l.2.2]] (.o 0 (specCheckAll l)) := by
  refine acalls_of (tt := tt) tt_ok Tryz.func74 (fn := Tryz.f74) rfl (by unfold FnOk; kernel_rfl) (Nat.le_of_ble_eq_true rfl) fun w0 F0 => ?_
  refine awp_seq ?_
  refine rk tt_ok [(1, .p 1 0), (2, .e 0)] [0] [(1, [.h l.1.1, .h l.1.2.1, .i l.1.2.2, .h l.2.1, .h l.2.2])] [] [] (o0) ?_
  refine awp_seq ?_
  refine rk tt_ok [(3, .p 3 0)] [] [(3, [.i specNewCheck.1, .o 320 specNewCheck.2])] [] [(0, .val (.a [.i specNewCheck.1, .o 0 specNewCheck.2]))] (o1 (ob_call (specNewCheck_a))) ?_
  refine awp_seq ?_
  refine awp_seq ?_
  refine rk tt_ok [(4, .b true)] [] [] [] [] (o0) ?_
  refine wdB 1 3 .sh l.2.1 (fun hw1 => ?_)
  have hl2 : List.length l.2.1 ≤ 1073741824 := wide_len (hw1)
  refine blw (fun (s0 : Bool × CheckD) => [(4, .b s0.1)]) [4] (fun s0 => [(3, [.i s0.2.1, .o 147210 s0.2.2])]) [3] (fun (y0 : CheckD) => []) [1, 4] (fun y0 => [(3, [.i y0.1, .o 147360 y0.2])]) [1, 3] (fun (k0 : Nat) (s0 : Bool × CheckD) => whl (specCheckAll_f0 l) k0 s0 = some (whlD (specCheckAll_f0 l) (List.length l.2.1 + 2) (true, specNewCheck)) ∧ 0 ≤ s0.2.1 ∧ s0.2.1 ≤ (l.2.1.length : Int) ∧ (s0.2.2.length : Int) ≤ s0.2.1) (fun (y0 : CheckD) => (whlD (specCheckAll_f0 l) (List.length l.2.1 + 2) (true, specNewCheck)) = .brk y0) (List.length l.2.1 + 2) (true, specNewCheck) (weak_sf [(320, 147210)] (by kernel_rfl)) ⟨whl_some (specCheckAll_w l hl2), (by simp [specNewCheck]), (by simp [specNewCheck]), (by simp [specNewCheck])⟩ (fun _ h => whl_zero h.1) (fun k0 s0 hI0 => ?_) (fun y0 hD0 => ?_)
  ·
    have hA0_0 := hI0.2.1
    have hA0_1 := hI0.2.2.1
    have hA0_2 := hI0.2.2.2
    refine awp_seq ?_
    refine awp_seq ?_
    refine rk tt_ok [(6, .b s0.1)] [] [] [] [] (o0) ?_
    refine ck s0.1 (fun h3 => ?_) (fun h3 => ?_)
    ·
      refine awp_skip ?_
      refine awp_block ?_
      refine rk tt_ok [(4, .b (((specCheckStep l s0.2)).2))] [4, 6] [(3, [.i ((((specCheckStep l s0.2)).1).1), .o 640 ((((specCheckStep l s0.2)).1).2)])] [3] [(2, .val (.tup [(true, [.i ((((specCheckStep l s0.2)).1).1), .o 0 ((((specCheckStep l s0.2)).1).2)]), (false, [.b (((specCheckStep l s0.2)).2)])]))] (o1 (ob_call (specCheckStep_a l s0.2 (by omega)))) ?_
      exact Exists.intro (((specCheckStep l s0.2)).2, (((specCheckStep l s0.2)).1)) (And.intro (weak_sf [(640, 147210)] (by kernel_rfl)) ⟨whl_next (bif_t h3 (rfl)) hI0.1, (by have hz := specCheckStep_inv (c := l) (k := s0.2) (by omega) (by omega); dsimp only; omega), (by have hz := specCheckStep_inv (c := l) (k := s0.2) (by omega) (by omega); dsimp only; omega), (by have hz := specCheckStep_inv (c := l) (k := s0.2) (by omega) (by omega); dsimp only; omega)⟩)
    ·
      refine awp_exit ?_
      exact Exists.intro s0.2 (And.intro (weak_sf [(147210, 147360)] (by kernel_rfl)) (whl_brk (bif_f h3 (rfl)) hI0.1))
  ·
    refine awp_seq ?_
    refine rk tt_ok [(2, .o 147360 y0.2)] [2, 3] [] [3] [] (o0) ?_
    refine awp_ret ?_
    exact pret [] (congrArg (fun z => (.o 0 z : AV)) (show specCheckAll l = y0.2 from on_b hD0 (rfl)).symm)
end Go.Proofs.YtjkfmihbmkbjfaaGreat
