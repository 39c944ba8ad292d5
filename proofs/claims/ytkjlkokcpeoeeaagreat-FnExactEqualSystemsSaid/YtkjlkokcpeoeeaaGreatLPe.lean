/- What functions compute, and that they do (printed by am2.py): each function as a Lean function, then its contract. -/
import Derived.Test.YtkjlkokcpeoeeaaGreatEqb
import Derived.Test.YtkjlkokcpeoeeaaGreatLw
import Derived.Test.YtkjlkokcpeoeeaaGreatSz
import Derived.Test.YtkjlkokcpeoeeaaGreatEq
import Derived.Test.YtkjlkokcpeoeeaaGreatTo
import Derived.KernelRfl
namespace Go.Proofs.YtkjlkokcpeoeeaaGreat
open Go.RowKit
open GoE (enc wide)

theorem szSystem_a (a : SystemD) (left : Int) (h0 : 0 ≤ left) (h1 : left ≤ 1048576) : ACalls Tryz.prog 7 [argA a, intA left] (intA (szI (GoD.size a) left)) := acalls_szA (by unfold FnOk; kernel_rfl) h0 h1 fun w c hr => szSystem_c w c a left hr h0 h1

theorem toSystem_a (a : SystemD) (h : GoD.size a ≤ 1048576) : ACalls Tryz.prog 9 [argA a] (resA a) := acalls_toA (by unfold FnOk; kernel_rfl) fun w c hr => toSystem_c w c a hr h

theorem eqSystem_a {a b : SystemD} (h : a = b) : ACalls Tryz.prog 11 [argA a, argA b] (boolA true) := acalls_eqA (by unfold FnOk; kernel_rfl) h fun w c c2 h1 h2 => eqSystem_c w c c2 a b h1 h2
def lawsFnExactEqualSystems (aA : SystemD) (aB : SystemD) : Bool := (bif decide ((szI (GoD.size aA) 1048576) < (0 : Int)) then true else (bif decide ((szI (GoD.size aB) (szI (GoD.size aA) 1048576)) < (0 : Int)) then true else true))
theorem lawsFnExactEqualSystems_a (aA : SystemD) (aB : SystemD) : ACalls Tryz.prog 3 [.a [.h aA.1.1.1, .h aA.1.1.2.1, .i aA.1.1.2.2, .h aA.1.2.1, .h aA.1.2.2, .s aA.2.1.1, .s aA.2.1.2, .i aA.2.2.1, .h aA.2.2.2.1, .h aA.2.2.2.2.1, .h aA.2.2.2.2.2], .a [.h aB.1.1.1, .h aB.1.1.2.1, .i aB.1.1.2.2, .h aB.1.2.1, .h aB.1.2.2, .s aB.2.1.1, .s aB.2.1.2, .i aB.2.2.1, .h aB.2.2.2.1, .h aB.2.2.2.2.1, .h aB.2.2.2.2.2]] (.b (lawsFnExactEqualSystems aA aB)) := by
  refine acalls_of (tt := tt) tt_ok Tryz.func3 (fn := Tryz.f3) rfl (by unfold FnOk; kernel_rfl) (Nat.le_of_ble_eq_true rfl) fun w0 F0 => ?_
  refine awp_seq ?_
  refine rk tt_ok [(2, .p 2 0), (3, .p 3 0), (4, .b false)] [0, 1] [(2, [.h aA.1.1.1, .h aA.1.1.2.1, .i aA.1.1.2.2, .h aA.1.2.1, .h aA.1.2.2, .s aA.2.1.1, .s aA.2.1.2, .i aA.2.2.1, .h aA.2.2.2.1, .h aA.2.2.2.2.1, .h aA.2.2.2.2.2]), (3, [.h aB.1.1.1, .h aB.1.1.2.1, .i aB.1.1.2.2, .h aB.1.2.1, .h aB.1.2.2, .s aB.2.1.1, .s aB.2.1.2, .i aB.2.2.1, .h aB.2.2.2.1, .h aB.2.2.2.2.1, .h aB.2.2.2.2.2])] [] [] (o0) ?_
  refine awp_seq ?_
  refine rk tt_ok [(5, .i 1048576)] [] [] [] [] (o0) ?_
  refine awp_seq ?_
  have hz1 := szI_bd (GoD.size aA) 1048576
  refine rk tt_ok [(5, .i (szI (GoD.size aA) 1048576))] [5] [] [] [(2, .val (.i (szI (GoD.size aA) 1048576)))] (o1 (ob_call (szSystem_a aA 1048576 (by omega) (by omega)))) ?_
  refine awp_seq ?_
  refine awp_seq ?_
  refine rk tt_ok [(14, .b (decide ((szI (GoD.size aA) 1048576) < (0 : Int))))] [] [] [] [] (o0) ?_
  refine ck (decide ((szI (GoD.size aA) 1048576) < (0 : Int))) (fun h2 => ?_) (fun h2 => ?_)
  · -- True
    have h2d := of_decide_eq_true h2
    refine awp_seq ?_
    refine rk tt_ok [(4, .b true)] [4, 14] [] [] [] (o0) ?_
    refine awp_ret ?_
    exact pret [] (congrArg (fun z => (.b z : AV)) (show lawsFnExactEqualSystems aA aB = true from bif_t h2 (rfl)).symm)
  · -- False
    have h2d := of_decide_eq_false h2
    refine awp_skip ?_
    refine awp_seq ?_
    have hz3 := szI_bd (GoD.size aB) (szI (GoD.size aA) 1048576)
    refine rk tt_ok [(5, .i (szI (GoD.size aB) (szI (GoD.size aA) 1048576)))] [5, 14] [] [] [(2, .val (.i (szI (GoD.size aB) (szI (GoD.size aA) 1048576))))] (o1 (ob_call (szSystem_a aB (szI (GoD.size aA) 1048576) (by omega) (by omega)))) ?_
    refine awp_seq ?_
    refine awp_seq ?_
    refine rk tt_ok [(19, .b (decide ((szI (GoD.size aB) (szI (GoD.size aA) 1048576)) < (0 : Int))))] [5] [] [] [] (o0) ?_
    refine ck (decide ((szI (GoD.size aB) (szI (GoD.size aA) 1048576)) < (0 : Int))) (fun h4 => ?_) (fun h4 => ?_)
    · -- True
      have h4d := of_decide_eq_true h4
      refine awp_seq ?_
      refine rk tt_ok [(4, .b true)] [4, 19] [] [] [] (o0) ?_
      refine awp_ret ?_
      exact pret [] (congrArg (fun z => (.b z : AV)) (show lawsFnExactEqualSystems aA aB = true from bif_f h2 (bif_t h4 (rfl))).symm)
    · -- False
      have h4d := of_decide_eq_false h4
      refine awp_skip ?_
      refine awp_seq ?_
      have hsz_aA : GoD.size aA ≤ 1048576 := by omega
      have hsz_aB : GoD.size aB ≤ 1048576 := by omega
      refine rd' tt_ok tt_mx [(6, .b (implEqualSystems aA aB))] [19] [] [] [(1, .val (.a [.o 0 aA.1.1.1, .o 1 aA.1.1.2.1, .i aA.1.1.2.2, .o 2 aA.1.2.1, .o 3 aA.1.2.2, .s aA.2.1.1, .s aA.2.1.2, .i aA.2.2.1, .o 4 aA.2.2.2.1, .o 5 aA.2.2.2.2.1, .o 6 aA.2.2.2.2.2])), (3, .val (.a [.o 0 aB.1.1.1, .o 1 aB.1.1.2.1, .i aB.1.1.2.2, .o 2 aB.1.2.1, .o 3 aB.1.2.2, .s aB.2.1.1, .s aB.2.1.2, .i aB.2.2.1, .o 4 aB.2.2.2.1, .o 5 aB.2.2.2.2.1, .o 6 aB.2.2.2.2.2])), (4, .val (.b (implEqualSystems aA aB)))] (o2 (ob_call (toSystem_a aA hsz_aA)) (o2 (ob_call (toSystem_a aB hsz_aB)) (o1 (ob_call ((systems_eq aA aB) ▸ (specEqualSystems_a aA aB)))))) ?_
      refine awp_seq ?_
      refine rk tt_ok [(7, .p 7 0)] [] [(7, [.o 1664 aA.1.1.1, .o 1665 aA.1.1.2.1, .i aA.1.1.2.2, .o 1666 aA.1.2.1, .o 1667 aA.1.2.2, .s aA.2.1.1, .s aA.2.1.2, .i aA.2.2.1, .o 1668 aA.2.2.2.1, .o 1669 aA.2.2.2.2.1, .o 1670 aA.2.2.2.2.2])] [] [(1, .val (.a [.o 0 aA.1.1.1, .o 1 aA.1.1.2.1, .i aA.1.1.2.2, .o 2 aA.1.2.1, .o 3 aA.1.2.2, .s aA.2.1.1, .s aA.2.1.2, .i aA.2.2.1, .o 4 aA.2.2.2.1, .o 5 aA.2.2.2.2.1, .o 6 aA.2.2.2.2.2]))] (o1 (ob_call (toSystem_a aA hsz_aA))) ?_
      refine awp_seq ?_
      refine rk tt_ok [(8, .p 8 0)] [] [(8, [.o 1792 aB.1.1.1, .o 1793 aB.1.1.2.1, .i aB.1.1.2.2, .o 1794 aB.1.2.1, .o 1795 aB.1.2.2, .s aB.2.1.1, .s aB.2.1.2, .i aB.2.2.1, .o 1796 aB.2.2.2.1, .o 1797 aB.2.2.2.2.1, .o 1798 aB.2.2.2.2.2])] [] [(1, .val (.a [.o 0 aB.1.1.1, .o 1 aB.1.1.2.1, .i aB.1.1.2.2, .o 2 aB.1.2.1, .o 3 aB.1.2.2, .s aB.2.1.1, .s aB.2.1.2, .i aB.2.2.1, .o 4 aB.2.2.2.1, .o 5 aB.2.2.2.2.1, .o 6 aB.2.2.2.2.2]))] (o1 (ob_call (toSystem_a aB hsz_aB))) ?_
      refine awp_seq ?_
      refine rk tt_ok [(9, .b (implEqualSystems aA aB))] [] [] [] [(2, .val (.b (implEqualSystems aA aB)))] (o1 (ob_call (implEqualSystems_a aA aB))) ?_
      refine awp_seq ?_
      refine awp_seq ?_
      refine rk tt_ok [(34, .b false)] [6, 9] [] [] [(2, .val (.b false))] (o1 (ob_eq (show .b (!((implEqualSystems aA aB) == (implEqualSystems aA aB))) = .b false from av_bool (by simp)))) ?_
      refine ckF ?_
      refine awp_skip ?_
      refine awp_seq ?_
      refine awp_seq ?_
      refine rd' tt_ok tt_mx [(39, .b false)] [2, 7, 34] [] [2, 7] [(2, .val (.a [.o 0 aA.1.1.1, .o 1 aA.1.1.2.1, .i aA.1.1.2.2, .o 2 aA.1.2.1, .o 3 aA.1.2.2, .s aA.2.1.1, .s aA.2.1.2, .i aA.2.2.1, .o 4 aA.2.2.2.1, .o 5 aA.2.2.2.2.1, .o 6 aA.2.2.2.2.2])), (3, .val (.b true)), (4, .val (.b false))] (o2 (ob_call (toSystem_a aA hsz_aA)) (o2 (ob_call (eqSystem_a (a := aA) (b := aA) (rfl))) (o1 (ob_eq (show .b (!true) = .b false from rfl))))) ?_
      refine ckF ?_
      refine awp_skip ?_
      refine awp_seq ?_
      refine awp_seq ?_
      refine rd' tt_ok tt_mx [(44, .b false)] [3, 8, 39] [] [3, 8] [(2, .val (.a [.o 0 aB.1.1.1, .o 1 aB.1.1.2.1, .i aB.1.1.2.2, .o 2 aB.1.2.1, .o 3 aB.1.2.2, .s aB.2.1.1, .s aB.2.1.2, .i aB.2.2.1, .o 4 aB.2.2.2.1, .o 5 aB.2.2.2.2.1, .o 6 aB.2.2.2.2.2])), (3, .val (.b true)), (4, .val (.b false))] (o2 (ob_call (toSystem_a aB hsz_aB)) (o2 (ob_call (eqSystem_a (a := aB) (b := aB) (rfl))) (o1 (ob_eq (show .b (!true) = .b false from rfl))))) ?_
      refine ckF ?_
      refine awp_skip ?_
      refine awp_seq ?_
      refine rk tt_ok [(4, .b true)] [4, 44] [] [] [] (o0) ?_
      refine awp_ret ?_
      exact pret [] (congrArg (fun z => (.b z : AV)) (show lawsFnExactEqualSystems aA aB = true from bif_f h2 (bif_f h4 (rfl))).symm)
end Go.Proofs.YtkjlkokcpeoeeaaGreat
