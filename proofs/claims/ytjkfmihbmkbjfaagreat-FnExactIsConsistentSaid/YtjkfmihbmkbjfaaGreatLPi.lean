/- What functions compute, and that they do (printed by am2.py): each function as a Lean function, then its contract. -/
import Derived.Test.YtjkfmihbmkbjfaaGreatIcb
import Derived.Test.YtjkfmihbmkbjfaaGreatLw
import Derived.Test.YtjkfmihbmkbjfaaGreatSz
import Derived.Test.YtjkfmihbmkbjfaaGreatEq
import Derived.Test.YtjkfmihbmkbjfaaGreatTo
import Derived.KernelRfl
set_option linter.unusedVariables false
set_option linter.unusedSimpArgs false
namespace Go.Proofs.YtjkfmihbmkbjfaaGreat
open Go.RowKit
open GoE (enc wide)
theorem szCatalog_a (a : CatalogD) (left : Int) (h0 : 0 ≤ left) (h1 : left ≤ 1048576) : ACalls Tryz.prog 24 [argA a, intA left] (intA (szI (GoD.size a) left)) := acalls_szA (by unfold FnOk; kernel_rfl) h0 h1 fun w c hr => szCatalog_c w c a left hr h0 h1
theorem toCatalog_a (a : CatalogD) (h : GoD.size a ≤ 1048576) : ACalls Tryz.prog 26 [argA a] (resA a) := acalls_toA (by unfold FnOk; kernel_rfl) fun w c hr => toCatalog_c w c a hr h
theorem eqCatalog_a {a b : CatalogD} (h : a = b) : ACalls Tryz.prog 28 [argA a, argA b] (boolA true) := acalls_eqA (by unfold FnOk; kernel_rfl) h fun w c c2 h1 h2 => eqCatalog_c w c c2 a b h1 h2
def lawsFnExactIsConsistent (aC : CatalogD) : Bool := (bif decide ((szI (GoD.size aC) 1048576) < (0 : Int)) then true else true)
theorem lawsFnExactIsConsistent_a (aC : CatalogD) : ACalls Tryz.prog 5 [.a [.h aC.1.1, .h aC.1.2.1, .i aC.1.2.2, .h aC.2.1, .h aC.2.2]] (.b (lawsFnExactIsConsistent aC)) := by
  refine acalls_of (tt := tt) tt_ok Tryz.func5 (fn := Tryz.f5) rfl (by unfold FnOk; kernel_rfl) (Nat.le_of_ble_eq_true rfl) fun w0 F0 => ?_
  refine awp_seq ?_
  refine rk tt_ok [(1, .p 1 0), (2, .b false)] [0] [(1, [.h aC.1.1, .h aC.1.2.1, .i aC.1.2.2, .h aC.2.1, .h aC.2.2])] [] [] (o0) ?_
  refine awp_seq ?_
  refine rk tt_ok [(3, .i 1048576)] [] [] [] [] (o0) ?_
  refine awp_seq ?_
  have hz1 := szI_bd (GoD.size aC) 1048576
  refine rk tt_ok [(3, .i (szI (GoD.size aC) 1048576))] [3] [] [] [(2, .val (.i (szI (GoD.size aC) 1048576)))] (o1 (ob_call (szCatalog_a aC 1048576 (by omega) (by omega)))) ?_
  refine awp_seq ?_
  refine awp_seq ?_
  refine rk tt_ok [(11, .b (decide ((szI (GoD.size aC) 1048576) < (0 : Int))))] [3] [] [] [] (o0) ?_
  refine ck (decide ((szI (GoD.size aC) 1048576) < (0 : Int))) (fun h2 => ?_) (fun h2 => ?_)
  ·
    have h2d := of_decide_eq_true h2
    refine awp_seq ?_
    refine rk tt_ok [(2, .b true)] [2, 11] [] [] [] (o0) ?_
    refine awp_ret ?_
    exact pret [] (congrArg (fun z => (.b z : AV)) (show lawsFnExactIsConsistent aC = true from bif_t h2 (rfl)).symm)
  ·
    have h2d := of_decide_eq_false h2
    refine awp_skip ?_
    refine awp_seq ?_
    have hsz_aC : GoD.size aC ≤ 1048576 := by omega
    refine rk tt_ok [(4, .b (implIsConsistent aC))] [11] [] [] [(1, .val (.a [.o 0 aC.1.1, .o 1 aC.1.2.1, .i aC.1.2.2, .o 2 aC.2.1, .o 3 aC.2.2])), (2, .val (.b (implIsConsistent aC)))] (o2 (ob_call (toCatalog_a aC hsz_aC)) (o1 (ob_call ((isConsistent_eq aC) ▸ (specIsConsistent_a aC))))) ?_
    refine awp_seq ?_
    refine rk tt_ok [(5, .p 5 0)] [] [(5, [.o 1024 aC.1.1, .o 1025 aC.1.2.1, .i aC.1.2.2, .o 1026 aC.2.1, .o 1027 aC.2.2])] [] [(1, .val (.a [.o 0 aC.1.1, .o 1 aC.1.2.1, .i aC.1.2.2, .o 2 aC.2.1, .o 3 aC.2.2]))] (o1 (ob_call (toCatalog_a aC hsz_aC))) ?_
    refine awp_seq ?_
    refine rk tt_ok [(6, .b (implIsConsistent aC))] [] [] [] [(1, .val (.b (implIsConsistent aC)))] (o1 (ob_call (implIsConsistent_a aC))) ?_
    refine awp_seq ?_
    refine awp_seq ?_
    refine rk tt_ok [(21, .b false)] [4, 6] [] [] [(2, .val (.b false))] (o1 (ob_eq (show .b (!((implIsConsistent aC) == (implIsConsistent aC))) = .b false from av_bool (by simp)))) ?_
    refine ckF ?_
    refine awp_skip ?_
    refine awp_seq ?_
    refine awp_seq ?_
    refine rd' tt_ok tt_mx [(26, .b false)] [1, 5, 21] [] [1, 5] [(2, .val (.a [.o 0 aC.1.1, .o 1 aC.1.2.1, .i aC.1.2.2, .o 2 aC.2.1, .o 3 aC.2.2])), (3, .val (.b true)), (4, .val (.b false))] (o2 (ob_call (toCatalog_a aC hsz_aC)) (o2 (ob_call (eqCatalog_a (a := aC) (b := aC) (rfl))) (o1 (ob_eq (show .b (!true) = .b false from rfl))))) ?_
    refine ckF ?_
    refine awp_skip ?_
    refine awp_seq ?_
    refine rk tt_ok [(2, .b true)] [2, 26] [] [] [] (o0) ?_
    refine awp_ret ?_
    exact pret [] (congrArg (fun z => (.b z : AV)) (show lawsFnExactIsConsistent aC = true from bif_f h2 (rfl)).symm)
end Go.Proofs.YtjkfmihbmkbjfaaGreat
