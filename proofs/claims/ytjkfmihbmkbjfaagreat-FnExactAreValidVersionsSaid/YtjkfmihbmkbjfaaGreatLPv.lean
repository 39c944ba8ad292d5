/- What functions compute, and that they do (printed by am2.py): each function as a Lean function, then its contract. -/
import Derived.Test.YtjkfmihbmkbjfaaGreatIvb
import Derived.Test.YtjkfmihbmkbjfaaGreatLw
import Derived.Test.YtjkfmihbmkbjfaaGreatSz
import Derived.Test.YtjkfmihbmkbjfaaGreatEq
import Derived.Test.YtjkfmihbmkbjfaaGreatTo
import Derived.KernelRfl
namespace Go.Proofs.YtjkfmihbmkbjfaaGreat
open Go.RowKit
open GoE (enc wide)

theorem szVersionS_a (a : (List VersionD)) (left : Int) (h0 : 0 ≤ left) (h1 : left ≤ 1048576) : ACalls Tryz.prog 19 [argS a, intA left] (intA (szI (GoD.size a) left)) := acalls_szS (by unfold FnOk; kernel_rfl) h0 h1 fun w c hr => szVersionS_c w c a left hr h0 h1

theorem toVersionS_a (a : (List VersionD)) (h : GoD.size a ≤ 1048576) : ACalls Tryz.prog 21 [argS a] (resS a) := acalls_toS (by unfold FnOk; kernel_rfl) fun w c hr => toVersionS_c w c a hr h

theorem eqVersionS_a {a b : (List VersionD)} (h : a = b) : ACalls Tryz.prog 23 [argS a, argS b] (boolA true) := acalls_eqS (by unfold FnOk; kernel_rfl) h fun w c c2 h1 h2 => eqVersionS_c w c c2 a b h1 h2
def lawsFnExactAreValidVersions (aV : (List VersionD)) : Bool := (bif decide ((szI (GoD.size aV) 1048576) < (0 : Int)) then true else true)
theorem lawsFnExactAreValidVersions_a (aV : (List VersionD)) : ACalls Tryz.prog 4 [.h aV] (.b (lawsFnExactAreValidVersions aV)) := by
  refine acalls_of (tt := tt) tt_ok Tryz.func4 (fn := Tryz.f4) rfl (by unfold FnOk; kernel_rfl) (Nat.le_of_ble_eq_true rfl) fun w0 F0 => ?_
  refine awp_seq ?_
  refine rk tt_ok [(2, .b false)] [] [] [] [] (o0) ?_
  refine awp_seq ?_
  refine rk tt_ok [(3, .i 1048576)] [] [] [] [] (o0) ?_
  refine awp_seq ?_
  have hz1 := szI_bd (GoD.size aV) 1048576
  refine rk tt_ok [(3, .i (szI (GoD.size aV) 1048576))] [3] [] [] [(2, .val (.i (szI (GoD.size aV) 1048576)))] (o1 (ob_call (szVersionS_a aV 1048576 (by omega) (by omega)))) ?_
  refine awp_seq ?_
  refine awp_seq ?_
  refine rk tt_ok [(11, .b (decide ((szI (GoD.size aV) 1048576) < (0 : Int))))] [3] [] [] [] (o0) ?_
  refine ck (decide ((szI (GoD.size aV) 1048576) < (0 : Int))) (fun h2 => ?_) (fun h2 => ?_)
  · -- True
    have h2d := of_decide_eq_true h2
    refine awp_seq ?_
    refine rk tt_ok [(2, .b true)] [2, 11] [] [] [] (o0) ?_
    refine awp_ret ?_
    exact pret [] (congrArg (fun z => (.b z : AV)) (show lawsFnExactAreValidVersions aV = true from bif_t h2 (rfl)).symm)
  · -- False
    have h2d := of_decide_eq_false h2
    refine awp_skip ?_
    refine awp_seq ?_
    have hsz_aV : GoD.size aV ≤ 1048576 := by omega
    refine rk tt_ok [(4, .b (implAreValidVersions aV))] [11] [] [] [(1, .val (.o 0 aV)), (2, .val (.b (implAreValidVersions aV)))] (o2 (ob_call (toVersionS_a aV hsz_aV)) (o1 (ob_call ((versions_eq aV) ▸ (specAreValidVersions_a aV))))) ?_
    refine awp_seq ?_
    refine rk tt_ok [(5, .o 1024 aV)] [] [] [] [(1, .val (.o 0 aV))] (o1 (ob_call (toVersionS_a aV hsz_aV))) ?_
    refine awp_seq ?_
    refine rk tt_ok [(6, .b (implAreValidVersions aV))] [] [] [] [(1, .val (.b (implAreValidVersions aV)))] (o1 (ob_call (implAreValidVersions_a aV))) ?_
    refine awp_seq ?_
    refine awp_seq ?_
    refine rk tt_ok [(21, .b false)] [4, 6] [] [] [(2, .val (.b false))] (o1 (ob_eq (show .b (!((implAreValidVersions aV) == (implAreValidVersions aV))) = .b false from av_bool (by simp)))) ?_
    refine ckF ?_
    refine awp_skip ?_
    refine awp_seq ?_
    refine awp_seq ?_
    refine rk tt_ok [(26, .b false)] [0, 5, 21] [] [] [(2, .val (.o 0 aV)), (3, .val (.b true)), (4, .val (.b false))] (o2 (ob_call (toVersionS_a aV hsz_aV)) (o2 (ob_call (eqVersionS_a (a := aV) (b := aV) (rfl))) (o1 (ob_eq (show .b (!true) = .b false from rfl))))) ?_
    refine ckF ?_
    refine awp_skip ?_
    refine awp_seq ?_
    refine rk tt_ok [(2, .b true)] [2, 26] [] [] [] (o0) ?_
    refine awp_ret ?_
    exact pret [] (congrArg (fun z => (.b z : AV)) (show lawsFnExactAreValidVersions aV = true from bif_f h2 (rfl)).symm)
end Go.Proofs.YtjkfmihbmkbjfaaGreat
