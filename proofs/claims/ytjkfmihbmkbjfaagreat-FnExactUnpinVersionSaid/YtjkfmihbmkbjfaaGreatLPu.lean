/- What functions compute, and that they do (printed by am2.py): each function as a Lean function, then its contract. -/
import Derived.Test.YtjkfmihbmkbjfaaGreatPnd
import Derived.Test.YtjkfmihbmkbjfaaGreatMa
import Derived.Test.YtjkfmihbmkbjfaaGreatHe
import Derived.Test.YtjkfmihbmkbjfaaGreatLw
import Derived.Test.YtjkfmihbmkbjfaaGreatSz
import Derived.Test.YtjkfmihbmkbjfaaGreatEq
import Derived.Test.YtjkfmihbmkbjfaaGreatTo
import Derived.KernelRfl
set_option linter.unusedVariables false
set_option linter.unusedSimpArgs false
namespace Go.Proofs.YtjkfmihbmkbjfaaGreat
open Go.RowKit
open GoE (enc wide)
theorem szVersionS_a (a : (List VersionD)) (left : Int) (h0 : 0 ≤ left) (h1 : left ≤ 1048576) : ACalls Tryz.prog 19 [argS a, intA left] (intA (szI (GoD.size a) left)) := acalls_szS (by unfold FnOk; kernel_rfl) h0 h1 fun w c hr => szVersionS_c w c a left hr h0 h1
theorem toVersionS_a (a : (List VersionD)) (h : GoD.size a ≤ 1048576) : ACalls Tryz.prog 21 [argS a] (resS a) := acalls_toS (by unfold FnOk; kernel_rfl) fun w c hr => toVersionS_c w c a hr h
theorem eqVersionS_a {a b : (List VersionD)} (h : a = b) : ACalls Tryz.prog 23 [argS a, argS b] (boolA true) := acalls_eqS (by unfold FnOk; kernel_rfl) h fun w c c2 h1 h2 => eqVersionS_c w c c2 a b h1 h2
theorem markVersionS_m (a : (List VersionD)) (K : Int) (k : Nat) (hK : K = k) (h1 : 1 ≤ k) (hk : k ≤ 1152921504606846976) (hs : GoD.size a ≤ 1073741824) : MarkS Tryz.prog 33 a K (markS a k) := ⟨(by unfold FnOk; kernel_rfl), fun w L c ho => markVersionS_c w c a L K k hK h1 (by have := bdS (l := a) (k := k) (by decide) hs; omega) ho⟩
theorem heldVersionS_a (a : (List VersionD)) (hs : GoD.size a ≤ 1073741824) : ACalls Tryz.prog 34 [argS (markS a 1).1, intA 1] (intA ((markS a 1).2 : Nat)) := acalls_heS (by unfold FnOk; kernel_rfl) (by have := bdS (l := a) (k := 1) (by decide) hs; rw [inR_i64]; unfold I64; omega) fun w c hr => heldVersionS_c w c a _ 1 1 rfl (by omega) (by have := bdS (l := a) (k := 1) (by decide) hs; omega) rfl hr
def lawsFnExactUnpinVersion (aV : (List VersionD)) (aNumber : Int) : Bool := (bif decide ((szI (GoD.size aV) 1048576) < (0 : Int)) then true else true)
theorem lawsFnExactUnpinVersion_a (aV : (List VersionD)) (aNumber : Int) : ACalls Tryz.prog 8 [.h aV, .i aNumber] (.b (lawsFnExactUnpinVersion aV aNumber)) := by
  refine acalls_of (tt := tt) tt_ok Tryz.func8 (fn := Tryz.f8) rfl (by unfold FnOk; kernel_rfl) (Nat.le_of_ble_eq_true rfl) fun w0 F0 => ?_
  refine awp_seq ?_
  refine rk tt_ok [(4, .b false)] [] [] [] [] (o0) ?_
  refine awp_seq ?_
  refine rk tt_ok [(5, .i 1048576)] [] [] [] [] (o0) ?_
  refine awp_seq ?_
  have hz1 := szI_bd (GoD.size aV) 1048576
  refine rk tt_ok [(5, .i (szI (GoD.size aV) 1048576))] [5] [] [] [(2, .val (.i (szI (GoD.size aV) 1048576)))] (o1 (ob_call (szVersionS_a aV 1048576 (by omega) (by omega)))) ?_
  refine awp_seq ?_
  refine awp_seq ?_
  refine rk tt_ok [(20, .b (decide ((szI (GoD.size aV) 1048576) < (0 : Int))))] [5] [] [] [] (o0) ?_
  refine ck (decide ((szI (GoD.size aV) 1048576) < (0 : Int))) (fun h2 => ?_) (fun h2 => ?_)
  ·
    have h2d := of_decide_eq_true h2
    refine awp_seq ?_
    refine rk tt_ok [(4, .b true)] [4, 20] [] [] [] (o0) ?_
    refine awp_ret ?_
    exact pret [] (congrArg (fun z => (.b z : AV)) (show lawsFnExactUnpinVersion aV aNumber = true from bif_t h2 (rfl)).symm)
  ·
    have h2d := of_decide_eq_false h2
    refine awp_skip ?_
    refine awp_seq ?_
    have hsz_aV : GoD.size aV ≤ 1048576 := by omega
    refine rk tt_ok [(6, .o 1600 (((implUnpinVersion aV aNumber)).1)), (7, .b (((implUnpinVersion aV aNumber)).2))] [20] [] [] [(1, .val (.o 0 aV)), (3, .val (.tup [(false, [.o 0 (((implUnpinVersion aV aNumber)).1)]), (false, [.b (((implUnpinVersion aV aNumber)).2)])]))] (o2 (ob_call (toVersionS_a aV hsz_aV)) (o1 (ob_call ((unpin_eq aV aNumber) ▸ (specUnpinVersion_a aV aNumber))))) ?_
    refine awp_seq ?_
    refine rk tt_ok [(8, .o 1856 aV)] [] [] [] [(1, .val (.o 0 aV))] (o1 (ob_call (toVersionS_a aV hsz_aV))) ?_
    refine awp_seq ?_
    refine rk tt_ok [(9, .o 2112 (((implUnpinVersion aV aNumber)).1)), (10, .b (((implUnpinVersion aV aNumber)).2))] [] [] [] [(2, .val (.tup [(false, [.o 0 (((implUnpinVersion aV aNumber)).1)]), (false, [.b (((implUnpinVersion aV aNumber)).2)])]))] (o1 (ob_call (implUnpinVersion_a aV aNumber))) ?_
    refine awp_seq ?_
    refine awp_seq ?_
    refine rk tt_ok [(44, .b false)] [] [] [] [(2, .val (.b true)), (3, .val (.b false)), (7, .val (.b false))] (o2 (ob_call (eqVersionS_a (a := ((implUnpinVersion aV aNumber)).1) (b := ((implUnpinVersion aV aNumber)).1) (rfl))) (o2 (ob_eq (show .b (!true) = .b false from rfl)) (o1 (ob_eq (show .b (!((((implUnpinVersion aV aNumber)).2) == (((implUnpinVersion aV aNumber)).2))) = .b false from av_bool (by simp)))))) ?_
    refine ckF ?_
    refine awp_skip ?_
    refine awp_seq ?_
    refine awp_seq ?_
    refine rk tt_ok [(49, .b false)] [44] [] [] [(2, .val (.o 0 aV)), (3, .val (.b true)), (4, .val (.b false))] (o2 (ob_call (toVersionS_a aV hsz_aV)) (o2 (ob_call (eqVersionS_a (a := aV) (b := aV) (rfl))) (o1 (ob_eq (show .b (!true) = .b false from rfl))))) ?_
    refine ckF ?_
    refine awp_skip ?_
    refine awp_seq ?_
    refine rk tt_ok [(11, .i 1)] [49] [] [] [] (o0) ?_
    refine awp_seq ?_
    have hm3 := bdS (l := aV) (k := 1) (by decide) (Nat.le_trans hsz_aV (by decide))
    have hm4 := markS_le aV 1
    refine awp_markS (markVersionS_m aV 1 1 rfl (by omega) (by omega) ((Nat.le_trans hsz_aV (by decide)))) (by rw [inR_i64]; unfold I64; omega) GoM.mkT 1856 [0, 1, 4, 6, 7, 9, 10, 11] [] (s' := ⟨[(0, .h aV), (1, .i aNumber), (4, .b false), (6, .o 1600 (((implUnpinVersion aV aNumber)).1)), (7, .b (((implUnpinVersion aV aNumber)).2)), (9, .o 2112 (((implUnpinVersion aV aNumber)).1)), (10, .b (((implUnpinVersion aV aNumber)).2)), (11, .i (((markS aV 1).2 : Nat) : Int))], []⟩) rfl rfl rfl rfl rfl rfl rfl rfl rfl rfl rfl rfl (by kernel_rfl) (by kernel_rfl) rfl rfl (by kernel_rfl) ?_
    refine awp_seq ?_
    refine awp_seq ?_
    refine rk tt_ok [(65, .b false)] [10, 11] [] [] [(1, .val (.b false)), (5, .val (.b true)), (6, .val (.b false)), (11, .val (.b false))] (o2 (ob_eq (av_df (p := (((markS aV 1).2 : Nat) : Int) < (0 : Int)) (by omega))) (o2 (ob_call (eqVersionS_a (a := ((implUnpinVersion aV aNumber)).1) (b := ((implUnpinVersion aV aNumber)).1) (rfl))) (o2 (ob_eq (show .b (!true) = .b false from rfl)) (o1 (ob_eq (show .b (!((((implUnpinVersion aV aNumber)).2) == (((implUnpinVersion aV aNumber)).2))) = .b false from av_bool (by simp))))))) ?_
    refine ckF ?_
    refine awp_skip ?_
    refine awp_seq ?_
    refine rk tt_ok [(12, .i 1)] [65] [] [] [] (o0) ?_
    refine awp_seq ?_
    have hm5 := bdS (l := (((implUnpinVersion aV aNumber)).1)) (k := 1) (by decide) (Nat.le_trans (unpin_size aV aNumber) (by omega))
    have hm6 := markS_le (((implUnpinVersion aV aNumber)).1) 1
    refine awp_markS (markVersionS_m (((implUnpinVersion aV aNumber)).1) 1 1 rfl (by omega) (by omega) ((Nat.le_trans (unpin_size aV aNumber) (by omega)))) (by rw [inR_i64]; unfold I64; omega) GoM.mkT 2112 [0, 1, 4, 6, 7, 9, 12] [] (s' := ⟨[(0, .h aV), (1, .i aNumber), (4, .b false), (6, .o 1600 (((implUnpinVersion aV aNumber)).1)), (7, .b (((implUnpinVersion aV aNumber)).2)), (9, .h ((markS (((implUnpinVersion aV aNumber)).1) 1).1)), (12, .i (((markS (((implUnpinVersion aV aNumber)).1) 1).2 : Nat) : Int))], []⟩) rfl rfl rfl rfl rfl rfl rfl rfl rfl rfl rfl rfl (by kernel_rfl) (by kernel_rfl) rfl rfl (by kernel_rfl) ?_
    refine awp_seq ?_
    refine rk tt_ok [(13, .i 1)] [] [] [] [] (o0) ?_
    refine awp_seq ?_
    refine rk tt_ok [(13, .i (((markS (((implUnpinVersion aV aNumber)).1) 1).2 : Nat) : Int))] [13] [] [] [(2, .val (.i (((markS (((implUnpinVersion aV aNumber)).1) 1).2 : Nat) : Int)))] (o1 (ob_call (heldVersionS_a (((implUnpinVersion aV aNumber)).1) (Nat.le_trans (unpin_size aV aNumber) (by omega))))) ?_
    refine awp_seq ?_
    refine awp_seq ?_
    refine rk tt_ok [(73, .b false)] [] [] [] [(1, .val (.b false))] (o1 (ob_eq (av_df (p := (((markS (((implUnpinVersion aV aNumber)).1) 1).2 : Nat) : Int) < (0 : Int)) (by omega)))) ?_
    refine ckF ?_
    refine awp_skip ?_
    refine awp_seq ?_
    refine awp_seq ?_
    refine rk tt_ok [(76, .b false)] [73] [] [] [(2, .val (.b false))] (o1 (ob_eq (show .b ((((markS (((implUnpinVersion aV aNumber)).1) 1).2 : Nat) : Int) != (((markS (((implUnpinVersion aV aNumber)).1) 1).2 : Nat) : Int)) = .b false from av_bool (by simp)))) ?_
    refine ckF ?_
    refine awp_skip ?_
    refine awp_seq ?_
    refine rk tt_ok [(14, .o 5184 (((implUnpinVersion aV aNumber)).1)), (15, .b (((implUnpinVersion aV aNumber)).2))] [0, 1, 76] [] [] [(1, .val (.o 0 aV)), (3, .val (.tup [(false, [.o 0 (((implUnpinVersion aV aNumber)).1)]), (false, [.b (((implUnpinVersion aV aNumber)).2)])]))] (o2 (ob_call (toVersionS_a aV hsz_aV)) (o1 (ob_call (implUnpinVersion_a aV aNumber)))) ?_
    refine awp_seq ?_
    refine awp_seq ?_
    refine rk tt_ok [(92, .b false)] [6, 7, 14, 15] [] [] [(2, .val (.b true)), (3, .val (.b false)), (7, .val (.b false))] (o2 (ob_call (eqVersionS_a (a := ((implUnpinVersion aV aNumber)).1) (b := ((implUnpinVersion aV aNumber)).1) (rfl))) (o2 (ob_eq (show .b (!true) = .b false from rfl)) (o1 (ob_eq (show .b (!((((implUnpinVersion aV aNumber)).2) == (((implUnpinVersion aV aNumber)).2))) = .b false from av_bool (by simp)))))) ?_
    refine ckF ?_
    refine awp_skip ?_
    refine awp_seq ?_
    refine rk tt_ok [(13, .i 1)] [13, 92] [] [] [] (o0) ?_
    refine awp_seq ?_
    refine rk tt_ok [(13, .i (((markS (((implUnpinVersion aV aNumber)).1) 1).2 : Nat) : Int))] [9, 13] [] [] [(2, .val (.i (((markS (((implUnpinVersion aV aNumber)).1) 1).2 : Nat) : Int)))] (o1 (ob_call (heldVersionS_a (((implUnpinVersion aV aNumber)).1) (Nat.le_trans (unpin_size aV aNumber) (by omega))))) ?_
    refine awp_seq ?_
    refine awp_seq ?_
    refine rk tt_ok [(97, .b false)] [] [] [] [(1, .val (.b false))] (o1 (ob_eq (av_df (p := (((markS (((implUnpinVersion aV aNumber)).1) 1).2 : Nat) : Int) < (0 : Int)) (by omega)))) ?_
    refine ckF ?_
    refine awp_skip ?_
    refine awp_seq ?_
    refine awp_seq ?_
    refine rk tt_ok [(100, .b false)] [12, 13, 97] [] [] [(2, .val (.b false))] (o1 (ob_eq (show .b ((((markS (((implUnpinVersion aV aNumber)).1) 1).2 : Nat) : Int) != (((markS (((implUnpinVersion aV aNumber)).1) 1).2 : Nat) : Int)) = .b false from av_bool (by simp)))) ?_
    refine ckF ?_
    refine awp_skip ?_
    refine awp_seq ?_
    refine rk tt_ok [(4, .b true)] [4, 100] [] [] [] (o0) ?_
    refine awp_ret ?_
    exact pret [] (congrArg (fun z => (.b z : AV)) (show lawsFnExactUnpinVersion aV aNumber = true from bif_f h2 (rfl)).symm)
end Go.Proofs.YtjkfmihbmkbjfaaGreat
