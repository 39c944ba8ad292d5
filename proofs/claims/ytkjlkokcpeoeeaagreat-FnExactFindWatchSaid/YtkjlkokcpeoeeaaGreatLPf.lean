/- What functions compute, and that they do (printed by am2.py): each function as a Lean function, then its contract. -/
import Derived.Test.YtkjlkokcpeoeeaaGreatFwd
import Derived.Test.YtkjlkokcpeoeeaaGreatLw
import Derived.Test.YtkjlkokcpeoeeaaGreatSz
import Derived.Test.YtkjlkokcpeoeeaaGreatEq
import Derived.Test.YtkjlkokcpeoeeaaGreatTo
import Derived.Test.YtkjlkokcpeoeeaaGreatMa
import Derived.Test.YtkjlkokcpeoeeaaGreatHe
import Derived.KernelRfl
namespace Go.Proofs.YtkjlkokcpeoeeaaGreat
open Go.RowKit
open GoE (enc wide)

theorem szSystem_a (a : SystemD) (left : Int) (h0 : 0 ≤ left) (h1 : left ≤ 1048576) : ACalls Tryz.prog 7 [argA a, intA left] (intA (szI (GoD.size a) left)) := acalls_szA (by unfold FnOk; kernel_rfl) h0 h1 fun w c hr => szSystem_c w c a left hr h0 h1

theorem toSystem_a (a : SystemD) (h : GoD.size a ≤ 1048576) : ACalls Tryz.prog 9 [argA a] (resA a) := acalls_toA (by unfold FnOk; kernel_rfl) fun w c hr => toSystem_c w c a hr h

theorem eqWatch_a {a b : WatchD} (h : a = b) : ACalls Tryz.prog 14 [argA a, argA b] (boolA true) := acalls_eqA (by unfold FnOk; kernel_rfl) h fun w c c2 h1 h2 => eqWatch_c w c c2 a b h1 h2

theorem eqSystem_a {a b : SystemD} (h : a = b) : ACalls Tryz.prog 11 [argA a, argA b] (boolA true) := acalls_eqA (by unfold FnOk; kernel_rfl) h fun w c c2 h1 h2 => eqSystem_c w c c2 a b h1 h2

theorem markSystem_m (a : SystemD) (K : Int) (k : Nat) (hK : K = k) (h1 : 1 ≤ k) (hk : k ≤ 1152921504606846976) (hs : GoD.size a ≤ 1073741824) : MarkA Tryz.prog 15 a K (GoD.markT a k) := ⟨(by unfold FnOk; kernel_rfl), fun w L c ho => markSystem_c w c a L K k hK h1 (by have := bdT (a := a) (k := k) (by decide) hs; omega) ho⟩

theorem markWatch_m (a : WatchD) (K : Int) (k : Nat) (hK : K = k) (h1 : 1 ≤ k) (hk : k ≤ 1152921504606846976) (hs : GoD.size a ≤ 1073741824) : MarkA Tryz.prog 16 a K (GoD.markT a k) := ⟨(by unfold FnOk; kernel_rfl), fun w L c ho => markWatch_c w c a L K k hK h1 (by have := bdT (a := a) (k := k) (by decide) hs; omega) ho⟩

theorem heldWatch_a (a : WatchD) (hs : GoD.size a ≤ 1073741824) : ACalls Tryz.prog 17 [argA (GoD.markT a 1).1, intA 1] (intA ((GoD.markT a 1).2 : Nat)) := acalls_heA (by unfold FnOk; kernel_rfl) (by have := bdT (a := a) (k := 1) (by decide) hs; rw [inR_i64]; unfold I64; omega) fun w c hr => heldWatch_c w c a _ 1 1 rfl (by omega) (by have := bdT (a := a) (k := 1) (by decide) hs; omega) rfl hr
def lawsFnExactFindWatch (aX : SystemD) (aI : Int) : Bool := (bif decide ((szI (GoD.size aX) 1048576) < (0 : Int)) then true else true)
theorem lawsFnExactFindWatch_a (aX : SystemD) (aI : Int) : ACalls Tryz.prog 4 [.a [.h aX.1.1.1, .h aX.1.1.2.1, .i aX.1.1.2.2, .h aX.1.2.1, .h aX.1.2.2, .s aX.2.1.1, .s aX.2.1.2, .i aX.2.2.1, .h aX.2.2.2.1, .h aX.2.2.2.2.1, .h aX.2.2.2.2.2], .i aI] (.b (lawsFnExactFindWatch aX aI)) := by
  refine acalls_of (tt := tt) tt_ok Tryz.func4 (fn := Tryz.f4) rfl (by unfold FnOk; kernel_rfl) (Nat.le_of_ble_eq_true rfl) fun w0 F0 => ?_
  refine awp_seq ?_
  refine rk tt_ok [(2, .p 2 0), (4, .b false)] [0] [(2, [.h aX.1.1.1, .h aX.1.1.2.1, .i aX.1.1.2.2, .h aX.1.2.1, .h aX.1.2.2, .s aX.2.1.1, .s aX.2.1.2, .i aX.2.2.1, .h aX.2.2.2.1, .h aX.2.2.2.2.1, .h aX.2.2.2.2.2])] [] [] (o0) ?_
  refine awp_seq ?_
  refine rk tt_ok [(5, .i 1048576)] [] [] [] [] (o0) ?_
  refine awp_seq ?_
  have hz1 := szI_bd (GoD.size aX) 1048576
  refine rk tt_ok [(5, .i (szI (GoD.size aX) 1048576))] [5] [] [] [(2, .val (.i (szI (GoD.size aX) 1048576)))] (o1 (ob_call (szSystem_a aX 1048576 (by omega) (by omega)))) ?_
  refine awp_seq ?_
  refine awp_seq ?_
  refine rk tt_ok [(20, .b (decide ((szI (GoD.size aX) 1048576) < (0 : Int))))] [5] [] [] [] (o0) ?_
  refine ck (decide ((szI (GoD.size aX) 1048576) < (0 : Int))) (fun h2 => ?_) (fun h2 => ?_)
  · -- True
    have h2d := of_decide_eq_true h2
    refine awp_seq ?_
    refine rk tt_ok [(4, .b true)] [4, 20] [] [] [] (o0) ?_
    refine awp_ret ?_
    exact pret [] (congrArg (fun z => (.b z : AV)) (show lawsFnExactFindWatch aX aI = true from bif_t h2 (rfl)).symm)
  · -- False
    have h2d := of_decide_eq_false h2
    refine awp_skip ?_
    refine awp_seq ?_
    have hsz_aX : GoD.size aX ≤ 1048576 := by omega
    refine rk tt_ok [(6, .p 6 0), (7, .b (((implFindWatch aX aI)).2))] [20] [(6, [.i ((((implFindWatch aX aI)).1).1), .s ((((implFindWatch aX aI)).1).2.1), .o 1600 ((((implFindWatch aX aI)).1).2.2.1), .o 1601 ((((implFindWatch aX aI)).1).2.2.2)])] [] [(1, .val (.a [.o 0 aX.1.1.1, .o 1 aX.1.1.2.1, .i aX.1.1.2.2, .o 2 aX.1.2.1, .o 3 aX.1.2.2, .s aX.2.1.1, .s aX.2.1.2, .i aX.2.2.1, .o 4 aX.2.2.2.1, .o 5 aX.2.2.2.2.1, .o 6 aX.2.2.2.2.2])), (3, .val (.tup [(true, [.i ((((implFindWatch aX aI)).1).1), .s ((((implFindWatch aX aI)).1).2.1), .o 0 ((((implFindWatch aX aI)).1).2.2.1), .o 1 ((((implFindWatch aX aI)).1).2.2.2)]), (false, [.b (((implFindWatch aX aI)).2)])]))] (o2 (ob_call (toSystem_a aX hsz_aX)) (o1 (ob_call ((findWatch_eq aX aI) ▸ (specFindWatch_a aX aI))))) ?_
    refine awp_seq ?_
    refine rk tt_ok [(8, .p 8 0)] [] [(8, [.o 1856 aX.1.1.1, .o 1857 aX.1.1.2.1, .i aX.1.1.2.2, .o 1858 aX.1.2.1, .o 1859 aX.1.2.2, .s aX.2.1.1, .s aX.2.1.2, .i aX.2.2.1, .o 1860 aX.2.2.2.1, .o 1861 aX.2.2.2.2.1, .o 1862 aX.2.2.2.2.2])] [] [(1, .val (.a [.o 0 aX.1.1.1, .o 1 aX.1.1.2.1, .i aX.1.1.2.2, .o 2 aX.1.2.1, .o 3 aX.1.2.2, .s aX.2.1.1, .s aX.2.1.2, .i aX.2.2.1, .o 4 aX.2.2.2.1, .o 5 aX.2.2.2.2.1, .o 6 aX.2.2.2.2.2]))] (o1 (ob_call (toSystem_a aX hsz_aX))) ?_
    refine awp_seq ?_
    refine rk tt_ok [(9, .p 9 0), (10, .b (((implFindWatch aX aI)).2))] [] [(9, [.i ((((implFindWatch aX aI)).1).1), .s ((((implFindWatch aX aI)).1).2.1), .o 2112 ((((implFindWatch aX aI)).1).2.2.1), .o 2113 ((((implFindWatch aX aI)).1).2.2.2)])] [] [(2, .val (.tup [(true, [.i ((((implFindWatch aX aI)).1).1), .s ((((implFindWatch aX aI)).1).2.1), .o 0 ((((implFindWatch aX aI)).1).2.2.1), .o 1 ((((implFindWatch aX aI)).1).2.2.2)]), (false, [.b (((implFindWatch aX aI)).2)])]))] (o1 (ob_call (implFindWatch_a aX aI))) ?_
    refine awp_seq ?_
    refine awp_seq ?_
    refine rk tt_ok [(44, .b false)] [] [] [] [(2, .val (.b true)), (3, .val (.b false)), (7, .val (.b false))] (o2 (ob_call (eqWatch_a (a := ((implFindWatch aX aI)).1) (b := ((implFindWatch aX aI)).1) (rfl))) (o2 (ob_eq (show .b (!true) = .b false from rfl)) (o1 (ob_eq (show .b (!((((implFindWatch aX aI)).2) == (((implFindWatch aX aI)).2))) = .b false from av_bool (by simp)))))) ?_
    refine ckF ?_
    refine awp_skip ?_
    refine awp_seq ?_
    refine awp_seq ?_
    refine rd' tt_ok tt_mx [(49, .b false)] [44] [] [] [(2, .val (.a [.o 0 aX.1.1.1, .o 1 aX.1.1.2.1, .i aX.1.1.2.2, .o 2 aX.1.2.1, .o 3 aX.1.2.2, .s aX.2.1.1, .s aX.2.1.2, .i aX.2.2.1, .o 4 aX.2.2.2.1, .o 5 aX.2.2.2.2.1, .o 6 aX.2.2.2.2.2])), (3, .val (.b true)), (4, .val (.b false))] (o2 (ob_call (toSystem_a aX hsz_aX)) (o2 (ob_call (eqSystem_a (a := aX) (b := aX) (rfl))) (o1 (ob_eq (show .b (!true) = .b false from rfl))))) ?_
    refine ckF ?_
    refine awp_skip ?_
    refine awp_seq ?_
    refine rk tt_ok [(11, .i 1)] [49] [] [] [] (o0) ?_
    refine awp_seq ?_
    have hm3 := bdT (a := aX) (k := 1) (by decide) (Nat.le_trans hsz_aX (by decide))
    have hm4 := GoD.mkT_le aX 1
    refine awp_markA tt_ok (markSystem_m aX 1 1 rfl (by omega) (by omega) ((Nat.le_trans hsz_aX (by decide)))) (by rw [inR_i64]; unfold I64; omega) GoM.mkT [1856, 1857, 1858, 1859, 1860, 1861, 1862] [1, 2, 4, 6, 7, 9, 10, 11] [2, 6, 9] (s' := ⟨[(1, .i aI), (2, .p 2 0), (4, .b false), (6, .p 6 0), (7, .b (((implFindWatch aX aI)).2)), (9, .p 9 0), (10, .b (((implFindWatch aX aI)).2)), (11, .i (((GoD.markT aX 1).2 : Nat) : Int))], [(2, [.h aX.1.1.1, .h aX.1.1.2.1, .i aX.1.1.2.2, .h aX.1.2.1, .h aX.1.2.2, .s aX.2.1.1, .s aX.2.1.2, .i aX.2.2.1, .h aX.2.2.2.1, .h aX.2.2.2.2.1, .h aX.2.2.2.2.2]), (6, [.i ((((implFindWatch aX aI)).1).1), .s ((((implFindWatch aX aI)).1).2.1), .o 1600 ((((implFindWatch aX aI)).1).2.2.1), .o 1601 ((((implFindWatch aX aI)).1).2.2.2)]), (9, [.i ((((implFindWatch aX aI)).1).1), .s ((((implFindWatch aX aI)).1).2.1), .o 2112 ((((implFindWatch aX aI)).1).2.2.1), .o 2113 ((((implFindWatch aX aI)).1).2.2.2)])]⟩) rfl rfl rfl rfl rfl rfl rfl rfl rfl rfl rfl rfl (by kernel_rfl) rfl rfl (by kernel_rfl) rfl rfl (by kernel_rfl) (by kernel_rfl) rfl (by kernel_rfl) ?_
    refine awp_seq ?_
    refine awp_seq ?_
    refine rk tt_ok [(65, .b false)] [10, 11] [] [] [(1, .val (.b false)), (5, .val (.b true)), (6, .val (.b false)), (11, .val (.b false))] (o2 (ob_eq (av_df (p := (((GoD.markT aX 1).2 : Nat) : Int) < (0 : Int)) (by omega))) (o2 (ob_call (eqWatch_a (a := ((implFindWatch aX aI)).1) (b := ((implFindWatch aX aI)).1) (rfl))) (o2 (ob_eq (show .b (!true) = .b false from rfl)) (o1 (ob_eq (show .b (!((((implFindWatch aX aI)).2) == (((implFindWatch aX aI)).2))) = .b false from av_bool (by simp))))))) ?_
    refine ckF ?_
    refine awp_skip ?_
    refine awp_seq ?_
    refine rk tt_ok [(12, .i 1)] [65] [] [] [] (o0) ?_
    refine awp_seq ?_
    have hm5 := bdT (a := (((implFindWatch aX aI)).1)) (k := 1) (by decide) (Nat.le_trans (findWatch_size aX aI) (by omega))
    have hm6 := GoD.mkT_le (((implFindWatch aX aI)).1) 1
    refine awp_markA tt_ok (markWatch_m (((implFindWatch aX aI)).1) 1 1 rfl (by omega) (by omega) ((Nat.le_trans (findWatch_size aX aI) (by omega)))) (by rw [inR_i64]; unfold I64; omega) GoM.mkT [2112, 2113] [1, 2, 4, 6, 7, 9, 12] [2, 6, 9] (s' := ⟨[(1, .i aI), (2, .p 2 0), (4, .b false), (6, .p 6 0), (7, .b (((implFindWatch aX aI)).2)), (9, .p 9 0), (12, .i (((GoD.markT (((implFindWatch aX aI)).1) 1).2 : Nat) : Int))], [(2, [.h aX.1.1.1, .h aX.1.1.2.1, .i aX.1.1.2.2, .h aX.1.2.1, .h aX.1.2.2, .s aX.2.1.1, .s aX.2.1.2, .i aX.2.2.1, .h aX.2.2.2.1, .h aX.2.2.2.2.1, .h aX.2.2.2.2.2]), (6, [.i ((((implFindWatch aX aI)).1).1), .s ((((implFindWatch aX aI)).1).2.1), .o 1600 ((((implFindWatch aX aI)).1).2.2.1), .o 1601 ((((implFindWatch aX aI)).1).2.2.2)]), (9, [.i (((GoD.markT (((implFindWatch aX aI)).1) 1).1).1), .s (((GoD.markT (((implFindWatch aX aI)).1) 1).1).2.1), .h (((GoD.markT (((implFindWatch aX aI)).1) 1).1).2.2.1), .h (((GoD.markT (((implFindWatch aX aI)).1) 1).1).2.2.2)])]⟩) rfl rfl rfl rfl rfl rfl rfl rfl rfl rfl rfl rfl (by kernel_rfl) rfl rfl (by kernel_rfl) rfl rfl (by kernel_rfl) (by kernel_rfl) rfl (by kernel_rfl) ?_
    refine awp_seq ?_
    refine rk tt_ok [(13, .i 1)] [] [] [] [] (o0) ?_
    refine awp_seq ?_
    refine rk tt_ok [(13, .i (((GoD.markT (((implFindWatch aX aI)).1) 1).2 : Nat) : Int))] [13] [] [] [(2, .val (.i (((GoD.markT (((implFindWatch aX aI)).1) 1).2 : Nat) : Int)))] (o1 (ob_call (heldWatch_a (((implFindWatch aX aI)).1) (Nat.le_trans (findWatch_size aX aI) (by omega))))) ?_
    refine awp_seq ?_
    refine awp_seq ?_
    refine rk tt_ok [(73, .b false)] [] [] [] [(1, .val (.b false))] (o1 (ob_eq (av_df (p := (((GoD.markT (((implFindWatch aX aI)).1) 1).2 : Nat) : Int) < (0 : Int)) (by omega)))) ?_
    refine ckF ?_
    refine awp_skip ?_
    refine awp_seq ?_
    refine awp_seq ?_
    refine rk tt_ok [(76, .b false)] [73] [] [] [(2, .val (.b false))] (o1 (ob_eq (show .b ((((GoD.markT (((implFindWatch aX aI)).1) 1).2 : Nat) : Int) != (((GoD.markT (((implFindWatch aX aI)).1) 1).2 : Nat) : Int)) = .b false from av_bool (by simp)))) ?_
    refine ckF ?_
    refine awp_skip ?_
    refine awp_seq ?_
    refine rk tt_ok [(14, .p 14 0), (15, .b (((implFindWatch aX aI)).2))] [1, 2, 76] [(14, [.i ((((implFindWatch aX aI)).1).1), .s ((((implFindWatch aX aI)).1).2.1), .o 5184 ((((implFindWatch aX aI)).1).2.2.1), .o 5185 ((((implFindWatch aX aI)).1).2.2.2)])] [2] [(1, .val (.a [.o 0 aX.1.1.1, .o 1 aX.1.1.2.1, .i aX.1.1.2.2, .o 2 aX.1.2.1, .o 3 aX.1.2.2, .s aX.2.1.1, .s aX.2.1.2, .i aX.2.2.1, .o 4 aX.2.2.2.1, .o 5 aX.2.2.2.2.1, .o 6 aX.2.2.2.2.2])), (3, .val (.tup [(true, [.i ((((implFindWatch aX aI)).1).1), .s ((((implFindWatch aX aI)).1).2.1), .o 0 ((((implFindWatch aX aI)).1).2.2.1), .o 1 ((((implFindWatch aX aI)).1).2.2.2)]), (false, [.b (((implFindWatch aX aI)).2)])]))] (o2 (ob_call (toSystem_a aX hsz_aX)) (o1 (ob_call (implFindWatch_a aX aI)))) ?_
    refine awp_seq ?_
    refine awp_seq ?_
    refine rk tt_ok [(92, .b false)] [6, 7, 14, 15] [] [6, 14] [(2, .val (.b true)), (3, .val (.b false)), (7, .val (.b false))] (o2 (ob_call (eqWatch_a (a := ((implFindWatch aX aI)).1) (b := ((implFindWatch aX aI)).1) (rfl))) (o2 (ob_eq (show .b (!true) = .b false from rfl)) (o1 (ob_eq (show .b (!((((implFindWatch aX aI)).2) == (((implFindWatch aX aI)).2))) = .b false from av_bool (by simp)))))) ?_
    refine ckF ?_
    refine awp_skip ?_
    refine awp_seq ?_
    refine rk tt_ok [(13, .i 1)] [13, 92] [] [] [] (o0) ?_
    refine awp_seq ?_
    refine rk tt_ok [(13, .i (((GoD.markT (((implFindWatch aX aI)).1) 1).2 : Nat) : Int))] [9, 13] [] [9] [(2, .val (.i (((GoD.markT (((implFindWatch aX aI)).1) 1).2 : Nat) : Int)))] (o1 (ob_call (heldWatch_a (((implFindWatch aX aI)).1) (Nat.le_trans (findWatch_size aX aI) (by omega))))) ?_
    refine awp_seq ?_
    refine awp_seq ?_
    refine rk tt_ok [(97, .b false)] [] [] [] [(1, .val (.b false))] (o1 (ob_eq (av_df (p := (((GoD.markT (((implFindWatch aX aI)).1) 1).2 : Nat) : Int) < (0 : Int)) (by omega)))) ?_
    refine ckF ?_
    refine awp_skip ?_
    refine awp_seq ?_
    refine awp_seq ?_
    refine rk tt_ok [(100, .b false)] [12, 13, 97] [] [] [(2, .val (.b false))] (o1 (ob_eq (show .b ((((GoD.markT (((implFindWatch aX aI)).1) 1).2 : Nat) : Int) != (((GoD.markT (((implFindWatch aX aI)).1) 1).2 : Nat) : Int)) = .b false from av_bool (by simp)))) ?_
    refine ckF ?_
    refine awp_skip ?_
    refine awp_seq ?_
    refine rk tt_ok [(4, .b true)] [4, 100] [] [] [] (o0) ?_
    refine awp_ret ?_
    exact pret [] (congrArg (fun z => (.b z : AV)) (show lawsFnExactFindWatch aX aI = true from bif_f h2 (rfl)).symm)
end Go.Proofs.YtkjlkokcpeoeeaaGreat
