/- What functions compute, and that they do (printed by am2.py): each function as a Lean function, then its contract. -/
import Derived.Test.YtkjlkokcpeoeeaaGreatCkg
import Derived.Test.YtkjlkokcpeoeeaaGreatLw
import Derived.Test.YtkjlkokcpeoeeaaGreatSz
import Derived.Test.YtkjlkokcpeoeeaaGreatEq
import Derived.Test.YtkjlkokcpeoeeaaGreatTo
import Derived.Test.YtkjlkokcpeoeeaaGreatMa
import Derived.Test.YtkjlkokcpeoeeaaGreatHe
import Derived.KernelRfl
namespace Go.Proofs.YtkjlkokcpeoeeaaGreat
open Go.RowKit
open GoE (enc wide)

theorem szCatalog_a (a : CatalogD) (left : Int) (h0 : 0 ≤ left) (h1 : left ≤ 1048576) : ACalls Tryz.prog 18 [argA a, intA left] (intA (szI (GoD.size a) left)) := acalls_szA (by unfold FnOk; kernel_rfl) h0 h1 fun w c hr => szCatalog_c w c a left hr h0 h1

theorem szCheck_a (a : CheckD) (left : Int) (h0 : 0 ≤ left) (h1 : left ≤ 1048576) : ACalls Tryz.prog 27 [argA a, intA left] (intA (szI (GoD.size a) left)) := acalls_szA (by unfold FnOk; kernel_rfl) h0 h1 fun w c hr => szCheck_c w c a left hr h0 h1

theorem toCatalog_a (a : CatalogD) (h : GoD.size a ≤ 1048576) : ACalls Tryz.prog 20 [argA a] (resA a) := acalls_toA (by unfold FnOk; kernel_rfl) fun w c hr => toCatalog_c w c a hr h

theorem toCheck_a (a : CheckD) (h : GoD.size a ≤ 1048576) : ACalls Tryz.prog 29 [argA a] (resA a) := acalls_toA (by unfold FnOk; kernel_rfl) fun w c hr => toCheck_c w c a hr h

theorem eqCheck_a {a b : CheckD} (h : a = b) : ACalls Tryz.prog 31 [argA a, argA b] (boolA true) := acalls_eqA (by unfold FnOk; kernel_rfl) h fun w c c2 h1 h2 => eqCheck_c w c c2 a b h1 h2

theorem eqCatalog_a {a b : CatalogD} (h : a = b) : ACalls Tryz.prog 23 [argA a, argA b] (boolA true) := acalls_eqA (by unfold FnOk; kernel_rfl) h fun w c c2 h1 h2 => eqCatalog_c w c c2 a b h1 h2

theorem markCatalog_m (a : CatalogD) (K : Int) (k : Nat) (hK : K = k) (h1 : 1 ≤ k) (hk : k ≤ 1152921504606846976) (hs : GoD.size a ≤ 1073741824) : MarkA Tryz.prog 24 a K (GoD.markT a k) := ⟨(by unfold FnOk; kernel_rfl), fun w L c ho => markCatalog_c w c a L K k hK h1 (by have := bdT (a := a) (k := k) (by decide) hs; omega) ho⟩

theorem markCheck_m (a : CheckD) (K : Int) (k : Nat) (hK : K = k) (h1 : 1 ≤ k) (hk : k ≤ 1152921504606846976) (hs : GoD.size a ≤ 1073741824) : MarkA Tryz.prog 32 a K (GoD.markT a k) := ⟨(by unfold FnOk; kernel_rfl), fun w L c ho => markCheck_c w c a L K k hK h1 (by have := bdT (a := a) (k := k) (by decide) hs; omega) ho⟩

theorem heldCheck_a (a : CheckD) (hs : GoD.size a ≤ 1073741824) : ACalls Tryz.prog 33 [argA (GoD.markT a 1).1, intA 1] (intA ((GoD.markT a 1).2 : Nat)) := acalls_heA (by unfold FnOk; kernel_rfl) (by have := bdT (a := a) (k := 1) (by decide) hs; rw [inR_i64]; unfold I64; omega) fun w c hr => heldCheck_c w c a _ 1 1 rfl (by omega) (by have := bdT (a := a) (k := 1) (by decide) hs; omega) rfl hr
def lawsFnExactCheckStep (aC : CatalogD) (aK : CheckD) : Bool := (bif decide ((szI (GoD.size aC) 1048576) < (0 : Int)) then true else (bif decide ((szI (GoD.size aK) (szI (GoD.size aC) 1048576)) < (0 : Int)) then true else true))
theorem lawsFnExactCheckStep_a (aC : CatalogD) (aK : CheckD) : ACalls Tryz.prog 6 [.a [.h aC.1.1, .h aC.1.2.1, .i aC.1.2.2, .h aC.2.1, .h aC.2.2], .a [.i aK.1, .h aK.2]] (.b (lawsFnExactCheckStep aC aK)) := by
  refine acalls_of (tt := tt) tt_ok Tryz.func6 (fn := Tryz.f6) rfl (by unfold FnOk; kernel_rfl) (Nat.le_of_ble_eq_true rfl) fun w0 F0 => ?_
  refine awp_seq ?_
  refine rk tt_ok [(2, .p 2 0), (3, .p 3 0), (4, .b false)] [0, 1] [(2, [.h aC.1.1, .h aC.1.2.1, .i aC.1.2.2, .h aC.2.1, .h aC.2.2]), (3, [.i aK.1, .h aK.2])] [] [] (o0) ?_
  refine awp_seq ?_
  refine rk tt_ok [(5, .i 1048576)] [] [] [] [] (o0) ?_
  refine awp_seq ?_
  have hz1 := szI_bd (GoD.size aC) 1048576
  refine rk tt_ok [(5, .i (szI (GoD.size aC) 1048576))] [5] [] [] [(2, .val (.i (szI (GoD.size aC) 1048576)))] (o1 (ob_call (szCatalog_a aC 1048576 (by omega) (by omega)))) ?_
  refine awp_seq ?_
  refine awp_seq ?_
  refine rk tt_ok [(21, .b (decide ((szI (GoD.size aC) 1048576) < (0 : Int))))] [] [] [] [] (o0) ?_
  refine ck (decide ((szI (GoD.size aC) 1048576) < (0 : Int))) (fun h2 => ?_) (fun h2 => ?_)
  · -- True
    have h2d := of_decide_eq_true h2
    refine awp_seq ?_
    refine rk tt_ok [(4, .b true)] [4, 21] [] [] [] (o0) ?_
    refine awp_ret ?_
    exact pret [] (congrArg (fun z => (.b z : AV)) (show lawsFnExactCheckStep aC aK = true from bif_t h2 (rfl)).symm)
  · -- False
    have h2d := of_decide_eq_false h2
    refine awp_skip ?_
    refine awp_seq ?_
    have hz3 := szI_bd (GoD.size aK) (szI (GoD.size aC) 1048576)
    refine rk tt_ok [(5, .i (szI (GoD.size aK) (szI (GoD.size aC) 1048576)))] [5, 21] [] [] [(2, .val (.i (szI (GoD.size aK) (szI (GoD.size aC) 1048576))))] (o1 (ob_call (szCheck_a aK (szI (GoD.size aC) 1048576) (by omega) (by omega)))) ?_
    refine awp_seq ?_
    refine awp_seq ?_
    refine rk tt_ok [(26, .b (decide ((szI (GoD.size aK) (szI (GoD.size aC) 1048576)) < (0 : Int))))] [5] [] [] [] (o0) ?_
    refine ck (decide ((szI (GoD.size aK) (szI (GoD.size aC) 1048576)) < (0 : Int))) (fun h4 => ?_) (fun h4 => ?_)
    · -- True
      have h4d := of_decide_eq_true h4
      refine awp_seq ?_
      refine rk tt_ok [(4, .b true)] [4, 26] [] [] [] (o0) ?_
      refine awp_ret ?_
      exact pret [] (congrArg (fun z => (.b z : AV)) (show lawsFnExactCheckStep aC aK = true from bif_f h2 (bif_t h4 (rfl))).symm)
    · -- False
      have h4d := of_decide_eq_false h4
      refine awp_skip ?_
      refine awp_seq ?_
      have hsz_aC : GoD.size aC ≤ 1048576 := by omega
      have hsz_aK : GoD.size aK ≤ 1048576 := by omega
      refine rd' tt_ok tt_mx [(6, .p 6 0), (7, .b (((implCheckStep aC aK)).2))] [26] [(6, [.i ((((implCheckStep aC aK)).1).1), .o 2048 ((((implCheckStep aC aK)).1).2)])] [] [(1, .val (.a [.o 0 aC.1.1, .o 1 aC.1.2.1, .i aC.1.2.2, .o 2 aC.2.1, .o 3 aC.2.2])), (3, .val (.a [.i aK.1, .o 0 aK.2])), (4, .val (.tup [(true, [.i ((((implCheckStep aC aK)).1).1), .o 0 ((((implCheckStep aC aK)).1).2)]), (false, [.b (((implCheckStep aC aK)).2)])]))] (o2 (ob_call (toCatalog_a aC hsz_aC)) (o2 (ob_call (toCheck_a aK hsz_aK)) (o1 (ob_call ((checkStep_eq aC aK) ▸ (specCheckStep_a aC aK (by have h := sz_len (sz_snd hsz_aK); omega))))))) ?_
      refine awp_seq ?_
      refine rk tt_ok [(8, .p 8 0)] [] [(8, [.o 2304 aC.1.1, .o 2305 aC.1.2.1, .i aC.1.2.2, .o 2306 aC.2.1, .o 2307 aC.2.2])] [] [(1, .val (.a [.o 0 aC.1.1, .o 1 aC.1.2.1, .i aC.1.2.2, .o 2 aC.2.1, .o 3 aC.2.2]))] (o1 (ob_call (toCatalog_a aC hsz_aC))) ?_
      refine awp_seq ?_
      refine rk tt_ok [(9, .p 9 0)] [] [(9, [.i aK.1, .o 2432 aK.2])] [] [(1, .val (.a [.i aK.1, .o 0 aK.2]))] (o1 (ob_call (toCheck_a aK hsz_aK))) ?_
      refine awp_seq ?_
      refine rk tt_ok [(10, .p 10 0), (11, .b (((implCheckStep aC aK)).2))] [] [(10, [.i ((((implCheckStep aC aK)).1).1), .o 2688 ((((implCheckStep aC aK)).1).2)])] [] [(2, .val (.tup [(true, [.i ((((implCheckStep aC aK)).1).1), .o 0 ((((implCheckStep aC aK)).1).2)]), (false, [.b (((implCheckStep aC aK)).2)])]))] (o1 (ob_call (implCheckStep_a aC aK (by have h := sz_len (sz_snd hsz_aK); omega)))) ?_
      refine awp_seq ?_
      refine awp_seq ?_
      refine rk tt_ok [(53, .b false)] [] [] [] [(2, .val (.b true)), (3, .val (.b false)), (7, .val (.b false))] (o2 (ob_call (eqCheck_a (a := ((implCheckStep aC aK)).1) (b := ((implCheckStep aC aK)).1) (rfl))) (o2 (ob_eq (show .b (!true) = .b false from rfl)) (o1 (ob_eq (show .b (!((((implCheckStep aC aK)).2) == (((implCheckStep aC aK)).2))) = .b false from av_bool (by simp)))))) ?_
      refine ckF ?_
      refine awp_skip ?_
      refine awp_seq ?_
      refine awp_seq ?_
      refine rd' tt_ok tt_mx [(58, .b false)] [53] [] [] [(2, .val (.a [.o 0 aC.1.1, .o 1 aC.1.2.1, .i aC.1.2.2, .o 2 aC.2.1, .o 3 aC.2.2])), (3, .val (.b true)), (4, .val (.b false))] (o2 (ob_call (toCatalog_a aC hsz_aC)) (o2 (ob_call (eqCatalog_a (a := aC) (b := aC) (rfl))) (o1 (ob_eq (show .b (!true) = .b false from rfl))))) ?_
      refine ckF ?_
      refine awp_skip ?_
      refine awp_seq ?_
      refine awp_seq ?_
      refine rd' tt_ok tt_mx [(63, .b false)] [58] [] [] [(2, .val (.a [.i aK.1, .o 0 aK.2])), (3, .val (.b true)), (4, .val (.b false))] (o2 (ob_call (toCheck_a aK hsz_aK)) (o2 (ob_call (eqCheck_a (a := aK) (b := aK) (rfl))) (o1 (ob_eq (show .b (!true) = .b false from rfl))))) ?_
      refine ckF ?_
      refine awp_skip ?_
      refine awp_seq ?_
      refine rk tt_ok [(12, .i 1)] [63] [] [] [] (o0) ?_
      refine awp_seq ?_
      have hm5 := bdT (a := aC) (k := 1) (by decide) (Nat.le_trans hsz_aC (by decide))
      have hm6 := GoD.mkT_le aC 1
      refine awp_markA tt_ok (markCatalog_m aC 1 1 rfl (by omega) (by omega) ((Nat.le_trans hsz_aC (by decide)))) (by rw [inR_i64]; unfold I64; omega) GoM.mkT [2304, 2305, 2306, 2307] [2, 3, 4, 6, 7, 9, 10, 11, 12] [2, 3, 6, 9, 10] (s' := ⟨[(2, .p 2 0), (3, .p 3 0), (4, .b false), (6, .p 6 0), (7, .b (((implCheckStep aC aK)).2)), (9, .p 9 0), (10, .p 10 0), (11, .b (((implCheckStep aC aK)).2)), (12, .i (((GoD.markT aC 1).2 : Nat) : Int))], [(2, [.h aC.1.1, .h aC.1.2.1, .i aC.1.2.2, .h aC.2.1, .h aC.2.2]), (3, [.i aK.1, .h aK.2]), (6, [.i ((((implCheckStep aC aK)).1).1), .o 2048 ((((implCheckStep aC aK)).1).2)]), (9, [.i aK.1, .o 2432 aK.2]), (10, [.i ((((implCheckStep aC aK)).1).1), .o 2688 ((((implCheckStep aC aK)).1).2)])]⟩) rfl rfl rfl rfl rfl rfl rfl rfl rfl rfl rfl rfl (by kernel_rfl) rfl rfl (by kernel_rfl) rfl rfl (by kernel_rfl) (by kernel_rfl) rfl (by kernel_rfl) ?_
      refine awp_seq ?_
      have hm7 := bdT (a := aK) (k := (GoD.markT aC 1).2) (by decide) (Nat.le_trans hsz_aK (by decide))
      have hm8 := GoD.mkT_le aK ((GoD.markT aC 1).2)
      refine awp_markA tt_ok (markCheck_m aK (((GoD.markT aC 1).2 : Nat) : Int) ((GoD.markT aC 1).2) rfl (by omega) (by omega) ((Nat.le_trans hsz_aK (by decide)))) (by rw [inR_i64]; unfold I64; omega) GoM.mkT [2432] [2, 3, 4, 6, 7, 10, 11, 12] [2, 3, 6, 10] (s' := ⟨[(2, .p 2 0), (3, .p 3 0), (4, .b false), (6, .p 6 0), (7, .b (((implCheckStep aC aK)).2)), (10, .p 10 0), (11, .b (((implCheckStep aC aK)).2)), (12, .i (((GoD.markT aK ((GoD.markT aC 1).2)).2 : Nat) : Int))], [(2, [.h aC.1.1, .h aC.1.2.1, .i aC.1.2.2, .h aC.2.1, .h aC.2.2]), (3, [.i aK.1, .h aK.2]), (6, [.i ((((implCheckStep aC aK)).1).1), .o 2048 ((((implCheckStep aC aK)).1).2)]), (10, [.i ((((implCheckStep aC aK)).1).1), .o 2688 ((((implCheckStep aC aK)).1).2)])]⟩) rfl rfl rfl rfl rfl rfl rfl rfl rfl rfl rfl rfl (by kernel_rfl) rfl rfl (by kernel_rfl) rfl rfl (by kernel_rfl) (by kernel_rfl) rfl (by kernel_rfl) ?_
      refine awp_seq ?_
      refine awp_seq ?_
      refine rk tt_ok [(82, .b false)] [11, 12] [] [] [(1, .val (.b false)), (5, .val (.b true)), (6, .val (.b false)), (11, .val (.b false))] (o2 (ob_eq (av_df (p := (((GoD.markT aK ((GoD.markT aC 1).2)).2 : Nat) : Int) < (0 : Int)) (by omega))) (o2 (ob_call (eqCheck_a (a := ((implCheckStep aC aK)).1) (b := ((implCheckStep aC aK)).1) (rfl))) (o2 (ob_eq (show .b (!true) = .b false from rfl)) (o1 (ob_eq (show .b (!((((implCheckStep aC aK)).2) == (((implCheckStep aC aK)).2))) = .b false from av_bool (by simp))))))) ?_
      refine ckF ?_
      refine awp_skip ?_
      refine awp_seq ?_
      refine rk tt_ok [(13, .i 1)] [82] [] [] [] (o0) ?_
      refine awp_seq ?_
      have hm9 := bdT (a := (((implCheckStep aC aK)).1)) (k := 1) (by decide) (by have h := checkStep_size aC aK; omega)
      have hm10 := GoD.mkT_le (((implCheckStep aC aK)).1) 1
      refine awp_markA tt_ok (markCheck_m (((implCheckStep aC aK)).1) 1 1 rfl (by omega) (by omega) ((by have h := checkStep_size aC aK; omega))) (by rw [inR_i64]; unfold I64; omega) GoM.mkT [2688] [2, 3, 4, 6, 7, 10, 13] [2, 3, 6, 10] (s' := ⟨[(2, .p 2 0), (3, .p 3 0), (4, .b false), (6, .p 6 0), (7, .b (((implCheckStep aC aK)).2)), (10, .p 10 0), (13, .i (((GoD.markT (((implCheckStep aC aK)).1) 1).2 : Nat) : Int))], [(2, [.h aC.1.1, .h aC.1.2.1, .i aC.1.2.2, .h aC.2.1, .h aC.2.2]), (3, [.i aK.1, .h aK.2]), (6, [.i ((((implCheckStep aC aK)).1).1), .o 2048 ((((implCheckStep aC aK)).1).2)]), (10, [.i (((GoD.markT (((implCheckStep aC aK)).1) 1).1).1), .h (((GoD.markT (((implCheckStep aC aK)).1) 1).1).2)])]⟩) rfl rfl rfl rfl rfl rfl rfl rfl rfl rfl rfl rfl (by kernel_rfl) rfl rfl (by kernel_rfl) rfl rfl (by kernel_rfl) (by kernel_rfl) rfl (by kernel_rfl) ?_
      refine awp_seq ?_
      refine rk tt_ok [(14, .i 1)] [] [] [] [] (o0) ?_
      refine awp_seq ?_
      refine rk tt_ok [(14, .i (((GoD.markT (((implCheckStep aC aK)).1) 1).2 : Nat) : Int))] [14] [] [] [(2, .val (.i (((GoD.markT (((implCheckStep aC aK)).1) 1).2 : Nat) : Int)))] (o1 (ob_call (heldCheck_a (((implCheckStep aC aK)).1) (by have h := checkStep_size aC aK; omega)))) ?_
      refine awp_seq ?_
      refine awp_seq ?_
      refine rk tt_ok [(90, .b false)] [] [] [] [(1, .val (.b false))] (o1 (ob_eq (av_df (p := (((GoD.markT (((implCheckStep aC aK)).1) 1).2 : Nat) : Int) < (0 : Int)) (by omega)))) ?_
      refine ckF ?_
      refine awp_skip ?_
      refine awp_seq ?_
      refine awp_seq ?_
      refine rk tt_ok [(93, .b false)] [90] [] [] [(2, .val (.b false))] (o1 (ob_eq (show .b ((((GoD.markT (((implCheckStep aC aK)).1) 1).2 : Nat) : Int) != (((GoD.markT (((implCheckStep aC aK)).1) 1).2 : Nat) : Int)) = .b false from av_bool (by simp)))) ?_
      refine ckF ?_
      refine awp_skip ?_
      refine awp_seq ?_
      refine rd' tt_ok tt_mx [(15, .p 15 0), (16, .b (((implCheckStep aC aK)).2))] [2, 3, 93] [(15, [.i ((((implCheckStep aC aK)).1).1), .o 6336 ((((implCheckStep aC aK)).1).2)])] [2, 3] [(1, .val (.a [.o 0 aC.1.1, .o 1 aC.1.2.1, .i aC.1.2.2, .o 2 aC.2.1, .o 3 aC.2.2])), (3, .val (.a [.i aK.1, .o 0 aK.2])), (4, .val (.tup [(true, [.i ((((implCheckStep aC aK)).1).1), .o 0 ((((implCheckStep aC aK)).1).2)]), (false, [.b (((implCheckStep aC aK)).2)])]))] (o2 (ob_call (toCatalog_a aC hsz_aC)) (o2 (ob_call (toCheck_a aK hsz_aK)) (o1 (ob_call (implCheckStep_a aC aK (by have h := sz_len (sz_snd hsz_aK); omega)))))) ?_
      refine awp_seq ?_
      refine awp_seq ?_
      refine rk tt_ok [(110, .b false)] [6, 7, 15, 16] [] [6, 15] [(2, .val (.b true)), (3, .val (.b false)), (7, .val (.b false))] (o2 (ob_call (eqCheck_a (a := ((implCheckStep aC aK)).1) (b := ((implCheckStep aC aK)).1) (rfl))) (o2 (ob_eq (show .b (!true) = .b false from rfl)) (o1 (ob_eq (show .b (!((((implCheckStep aC aK)).2) == (((implCheckStep aC aK)).2))) = .b false from av_bool (by simp)))))) ?_
      refine ckF ?_
      refine awp_skip ?_
      refine awp_seq ?_
      refine rk tt_ok [(14, .i 1)] [14, 110] [] [] [] (o0) ?_
      refine awp_seq ?_
      refine rk tt_ok [(14, .i (((GoD.markT (((implCheckStep aC aK)).1) 1).2 : Nat) : Int))] [10, 14] [] [10] [(2, .val (.i (((GoD.markT (((implCheckStep aC aK)).1) 1).2 : Nat) : Int)))] (o1 (ob_call (heldCheck_a (((implCheckStep aC aK)).1) (by have h := checkStep_size aC aK; omega)))) ?_
      refine awp_seq ?_
      refine awp_seq ?_
      refine rk tt_ok [(115, .b false)] [] [] [] [(1, .val (.b false))] (o1 (ob_eq (av_df (p := (((GoD.markT (((implCheckStep aC aK)).1) 1).2 : Nat) : Int) < (0 : Int)) (by omega)))) ?_
      refine ckF ?_
      refine awp_skip ?_
      refine awp_seq ?_
      refine awp_seq ?_
      refine rk tt_ok [(118, .b false)] [13, 14, 115] [] [] [(2, .val (.b false))] (o1 (ob_eq (show .b ((((GoD.markT (((implCheckStep aC aK)).1) 1).2 : Nat) : Int) != (((GoD.markT (((implCheckStep aC aK)).1) 1).2 : Nat) : Int)) = .b false from av_bool (by simp)))) ?_
      refine ckF ?_
      refine awp_skip ?_
      refine awp_seq ?_
      refine rk tt_ok [(4, .b true)] [4, 118] [] [] [] (o0) ?_
      refine awp_ret ?_
      exact pret [] (congrArg (fun z => (.b z : AV)) (show lawsFnExactCheckStep aC aK = true from bif_f h2 (bif_f h4 (rfl))).symm)
end Go.Proofs.YtkjlkokcpeoeeaaGreat
