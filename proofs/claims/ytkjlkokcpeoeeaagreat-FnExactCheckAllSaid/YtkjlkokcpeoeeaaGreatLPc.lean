/- What functions compute, and that they do (printed by am2.py): each function as a Lean function, then its contract. -/
import Derived.Test.YtkjlkokcpeoeeaaGreatCkg
import Derived.Test.YtkjlkokcpeoeeaaGreatLw
import Derived.Test.YtkjlkokcpeoeeaaGreatSz
import Derived.Test.YtkjlkokcpeoeeaaGreatEq
import Derived.Test.YtkjlkokcpeoeeaaGreatTo
import Derived.Test.YtkjlkokcpeoeeaaGreatMa
import Derived.Test.YtkjlkokcpeoeeaaGreatHe
import Derived.KernelRfl
namespace Go.Proofs.YtkjlkokcpeoeeaaGreat
open Go.RowKit
open GoE (enc wide)

theorem szCatalog_a (a : CatalogD) (left : Int) (h0 : 0 ≤ left) (h1 : left ≤ 1048576) : ACalls Tryz.prog 18 [argA a, intA left] (intA (szI (GoD.size a) left)) := acalls_szA (by unfold FnOk; kernel_rfl) h0 h1 fun w c hr => szCatalog_c w c a left hr h0 h1

theorem toCatalog_a (a : CatalogD) (h : GoD.size a ≤ 1048576) : ACalls Tryz.prog 20 [argA a] (resA a) := acalls_toA (by unfold FnOk; kernel_rfl) fun w c hr => toCatalog_c w c a hr h

theorem eqStringS_a {a b : (List ByteArray)} (h : a = b) : ACalls Tryz.prog 22 [argS a, argS b] (boolA true) := acalls_eqS (by unfold FnOk; kernel_rfl) h fun w c c2 h1 h2 => eqStringS_c w c c2 a b h1 h2

theorem eqCatalog_a {a b : CatalogD} (h : a = b) : ACalls Tryz.prog 23 [argA a, argA b] (boolA true) := acalls_eqA (by unfold FnOk; kernel_rfl) h fun w c c2 h1 h2 => eqCatalog_c w c c2 a b h1 h2

theorem markCatalog_m (a : CatalogD) (K : Int) (k : Nat) (hK : K = k) (h1 : 1 ≤ k) (hk : k ≤ 1152921504606846976) (hs : GoD.size a ≤ 1073741824) : MarkA Tryz.prog 24 a K (GoD.markT a k) := ⟨(by unfold FnOk; kernel_rfl), fun w L c ho => markCatalog_c w c a L K k hK h1 (by have := bdT (a := a) (k := k) (by decide) hs; omega) ho⟩

theorem markStringS_m (a : (List ByteArray)) (K : Int) (k : Nat) (hK : K = k) (h1 : 1 ≤ k) (hk : k ≤ 1152921504606846976) (hs : GoD.size a ≤ 1073741824) : MarkS Tryz.prog 25 a K (markS a k) := ⟨(by unfold FnOk; kernel_rfl), fun w L c ho => markStringS_c w c a L K k hK h1 (by have := bdS (l := a) (k := k) (by decide) hs; omega) ho⟩

theorem heldStringS_a (a : (List ByteArray)) (hs : GoD.size a ≤ 1073741824) : ACalls Tryz.prog 26 [argS (markS a 1).1, intA 1] (intA ((markS a 1).2 : Nat)) := acalls_heS (by unfold FnOk; kernel_rfl) (by have := bdS (l := a) (k := 1) (by decide) hs; rw [inR_i64]; unfold I64; omega) fun w c hr => heldStringS_c w c a _ 1 1 rfl (by omega) (by have := bdS (l := a) (k := 1) (by decide) hs; omega) rfl hr
def lawsFnExactCheckAll (aC : CatalogD) : Bool := (bif decide ((szI (GoD.size aC) 1048576) < (0 : Int)) then true else true)
theorem lawsFnExactCheckAll_a (aC : CatalogD) : ACalls Tryz.prog 5 [.a [.h aC.1.1, .h aC.1.2.1, .i aC.1.2.2, .h aC.2.1, .h aC.2.2]] (.b (lawsFnExactCheckAll aC)) := by
  refine acalls_of (tt := tt) tt_ok Tryz.func5 (fn := Tryz.f5) rfl (by unfold FnOk; kernel_rfl) (Nat.le_of_ble_eq_true rfl) fun w0 F0 => ?_
  refine awp_seq ?_
  refine rk tt_ok [(1, .p 1 0), (2, .b false)] [0] [(1, [.h aC.1.1, .h aC.1.2.1, .i aC.1.2.2, .h aC.2.1, .h aC.2.2])] [] [] (o0) ?_
  refine awp_seq ?_
  refine rk tt_ok [(3, .i 1048576)] [] [] [] [] (o0) ?_
  refine awp_seq ?_
  have hz1 := szI_bd (GoD.size aC) 1048576
  refine rk tt_ok [(3, .i (szI (GoD.size aC) 1048576))] [3] [] [] [(2, .val (.i (szI (GoD.size aC) 1048576)))] (o1 (ob_call (szCatalog_a aC 1048576 (by omega) (by omega)))) ?_
  refine awp_seq ?_
  refine awp_seq ?_
  refine rk tt_ok [(15, .b (decide ((szI (GoD.size aC) 1048576) < (0 : Int))))] [3] [] [] [] (o0) ?_
  refine ck (decide ((szI (GoD.size aC) 1048576) < (0 : Int))) (fun h2 => ?_) (fun h2 => ?_)
  · -- True
    have h2d := of_decide_eq_true h2
    refine awp_seq ?_
    refine rk tt_ok [(2, .b true)] [2, 15] [] [] [] (o0) ?_
    refine awp_ret ?_
    exact pret [] (congrArg (fun z => (.b z : AV)) (show lawsFnExactCheckAll aC = true from bif_t h2 (rfl)).symm)
  · -- False
    have h2d := of_decide_eq_false h2
    refine awp_skip ?_
    refine awp_seq ?_
    have hsz_aC : GoD.size aC ≤ 1048576 := by omega
    refine rk tt_ok [(4, .o 1152 (implCheckAll aC))] [15] [] [] [(1, .val (.a [.o 0 aC.1.1, .o 1 aC.1.2.1, .i aC.1.2.2, .o 2 aC.2.1, .o 3 aC.2.2])), (2, .val (.o 0 (implCheckAll aC)))] (o2 (ob_call (toCatalog_a aC hsz_aC)) (o1 (ob_call ((checkAll_eq aC) ▸ (specCheckAll_a aC))))) ?_
    refine awp_seq ?_
    refine rk tt_ok [(5, .p 5 0)] [] [(5, [.o 1280 aC.1.1, .o 1281 aC.1.2.1, .i aC.1.2.2, .o 1282 aC.2.1, .o 1283 aC.2.2])] [] [(1, .val (.a [.o 0 aC.1.1, .o 1 aC.1.2.1, .i aC.1.2.2, .o 2 aC.2.1, .o 3 aC.2.2]))] (o1 (ob_call (toCatalog_a aC hsz_aC))) ?_
    refine awp_seq ?_
    refine rk tt_ok [(6, .o 1408 (implCheckAll aC))] [] [] [] [(1, .val (.o 0 (implCheckAll aC)))] (o1 (ob_call (implCheckAll_a aC))) ?_
    refine awp_seq ?_
    refine awp_seq ?_
    refine rk tt_ok [(26, .b false)] [] [] [] [(2, .val (.b true)), (3, .val (.b false))] (o2 (ob_call (eqStringS_a (a := implCheckAll aC) (b := implCheckAll aC) (rfl))) (o1 (ob_eq (show .b (!true) = .b false from rfl)))) ?_
    refine ckF ?_
    refine awp_skip ?_
    refine awp_seq ?_
    refine awp_seq ?_
    refine rd' tt_ok tt_mx [(31, .b false)] [26] [] [] [(2, .val (.a [.o 0 aC.1.1, .o 1 aC.1.2.1, .i aC.1.2.2, .o 2 aC.2.1, .o 3 aC.2.2])), (3, .val (.b true)), (4, .val (.b false))] (o2 (ob_call (toCatalog_a aC hsz_aC)) (o2 (ob_call (eqCatalog_a (a := aC) (b := aC) (rfl))) (o1 (ob_eq (show .b (!true) = .b false from rfl))))) ?_
    refine ckF ?_
    refine awp_skip ?_
    refine awp_seq ?_
    refine rk tt_ok [(7, .i 1)] [31] [] [] [] (o0) ?_
    refine awp_seq ?_
    have hm3 := bdT (a := aC) (k := 1) (by decide) (Nat.le_trans hsz_aC (by decide))
    have hm4 := GoD.mkT_le aC 1
    refine awp_markA tt_ok (markCatalog_m aC 1 1 rfl (by omega) (by omega) ((Nat.le_trans hsz_aC (by decide)))) (by rw [inR_i64]; unfold I64; omega) GoM.mkT [1280, 1281, 1282, 1283] [1, 2, 4, 6, 7] [1] (s' := ⟨[(1, .p 1 0), (2, .b false), (4, .o 1152 (implCheckAll aC)), (6, .o 1408 (implCheckAll aC)), (7, .i (((GoD.markT aC 1).2 : Nat) : Int))], [(1, [.h aC.1.1, .h aC.1.2.1, .i aC.1.2.2, .h aC.2.1, .h aC.2.2])]⟩) rfl rfl rfl rfl rfl rfl rfl rfl rfl rfl rfl rfl (by kernel_rfl) rfl rfl (by kernel_rfl) rfl rfl (by kernel_rfl) (by kernel_rfl) rfl (by kernel_rfl) ?_
    refine awp_seq ?_
    refine awp_seq ?_
    refine rk tt_ok [(42, .b false)] [7] [] [] [(1, .val (.b false)), (5, .val (.b true)), (6, .val (.b false))] (o2 (ob_eq (av_df (p := (((GoD.markT aC 1).2 : Nat) : Int) < (0 : Int)) (by omega))) (o2 (ob_call (eqStringS_a (a := implCheckAll aC) (b := implCheckAll aC) (rfl))) (o1 (ob_eq (show .b (!true) = .b false from rfl))))) ?_
    refine ckF ?_
    refine awp_skip ?_
    refine awp_seq ?_
    refine rk tt_ok [(8, .i 1)] [42] [] [] [] (o0) ?_
    refine awp_seq ?_
    have hm5 := bdS (l := (implCheckAll aC)) (k := 1) (by decide) (Nat.le_trans (checkAll_size aC (Nat.le_trans (sz_len (sz_fst (sz_snd hsz_aC))) (by decide))) (by omega))
    have hm6 := markS_le (implCheckAll aC) 1
    refine awp_markS (markStringS_m (implCheckAll aC) 1 1 rfl (by omega) (by omega) ((Nat.le_trans (checkAll_size aC (Nat.le_trans (sz_len (sz_fst (sz_snd hsz_aC))) (by decide))) (by omega)))) (by rw [inR_i64]; unfold I64; omega) GoM.mkT 1408 [1, 2, 4, 6, 8] [1] (s' := ⟨[(1, .p 1 0), (2, .b false), (4, .o 1152 (implCheckAll aC)), (6, .h ((markS (implCheckAll aC) 1).1)), (8, .i (((markS (implCheckAll aC) 1).2 : Nat) : Int))], [(1, [.h aC.1.1, .h aC.1.2.1, .i aC.1.2.2, .h aC.2.1, .h aC.2.2])]⟩) rfl rfl rfl rfl rfl rfl rfl rfl rfl rfl rfl rfl (by kernel_rfl) (by kernel_rfl) rfl rfl (by kernel_rfl) ?_
    refine awp_seq ?_
    refine rk tt_ok [(9, .i 1)] [] [] [] [] (o0) ?_
    refine awp_seq ?_
    refine rk tt_ok [(9, .i (((markS (implCheckAll aC) 1).2 : Nat) : Int))] [9] [] [] [(2, .val (.i (((markS (implCheckAll aC) 1).2 : Nat) : Int)))] (o1 (ob_call (heldStringS_a (implCheckAll aC) (Nat.le_trans (checkAll_size aC (Nat.le_trans (sz_len (sz_fst (sz_snd hsz_aC))) (by decide))) (by omega))))) ?_
    refine awp_seq ?_
    refine awp_seq ?_
    refine rk tt_ok [(50, .b false)] [] [] [] [(1, .val (.b false))] (o1 (ob_eq (av_df (p := (((markS (implCheckAll aC) 1).2 : Nat) : Int) < (0 : Int)) (by omega)))) ?_
    refine ckF ?_
    refine awp_skip ?_
    refine awp_seq ?_
    refine awp_seq ?_
    refine rk tt_ok [(53, .b false)] [50] [] [] [(2, .val (.b false))] (o1 (ob_eq (show .b ((((markS (implCheckAll aC) 1).2 : Nat) : Int) != (((markS (implCheckAll aC) 1).2 : Nat) : Int)) = .b false from av_bool (by simp)))) ?_
    refine ckF ?_
    refine awp_skip ?_
    refine awp_seq ?_
    refine rk tt_ok [(10, .o 3584 (implCheckAll aC))] [1, 53] [] [1] [(1, .val (.a [.o 0 aC.1.1, .o 1 aC.1.2.1, .i aC.1.2.2, .o 2 aC.2.1, .o 3 aC.2.2])), (2, .val (.o 0 (implCheckAll aC)))] (o2 (ob_call (toCatalog_a aC hsz_aC)) (o1 (ob_call (implCheckAll_a aC)))) ?_
    refine awp_seq ?_
    refine awp_seq ?_
    refine rk tt_ok [(60, .b false)] [4, 10] [] [] [(2, .val (.b true)), (3, .val (.b false))] (o2 (ob_call (eqStringS_a (a := implCheckAll aC) (b := implCheckAll aC) (rfl))) (o1 (ob_eq (show .b (!true) = .b false from rfl)))) ?_
    refine ckF ?_
    refine awp_skip ?_
    refine awp_seq ?_
    refine rk tt_ok [(9, .i 1)] [9, 60] [] [] [] (o0) ?_
    refine awp_seq ?_
    refine rk tt_ok [(9, .i (((markS (implCheckAll aC) 1).2 : Nat) : Int))] [6, 9] [] [] [(2, .val (.i (((markS (implCheckAll aC) 1).2 : Nat) : Int)))] (o1 (ob_call (heldStringS_a (implCheckAll aC) (Nat.le_trans (checkAll_size aC (Nat.le_trans (sz_len (sz_fst (sz_snd hsz_aC))) (by decide))) (by omega))))) ?_
    refine awp_seq ?_
    refine awp_seq ?_
    refine rk tt_ok [(65, .b false)] [] [] [] [(1, .val (.b false))] (o1 (ob_eq (av_df (p := (((markS (implCheckAll aC) 1).2 : Nat) : Int) < (0 : Int)) (by omega)))) ?_
    refine ckF ?_
    refine awp_skip ?_
    refine awp_seq ?_
    refine awp_seq ?_
    refine rk tt_ok [(68, .b false)] [8, 9, 65] [] [] [(2, .val (.b false))] (o1 (ob_eq (show .b ((((markS (implCheckAll aC) 1).2 : Nat) : Int) != (((markS (implCheckAll aC) 1).2 : Nat) : Int)) = .b false from av_bool (by simp)))) ?_
    refine ckF ?_
    refine awp_skip ?_
    refine awp_seq ?_
    refine rk tt_ok [(2, .b true)] [2, 68] [] [] [] (o0) ?_
    refine awp_ret ?_
    exact pret [] (congrArg (fun z => (.b z : AV)) (show lawsFnExactCheckAll aC = true from bif_f h2 (rfl)).symm)
end Go.Proofs.YtkjlkokcpeoeeaaGreat
