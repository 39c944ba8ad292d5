/- What functions compute, and that they do (printed by am2.py): each function as a Lean function, then its contract. -/
import Derived.Test.YtnhmnfmhnepjmaaGreatNwb
import Derived.Test.YtnhmnfmhnepjmaaGreatMa
import Derived.Test.YtnhmnfmhnepjmaaGreatHe
import Derived.Test.YtnhmnfmhnepjmaaGreatLw
import Derived.Test.YtnhmnfmhnepjmaaGreatSz
import Derived.Test.YtnhmnfmhnepjmaaGreatEq
import Derived.Test.YtnhmnfmhnepjmaaGreatTo
import Derived.KernelRfl
set_option linter.unusedVariables false
set_option linter.unusedSimpArgs false
namespace Go.Proofs.YtnhmnfmhnepjmaaGreat
open Go.RowKit
open GoE (enc wide)
theorem szStore_a (a : StoreD) (left : Int) (h0 : 0 ≤ left) (h1 : left ≤ 1048576) : ACalls Tryz.prog 7 [argA a, intA left] (intA (szI (GoD.size a) left)) := acalls_szA (by unfold FnOk; kernel_rfl) h0 h1 fun w c hr => szStore_c w c a left hr h0 h1
theorem szDirS_a (a : (List DirD)) (left : Int) (h0 : 0 ≤ left) (h1 : left ≤ 1048576) : ACalls Tryz.prog 8 [argS a, intA left] (intA (szI (GoD.size a) left)) := acalls_szS (by unfold FnOk; kernel_rfl) h0 h1 fun w c hr => szDirS_c w c a left hr h0 h1
theorem toStore_a (a : StoreD) (h : GoD.size a ≤ 1048576) : ACalls Tryz.prog 10 [argA a] (resA a) := acalls_toA (by unfold FnOk; kernel_rfl) fun w c hr => toStore_c w c a hr h
theorem toDirS_a (a : (List DirD)) (h : GoD.size a ≤ 1048576) : ACalls Tryz.prog 11 [argS a] (resS a) := acalls_toS (by unfold FnOk; kernel_rfl) fun w c hr => toDirS_c w c a hr h
theorem eqWatch_a {a b : WatchD} (h : a = b) : ACalls Tryz.prog 22 [argA a, argA b] (boolA true) := acalls_eqA (by unfold FnOk; kernel_rfl) h fun w c c2 h1 h2 => eqWatch_c w c c2 a b h1 h2
theorem eqStore_a {a b : StoreD} (h : a = b) : ACalls Tryz.prog 14 [argA a, argA b] (boolA true) := acalls_eqA (by unfold FnOk; kernel_rfl) h fun w c c2 h1 h2 => eqStore_c w c c2 a b h1 h2
theorem eqDirS_a {a b : (List DirD)} (h : a = b) : ACalls Tryz.prog 15 [argS a, argS b] (boolA true) := acalls_eqS (by unfold FnOk; kernel_rfl) h fun w c c2 h1 h2 => eqDirS_c w c c2 a b h1 h2
theorem markStore_m (a : StoreD) (K : Int) (k : Nat) (hK : K = k) (h1 : 1 ≤ k) (hk : k ≤ 1152921504606846976) (hs : GoD.size a ≤ 1073741824) : MarkA Tryz.prog 16 a K (GoD.markT a k) := ⟨(by unfold FnOk; kernel_rfl), fun w L c ho => markStore_c w c a L K k hK h1 (by have := bdT (a := a) (k := k) (by decide) hs; omega) ho⟩
theorem markDirS_m (a : (List DirD)) (K : Int) (k : Nat) (hK : K = k) (h1 : 1 ≤ k) (hk : k ≤ 1152921504606846976) (hs : GoD.size a ≤ 1073741824) : MarkS Tryz.prog 17 a K (markS a k) := ⟨(by unfold FnOk; kernel_rfl), fun w L c ho => markDirS_c w c a L K k hK h1 (by have := bdS (l := a) (k := k) (by decide) hs; omega) ho⟩
theorem markWatch_m (a : WatchD) (K : Int) (k : Nat) (hK : K = k) (h1 : 1 ≤ k) (hk : k ≤ 1152921504606846976) (hs : GoD.size a ≤ 1073741824) : MarkA Tryz.prog 23 a K (GoD.markT a k) := ⟨(by unfold FnOk; kernel_rfl), fun w L c ho => markWatch_c w c a L K k hK h1 (by have := bdT (a := a) (k := k) (by decide) hs; omega) ho⟩
theorem heldWatch_a (a : WatchD) (hs : GoD.size a ≤ 1073741824) : ACalls Tryz.prog 24 [argA (GoD.markT a 1).1, intA 1] (intA ((GoD.markT a 1).2 : Nat)) := acalls_heA (by unfold FnOk; kernel_rfl) (by have := bdT (a := a) (k := 1) (by decide) hs; rw [inR_i64]; unfold I64; omega) fun w c hr => heldWatch_c w c a _ 1 1 rfl (by omega) (by have := bdT (a := a) (k := 1) (by decide) hs; omega) rfl hr
def lawsFnExactNewWatch (aS : StoreD) (aD : (List DirD)) (aUser : Int) (aName : ByteArray) : Bool := (bif decide ((ByteArray.size aName : Int) > (1048576 : Int)) then true else (bif decide ((szI (GoD.size aS) 1048576) < (0 : Int)) then true else (bif decide ((szI (GoD.size aD) (szI (GoD.size aS) 1048576)) < (0 : Int)) then true else true)))
theorem lawsFnExactNewWatch_a (aS : StoreD) (aD : (List DirD)) (aUser : Int) (aName : ByteArray) : ACalls Tryz.prog 4 [.a [.h aS.1, .h aS.2.1, .i aS.2.2], .h aD, .i aUser, .s aName] (.b (lawsFnExactNewWatch aS aD aUser aName)) := by
 refine acalls_of (tt := tt) tt_ok Tryz.func4 (fn := Tryz.f4) rfl (by unfold FnOk; kernel_rfl) (Nat.le_of_ble_eq_true rfl) fun w0 F0 => ?_
 refine awp_seq ?_
 refine rk tt_ok [(4, .p 4 0), (8, .b false)] [0] [(4, [.h aS.1, .h aS.2.1, .i aS.2.2])] [] [] (o0) ?_
 refine awp_seq ?_
 refine awp_seq ?_
 refine rk tt_ok [(20, .b (decide ((ByteArray.size aName : Int) > (1048576 : Int))))] [] [] [] [] (o0) ?_
 refine ck (decide ((ByteArray.size aName : Int) > (1048576 : Int))) (fun h1 => ?_) (fun h1 => ?_)
 ·
  refine awp_seq ?_
  refine rk tt_ok [(8, .b true)] [8, 20] [] [] [] (o0) ?_
  refine awp_ret ?_
  exact pret [] (congrArg (fun z => (.b z : AV)) (show lawsFnExactNewWatch aS aD aUser aName = true from bif_t h1 (rfl)).symm)
 ·
  have h1d := of_decide_eq_false h1
  refine awp_skip ?_
  refine awp_seq ?_
  refine rk tt_ok [(9, .i 1048576)] [20] [] [] [] (o0) ?_
  refine awp_seq ?_
  have hz2 := szI_bd (GoD.size aS) 1048576
  refine rk tt_ok [(9, .i (szI (GoD.size aS) 1048576))] [9] [] [] [(2, .val (.i (szI (GoD.size aS) 1048576)))] (o1 (ob_call (szStore_a aS 1048576 (by omega) (by omega)))) ?_
  refine awp_seq ?_
  refine awp_seq ?_
  refine rk tt_ok [(25, .b (decide ((szI (GoD.size aS) 1048576) < (0 : Int))))] [] [] [] [] (o0) ?_
  refine ck (decide ((szI (GoD.size aS) 1048576) < (0 : Int))) (fun h3 => ?_) (fun h3 => ?_)
  ·
   refine awp_seq ?_
   refine rk tt_ok [(8, .b true)] [8, 25] [] [] [] (o0) ?_
   refine awp_ret ?_
   exact pret [] (congrArg (fun z => (.b z : AV)) (show lawsFnExactNewWatch aS aD aUser aName = true from bif_f h1 (bif_t h3 (rfl))).symm)
  ·
   have h3d := of_decide_eq_false h3
   refine awp_skip ?_
   refine awp_seq ?_
   have hz4 := szI_bd (GoD.size aD) (szI (GoD.size aS) 1048576)
   refine rk tt_ok [(9, .i (szI (GoD.size aD) (szI (GoD.size aS) 1048576)))] [9, 25] [] [] [(2, .val (.i (szI (GoD.size aD) (szI (GoD.size aS) 1048576))))] (o1 (ob_call (szDirS_a aD (szI (GoD.size aS) 1048576) (by omega) (by omega)))) ?_
   refine awp_seq ?_
   refine awp_seq ?_
   refine rk tt_ok [(30, .b (decide ((szI (GoD.size aD) (szI (GoD.size aS) 1048576)) < (0 : Int))))] [9] [] [] [] (o0) ?_
   refine ck (decide ((szI (GoD.size aD) (szI (GoD.size aS) 1048576)) < (0 : Int))) (fun h5 => ?_) (fun h5 => ?_)
   ·
    refine awp_seq ?_
    refine rk tt_ok [(8, .b true)] [8, 30] [] [] [] (o0) ?_
    refine awp_ret ?_
    exact pret [] (congrArg (fun z => (.b z : AV)) (show lawsFnExactNewWatch aS aD aUser aName = true from bif_f h1 (bif_f h3 (bif_t h5 (rfl)))).symm)
   ·
    have h5d := of_decide_eq_false h5
    refine awp_skip ?_
    refine awp_seq ?_
    have hsz_aS : GoD.size aS ≤ 1048576 := by omega
    have hsz_aD : GoD.size aD ≤ 1048576 := by omega
    refine rk tt_ok [(10, .p 10 0)] [30] [(10, [.i ((implNewWatch aS aD aUser aName).1), .s ((implNewWatch aS aD aUser aName).2.1), .o 2368 ((implNewWatch aS aD aUser aName).2.2.1), .o 2369 ((implNewWatch aS aD aUser aName).2.2.2)])] [] [(1, .val (.a [.o 0 aS.1, .o 1 aS.2.1, .i aS.2.2])), (3, .val (.o 0 aD)), (6, .val (.a [.i ((implNewWatch aS aD aUser aName).1), .s ((implNewWatch aS aD aUser aName).2.1), .o 0 ((implNewWatch aS aD aUser aName).2.2.1), .o 1 ((implNewWatch aS aD aUser aName).2.2.2)]))] (o2 (ob_call (toStore_a aS hsz_aS)) (o2 (ob_call (toDirS_a aD hsz_aD)) (o1 (ob_call ((newWatch_eq aS aD aUser aName) ▸ (specNewWatch_a aS aD aUser aName)))))) ?_
    refine awp_seq ?_
    refine rk tt_ok [(11, .p 11 0)] [] [(11, [.o 2496 aS.1, .o 2497 aS.2.1, .i aS.2.2])] [] [(1, .val (.a [.o 0 aS.1, .o 1 aS.2.1, .i aS.2.2]))] (o1 (ob_call (toStore_a aS hsz_aS))) ?_
    refine awp_seq ?_
    refine rk tt_ok [(12, .o 2624 aD)] [] [] [] [(1, .val (.o 0 aD))] (o1 (ob_call (toDirS_a aD hsz_aD))) ?_
    refine awp_seq ?_
    refine rk tt_ok [(13, .p 13 0)] [] [(13, [.i ((implNewWatch aS aD aUser aName).1), .s ((implNewWatch aS aD aUser aName).2.1), .o 2944 ((implNewWatch aS aD aUser aName).2.2.1), .o 2945 ((implNewWatch aS aD aUser aName).2.2.2)])] [] [(4, .val (.a [.i ((implNewWatch aS aD aUser aName).1), .s ((implNewWatch aS aD aUser aName).2.1), .o 0 ((implNewWatch aS aD aUser aName).2.2.1), .o 1 ((implNewWatch aS aD aUser aName).2.2.2)]))] (o1 (ob_call (implNewWatch_a aS aD aUser aName))) ?_
    refine awp_seq ?_
    refine awp_seq ?_
    refine rk tt_ok [(50, .b false)] [] [] [] [(2, .val (.b true)), (3, .val (.b false))] (o2 (ob_call (eqWatch_a (a := implNewWatch aS aD aUser aName) (b := implNewWatch aS aD aUser aName) (rfl))) (o1 (ob_eq (show .b (!true) = .b false from rfl)))) ?_
    refine ckF ?_
    refine awp_skip ?_
    refine awp_seq ?_
    refine awp_seq ?_
    refine rd' tt_ok tt_mx [(55, .b false)] [50] [] [] [(2, .val (.a [.o 0 aS.1, .o 1 aS.2.1, .i aS.2.2])), (3, .val (.b true)), (4, .val (.b false))] (o2 (ob_call (toStore_a aS hsz_aS)) (o2 (ob_call (eqStore_a (a := aS) (b := aS) (rfl))) (o1 (ob_eq (show .b (!true) = .b false from rfl))))) ?_
    refine ckF ?_
    refine awp_skip ?_
    refine awp_seq ?_
    refine awp_seq ?_
    refine rk tt_ok [(60, .b false)] [55] [] [] [(2, .val (.o 0 aD)), (3, .val (.b true)), (4, .val (.b false))] (o2 (ob_call (toDirS_a aD hsz_aD)) (o2 (ob_call (eqDirS_a (a := aD) (b := aD) (rfl))) (o1 (ob_eq (show .b (!true) = .b false from rfl))))) ?_
    refine ckF ?_
    refine awp_skip ?_
    refine awp_seq ?_
    refine rk tt_ok [(14, .i 1)] [60] [] [] [] (o0) ?_
    refine awp_seq ?_
    have hm6 := bdT (a := aS) (k := 1) (by decide) (Nat.le_trans hsz_aS (by decide))
    have hm7 := GoD.mkT_le aS 1
    refine awp_markA tt_ok (markStore_m aS 1 1 rfl (by omega) (by omega) ((Nat.le_trans hsz_aS (by decide)))) (by rw [inR_i64]; unfold I64; omega) GoM.mkT [2496, 2497] [1, 2, 3, 4, 8, 10, 12, 13, 14] [4, 10, 13] (s' := ⟨[(1, .h aD), (2, .i aUser), (3, .s aName), (4, .p 4 0), (8, .b false), (10, .p 10 0), (12, .o 2624 aD), (13, .p 13 0), (14, .i (((GoD.markT aS 1).2 : Nat) : Int))], [(4, [.h aS.1, .h aS.2.1, .i aS.2.2]), (10, [.i ((implNewWatch aS aD aUser aName).1), .s ((implNewWatch aS aD aUser aName).2.1), .o 2368 ((implNewWatch aS aD aUser aName).2.2.1), .o 2369 ((implNewWatch aS aD aUser aName).2.2.2)]), (13, [.i ((implNewWatch aS aD aUser aName).1), .s ((implNewWatch aS aD aUser aName).2.1), .o 2944 ((implNewWatch aS aD aUser aName).2.2.1), .o 2945 ((implNewWatch aS aD aUser aName).2.2.2)])]⟩) rfl rfl rfl rfl rfl rfl rfl rfl rfl rfl rfl rfl (by kernel_rfl) rfl rfl (by kernel_rfl) rfl rfl (by kernel_rfl) (by kernel_rfl) rfl (by kernel_rfl) ?_
    refine awp_seq ?_
    have hm8 := bdS (l := aD) (k := (GoD.markT aS 1).2) (by decide) (Nat.le_trans hsz_aD (by decide))
    have hm9 := markS_le aD ((GoD.markT aS 1).2)
    refine awp_markS (markDirS_m aD (((GoD.markT aS 1).2 : Nat) : Int) ((GoD.markT aS 1).2) rfl (by omega) (by omega) ((Nat.le_trans hsz_aD (by decide)))) (by rw [inR_i64]; unfold I64; omega) GoM.mkT 2624 [1, 2, 3, 4, 8, 10, 13, 14] [4, 10, 13] (s' := ⟨[(1, .h aD), (2, .i aUser), (3, .s aName), (4, .p 4 0), (8, .b false), (10, .p 10 0), (13, .p 13 0), (14, .i (((markS aD ((GoD.markT aS 1).2)).2 : Nat) : Int))], [(4, [.h aS.1, .h aS.2.1, .i aS.2.2]), (10, [.i ((implNewWatch aS aD aUser aName).1), .s ((implNewWatch aS aD aUser aName).2.1), .o 2368 ((implNewWatch aS aD aUser aName).2.2.1), .o 2369 ((implNewWatch aS aD aUser aName).2.2.2)]), (13, [.i ((implNewWatch aS aD aUser aName).1), .s ((implNewWatch aS aD aUser aName).2.1), .o 2944 ((implNewWatch aS aD aUser aName).2.2.1), .o 2945 ((implNewWatch aS aD aUser aName).2.2.2)])]⟩) rfl rfl rfl rfl rfl rfl rfl rfl rfl rfl rfl rfl (by kernel_rfl) (by kernel_rfl) rfl rfl (by kernel_rfl) ?_
    refine awp_seq ?_
    refine awp_seq ?_
    refine rk tt_ok [(74, .b false)] [14] [] [] [(1, .val (.b false)), (5, .val (.b true)), (6, .val (.b false))] (o2 (ob_eq (av_df (p := (((markS aD ((GoD.markT aS 1).2)).2 : Nat) : Int) < (0 : Int)) (by omega))) (o2 (ob_call (eqWatch_a (a := implNewWatch aS aD aUser aName) (b := implNewWatch aS aD aUser aName) (rfl))) (o1 (ob_eq (show .b (!true) = .b false from rfl))))) ?_
    refine ckF ?_
    refine awp_skip ?_
    refine awp_seq ?_
    refine rk tt_ok [(15, .i 1)] [74] [] [] [] (o0) ?_
    refine awp_seq ?_
    have hm10 := bdT (a := (implNewWatch aS aD aUser aName)) (k := 1) (by decide) (Nat.le_trans (newWatch_size aS aD aUser aName) (by omega))
    have hm11 := GoD.mkT_le (implNewWatch aS aD aUser aName) 1
    refine awp_markA tt_ok (markWatch_m (implNewWatch aS aD aUser aName) 1 1 rfl (by omega) (by omega) ((Nat.le_trans (newWatch_size aS aD aUser aName) (by omega)))) (by rw [inR_i64]; unfold I64; omega) GoM.mkT [2944, 2945] [1, 2, 3, 4, 8, 10, 13, 15] [4, 10, 13] (s' := ⟨[(1, .h aD), (2, .i aUser), (3, .s aName), (4, .p 4 0), (8, .b false), (10, .p 10 0), (13, .p 13 0), (15, .i (((GoD.markT (implNewWatch aS aD aUser aName) 1).2 : Nat) : Int))], [(4, [.h aS.1, .h aS.2.1, .i aS.2.2]), (10, [.i ((implNewWatch aS aD aUser aName).1), .s ((implNewWatch aS aD aUser aName).2.1), .o 2368 ((implNewWatch aS aD aUser aName).2.2.1), .o 2369 ((implNewWatch aS aD aUser aName).2.2.2)]), (13, [.i (((GoD.markT (implNewWatch aS aD aUser aName) 1).1).1), .s (((GoD.markT (implNewWatch aS aD aUser aName) 1).1).2.1), .h (((GoD.markT (implNewWatch aS aD aUser aName) 1).1).2.2.1), .h (((GoD.markT (implNewWatch aS aD aUser aName) 1).1).2.2.2)])]⟩) rfl rfl rfl rfl rfl rfl rfl rfl rfl rfl rfl rfl (by kernel_rfl) rfl rfl (by kernel_rfl) rfl rfl (by kernel_rfl) (by kernel_rfl) rfl (by kernel_rfl) ?_
    refine awp_seq ?_
    refine rk tt_ok [(16, .i 1)] [] [] [] [] (o0) ?_
    refine awp_seq ?_
    refine rk tt_ok [(16, .i (((GoD.markT (implNewWatch aS aD aUser aName) 1).2 : Nat) : Int))] [16] [] [] [(2, .val (.i (((GoD.markT (implNewWatch aS aD aUser aName) 1).2 : Nat) : Int)))] (o1 (ob_call (heldWatch_a (implNewWatch aS aD aUser aName) (Nat.le_trans (newWatch_size aS aD aUser aName) (by omega))))) ?_
    refine awp_seq ?_
    refine awp_seq ?_
    refine rk tt_ok [(82, .b false)] [] [] [] [(1, .val (.b false))] (o1 (ob_eq (av_df (p := (((GoD.markT (implNewWatch aS aD aUser aName) 1).2 : Nat) : Int) < (0 : Int)) (by omega)))) ?_
    refine ckF ?_
    refine awp_skip ?_
    refine awp_seq ?_
    refine awp_seq ?_
    refine rk tt_ok [(85, .b false)] [82] [] [] [(2, .val (.b false))] (o1 (ob_eq (show .b ((((GoD.markT (implNewWatch aS aD aUser aName) 1).2 : Nat) : Int) != (((GoD.markT (implNewWatch aS aD aUser aName) 1).2 : Nat) : Int)) = .b false from av_bool (by simp)))) ?_
    refine ckF ?_
    refine awp_skip ?_
    refine awp_seq ?_
    refine rk tt_ok [(17, .p 17 0)] [1, 2, 3, 4, 85] [(17, [.i ((implNewWatch aS aD aUser aName).1), .s ((implNewWatch aS aD aUser aName).2.1), .o 5888 ((implNewWatch aS aD aUser aName).2.2.1), .o 5889 ((implNewWatch aS aD aUser aName).2.2.2)])] [4] [(1, .val (.a [.o 0 aS.1, .o 1 aS.2.1, .i aS.2.2])), (3, .val (.o 0 aD)), (6, .val (.a [.i ((implNewWatch aS aD aUser aName).1), .s ((implNewWatch aS aD aUser aName).2.1), .o 0 ((implNewWatch aS aD aUser aName).2.2.1), .o 1 ((implNewWatch aS aD aUser aName).2.2.2)]))] (o2 (ob_call (toStore_a aS hsz_aS)) (o2 (ob_call (toDirS_a aD hsz_aD)) (o1 (ob_call (implNewWatch_a aS aD aUser aName))))) ?_
    refine awp_seq ?_
    refine awp_seq ?_
    refine rk tt_ok [(96, .b false)] [10, 17] [] [10, 17] [(2, .val (.b true)), (3, .val (.b false))] (o2 (ob_call (eqWatch_a (a := implNewWatch aS aD aUser aName) (b := implNewWatch aS aD aUser aName) (rfl))) (o1 (ob_eq (show .b (!true) = .b false from rfl)))) ?_
    refine ckF ?_
    refine awp_skip ?_
    refine awp_seq ?_
    refine rk tt_ok [(16, .i 1)] [16, 96] [] [] [] (o0) ?_
    refine awp_seq ?_
    refine rk tt_ok [(16, .i (((GoD.markT (implNewWatch aS aD aUser aName) 1).2 : Nat) : Int))] [13, 16] [] [13] [(2, .val (.i (((GoD.markT (implNewWatch aS aD aUser aName) 1).2 : Nat) : Int)))] (o1 (ob_call (heldWatch_a (implNewWatch aS aD aUser aName) (Nat.le_trans (newWatch_size aS aD aUser aName) (by omega))))) ?_
    refine awp_seq ?_
    refine awp_seq ?_
    refine rk tt_ok [(101, .b false)] [] [] [] [(1, .val (.b false))] (o1 (ob_eq (av_df (p := (((GoD.markT (implNewWatch aS aD aUser aName) 1).2 : Nat) : Int) < (0 : Int)) (by omega)))) ?_
    refine ckF ?_
    refine awp_skip ?_
    refine awp_seq ?_
    refine awp_seq ?_
    refine rk tt_ok [(104, .b false)] [15, 16, 101] [] [] [(2, .val (.b false))] (o1 (ob_eq (show .b ((((GoD.markT (implNewWatch aS aD aUser aName) 1).2 : Nat) : Int) != (((GoD.markT (implNewWatch aS aD aUser aName) 1).2 : Nat) : Int)) = .b false from av_bool (by simp)))) ?_
    refine ckF ?_
    refine awp_skip ?_
    refine awp_seq ?_
    refine rk tt_ok [(8, .b true)] [8, 104] [] [] [] (o0) ?_
    refine awp_ret ?_
    exact pret [] (congrArg (fun z => (.b z : AV)) (show lawsFnExactNewWatch aS aD aUser aName = true from bif_f h1 (bif_f h3 (bif_f h5 (rfl)))).symm)
end Go.Proofs.YtnhmnfmhnepjmaaGreat
