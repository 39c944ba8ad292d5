/- What functions compute, and that they do (printed by am2.py): each function as a Lean function, then its contract. -/
import Derived.Test.YtnhmnfmhnepjmaaGreatLic
import Derived.Test.YtnhmnfmhnepjmaaGreatMa
import Derived.Test.YtnhmnfmhnepjmaaGreatHe
import Derived.Test.YtnhmnfmhnepjmaaGreatLw
import Derived.Test.YtnhmnfmhnepjmaaGreatSz
import Derived.Test.YtnhmnfmhnepjmaaGreatEq
import Derived.Test.YtnhmnfmhnepjmaaGreatTo
import Derived.KernelRfl
set_option linter.unusedVariables false
set_option linter.unusedSimpArgs false
namespace Go.Proofs.YtnhmnfmhnepjmaaGreat
open Go.RowKit
open GoE (enc wide)
theorem szStore_a (a : StoreD) (left : Int) (h0 : 0 ≤ left) (h1 : left ≤ 1048576) : ACalls Tryz.prog 7 [argA a, intA left] (intA (szI (GoD.size a) left)) := acalls_szA (by unfold FnOk; kernel_rfl) h0 h1 fun w c hr => szStore_c w c a left hr h0 h1
theorem szDirS_a (a : (List DirD)) (left : Int) (h0 : 0 ≤ left) (h1 : left ≤ 1048576) : ACalls Tryz.prog 8 [argS a, intA left] (intA (szI (GoD.size a) left)) := acalls_szS (by unfold FnOk; kernel_rfl) h0 h1 fun w c hr => szDirS_c w c a left hr h0 h1
theorem toStore_a (a : StoreD) (h : GoD.size a ≤ 1048576) : ACalls Tryz.prog 10 [argA a] (resA a) := acalls_toA (by unfold FnOk; kernel_rfl) fun w c hr => toStore_c w c a hr h
theorem toDirS_a (a : (List DirD)) (h : GoD.size a ≤ 1048576) : ACalls Tryz.prog 11 [argS a] (resS a) := acalls_toS (by unfold FnOk; kernel_rfl) fun w c hr => toDirS_c w c a hr h
theorem eqIntS_a {a b : (List Int)} (h : a = b) : ACalls Tryz.prog 13 [argS a, argS b] (boolA true) := acalls_eqS (by unfold FnOk; kernel_rfl) h fun w c c2 h1 h2 => eqIntS_c w c c2 a b h1 h2
theorem eqStore_a {a b : StoreD} (h : a = b) : ACalls Tryz.prog 14 [argA a, argA b] (boolA true) := acalls_eqA (by unfold FnOk; kernel_rfl) h fun w c c2 h1 h2 => eqStore_c w c c2 a b h1 h2
theorem eqDirS_a {a b : (List DirD)} (h : a = b) : ACalls Tryz.prog 15 [argS a, argS b] (boolA true) := acalls_eqS (by unfold FnOk; kernel_rfl) h fun w c c2 h1 h2 => eqDirS_c w c c2 a b h1 h2
theorem markStore_m (a : StoreD) (K : Int) (k : Nat) (hK : K = k) (h1 : 1 ≤ k) (hk : k ≤ 1152921504606846976) (hs : GoD.size a ≤ 1073741824) : MarkA Tryz.prog 16 a K (GoD.markT a k) := ⟨(by unfold FnOk; kernel_rfl), fun w L c ho => markStore_c w c a L K k hK h1 (by have := bdT (a := a) (k := k) (by decide) hs; omega) ho⟩
theorem markDirS_m (a : (List DirD)) (K : Int) (k : Nat) (hK : K = k) (h1 : 1 ≤ k) (hk : k ≤ 1152921504606846976) (hs : GoD.size a ≤ 1073741824) : MarkS Tryz.prog 17 a K (markS a k) := ⟨(by unfold FnOk; kernel_rfl), fun w L c ho => markDirS_c w c a L K k hK h1 (by have := bdS (l := a) (k := k) (by decide) hs; omega) ho⟩
theorem markIntS_m (a : (List Int)) (K : Int) (k : Nat) (hK : K = k) (h1 : 1 ≤ k) (hk : k ≤ 1152921504606846976) (hs : GoD.size a ≤ 1073741824) : MarkS Tryz.prog 18 a K (markS a k) := ⟨(by unfold FnOk; kernel_rfl), fun w L c ho => markIntS_c w c a L K k hK h1 (by have := bdS (l := a) (k := k) (by decide) hs; omega) ho⟩
theorem heldIntS_a (a : (List Int)) (hs : GoD.size a ≤ 1073741824) : ACalls Tryz.prog 19 [argS (markS a 1).1, intA 1] (intA ((markS a 1).2 : Nat)) := acalls_heS (by unfold FnOk; kernel_rfl) (by have := bdS (l := a) (k := 1) (by decide) hs; rw [inR_i64]; unfold I64; omega) fun w c hr => heldIntS_c w c a _ 1 1 rfl (by omega) (by have := bdS (l := a) (k := 1) (by decide) hs; omega) rfl hr
def lawsFnExactListedIDs (aS : StoreD) (aD : (List DirD)) (aUser : Int) : Bool := (bif decide ((szI (GoD.size aS) 1048576) < (0 : Int)) then true else (bif decide ((szI (GoD.size aD) (szI (GoD.size aS) 1048576)) < (0 : Int)) then true else true))
theorem lawsFnExactListedIDs_a (aS : StoreD) (aD : (List DirD)) (aUser : Int) : ACalls Tryz.prog 3 [.a [.h aS.1, .h aS.2.1, .i aS.2.2], .h aD, .i aUser] (.b (lawsFnExactListedIDs aS aD aUser)) := by
 refine acalls_of (tt := tt) tt_ok Tryz.func3 (fn := Tryz.f3) rfl (by unfold FnOk; kernel_rfl) (Nat.le_of_ble_eq_true rfl) fun w0 F0 => ?_
 refine awp_seq ?_
 refine rk tt_ok [(3, .p 3 0), (6, .b false)] [0] [(3, [.h aS.1, .h aS.2.1, .i aS.2.2])] [] [] (o0) ?_
 refine awp_seq ?_
 refine rk tt_ok [(7, .i 1048576)] [] [] [] [] (o0) ?_
 refine awp_seq ?_
 have hz1 := szI_bd (GoD.size aS) 1048576
 refine rk tt_ok [(7, .i (szI (GoD.size aS) 1048576))] [7] [] [] [(2, .val (.i (szI (GoD.size aS) 1048576)))] (o1 (ob_call (szStore_a aS 1048576 (by omega) (by omega)))) ?_
 refine awp_seq ?_
 refine awp_seq ?_
 refine rk tt_ok [(20, .b (decide ((szI (GoD.size aS) 1048576) < (0 : Int))))] [] [] [] [] (o0) ?_
 refine ck (decide ((szI (GoD.size aS) 1048576) < (0 : Int))) (fun h2 => ?_) (fun h2 => ?_)
 ·
  refine awp_seq ?_
  refine rk tt_ok [(6, .b true)] [6, 20] [] [] [] (o0) ?_
  refine awp_ret ?_
  exact pret [] (congrArg (fun z => (.b z : AV)) (show lawsFnExactListedIDs aS aD aUser = true from bif_t h2 (rfl)).symm)
 ·
  have h2d := of_decide_eq_false h2
  refine awp_skip ?_
  refine awp_seq ?_
  have hz3 := szI_bd (GoD.size aD) (szI (GoD.size aS) 1048576)
  refine rk tt_ok [(7, .i (szI (GoD.size aD) (szI (GoD.size aS) 1048576)))] [7, 20] [] [] [(2, .val (.i (szI (GoD.size aD) (szI (GoD.size aS) 1048576))))] (o1 (ob_call (szDirS_a aD (szI (GoD.size aS) 1048576) (by omega) (by omega)))) ?_
  refine awp_seq ?_
  refine awp_seq ?_
  refine rk tt_ok [(25, .b (decide ((szI (GoD.size aD) (szI (GoD.size aS) 1048576)) < (0 : Int))))] [7] [] [] [] (o0) ?_
  refine ck (decide ((szI (GoD.size aD) (szI (GoD.size aS) 1048576)) < (0 : Int))) (fun h4 => ?_) (fun h4 => ?_)
  ·
   refine awp_seq ?_
   refine rk tt_ok [(6, .b true)] [6, 25] [] [] [] (o0) ?_
   refine awp_ret ?_
   exact pret [] (congrArg (fun z => (.b z : AV)) (show lawsFnExactListedIDs aS aD aUser = true from bif_f h2 (bif_t h4 (rfl))).symm)
  ·
   have h4d := of_decide_eq_false h4
   refine awp_skip ?_
   refine awp_seq ?_
   have hsz_aS : GoD.size aS ≤ 1048576 := by omega
   have hsz_aD : GoD.size aD ≤ 1048576 := by omega
   refine rk tt_ok [(8, .o 1984 (implListedIDs aS aD aUser))] [25] [] [] [(1, .val (.a [.o 0 aS.1, .o 1 aS.2.1, .i aS.2.2])), (3, .val (.o 0 aD)), (5, .val (.o 0 (implListedIDs aS aD aUser)))] (o2 (ob_call (toStore_a aS hsz_aS)) (o2 (ob_call (toDirS_a aD hsz_aD)) (o1 (ob_call ((listedIDs_eq aS aD aUser) ▸ (specListedIDs_a aS aD aUser)))))) ?_
   refine awp_seq ?_
   refine rk tt_ok [(9, .p 9 0)] [] [(9, [.o 2112 aS.1, .o 2113 aS.2.1, .i aS.2.2])] [] [(1, .val (.a [.o 0 aS.1, .o 1 aS.2.1, .i aS.2.2]))] (o1 (ob_call (toStore_a aS hsz_aS))) ?_
   refine awp_seq ?_
   refine rk tt_ok [(10, .o 2240 aD)] [] [] [] [(1, .val (.o 0 aD))] (o1 (ob_call (toDirS_a aD hsz_aD))) ?_
   refine awp_seq ?_
   refine rk tt_ok [(11, .o 2496 (implListedIDs aS aD aUser))] [] [] [] [(3, .val (.o 0 (implListedIDs aS aD aUser)))] (o1 (ob_call (implListedIDs_a aS aD aUser))) ?_
   refine awp_seq ?_
   refine awp_seq ?_
   refine rk tt_ok [(43, .b false)] [] [] [] [(2, .val (.b true)), (3, .val (.b false))] (o2 (ob_call (eqIntS_a (a := implListedIDs aS aD aUser) (b := implListedIDs aS aD aUser) (rfl))) (o1 (ob_eq (show .b (!true) = .b false from rfl)))) ?_
   refine ckF ?_
   refine awp_skip ?_
   refine awp_seq ?_
   refine awp_seq ?_
   refine rd' tt_ok tt_mx [(48, .b false)] [43] [] [] [(2, .val (.a [.o 0 aS.1, .o 1 aS.2.1, .i aS.2.2])), (3, .val (.b true)), (4, .val (.b false))] (o2 (ob_call (toStore_a aS hsz_aS)) (o2 (ob_call (eqStore_a (a := aS) (b := aS) (rfl))) (o1 (ob_eq (show .b (!true) = .b false from rfl))))) ?_
   refine ckF ?_
   refine awp_skip ?_
   refine awp_seq ?_
   refine awp_seq ?_
   refine rk tt_ok [(53, .b false)] [48] [] [] [(2, .val (.o 0 aD)), (3, .val (.b true)), (4, .val (.b false))] (o2 (ob_call (toDirS_a aD hsz_aD)) (o2 (ob_call (eqDirS_a (a := aD) (b := aD) (rfl))) (o1 (ob_eq (show .b (!true) = .b false from rfl))))) ?_
   refine ckF ?_
   refine awp_skip ?_
   refine awp_seq ?_
   refine rk tt_ok [(12, .i 1)] [53] [] [] [] (o0) ?_
   refine awp_seq ?_
   have hm5 := bdT (a := aS) (k := 1) (by decide) (Nat.le_trans hsz_aS (by decide))
   have hm6 := GoD.mkT_le aS 1
   refine awp_markA tt_ok (markStore_m aS 1 1 rfl (by omega) (by omega) ((Nat.le_trans hsz_aS (by decide)))) (by rw [inR_i64]; unfold I64; omega) GoM.mkT [2112, 2113] [1, 2, 3, 6, 8, 10, 11, 12] [3] (s' := ⟨[(1, .h aD), (2, .i aUser), (3, .p 3 0), (6, .b false), (8, .o 1984 (implListedIDs aS aD aUser)), (10, .o 2240 aD), (11, .o 2496 (implListedIDs aS aD aUser)), (12, .i (((GoD.markT aS 1).2 : Nat) : Int))], [(3, [.h aS.1, .h aS.2.1, .i aS.2.2])]⟩) rfl rfl rfl rfl rfl rfl rfl rfl rfl rfl rfl rfl (by kernel_rfl) rfl rfl (by kernel_rfl) rfl rfl (by kernel_rfl) (by kernel_rfl) rfl (by kernel_rfl) ?_
   refine awp_seq ?_
   have hm7 := bdS (l := aD) (k := (GoD.markT aS 1).2) (by decide) (Nat.le_trans hsz_aD (by decide))
   have hm8 := markS_le aD ((GoD.markT aS 1).2)
   refine awp_markS (markDirS_m aD (((GoD.markT aS 1).2 : Nat) : Int) ((GoD.markT aS 1).2) rfl (by omega) (by omega) ((Nat.le_trans hsz_aD (by decide)))) (by rw [inR_i64]; unfold I64; omega) GoM.mkT 2240 [1, 2, 3, 6, 8, 11, 12] [3] (s' := ⟨[(1, .h aD), (2, .i aUser), (3, .p 3 0), (6, .b false), (8, .o 1984 (implListedIDs aS aD aUser)), (11, .o 2496 (implListedIDs aS aD aUser)), (12, .i (((markS aD ((GoD.markT aS 1).2)).2 : Nat) : Int))], [(3, [.h aS.1, .h aS.2.1, .i aS.2.2])]⟩) rfl rfl rfl rfl rfl rfl rfl rfl rfl rfl rfl rfl (by kernel_rfl) (by kernel_rfl) rfl rfl (by kernel_rfl) ?_
   refine awp_seq ?_
   refine awp_seq ?_
   refine rk tt_ok [(67, .b false)] [12] [] [] [(1, .val (.b false)), (5, .val (.b true)), (6, .val (.b false))] (o2 (ob_eq (av_df (p := (((markS aD ((GoD.markT aS 1).2)).2 : Nat) : Int) < (0 : Int)) (by omega))) (o2 (ob_call (eqIntS_a (a := implListedIDs aS aD aUser) (b := implListedIDs aS aD aUser) (rfl))) (o1 (ob_eq (show .b (!true) = .b false from rfl))))) ?_
   refine ckF ?_
   refine awp_skip ?_
   refine awp_seq ?_
   refine rk tt_ok [(13, .i 1)] [67] [] [] [] (o0) ?_
   refine awp_seq ?_
   have hm9 := bdS (l := (implListedIDs aS aD aUser)) (k := 1) (by decide) (Nat.le_trans (listedIDs_size aS aD aUser) (by omega))
   have hm10 := markS_le (implListedIDs aS aD aUser) 1
   refine awp_markS (markIntS_m (implListedIDs aS aD aUser) 1 1 rfl (by omega) (by omega) ((Nat.le_trans (listedIDs_size aS aD aUser) (by omega)))) (by rw [inR_i64]; unfold I64; omega) GoM.mkT 2496 [1, 2, 3, 6, 8, 11, 13] [3] (s' := ⟨[(1, .h aD), (2, .i aUser), (3, .p 3 0), (6, .b false), (8, .o 1984 (implListedIDs aS aD aUser)), (11, .h ((markS (implListedIDs aS aD aUser) 1).1)), (13, .i (((markS (implListedIDs aS aD aUser) 1).2 : Nat) : Int))], [(3, [.h aS.1, .h aS.2.1, .i aS.2.2])]⟩) rfl rfl rfl rfl rfl rfl rfl rfl rfl rfl rfl rfl (by kernel_rfl) (by kernel_rfl) rfl rfl (by kernel_rfl) ?_
   refine awp_seq ?_
   refine rk tt_ok [(14, .i 1)] [] [] [] [] (o0) ?_
   refine awp_seq ?_
   refine rk tt_ok [(14, .i (((markS (implListedIDs aS aD aUser) 1).2 : Nat) : Int))] [14] [] [] [(2, .val (.i (((markS (implListedIDs aS aD aUser) 1).2 : Nat) : Int)))] (o1 (ob_call (heldIntS_a (implListedIDs aS aD aUser) (Nat.le_trans (listedIDs_size aS aD aUser) (by omega))))) ?_
   refine awp_seq ?_
   refine awp_seq ?_
   refine rk tt_ok [(75, .b false)] [] [] [] [(1, .val (.b false))] (o1 (ob_eq (av_df (p := (((markS (implListedIDs aS aD aUser) 1).2 : Nat) : Int) < (0 : Int)) (by omega)))) ?_
   refine ckF ?_
   refine awp_skip ?_
   refine awp_seq ?_
   refine awp_seq ?_
   refine rk tt_ok [(78, .b false)] [75] [] [] [(2, .val (.b false))] (o1 (ob_eq (show .b ((((markS (implListedIDs aS aD aUser) 1).2 : Nat) : Int) != (((markS (implListedIDs aS aD aUser) 1).2 : Nat) : Int)) = .b false from av_bool (by simp)))) ?_
   refine ckF ?_
   refine awp_skip ?_
   refine awp_seq ?_
   refine rk tt_ok [(15, .o 5376 (implListedIDs aS aD aUser))] [1, 2, 3, 78] [] [3] [(1, .val (.a [.o 0 aS.1, .o 1 aS.2.1, .i aS.2.2])), (3, .val (.o 0 aD)), (5, .val (.o 0 (implListedIDs aS aD aUser)))] (o2 (ob_call (toStore_a aS hsz_aS)) (o2 (ob_call (toDirS_a aD hsz_aD)) (o1 (ob_call (implListedIDs_a aS aD aUser))))) ?_
   refine awp_seq ?_
   refine awp_seq ?_
   refine rk tt_ok [(88, .b false)] [8, 15] [] [] [(2, .val (.b true)), (3, .val (.b false))] (o2 (ob_call (eqIntS_a (a := implListedIDs aS aD aUser) (b := implListedIDs aS aD aUser) (rfl))) (o1 (ob_eq (show .b (!true) = .b false from rfl)))) ?_
   refine ckF ?_
   refine awp_skip ?_
   refine awp_seq ?_
   refine rk tt_ok [(14, .i 1)] [14, 88] [] [] [] (o0) ?_
   refine awp_seq ?_
   refine rk tt_ok [(14, .i (((markS (implListedIDs aS aD aUser) 1).2 : Nat) : Int))] [11, 14] [] [] [(2, .val (.i (((markS (implListedIDs aS aD aUser) 1).2 : Nat) : Int)))] (o1 (ob_call (heldIntS_a (implListedIDs aS aD aUser) (Nat.le_trans (listedIDs_size aS aD aUser) (by omega))))) ?_
   refine awp_seq ?_
   refine awp_seq ?_
   refine rk tt_ok [(93, .b false)] [] [] [] [(1, .val (.b false))] (o1 (ob_eq (av_df (p := (((markS (implListedIDs aS aD aUser) 1).2 : Nat) : Int) < (0 : Int)) (by omega)))) ?_
   refine ckF ?_
   refine awp_skip ?_
   refine awp_seq ?_
   refine awp_seq ?_
   refine rk tt_ok [(96, .b false)] [13, 14, 93] [] [] [(2, .val (.b false))] (o1 (ob_eq (show .b ((((markS (implListedIDs aS aD aUser) 1).2 : Nat) : Int) != (((markS (implListedIDs aS aD aUser) 1).2 : Nat) : Int)) = .b false from av_bool (by simp)))) ?_
   refine ckF ?_
   refine awp_skip ?_
   refine awp_seq ?_
   refine rk tt_ok [(6, .b true)] [6, 96] [] [] [] (o0) ?_
   refine awp_ret ?_
   exact pret [] (congrArg (fun z => (.b z : AV)) (show lawsFnExactListedIDs aS aD aUser = true from bif_f h2 (bif_f h4 (rfl))).symm)
end Go.Proofs.YtnhmnfmhnepjmaaGreat
