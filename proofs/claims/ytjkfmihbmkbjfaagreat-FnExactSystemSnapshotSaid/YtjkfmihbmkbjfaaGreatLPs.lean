/- What functions compute, and that they do (printed by am2.py): each function as a Lean function, then its contract. -/
import Derived.Test.YtjkfmihbmkbjfaaGreatSnb
import Derived.Test.YtjkfmihbmkbjfaaGreatLw
import Derived.Test.YtjkfmihbmkbjfaaGreatSz
import Derived.Test.YtjkfmihbmkbjfaaGreatEq
import Derived.Test.YtjkfmihbmkbjfaaGreatTo
import Derived.Test.YtjkfmihbmkbjfaaGreatMa
import Derived.Test.YtjkfmihbmkbjfaaGreatHe
import Derived.KernelRfl
namespace Go.Proofs.YtjkfmihbmkbjfaaGreat
open Go.RowKit
open GoE (enc wide)

theorem szSystem_a (a : SystemD) (left : Int) (h0 : 0 ≤ left) (h1 : left ≤ 1048576) : ACalls Tryz.prog 10 [argA a, intA left] (intA (szI (GoD.size a) left)) := acalls_szA (by unfold FnOk; kernel_rfl) h0 h1 fun w c hr => szSystem_c w c a left hr h0 h1

theorem toSystem_a (a : SystemD) (h : GoD.size a ≤ 1048576) : ACalls Tryz.prog 12 [argA a] (resA a) := acalls_toA (by unfold FnOk; kernel_rfl) fun w c hr => toSystem_c w c a hr h

theorem eqSnapshot_a {a b : SnapshotD} (h : a = b) : ACalls Tryz.prog 14 [argA a, argA b] (boolA true) := acalls_eqA (by unfold FnOk; kernel_rfl) h fun w c c2 h1 h2 => eqSnapshot_c w c c2 a b h1 h2

theorem eqSystem_a {a b : SystemD} (h : a = b) : ACalls Tryz.prog 15 [argA a, argA b] (boolA true) := acalls_eqA (by unfold FnOk; kernel_rfl) h fun w c c2 h1 h2 => eqSystem_c w c c2 a b h1 h2

theorem markSystem_m (a : SystemD) (K : Int) (k : Nat) (hK : K = k) (h1 : 1 ≤ k) (hk : k ≤ 1152921504606846976) (hs : GoD.size a ≤ 1073741824) : MarkA Tryz.prog 16 a K (GoD.markT a k) := ⟨(by unfold FnOk; kernel_rfl), fun w L c ho => markSystem_c w c a L K k hK h1 (by have := bdT (a := a) (k := k) (by decide) hs; omega) ho⟩

theorem markSnapshot_m (a : SnapshotD) (K : Int) (k : Nat) (hK : K = k) (h1 : 1 ≤ k) (hk : k ≤ 1152921504606846976) (hs : GoD.size a ≤ 1073741824) : MarkA Tryz.prog 17 a K (GoD.markT a k) := ⟨(by unfold FnOk; kernel_rfl), fun w L c ho => markSnapshot_c w c a L K k hK h1 (by have := bdT (a := a) (k := k) (by decide) hs; omega) ho⟩

theorem heldSnapshot_a (a : SnapshotD) (hs : GoD.size a ≤ 1073741824) : ACalls Tryz.prog 18 [argA (GoD.markT a 1).1, intA 1] (intA ((GoD.markT a 1).2 : Nat)) := acalls_heA (by unfold FnOk; kernel_rfl) (by have := bdT (a := a) (k := 1) (by decide) hs; rw [inR_i64]; unfold I64; omega) fun w c hr => heldSnapshot_c w c a _ 1 1 rfl (by omega) (by have := bdT (a := a) (k := 1) (by decide) hs; omega) rfl hr
def lawsFnExactSystemSnapshot (aX : SystemD) : Bool := (bif decide ((szI (GoD.size aX) 1048576) < (0 : Int)) then true else true)
theorem lawsFnExactSystemSnapshot_a (aX : SystemD) : ACalls Tryz.prog 3 [.a [.h aX.1.1.1, .h aX.1.1.2.1, .i aX.1.1.2.2, .h aX.1.2.1, .h aX.1.2.2, .s aX.2.1.1, .s aX.2.1.2, .i aX.2.2.1, .h aX.2.2.2.1, .h aX.2.2.2.2.1, .h aX.2.2.2.2.2]] (.b (lawsFnExactSystemSnapshot aX)) := by
  refine acalls_of (tt := tt) tt_ok Tryz.func3 (fn := Tryz.f3) rfl (by unfold FnOk; kernel_rfl) (Nat.le_of_ble_eq_true rfl) fun w0 F0 => ?_
  refine awp_seq ?_
  refine rk tt_ok [(1, .p 1 0), (2, .b false)] [0] [(1, [.h aX.1.1.1, .h aX.1.1.2.1, .i aX.1.1.2.2, .h aX.1.2.1, .h aX.1.2.2, .s aX.2.1.1, .s aX.2.1.2, .i aX.2.2.1, .h aX.2.2.2.1, .h aX.2.2.2.2.1, .h aX.2.2.2.2.2])] [] [] (o0) ?_
  refine awp_seq ?_
  refine rk tt_ok [(3, .i 1048576)] [] [] [] [] (o0) ?_
  refine awp_seq ?_
  have hz1 := szI_bd (GoD.size aX) 1048576
  refine rk tt_ok [(3, .i (szI (GoD.size aX) 1048576))] [3] [] [] [(2, .val (.i (szI (GoD.size aX) 1048576)))] (o1 (ob_call (szSystem_a aX 1048576 (by omega) (by omega)))) ?_
  refine awp_seq ?_
  refine awp_seq ?_
  refine rk tt_ok [(15, .b (decide ((szI (GoD.size aX) 1048576) < (0 : Int))))] [3] [] [] [] (o0) ?_
  refine ck (decide ((szI (GoD.size aX) 1048576) < (0 : Int))) (fun h2 => ?_) (fun h2 => ?_)
  · -- True
    have h2d := of_decide_eq_true h2
    refine awp_seq ?_
    refine rk tt_ok [(2, .b true)] [2, 15] [] [] [] (o0) ?_
    refine awp_ret ?_
    exact pret [] (congrArg (fun z => (.b z : AV)) (show lawsFnExactSystemSnapshot aX = true from bif_t h2 (rfl)).symm)
  · -- False
    have h2d := of_decide_eq_false h2
    refine awp_skip ?_
    refine awp_seq ?_
    have hsz_aX : GoD.size aX ≤ 1048576 := by omega
    refine rk tt_ok [(4, .p 4 0)] [15] [(4, [.o 1152 ((implSystemSnapshot aX).1.1), .o 1153 ((implSystemSnapshot aX).1.2.1), .i ((implSystemSnapshot aX).1.2.2), .o 1154 ((implSystemSnapshot aX).2)])] [] [(1, .val (.a [.o 0 aX.1.1.1, .o 1 aX.1.1.2.1, .i aX.1.1.2.2, .o 2 aX.1.2.1, .o 3 aX.1.2.2, .s aX.2.1.1, .s aX.2.1.2, .i aX.2.2.1, .o 4 aX.2.2.2.1, .o 5 aX.2.2.2.2.1, .o 6 aX.2.2.2.2.2])), (2, .val (.a [.o 0 ((implSystemSnapshot aX).1.1), .o 1 ((implSystemSnapshot aX).1.2.1), .i ((implSystemSnapshot aX).1.2.2), .o 2 ((implSystemSnapshot aX).2)]))] (o2 (ob_call (toSystem_a aX hsz_aX)) (o1 (ob_call ((snapshot_eq aX) ▸ (specSystemSnapshot_a aX))))) ?_
    refine awp_seq ?_
    refine rk tt_ok [(5, .p 5 0)] [] [(5, [.o 1280 aX.1.1.1, .o 1281 aX.1.1.2.1, .i aX.1.1.2.2, .o 1282 aX.1.2.1, .o 1283 aX.1.2.2, .s aX.2.1.1, .s aX.2.1.2, .i aX.2.2.1, .o 1284 aX.2.2.2.1, .o 1285 aX.2.2.2.2.1, .o 1286 aX.2.2.2.2.2])] [] [(1, .val (.a [.o 0 aX.1.1.1, .o 1 aX.1.1.2.1, .i aX.1.1.2.2, .o 2 aX.1.2.1, .o 3 aX.1.2.2, .s aX.2.1.1, .s aX.2.1.2, .i aX.2.2.1, .o 4 aX.2.2.2.1, .o 5 aX.2.2.2.2.1, .o 6 aX.2.2.2.2.2]))] (o1 (ob_call (toSystem_a aX hsz_aX))) ?_
    refine awp_seq ?_
    refine rk tt_ok [(6, .p 6 0)] [] [(6, [.o 1408 ((implSystemSnapshot aX).1.1), .o 1409 ((implSystemSnapshot aX).1.2.1), .i ((implSystemSnapshot aX).1.2.2), .o 1410 ((implSystemSnapshot aX).2)])] [] [(1, .val (.a [.o 0 ((implSystemSnapshot aX).1.1), .o 1 ((implSystemSnapshot aX).1.2.1), .i ((implSystemSnapshot aX).1.2.2), .o 2 ((implSystemSnapshot aX).2)]))] (o1 (ob_call (implSystemSnapshot_a aX))) ?_
    refine awp_seq ?_
    refine awp_seq ?_
    refine rk tt_ok [(26, .b false)] [] [] [] [(2, .val (.b true)), (3, .val (.b false))] (o2 (ob_call (eqSnapshot_a (a := implSystemSnapshot aX) (b := implSystemSnapshot aX) (rfl))) (o1 (ob_eq (show .b (!true) = .b false from rfl)))) ?_
    refine ckF ?_
    refine awp_skip ?_
    refine awp_seq ?_
    refine awp_seq ?_
    refine rd' tt_ok tt_mx [(31, .b false)] [26] [] [] [(2, .val (.a [.o 0 aX.1.1.1, .o 1 aX.1.1.2.1, .i aX.1.1.2.2, .o 2 aX.1.2.1, .o 3 aX.1.2.2, .s aX.2.1.1, .s aX.2.1.2, .i aX.2.2.1, .o 4 aX.2.2.2.1, .o 5 aX.2.2.2.2.1, .o 6 aX.2.2.2.2.2])), (3, .val (.b true)), (4, .val (.b false))] (o2 (ob_call (toSystem_a aX hsz_aX)) (o2 (ob_call (eqSystem_a (a := aX) (b := aX) (rfl))) (o1 (ob_eq (show .b (!true) = .b false from rfl))))) ?_
    refine ckF ?_
    refine awp_skip ?_
    refine awp_seq ?_
    refine rk tt_ok [(7, .i 1)] [31] [] [] [] (o0) ?_
    refine awp_seq ?_
    have hm3 := bdT (a := aX) (k := 1) (by decide) (Nat.le_trans hsz_aX (by decide))
    have hm4 := GoD.mkT_le aX 1
    refine awp_markA tt_ok (markSystem_m aX 1 1 rfl (by omega) (by omega) ((Nat.le_trans hsz_aX (by decide)))) (by rw [inR_i64]; unfold I64; omega) GoM.mkT [1280, 1281, 1282, 1283, 1284, 1285, 1286] [1, 2, 4, 6, 7] [1, 4, 6] (s' := ⟨[(1, .p 1 0), (2, .b false), (4, .p 4 0), (6, .p 6 0), (7, .i (((GoD.markT aX 1).2 : Nat) : Int))], [(1, [.h aX.1.1.1, .h aX.1.1.2.1, .i aX.1.1.2.2, .h aX.1.2.1, .h aX.1.2.2, .s aX.2.1.1, .s aX.2.1.2, .i aX.2.2.1, .h aX.2.2.2.1, .h aX.2.2.2.2.1, .h aX.2.2.2.2.2]), (4, [.o 1152 ((implSystemSnapshot aX).1.1), .o 1153 ((implSystemSnapshot aX).1.2.1), .i ((implSystemSnapshot aX).1.2.2), .o 1154 ((implSystemSnapshot aX).2)]), (6, [.o 1408 ((implSystemSnapshot aX).1.1), .o 1409 ((implSystemSnapshot aX).1.2.1), .i ((implSystemSnapshot aX).1.2.2), .o 1410 ((implSystemSnapshot aX).2)])]⟩) rfl rfl rfl rfl rfl rfl rfl rfl rfl rfl rfl rfl (by kernel_rfl) rfl rfl (by kernel_rfl) rfl rfl (by kernel_rfl) (by kernel_rfl) rfl (by kernel_rfl) ?_
    refine awp_seq ?_
    refine awp_seq ?_
    refine rk tt_ok [(42, .b false)] [7] [] [] [(1, .val (.b false)), (5, .val (.b true)), (6, .val (.b false))] (o2 (ob_eq (av_df (p := (((GoD.markT aX 1).2 : Nat) : Int) < (0 : Int)) (by omega))) (o2 (ob_call (eqSnapshot_a (a := implSystemSnapshot aX) (b := implSystemSnapshot aX) (rfl))) (o1 (ob_eq (show .b (!true) = .b false from rfl))))) ?_
    refine ckF ?_
    refine awp_skip ?_
    refine awp_seq ?_
    refine rk tt_ok [(8, .i 1)] [42] [] [] [] (o0) ?_
    refine awp_seq ?_
    have hm5 := bdT (a := (implSystemSnapshot aX)) (k := 1) (by decide) (Nat.le_trans (snapshot_size aX) (by omega))
    have hm6 := GoD.mkT_le (implSystemSnapshot aX) 1
    refine awp_markA tt_ok (markSnapshot_m (implSystemSnapshot aX) 1 1 rfl (by omega) (by omega) ((Nat.le_trans (snapshot_size aX) (by omega)))) (by rw [inR_i64]; unfold I64; omega) GoM.mkT [1408, 1409, 1410] [1, 2, 4, 6, 8] [1, 4, 6] (s' := ⟨[(1, .p 1 0), (2, .b false), (4, .p 4 0), (6, .p 6 0), (8, .i (((GoD.markT (implSystemSnapshot aX) 1).2 : Nat) : Int))], [(1, [.h aX.1.1.1, .h aX.1.1.2.1, .i aX.1.1.2.2, .h aX.1.2.1, .h aX.1.2.2, .s aX.2.1.1, .s aX.2.1.2, .i aX.2.2.1, .h aX.2.2.2.1, .h aX.2.2.2.2.1, .h aX.2.2.2.2.2]), (4, [.o 1152 ((implSystemSnapshot aX).1.1), .o 1153 ((implSystemSnapshot aX).1.2.1), .i ((implSystemSnapshot aX).1.2.2), .o 1154 ((implSystemSnapshot aX).2)]), (6, [.h (((GoD.markT (implSystemSnapshot aX) 1).1).1.1), .h (((GoD.markT (implSystemSnapshot aX) 1).1).1.2.1), .i (((GoD.markT (implSystemSnapshot aX) 1).1).1.2.2), .h (((GoD.markT (implSystemSnapshot aX) 1).1).2)])]⟩) rfl rfl rfl rfl rfl rfl rfl rfl rfl rfl rfl rfl (by kernel_rfl) rfl rfl (by kernel_rfl) rfl rfl (by kernel_rfl) (by kernel_rfl) rfl (by kernel_rfl) ?_
    refine awp_seq ?_
    refine rk tt_ok [(9, .i 1)] [] [] [] [] (o0) ?_
    refine awp_seq ?_
    refine rk tt_ok [(9, .i (((GoD.markT (implSystemSnapshot aX) 1).2 : Nat) : Int))] [9] [] [] [(2, .val (.i (((GoD.markT (implSystemSnapshot aX) 1).2 : Nat) : Int)))] (o1 (ob_call (heldSnapshot_a (implSystemSnapshot aX) (Nat.le_trans (snapshot_size aX) (by omega))))) ?_
    refine awp_seq ?_
    refine awp_seq ?_
    refine rk tt_ok [(50, .b false)] [] [] [] [(1, .val (.b false))] (o1 (ob_eq (av_df (p := (((GoD.markT (implSystemSnapshot aX) 1).2 : Nat) : Int) < (0 : Int)) (by omega)))) ?_
    refine ckF ?_
    refine awp_skip ?_
    refine awp_seq ?_
    refine awp_seq ?_
    refine rk tt_ok [(53, .b false)] [50] [] [] [(2, .val (.b false))] (o1 (ob_eq (show .b ((((GoD.markT (implSystemSnapshot aX) 1).2 : Nat) : Int) != (((GoD.markT (implSystemSnapshot aX) 1).2 : Nat) : Int)) = .b false from av_bool (by simp)))) ?_
    refine ckF ?_
    refine awp_skip ?_
    refine awp_seq ?_
    refine rk tt_ok [(10, .p 10 0)] [1, 53] [(10, [.o 3584 ((implSystemSnapshot aX).1.1), .o 3585 ((implSystemSnapshot aX).1.2.1), .i ((implSystemSnapshot aX).1.2.2), .o 3586 ((implSystemSnapshot aX).2)])] [1] [(1, .val (.a [.o 0 aX.1.1.1, .o 1 aX.1.1.2.1, .i aX.1.1.2.2, .o 2 aX.1.2.1, .o 3 aX.1.2.2, .s aX.2.1.1, .s aX.2.1.2, .i aX.2.2.1, .o 4 aX.2.2.2.1, .o 5 aX.2.2.2.2.1, .o 6 aX.2.2.2.2.2])), (2, .val (.a [.o 0 ((implSystemSnapshot aX).1.1), .o 1 ((implSystemSnapshot aX).1.2.1), .i ((implSystemSnapshot aX).1.2.2), .o 2 ((implSystemSnapshot aX).2)]))] (o2 (ob_call (toSystem_a aX hsz_aX)) (o1 (ob_call (implSystemSnapshot_a aX)))) ?_
    refine awp_seq ?_
    refine awp_seq ?_
    refine rk tt_ok [(60, .b false)] [4, 10] [] [4, 10] [(2, .val (.b true)), (3, .val (.b false))] (o2 (ob_call (eqSnapshot_a (a := implSystemSnapshot aX) (b := implSystemSnapshot aX) (rfl))) (o1 (ob_eq (show .b (!true) = .b false from rfl)))) ?_
    refine ckF ?_
    refine awp_skip ?_
    refine awp_seq ?_
    refine rk tt_ok [(9, .i 1)] [9, 60] [] [] [] (o0) ?_
    refine awp_seq ?_
    refine rk tt_ok [(9, .i (((GoD.markT (implSystemSnapshot aX) 1).2 : Nat) : Int))] [6, 9] [] [6] [(2, .val (.i (((GoD.markT (implSystemSnapshot aX) 1).2 : Nat) : Int)))] (o1 (ob_call (heldSnapshot_a (implSystemSnapshot aX) (Nat.le_trans (snapshot_size aX) (by omega))))) ?_
    refine awp_seq ?_
    refine awp_seq ?_
    refine rk tt_ok [(65, .b false)] [] [] [] [(1, .val (.b false))] (o1 (ob_eq (av_df (p := (((GoD.markT (implSystemSnapshot aX) 1).2 : Nat) : Int) < (0 : Int)) (by omega)))) ?_
    refine ckF ?_
    refine awp_skip ?_
    refine awp_seq ?_
    refine awp_seq ?_
    refine rk tt_ok [(68, .b false)] [8, 9, 65] [] [] [(2, .val (.b false))] (o1 (ob_eq (show .b ((((GoD.markT (implSystemSnapshot aX) 1).2 : Nat) : Int) != (((GoD.markT (implSystemSnapshot aX) 1).2 : Nat) : Int)) = .b false from av_bool (by simp)))) ?_
    refine ckF ?_
    refine awp_skip ?_
    refine awp_seq ?_
    refine rk tt_ok [(2, .b true)] [2, 68] [] [] [] (o0) ?_
    refine awp_ret ?_
    exact pret [] (congrArg (fun z => (.b z : AV)) (show lawsFnExactSystemSnapshot aX = true from bif_f h2 (rfl)).symm)
end Go.Proofs.YtjkfmihbmkbjfaaGreat
