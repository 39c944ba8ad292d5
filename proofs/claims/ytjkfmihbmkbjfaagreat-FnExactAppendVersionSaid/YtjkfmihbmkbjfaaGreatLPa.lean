/- What functions compute, and that they do (printed by am2.py): each function as a Lean function, then its contract. -/
import Derived.Test.YtjkfmihbmkbjfaaGreatAvb
import Derived.Test.YtjkfmihbmkbjfaaGreatMa
import Derived.Test.YtjkfmihbmkbjfaaGreatHe
import Derived.Test.YtjkfmihbmkbjfaaGreatLw
import Derived.Test.YtjkfmihbmkbjfaaGreatSz
import Derived.Test.YtjkfmihbmkbjfaaGreatEq
import Derived.Test.YtjkfmihbmkbjfaaGreatTo
import Derived.KernelRfl
namespace Go.Proofs.YtjkfmihbmkbjfaaGreat
open Go.RowKit
open GoE (enc wide)
theorem szVersionS_a (a : (List VersionD)) (left : Int) (h0 : 0 ≤ left) (h1 : left ≤ 1048576) : ACalls Tryz.prog 19 [argS a, intA left] (intA (szI (GoD.size a) left)) := acalls_szS (by unfold FnOk; kernel_rfl) h0 h1 fun w c hr => szVersionS_c w c a left hr h0 h1
theorem szSnapshot_a (a : SnapshotD) (left : Int) (h0 : 0 ≤ left) (h1 : left ≤ 1048576) : ACalls Tryz.prog 29 [argA a, intA left] (intA (szI (GoD.size a) left)) := acalls_szA (by unfold FnOk; kernel_rfl) h0 h1 fun w c hr => szSnapshot_c w c a left hr h0 h1
theorem toVersionS_a (a : (List VersionD)) (h : GoD.size a ≤ 1048576) : ACalls Tryz.prog 21 [argS a] (resS a) := acalls_toS (by unfold FnOk; kernel_rfl) fun w c hr => toVersionS_c w c a hr h
theorem toSnapshot_a (a : SnapshotD) (h : GoD.size a ≤ 1048576) : ACalls Tryz.prog 31 [argA a] (resA a) := acalls_toA (by unfold FnOk; kernel_rfl) fun w c hr => toSnapshot_c w c a hr h
theorem eqVersionS_a {a b : (List VersionD)} (h : a = b) : ACalls Tryz.prog 23 [argS a, argS b] (boolA true) := acalls_eqS (by unfold FnOk; kernel_rfl) h fun w c c2 h1 h2 => eqVersionS_c w c c2 a b h1 h2
theorem eqSnapshot_a {a b : SnapshotD} (h : a = b) : ACalls Tryz.prog 14 [argA a, argA b] (boolA true) := acalls_eqA (by unfold FnOk; kernel_rfl) h fun w c c2 h1 h2 => eqSnapshot_c w c c2 a b h1 h2
theorem markVersionS_m (a : (List VersionD)) (K : Int) (k : Nat) (hK : K = k) (h1 : 1 ≤ k) (hk : k ≤ 1152921504606846976) (hs : GoD.size a ≤ 1073741824) : MarkS Tryz.prog 33 a K (markS a k) := ⟨(by unfold FnOk; kernel_rfl), fun w L c ho => markVersionS_c w c a L K k hK h1 (by have := bdS (l := a) (k := k) (by decide) hs; omega) ho⟩
theorem markSnapshot_m (a : SnapshotD) (K : Int) (k : Nat) (hK : K = k) (h1 : 1 ≤ k) (hk : k ≤ 1152921504606846976) (hs : GoD.size a ≤ 1073741824) : MarkA Tryz.prog 17 a K (GoD.markT a k) := ⟨(by unfold FnOk; kernel_rfl), fun w L c ho => markSnapshot_c w c a L K k hK h1 (by have := bdT (a := a) (k := k) (by decide) hs; omega) ho⟩
theorem heldVersionS_a (a : (List VersionD)) (hs : GoD.size a ≤ 1073741824) : ACalls Tryz.prog 34 [argS (markS a 1).1, intA 1] (intA ((markS a 1).2 : Nat)) := acalls_heS (by unfold FnOk; kernel_rfl) (by have := bdS (l := a) (k := 1) (by decide) hs; rw [inR_i64]; unfold I64; omega) fun w c hr => heldVersionS_c w c a _ 1 1 rfl (by omega) (by have := bdS (l := a) (k := 1) (by decide) hs; omega) rfl hr
def lawsFnExactAppendVersion (aV : (List VersionD)) (aNumber : Int) (aX : SnapshotD) : Bool := (bif decide ((szI (GoD.size aV) 1048576) < (0 : Int)) then true else (bif decide ((szI (GoD.size aX) (szI (GoD.size aV) 1048576)) < (0 : Int)) then true else true))
theorem lawsFnExactAppendVersion_a (aV : (List VersionD)) (aNumber : Int) (aX : SnapshotD) : ACalls Tryz.prog 6 [.h aV, .i aNumber, .a [.h aX.1.1, .h aX.1.2.1, .i aX.1.2.2, .h aX.2]] (.b (lawsFnExactAppendVersion aV aNumber aX)) := by
  refine acalls_of (tt := tt) tt_ok Tryz.func6 (fn := Tryz.f6) rfl (by unfold FnOk; kernel_rfl) (Nat.le_of_ble_eq_true rfl) fun w0 F0 => ?_
  refine awp_seq ?_
  refine rk tt_ok [(5, .p 5 0), (6, .b false)] [2] [(5, [.h aX.1.1, .h aX.1.2.1, .i aX.1.2.2, .h aX.2])] [] [] (o0) ?_
  refine awp_seq ?_
  refine rk tt_ok [(7, .i 1048576)] [] [] [] [] (o0) ?_
  refine awp_seq ?_
  have hz1 := szI_bd (GoD.size aV) 1048576
  refine rk tt_ok [(7, .i (szI (GoD.size aV) 1048576))] [7] [] [] [(2, .val (.i (szI (GoD.size aV) 1048576)))] (o1 (ob_call (szVersionS_a aV 1048576 (by omega) (by omega)))) ?_
  refine awp_seq ?_
  refine awp_seq ?_
  refine rk tt_ok [(23, .b (decide ((szI (GoD.size aV) 1048576) < (0 : Int))))] [] [] [] [] (o0) ?_
  refine ck (decide ((szI (GoD.size aV) 1048576) < (0 : Int))) (fun h2 => ?_) (fun h2 => ?_)
  ·
    have h2d := of_decide_eq_true h2
    refine awp_seq ?_
    refine rk tt_ok [(6, .b true)] [6, 23] [] [] [] (o0) ?_
    refine awp_ret ?_
    exact pret [] (congrArg (fun z => (.b z : AV)) (show lawsFnExactAppendVersion aV aNumber aX = true from bif_t h2 (rfl)).symm)
  ·
    have h2d := of_decide_eq_false h2
    refine awp_skip ?_
    refine awp_seq ?_
    have hz3 := szI_bd (GoD.size aX) (szI (GoD.size aV) 1048576)
    refine rk tt_ok [(7, .i (szI (GoD.size aX) (szI (GoD.size aV) 1048576)))] [7, 23] [] [] [(2, .val (.i (szI (GoD.size aX) (szI (GoD.size aV) 1048576))))] (o1 (ob_call (szSnapshot_a aX (szI (GoD.size aV) 1048576) (by omega) (by omega)))) ?_
    refine awp_seq ?_
    refine awp_seq ?_
    refine rk tt_ok [(28, .b (decide ((szI (GoD.size aX) (szI (GoD.size aV) 1048576)) < (0 : Int))))] [7] [] [] [] (o0) ?_
    refine ck (decide ((szI (GoD.size aX) (szI (GoD.size aV) 1048576)) < (0 : Int))) (fun h4 => ?_) (fun h4 => ?_)
    ·
      have h4d := of_decide_eq_true h4
      refine awp_seq ?_
      refine rk tt_ok [(6, .b true)] [6, 28] [] [] [] (o0) ?_
      refine awp_ret ?_
      exact pret [] (congrArg (fun z => (.b z : AV)) (show lawsFnExactAppendVersion aV aNumber aX = true from bif_f h2 (bif_t h4 (rfl))).symm)
    ·
      have h4d := of_decide_eq_false h4
      refine awp_skip ?_
      refine awp_seq ?_
      have hsz_aV : GoD.size aV ≤ 1048576 := by omega
      have hsz_aX : GoD.size aX ≤ 1048576 := by omega
      refine rd' tt_ok tt_mx [(8, .o 2240 (((implAppendVersion aV aNumber aX)).1)), (9, .b (((implAppendVersion aV aNumber aX)).2))] [28] [] [] [(1, .val (.o 0 aV)), (4, .val (.a [.o 0 aX.1.1, .o 1 aX.1.2.1, .i aX.1.2.2, .o 2 aX.2])), (5, .val (.tup [(false, [.o 0 (((implAppendVersion aV aNumber aX)).1)]), (false, [.b (((implAppendVersion aV aNumber aX)).2)])]))] (o2 (ob_call (toVersionS_a aV hsz_aV)) (o2 (ob_call (toSnapshot_a aX hsz_aX)) (o1 (ob_call ((appendVersion_eq aV aNumber aX) ▸ (specAppendVersion_a aV aNumber aX (by have := sz_len hsz_aV; omega))))))) ?_
      refine awp_seq ?_
      refine rk tt_ok [(10, .o 2496 aV)] [] [] [] [(1, .val (.o 0 aV))] (o1 (ob_call (toVersionS_a aV hsz_aV))) ?_
      refine awp_seq ?_
      refine rk tt_ok [(11, .p 11 0)] [] [(11, [.o 2624 aX.1.1, .o 2625 aX.1.2.1, .i aX.1.2.2, .o 2626 aX.2])] [] [(1, .val (.a [.o 0 aX.1.1, .o 1 aX.1.2.1, .i aX.1.2.2, .o 2 aX.2]))] (o1 (ob_call (toSnapshot_a aX hsz_aX))) ?_
      refine awp_seq ?_
      refine rk tt_ok [(12, .o 2944 (((implAppendVersion aV aNumber aX)).1)), (13, .b (((implAppendVersion aV aNumber aX)).2))] [] [] [] [(3, .val (.tup [(false, [.o 0 (((implAppendVersion aV aNumber aX)).1)]), (false, [.b (((implAppendVersion aV aNumber aX)).2)])]))] (o1 (ob_call (implAppendVersion_a aV aNumber aX (by have := sz_len hsz_aV; omega)))) ?_
      refine awp_seq ?_
      refine awp_seq ?_
      refine rk tt_ok [(57, .b false)] [] [] [] [(2, .val (.b true)), (3, .val (.b false)), (7, .val (.b false))] (o2 (ob_call (eqVersionS_a (a := ((implAppendVersion aV aNumber aX)).1) (b := ((implAppendVersion aV aNumber aX)).1) (rfl))) (o2 (ob_eq (show .b (!true) = .b false from rfl)) (o1 (ob_eq (show .b (!((((implAppendVersion aV aNumber aX)).2) == (((implAppendVersion aV aNumber aX)).2))) = .b false from av_bool (by simp)))))) ?_
      refine ckF ?_
      refine awp_skip ?_
      refine awp_seq ?_
      refine awp_seq ?_
      refine rk tt_ok [(62, .b false)] [57] [] [] [(2, .val (.o 0 aV)), (3, .val (.b true)), (4, .val (.b false))] (o2 (ob_call (toVersionS_a aV hsz_aV)) (o2 (ob_call (eqVersionS_a (a := aV) (b := aV) (rfl))) (o1 (ob_eq (show .b (!true) = .b false from rfl))))) ?_
      refine ckF ?_
      refine awp_skip ?_
      refine awp_seq ?_
      refine awp_seq ?_
      refine rd' tt_ok tt_mx [(67, .b false)] [62] [] [] [(2, .val (.a [.o 0 aX.1.1, .o 1 aX.1.2.1, .i aX.1.2.2, .o 2 aX.2])), (3, .val (.b true)), (4, .val (.b false))] (o2 (ob_call (toSnapshot_a aX hsz_aX)) (o2 (ob_call (eqSnapshot_a (a := aX) (b := aX) (rfl))) (o1 (ob_eq (show .b (!true) = .b false from rfl))))) ?_
      refine ckF ?_
      refine awp_skip ?_
      refine awp_seq ?_
      refine rk tt_ok [(14, .i 1)] [67] [] [] [] (o0) ?_
      refine awp_seq ?_
      have hm5 := bdS (l := aV) (k := 1) (by decide) (Nat.le_trans hsz_aV (by decide))
      have hm6 := markS_le aV 1
      refine awp_markS (markVersionS_m aV 1 1 rfl (by omega) (by omega) ((Nat.le_trans hsz_aV (by decide)))) (by rw [inR_i64]; unfold I64; omega) GoM.mkT 2496 [0, 1, 5, 6, 8, 9, 11, 12, 13, 14] [5, 11] (s' := ⟨[(0, .h aV), (1, .i aNumber), (5, .p 5 0), (6, .b false), (8, .o 2240 (((implAppendVersion aV aNumber aX)).1)), (9, .b (((implAppendVersion aV aNumber aX)).2)), (11, .p 11 0), (12, .o 2944 (((implAppendVersion aV aNumber aX)).1)), (13, .b (((implAppendVersion aV aNumber aX)).2)), (14, .i (((markS aV 1).2 : Nat) : Int))], [(5, [.h aX.1.1, .h aX.1.2.1, .i aX.1.2.2, .h aX.2]), (11, [.o 2624 aX.1.1, .o 2625 aX.1.2.1, .i aX.1.2.2, .o 2626 aX.2])]⟩) rfl rfl rfl rfl rfl rfl rfl rfl rfl rfl rfl rfl (by kernel_rfl) (by kernel_rfl) rfl rfl (by kernel_rfl) ?_
      refine awp_seq ?_
      have hm7 := bdT (a := aX) (k := (markS aV 1).2) (by decide) (Nat.le_trans hsz_aX (by decide))
      have hm8 := GoD.mkT_le aX ((markS aV 1).2)
      refine awp_markA tt_ok (markSnapshot_m aX (((markS aV 1).2 : Nat) : Int) ((markS aV 1).2) rfl (by omega) (by omega) ((Nat.le_trans hsz_aX (by decide)))) (by rw [inR_i64]; unfold I64; omega) GoM.mkT [2624, 2625, 2626] [0, 1, 5, 6, 8, 9, 12, 13, 14] [5] (s' := ⟨[(0, .h aV), (1, .i aNumber), (5, .p 5 0), (6, .b false), (8, .o 2240 (((implAppendVersion aV aNumber aX)).1)), (9, .b (((implAppendVersion aV aNumber aX)).2)), (12, .o 2944 (((implAppendVersion aV aNumber aX)).1)), (13, .b (((implAppendVersion aV aNumber aX)).2)), (14, .i (((GoD.markT aX ((markS aV 1).2)).2 : Nat) : Int))], [(5, [.h aX.1.1, .h aX.1.2.1, .i aX.1.2.2, .h aX.2])]⟩) rfl rfl rfl rfl rfl rfl rfl rfl rfl rfl rfl rfl (by kernel_rfl) rfl rfl (by kernel_rfl) rfl rfl (by kernel_rfl) (by kernel_rfl) rfl (by kernel_rfl) ?_
      refine awp_seq ?_
      refine awp_seq ?_
      refine rk tt_ok [(86, .b false)] [13, 14] [] [] [(1, .val (.b false)), (5, .val (.b true)), (6, .val (.b false)), (11, .val (.b false))] (o2 (ob_eq (av_df (p := (((GoD.markT aX ((markS aV 1).2)).2 : Nat) : Int) < (0 : Int)) (by omega))) (o2 (ob_call (eqVersionS_a (a := ((implAppendVersion aV aNumber aX)).1) (b := ((implAppendVersion aV aNumber aX)).1) (rfl))) (o2 (ob_eq (show .b (!true) = .b false from rfl)) (o1 (ob_eq (show .b (!((((implAppendVersion aV aNumber aX)).2) == (((implAppendVersion aV aNumber aX)).2))) = .b false from av_bool (by simp))))))) ?_
      refine ckF ?_
      refine awp_skip ?_
      refine awp_seq ?_
      refine rk tt_ok [(15, .i 1)] [86] [] [] [] (o0) ?_
      refine awp_seq ?_
      have hm9 := bdS (l := (((implAppendVersion aV aNumber aX)).1)) (k := 1) (by decide) (Nat.le_trans (appendVersion_size aV aNumber aX) (by omega))
      have hm10 := markS_le (((implAppendVersion aV aNumber aX)).1) 1
      refine awp_markS (markVersionS_m (((implAppendVersion aV aNumber aX)).1) 1 1 rfl (by omega) (by omega) ((Nat.le_trans (appendVersion_size aV aNumber aX) (by omega)))) (by rw [inR_i64]; unfold I64; omega) GoM.mkT 2944 [0, 1, 5, 6, 8, 9, 12, 15] [5] (s' := ⟨[(0, .h aV), (1, .i aNumber), (5, .p 5 0), (6, .b false), (8, .o 2240 (((implAppendVersion aV aNumber aX)).1)), (9, .b (((implAppendVersion aV aNumber aX)).2)), (12, .h ((markS (((implAppendVersion aV aNumber aX)).1) 1).1)), (15, .i (((markS (((implAppendVersion aV aNumber aX)).1) 1).2 : Nat) : Int))], [(5, [.h aX.1.1, .h aX.1.2.1, .i aX.1.2.2, .h aX.2])]⟩) rfl rfl rfl rfl rfl rfl rfl rfl rfl rfl rfl rfl (by kernel_rfl) (by kernel_rfl) rfl rfl (by kernel_rfl) ?_
      refine awp_seq ?_
      refine rk tt_ok [(16, .i 1)] [] [] [] [] (o0) ?_
      refine awp_seq ?_
      refine rk tt_ok [(16, .i (((markS (((implAppendVersion aV aNumber aX)).1) 1).2 : Nat) : Int))] [16] [] [] [(2, .val (.i (((markS (((implAppendVersion aV aNumber aX)).1) 1).2 : Nat) : Int)))] (o1 (ob_call (heldVersionS_a (((implAppendVersion aV aNumber aX)).1) (Nat.le_trans (appendVersion_size aV aNumber aX) (by omega))))) ?_
      refine awp_seq ?_
      refine awp_seq ?_
      refine rk tt_ok [(94, .b false)] [] [] [] [(1, .val (.b false))] (o1 (ob_eq (av_df (p := (((markS (((implAppendVersion aV aNumber aX)).1) 1).2 : Nat) : Int) < (0 : Int)) (by omega)))) ?_
      refine ckF ?_
      refine awp_skip ?_
      refine awp_seq ?_
      refine awp_seq ?_
      refine rk tt_ok [(97, .b false)] [94] [] [] [(2, .val (.b false))] (o1 (ob_eq (show .b ((((markS (((implAppendVersion aV aNumber aX)).1) 1).2 : Nat) : Int) != (((markS (((implAppendVersion aV aNumber aX)).1) 1).2 : Nat) : Int)) = .b false from av_bool (by simp)))) ?_
      refine ckF ?_
      refine awp_skip ?_
      refine awp_seq ?_
      refine rd' tt_ok tt_mx [(17, .o 6656 (((implAppendVersion aV aNumber aX)).1)), (18, .b (((implAppendVersion aV aNumber aX)).2))] [0, 1, 5, 97] [] [5] [(1, .val (.o 0 aV)), (4, .val (.a [.o 0 aX.1.1, .o 1 aX.1.2.1, .i aX.1.2.2, .o 2 aX.2])), (5, .val (.tup [(false, [.o 0 (((implAppendVersion aV aNumber aX)).1)]), (false, [.b (((implAppendVersion aV aNumber aX)).2)])]))] (o2 (ob_call (toVersionS_a aV hsz_aV)) (o2 (ob_call (toSnapshot_a aX hsz_aX)) (o1 (ob_call (implAppendVersion_a aV aNumber aX (by have := sz_len hsz_aV; omega)))))) ?_
      refine awp_seq ?_
      refine awp_seq ?_
      refine rk tt_ok [(115, .b false)] [8, 9, 17, 18] [] [] [(2, .val (.b true)), (3, .val (.b false)), (7, .val (.b false))] (o2 (ob_call (eqVersionS_a (a := ((implAppendVersion aV aNumber aX)).1) (b := ((implAppendVersion aV aNumber aX)).1) (rfl))) (o2 (ob_eq (show .b (!true) = .b false from rfl)) (o1 (ob_eq (show .b (!((((implAppendVersion aV aNumber aX)).2) == (((implAppendVersion aV aNumber aX)).2))) = .b false from av_bool (by simp)))))) ?_
      refine ckF ?_
      refine awp_skip ?_
      refine awp_seq ?_
      refine rk tt_ok [(16, .i 1)] [16, 115] [] [] [] (o0) ?_
      refine awp_seq ?_
      refine rk tt_ok [(16, .i (((markS (((implAppendVersion aV aNumber aX)).1) 1).2 : Nat) : Int))] [12, 16] [] [] [(2, .val (.i (((markS (((implAppendVersion aV aNumber aX)).1) 1).2 : Nat) : Int)))] (o1 (ob_call (heldVersionS_a (((implAppendVersion aV aNumber aX)).1) (Nat.le_trans (appendVersion_size aV aNumber aX) (by omega))))) ?_
      refine awp_seq ?_
      refine awp_seq ?_
      refine rk tt_ok [(120, .b false)] [] [] [] [(1, .val (.b false))] (o1 (ob_eq (av_df (p := (((markS (((implAppendVersion aV aNumber aX)).1) 1).2 : Nat) : Int) < (0 : Int)) (by omega)))) ?_
      refine ckF ?_
      refine awp_skip ?_
      refine awp_seq ?_
      refine awp_seq ?_
      refine rk tt_ok [(123, .b false)] [15, 16, 120] [] [] [(2, .val (.b false))] (o1 (ob_eq (show .b ((((markS (((implAppendVersion aV aNumber aX)).1) 1).2 : Nat) : Int) != (((markS (((implAppendVersion aV aNumber aX)).1) 1).2 : Nat) : Int)) = .b false from av_bool (by simp)))) ?_
      refine ckF ?_
      refine awp_skip ?_
      refine awp_seq ?_
      refine rk tt_ok [(6, .b true)] [6, 123] [] [] [] (o0) ?_
      refine awp_ret ?_
      exact pret [] (congrArg (fun z => (.b z : AV)) (show lawsFnExactAppendVersion aV aNumber aX = true from bif_f h2 (bif_f h4 (rfl))).symm)
end Go.Proofs.YtjkfmihbmkbjfaaGreat
