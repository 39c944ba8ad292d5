/- What functions compute, and that they do (printed by am2.py): each function as a Lean function, then its contract. -/
import Derived.Test.YtiafgmepdgfpbaaIxc
import Derived.Test.YtiafgmepdgfpbaaLw
import Derived.Test.YtiafgmepdgfpbaaSz
import Derived.Test.YtiafgmepdgfpbaaEq
import Derived.Test.YtiafgmepdgfpbaaTo
import Derived.Test.YtiafgmepdgfpbaaZc
import Derived.KernelRfl
set_option linter.unusedVariables false
set_option linter.unusedSimpArgs false
namespace Go.Proofs.Ytiafgmepdgfpbaa
open Go.RowKit
open GoE (enc wide)
theorem szStore_a (a : StoreD) (left : Int) (h0 : 0 ≤ left) (h1 : left ≤ 1048576) : ACalls Try.prog 19 [argA a, intA left] (intA (szI (GoD.size a) left)) := acalls_szA (by unfold FnOk; kernel_rfl) h0 h1 fun w c hr => szStore_c w c a left hr h0 h1
theorem szPostingS_a (a : (List PostingD)) (left : Int) (h0 : 0 ≤ left) (h1 : left ≤ 1048576) : ACalls Try.prog 20 [argS a, intA left] (intA (szI (GoD.size a) left)) := acalls_szS (by unfold FnOk; kernel_rfl) h0 h1 fun w c hr => szPostingS_c w c a left hr h0 h1
theorem toStore_a (a : StoreD) (h : GoD.size a ≤ 1048576) : ACalls Try.prog 22 [argA a] (resA a) := acalls_toA (by unfold FnOk; kernel_rfl) fun w c hr => toStore_c w c a hr h
theorem toPostingS_a (a : (List PostingD)) (h : GoD.size a ≤ 1048576) : ACalls Try.prog 23 [argS a] (resS a) := acalls_toS (by unfold FnOk; kernel_rfl) fun w c hr => toPostingS_c w c a hr h
theorem eqStore_a {a b : StoreD} (h : a = b) : ACalls Try.prog 25 [argA a, argA b] (boolA true) := acalls_eqA (by unfold FnOk; kernel_rfl) h fun w c c2 h1 h2 => eqStore_c w c c2 a b h1 h2
theorem eqPostingS_a {a b : (List PostingD)} (h : a = b) : ACalls Try.prog 26 [argS a, argS b] (boolA true) := acalls_eqS (by unfold FnOk; kernel_rfl) h fun w c c2 h1 h2 => eqPostingS_c w c c2 a b h1 h2
def lawsFnExactCheckIndex (aS : StoreD) (aIx : (List PostingD)) : Bool := (bif decide ((szI (GoD.size aS) 1048576) < (0 : Int)) then true else (bif decide ((szI (GoD.size aIx) (szI (GoD.size aS) 1048576)) < (0 : Int)) then true else true))
theorem lawsFnExactCheckIndex_a (aS : StoreD) (aIx : (List PostingD)) : ACalls Try.prog 4 [.a [.h aS.1, .h aS.2.1, .i aS.2.2], .h aIx] (.b (lawsFnExactCheckIndex aS aIx)) := by
  refine en tt_ok Try.func4 fun w0 F0 hG => ?_
  refine sn tt_ok [1, 2, 4] [2] (p0) ?_
  refine tn tt_ok [1, 2, 4, 5] [2] (p0) ?_
  have hz1 := szI_bd (GoD.size aS) 1048576
  refine tu tt_ok [(2, .p 2 0), (4, .b false), (5, .i (szI (GoD.size aS) 1048576))] [0] [(2, [.h aS.1, .h aS.2.1, .i aS.2.2])] [] (pc 2 (szStore_a aS 1048576 (by omega) (by omega)) p0) ?_
  refine awp_seq ?_
  refine sn tt_ok [1, 2, 4, 5, 14] [2] (p0) ?_
  refine ck (decide ((szI (GoD.size aS) 1048576) < (0 : Int))) (fun h2 => ?_) (fun h2 => ?_)
  ·
    have h2d := of_decide_eq_true h2
    refine tn tt_ok [1, 2, 4, 5] [2] (p0) ?_
    refine awp_ret ?_
    exact pb [] (bif_t h2 (rfl))
  ·
    have h2d := of_decide_eq_false h2
    refine awp_skip ?_
    have hz3 := szI_bd (GoD.size aIx) (szI (GoD.size aS) 1048576)
    refine tn tt_ok [1, 2, 4, 5] [2] (pc 2 (szPostingS_a aIx (szI (GoD.size aS) 1048576) (by omega) (by omega)) p0) ?_
    refine awp_seq ?_
    refine tu tt_ok [(19, .b (decide ((szI (GoD.size aIx) (szI (GoD.size aS) 1048576)) < (0 : Int))))] [5] [] [] (p0) ?_
    refine ck (decide ((szI (GoD.size aIx) (szI (GoD.size aS) 1048576)) < (0 : Int))) (fun h4 => ?_) (fun h4 => ?_)
    ·
      have h4d := of_decide_eq_true h4
      refine sn tt_ok [1, 2, 4] [2] (p0) ?_
      refine awp_ret ?_
      exact pb [] (bif_f h2 (bif_t h4 (rfl)))
    ·
      have h4d := of_decide_eq_false h4
      refine awp_skip ?_
      have hsz_aS : GoD.size aS ≤ 1048576 := by omega
      have hsz_aIx : GoD.size aIx ≤ 1048576 := by omega
      refine sn tt_ok [1, 2, 4, 6] [2] (pc 1 (toStore_a aS hsz_aS) (pc 3 (toPostingS_a aIx hsz_aIx) (pc 4 ((checkIx_eq aS aIx) ▸ (specCheckIndex_a aS aIx (by have hz := files_size aS; have hy := attrsN_size aS.2.1; omega))) p0))) ?_
      refine tn tt_ok [1, 2, 4, 6, 7] [2, 7] (pc 1 (toStore_a aS hsz_aS) p0) ?_
      refine tu tt_ok [(6, .b (implCheckIndex aS aIx)), (7, .p 7 0), (8, .o 1792 aIx)] [19] [(7, [.o 1664 aS.1, .o 1665 aS.2.1, .i aS.2.2])] [] (pc 1 (toPostingS_a aIx hsz_aIx) p0) ?_
      refine sn tt_ok [1, 2, 4, 6, 7, 8, 9] [2, 7] (pc 2 (implCheckIndex_a aS aIx (by have hz := files_size aS; have hy := attrsN_size aS.2.1; omega)) p0) ?_
      refine awp_seq ?_
      refine tu tt_ok [(34, .b false)] [6] [] [] (pe 2 (show .b (!((implCheckIndex aS aIx) == (implCheckIndex aS aIx))) = .b false from av_bool (by simp)) p0) ?_
      refine ckF ?_
      refine awp_skip ?_
      refine awp_seq ?_
      refine sN tt_ok tt_mx [1, 4, 8, 39] [] (pc 2 (toStore_a aS hsz_aS) (pc 3 (eqStore_a (a := aS) (b := aS) (rfl)) (pe 4 (show .b (!true) = .b false from rfl) p0))) ?_
      refine ckF ?_
      refine awp_skip ?_
      refine awp_seq ?_
      refine tn tt_ok [4, 44] [] (pc 2 (toPostingS_a aIx hsz_aIx) (pc 3 (eqPostingS_a (a := aIx) (b := aIx) (rfl)) (pe 4 (show .b (!true) = .b false from rfl) p0))) ?_
      refine ckF ?_
      refine awp_skip ?_
      refine tu tt_ok [(4, .b true)] [1, 2, 4, 7, 8, 34] [] [2, 7] (p0) ?_
      refine awp_ret ?_
      exact pb [] (bif_f h2 (bif_f h4 (rfl)))
end Go.Proofs.Ytiafgmepdgfpbaa
