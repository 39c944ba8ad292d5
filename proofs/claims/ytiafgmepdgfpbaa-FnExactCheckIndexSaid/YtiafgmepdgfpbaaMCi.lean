/- The law on CheckIndex, whatever its arguments. -/
import Derived.Test.YtiafgmepdgfpbaaReg
import Derived.Test.YtiafgmepdgfpbaaLCi
import Derived.Outline
set_option linter.unusedVariables false
set_option linter.unusedSimpArgs false
namespace Go.Proofs.Ytiafgmepdgfpbaa
open Go.RowKit
open GoD (rd own)
set_option maxRecDepth 100000 in
set_option maxHeartbeats 1000000 in
theorem bigCheckIndex (w : World) (c0 : List Value) (a0 : StoreD) (h0 : rd w c0 a0) (v1 : Value) (a1 : (List PostingD)) (h1 : rd w [v1] a1) (hbig : ¬ (GoD.size a0 + GoD.size a1 ≤ 1048576)) : Calls Try.prog 4 #[.agg c0.toArray, v1] w (Ret w (.bool true)) := by
  obtain ⟨p0_oa1, p0_cp1, p0_oa2, p0_cp2, rfl⟩ := cells_Store h0
  have HA0 := Lib.hid h0; clear h0
  obtain ⟨p1_oa, p1_cp, rfl⟩ := slice_of_rd h1
  have hln1 := len_of_rd h1
  have HA1 := Lib.hid h1; clear h1
  have tok1 : True := trivial
  have tok2 : True := trivial
  go_enter Try.func4, Try.ntmps4
  go_wp2_with (first | (go_at_call 19; have tk := tok1; clear tok1; refine call_sz (w := w) (szStore_c _ [.slice p0_oa1 a0.1.length p0_cp1, .slice p0_oa2 a0.2.1.length p0_cp2, .int .i64 a0.2.2] a0 _ (rd_below HA0.out (by repeat (first | (with_reducible exact Below.refl _ _) | (with_reducible refine Below.alloc ?_ (by go_size) _) | (with_reducible refine Below.drew ?_)))) (by omega) (by omega)) (by repeat (first | (with_reducible exact Below.refl _ _) | (with_reducible refine Below.alloc ?_ (by go_size) _) | (with_reducible refine Below.drew ?_))) ?_; intro w1 r1 hB1 hb hz1 _ hr hs1; have HR1 := Lib.hid hr; clear hr; have hz2 := hb.size; (repeat (first | rewrite [World.size_alloc] at hz2 | rewrite [World.size_setCell] at hz2 | rewrite [World.size_drew] at hz2)); have c1_0 := fun o => bcell hb (w.heap.size) o (by go_size); have l1_0 : w.heap.size < w1.heap.size := (by go_size); have HB1 := Lib.hid hb; clear hb) | (go_at_call 20; have tk := tok2; clear tok2; refine call_sz (w := w) (szPostingS_c _ (.slice p1_oa a1.length p1_cp) a1 _ (rd_below HA1.out (by repeat (first | (with_reducible exact Below.refl _ _) | (with_reducible refine below_call ?_ HB1.out (by go_size)) | (with_reducible refine Below.alloc ?_ (by go_size) _) | (with_reducible refine Below.drew ?_)))) (by omega) (by omega)) (by repeat (first | (with_reducible exact Below.refl _ _) | (with_reducible refine below_call ?_ HB1.out (by go_size)) | (with_reducible refine Below.alloc ?_ (by go_size) _) | (with_reducible refine Below.drew ?_))) ?_; intro w2 r2 hB2 hb hz2 _ hr hs2; have HR2 := Lib.hid hr; clear hr; have hz2 := hb.size; (repeat (first | rewrite [World.size_alloc] at hz2 | rewrite [World.size_setCell] at hz2 | rewrite [World.size_drew] at hz2)); have c2_0 := fun o => bcell hb (w.heap.size) o (by go_size); have l2_0 : w.heap.size < w2.heap.size := (by go_size); have HB2 := Lib.hid hb; clear hb) | (exfalso; have q1 := HR1.out; have q2 := HR2.out; apply hbig; unfold szq at *; omega))
  all_goals
    go_ret
    refine ⟨rfl, ?_⟩
    first | (with_reducible assumption) | go_grown
theorem lawsFnExactCheckIndex_true (a0 : StoreD) (a1 : (List PostingD)) : lawsFnExactCheckIndex a0 a1 = true := by
  unfold lawsFnExactCheckIndex
  simp
theorem lawCheckIndex (w : World) (c0 : List Value) (a0 : StoreD) (h0 : rd w c0 a0) (v1 : Value) (a1 : (List PostingD)) (h1 : rd w [v1] a1) : Calls Try.prog 4 #[.agg c0.toArray, v1] w (Ret w (.bool true)) := by
  by_cases hbig : GoD.size a0 + GoD.size a1 ≤ 1048576
  · haveI : Good Try.prog w := Good.none (by kernel_rfl) w
    have h := (lawsFnExactCheckIndex_a a0 a1).run (.cons (arg_agg h0 (GoE.wide_size (show GoD.size a0 ≤ 1073741824 by omega))) (.cons (arg_sli h1 (GoE.wide_size (show GoD.size a1 ≤ 1073741824 by omega))) .nil))
    rw [lawsFnExactCheckIndex_true] at h
    exact h.mono fun _ _ h => ret_bool h
  · exact bigCheckIndex w c0 a0 h0 v1 a1 h1 hbig
end Go.Proofs.Ytiafgmepdgfpbaa
