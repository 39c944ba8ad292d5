/- The law on CheckStep, whatever its arguments. -/
import Derived.Test.YtkjlkokcpeoeeaaGreatReg
import Derived.Test.YtkjlkokcpeoeeaaGreatLPp
import Derived.Outline
namespace Go.Proofs.YtkjlkokcpeoeeaaGreat
open Go.RowKit
open GoD (rd own)
set_option maxRecDepth 100000 in
set_option maxHeartbeats 1000000 in
theorem bigCheckStep (w : World) (c0 : List Value) (a0 : CatalogD) (h0 : rd w c0 a0) (c1 : List Value) (a1 : CheckD) (h1 : rd w c1 a1) (hbig : ¬ (GoD.size a0 + GoD.size a1 ≤ 1048576)) : Calls Tryz.prog 6 #[.agg c0.toArray, .agg c1.toArray] w (Ret w (.bool true)) := by
  obtain ⟨p0_oa1, p0_cp1, p0_oa2, p0_cp2, p0_oa3, p0_cp3, p0_oa4, p0_cp4, rfl⟩ := cells_Catalog h0
  have HA0 := Lib.hid h0; clear h0
  obtain ⟨p1_oa1, p1_cp1, rfl⟩ := cells_Check h1
  have HA1 := Lib.hid h1; clear h1
  have tok1 : True := trivial
  have tok2 : True := trivial
  go_enter Tryz.func6, Tryz.ntmps6
  go_wp2_with (first | (go_at_call 18; have tk := tok1; clear tok1; refine call_sz (w := w) (szCatalog_c _ [.slice p0_oa1 a0.1.1.length p0_cp1, .slice p0_oa2 a0.1.2.1.length p0_cp2, .int .i64 a0.1.2.2, .slice p0_oa3 a0.2.1.length p0_cp3, .slice p0_oa4 a0.2.2.length p0_cp4] a0 _ (rd_below HA0.out (by repeat (first | (with_reducible exact Below.refl _ _) | (with_reducible refine Below.alloc ?_ (by go_size) _) | (with_reducible refine Below.drew ?_)))) (by omega) (by omega)) (by repeat (first | (with_reducible exact Below.refl _ _) | (with_reducible refine Below.alloc ?_ (by go_size) _) | (with_reducible refine Below.drew ?_))) ?_; intro w1 r1 hB1 hb hz1 _ hr hs1; have HR1 := Lib.hid hr; clear hr; have hz2 := hb.size; (repeat (first | rewrite [World.size_alloc] at hz2 | rewrite [World.size_setCell] at hz2 | rewrite [World.size_drew] at hz2)); have c1_0 := fun o => bcell hb (w.heap.size) o (by go_size); have c1_1 := fun o => bcell hb (w.heap.size + 1) o (by go_size); have l1_0 : w.heap.size < w1.heap.size := (by go_size); have l1_1 : w.heap.size + 1 < w1.heap.size := (by go_size); have HB1 := Lib.hid hb; clear hb) | (go_at_call 27; have tk := tok2; clear tok2; refine call_sz (w := w) (szCheck_c _ [.int .i64 a1.1, .slice p1_oa1 a1.2.length p1_cp1] a1 _ (rd_below HA1.out (by repeat (first | (with_reducible exact Below.refl _ _) | (with_reducible refine below_call ?_ HB1.out (by go_size)) | (with_reducible refine Below.alloc ?_ (by go_size) _) | (with_reducible refine Below.drew ?_)))) (by omega) (by omega)) (by repeat (first | (with_reducible exact Below.refl _ _) | (with_reducible refine below_call ?_ HB1.out (by go_size)) | (with_reducible refine Below.alloc ?_ (by go_size) _) | (with_reducible refine Below.drew ?_))) ?_; intro w2 r2 hB2 hb hz2 _ hr hs2; have HR2 := Lib.hid hr; clear hr; have hz2 := hb.size; (repeat (first | rewrite [World.size_alloc] at hz2 | rewrite [World.size_setCell] at hz2 | rewrite [World.size_drew] at hz2)); have c2_0 := fun o => bcell hb (w.heap.size) o (by go_size); have c2_1 := fun o => bcell hb (w.heap.size + 1) o (by go_size); have l2_0 : w.heap.size < w2.heap.size := (by go_size); have l2_1 : w.heap.size + 1 < w2.heap.size := (by go_size); have HB2 := Lib.hid hb; clear hb) | (exfalso; have q1 := HR1.out; have q2 := HR2.out; apply hbig; unfold szq at *; omega))
  all_goals
    go_ret
    refine ⟨rfl, ?_⟩
    first | (with_reducible assumption) | go_grown

theorem lawsFnExactCheckStep_true (a0 : CatalogD) (a1 : CheckD) : lawsFnExactCheckStep a0 a1 = true := by
  unfold lawsFnExactCheckStep
  simp
theorem lawCheckStep (w : World) (c0 : List Value) (a0 : CatalogD) (h0 : rd w c0 a0) (c1 : List Value) (a1 : CheckD) (h1 : rd w c1 a1) : Calls Tryz.prog 6 #[.agg c0.toArray, .agg c1.toArray] w (Ret w (.bool true)) := by
  by_cases hbig : GoD.size a0 + GoD.size a1 ≤ 1048576
  · have h := (lawsFnExactCheckStep_a a0 a1).run (.cons (arg_agg h0 (GoE.wide_size (show GoD.size a0 ≤ 1073741824 by omega))) (.cons (arg_agg h1 (GoE.wide_size (show GoD.size a1 ≤ 1073741824 by omega))) .nil))
    rw [lawsFnExactCheckStep_true] at h
    exact h.mono fun _ _ h => ret_bool h
  · exact bigCheckStep w c0 a0 h0 c1 a1 h1 hbig
end Go.Proofs.YtkjlkokcpeoeeaaGreat
