/- The law on IsConsistent, whatever its arguments. -/
import Derived.Test.YtjkfmihbmkbjfaaGreatReg
import Derived.Test.YtjkfmihbmkbjfaaGreatLPi
import Derived.Outline
set_option linter.unusedVariables false
set_option linter.unusedSimpArgs false
namespace Go.Proofs.YtjkfmihbmkbjfaaGreat
open Go.RowKit
open GoD (rd own)
set_option maxRecDepth 100000 in
set_option maxHeartbeats 1000000 in
theorem bigIsConsistent (w : World) (c0 : List Value) (a0 : CatalogD) (h0 : rd w c0 a0) (hbig : ¬ (GoD.size a0 ≤ 1048576)) : Calls Tryz.prog 5 #[.agg c0.toArray] w (Ret w (.bool true)) := by
  obtain ⟨p0_oa1, p0_cp1, p0_oa2, p0_cp2, p0_oa3, p0_cp3, p0_oa4, p0_cp4, rfl⟩ := cells_Catalog h0
  have HA0 := Lib.hid h0; clear h0
  have tok1 : True := trivial
  go_enter Tryz.func5, Tryz.ntmps5
  go_wp2_with (first | (go_at_call 24; have tk := tok1; clear tok1; refine call_sz (w := w) (szCatalog_c _ [.slice p0_oa1 a0.1.1.length p0_cp1, .slice p0_oa2 a0.1.2.1.length p0_cp2, .int .i64 a0.1.2.2, .slice p0_oa3 a0.2.1.length p0_cp3, .slice p0_oa4 a0.2.2.length p0_cp4] a0 _ (rd_below HA0.out (by repeat (first | (with_reducible exact Below.refl _ _) | (with_reducible refine Below.alloc ?_ (by go_size) _) | (with_reducible refine Below.drew ?_)))) (by omega) (by omega)) (by repeat (first | (with_reducible exact Below.refl _ _) | (with_reducible refine Below.alloc ?_ (by go_size) _) | (with_reducible refine Below.drew ?_))) ?_; intro w1 r1 hB1 hb hz1 _ hr hs1; have HR1 := Lib.hid hr; clear hr; have hz2 := hb.size; (repeat (first | rewrite [World.size_alloc] at hz2 | rewrite [World.size_setCell] at hz2 | rewrite [World.size_drew] at hz2)); have c1_0 := fun o => bcell hb (w.heap.size) o (by go_size); have l1_0 : w.heap.size < w1.heap.size := (by go_size); have HB1 := Lib.hid hb; clear hb) | (exfalso; have q1 := HR1.out; apply hbig; unfold szq at *; omega))
  all_goals
    go_ret
    refine ⟨rfl, ?_⟩
    first | (with_reducible assumption) | go_grown
theorem lawsFnExactIsConsistent_true (a0 : CatalogD) : lawsFnExactIsConsistent a0 = true := by
  unfold lawsFnExactIsConsistent
  simp
theorem lawIsConsistent (w : World) (c0 : List Value) (a0 : CatalogD) (h0 : rd w c0 a0) : Calls Tryz.prog 5 #[.agg c0.toArray] w (Ret w (.bool true)) := by
  by_cases hbig : GoD.size a0 ≤ 1048576
  · have h := (lawsFnExactIsConsistent_a a0).run (.cons (arg_agg h0 (GoE.wide_size (show GoD.size a0 ≤ 1073741824 by omega))) .nil)
    rw [lawsFnExactIsConsistent_true] at h
    exact h.mono fun _ _ h => ret_bool h
  · exact bigIsConsistent w c0 a0 h0 hbig
end Go.Proofs.YtjkfmihbmkbjfaaGreat
