/- The law on AppendVersion, whatever its arguments. -/
import Derived.Test.YtjkfmihbmkbjfaaGreatReg
import Derived.Test.YtjkfmihbmkbjfaaGreatLPa
import Derived.Outline
namespace Go.Proofs.YtjkfmihbmkbjfaaGreat
open Go.RowKit
open GoD (rd own)
set_option maxRecDepth 100000 in
set_option maxHeartbeats 1000000 in
theorem bigAppendVersion (w : World) (v0 : Value) (a0 : (List VersionD)) (h0 : rd w [v0] a0) (a1 : Int) (h1 : I64 a1) (c2 : List Value) (a2 : SnapshotD) (h2 : rd w c2 a2) (hbig : ¬ (GoD.size a0 + GoD.size a2 ≤ 1048576)) : Calls Tryz.prog 6 #[v0, .int .i64 a1, .agg c2.toArray] w (Ret w (.bool true)) := by
  obtain ⟨p0_oa, p0_cp, rfl⟩ := slice_of_rd h0
  have hln0 := len_of_rd h0
  have HA0 := Lib.hid h0; clear h0
  have HA1 := Lib.hid h1; clear h1
  obtain ⟨p2_oa1, p2_cp1, p2_oa2, p2_cp2, p2_oa3, p2_cp3, rfl⟩ := cells_Snapshot h2
  have HA2 := Lib.hid h2; clear h2
  have tok1 : True := trivial
  have tok2 : True := trivial
  go_enter Tryz.func6, Tryz.ntmps6
  go_wp2_with (first | (go_at_call 19; have tk := tok1; clear tok1; refine call_sz (w := w) (szVersionS_c _ (.slice p0_oa a0.length p0_cp) a0 _ (rd_below HA0.out (by repeat (first | (with_reducible exact Below.refl _ _) | (with_reducible refine Below.alloc ?_ (by go_size) _) | (with_reducible refine Below.drew ?_)))) (by omega) (by omega)) (by repeat (first | (with_reducible exact Below.refl _ _) | (with_reducible refine Below.alloc ?_ (by go_size) _) | (with_reducible refine Below.drew ?_))) ?_; intro w1 r1 hB1 hb hz1 _ hr hs1; have HR1 := Lib.hid hr; clear hr; have hz2 := hb.size; (repeat (first | rewrite [World.size_alloc] at hz2 | rewrite [World.size_setCell] at hz2 | rewrite [World.size_drew] at hz2)); have c1_0 := fun o => bcell hb (w.heap.size) o (by go_size); have l1_0 : w.heap.size < w1.heap.size := (by go_size); have HB1 := Lib.hid hb; clear hb) | (go_at_call 29; have tk := tok2; clear tok2; refine call_sz (w := w) (szSnapshot_c _ [.slice p2_oa1 a2.1.1.length p2_cp1, .slice p2_oa2 a2.1.2.1.length p2_cp2, .int .i64 a2.1.2.2, .slice p2_oa3 a2.2.length p2_cp3] a2 _ (rd_below HA2.out (by repeat (first | (with_reducible exact Below.refl _ _) | (with_reducible refine below_call ?_ HB1.out (by go_size)) | (with_reducible refine Below.alloc ?_ (by go_size) _) | (with_reducible refine Below.drew ?_)))) (by omega) (by omega)) (by repeat (first | (with_reducible exact Below.refl _ _) | (with_reducible refine below_call ?_ HB1.out (by go_size)) | (with_reducible refine Below.alloc ?_ (by go_size) _) | (with_reducible refine Below.drew ?_))) ?_; intro w2 r2 hB2 hb hz2 _ hr hs2; have HR2 := Lib.hid hr; clear hr; have hz2 := hb.size; (repeat (first | rewrite [World.size_alloc] at hz2 | rewrite [World.size_setCell] at hz2 | rewrite [World.size_drew] at hz2)); have c2_0 := fun o => bcell hb (w.heap.size) o (by go_size); have l2_0 : w.heap.size < w2.heap.size := (by go_size); have HB2 := Lib.hid hb; clear hb) | (exfalso; have q1 := HR1.out; have q2 := HR2.out; apply hbig; unfold szq at *; omega))
  all_goals
    go_ret
    refine ⟨rfl, ?_⟩
    first | (with_reducible assumption) | go_grown
theorem lawsFnExactAppendVersion_true (a0 : (List VersionD)) (a1 : Int) (a2 : SnapshotD) : lawsFnExactAppendVersion a0 a1 a2 = true := by
  unfold lawsFnExactAppendVersion
  simp
theorem lawAppendVersion (w : World) (v0 : Value) (a0 : (List VersionD)) (h0 : rd w [v0] a0) (a1 : Int) (h1 : I64 a1) (c2 : List Value) (a2 : SnapshotD) (h2 : rd w c2 a2) : Calls Tryz.prog 6 #[v0, .int .i64 a1, .agg c2.toArray] w (Ret w (.bool true)) := by
  by_cases hbig : GoD.size a0 + GoD.size a2 ≤ 1048576
  · have h := (lawsFnExactAppendVersion_a a0 a1 a2).run (.cons (arg_sli h0 (GoE.wide_size (show GoD.size a0 ≤ 1073741824 by omega))) (.cons (arg_int h1) (.cons (arg_agg h2 (GoE.wide_size (show GoD.size a2 ≤ 1073741824 by omega))) .nil)))
    rw [lawsFnExactAppendVersion_true] at h
    exact h.mono fun _ _ h => ret_bool h
  · exact bigAppendVersion w v0 a0 h0 a1 h1 c2 a2 h2 hbig
end Go.Proofs.YtjkfmihbmkbjfaaGreat
