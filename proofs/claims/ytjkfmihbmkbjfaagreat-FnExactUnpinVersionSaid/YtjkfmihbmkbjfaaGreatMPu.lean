/- The law on UnpinVersion, whatever its arguments. -/
import Derived.Test.YtjkfmihbmkbjfaaGreatReg
import Derived.Test.YtjkfmihbmkbjfaaGreatLPu
import Derived.Outline
set_option linter.unusedVariables false
set_option linter.unusedSimpArgs false
namespace Go.Proofs.YtjkfmihbmkbjfaaGreat
open Go.RowKit
open GoD (rd own)
set_option maxRecDepth 100000 in
set_option maxHeartbeats 1000000 in
theorem bigUnpinVersion (w : World) (v0 : Value) (a0 : (List VersionD)) (h0 : rd w [v0] a0) (a1 : Int) (h1 : I64 a1) (hbig : ¬ (GoD.size a0 ≤ 1048576)) : Calls Tryz.prog 8 #[v0, .int .i64 a1] w (Ret w (.bool true)) := by
  obtain ⟨p0_oa, p0_cp, rfl⟩ := slice_of_rd h0
  have hln0 := len_of_rd h0
  have HA0 := Lib.hid h0; clear h0
  have HA1 := Lib.hid h1; clear h1
  have tok1 : True := trivial
  go_enter Tryz.func8, Tryz.ntmps8
  go_wp2_with (first | (go_at_call 19; have tk := tok1; clear tok1; refine call_sz (w := w) (szVersionS_c _ (.slice p0_oa a0.length p0_cp) a0 _ (rd_below HA0.out (by repeat (first | (with_reducible exact Below.refl _ _) | (with_reducible refine Below.alloc ?_ (by go_size) _) | (with_reducible refine Below.drew ?_)))) (by omega) (by omega)) (by repeat (first | (with_reducible exact Below.refl _ _) | (with_reducible refine Below.alloc ?_ (by go_size) _) | (with_reducible refine Below.drew ?_))) ?_; intro w1 r1 hB1 hb hz1 _ hr hs1; have HR1 := Lib.hid hr; clear hr; have hz2 := hb.size; (repeat (first | rewrite [World.size_alloc] at hz2 | rewrite [World.size_setCell] at hz2 | rewrite [World.size_drew] at hz2)); have HB1 := Lib.hid hb; clear hb) | (exfalso; have q1 := HR1.out; apply hbig; unfold szq at *; omega))
  all_goals
    go_ret
    refine ⟨rfl, ?_⟩
    first | (with_reducible assumption) | go_grown
theorem lawsFnExactUnpinVersion_true (a0 : (List VersionD)) (a1 : Int) : lawsFnExactUnpinVersion a0 a1 = true := by
  unfold lawsFnExactUnpinVersion
  simp
theorem lawUnpinVersion (w : World) (v0 : Value) (a0 : (List VersionD)) (h0 : rd w [v0] a0) (a1 : Int) (h1 : I64 a1) : Calls Tryz.prog 8 #[v0, .int .i64 a1] w (Ret w (.bool true)) := by
  by_cases hbig : GoD.size a0 ≤ 1048576
  · have h := (lawsFnExactUnpinVersion_a a0 a1).run (.cons (arg_sli h0 (GoE.wide_size (show GoD.size a0 ≤ 1073741824 by omega))) (.cons (arg_int h1) .nil))
    rw [lawsFnExactUnpinVersion_true] at h
    exact h.mono fun _ _ h => ret_bool h
  · exact bigUnpinVersion w v0 a0 h0 a1 h1 hbig
end Go.Proofs.YtjkfmihbmkbjfaaGreat
