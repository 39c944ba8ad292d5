/- The laws' functions that copy their arguments into new memory. -/
import Derived.Test.YtjkanhbnialmmaaDoorProg
import Derived.Test.YtjkanhbnialmmaaDoorTy
namespace Go.Proofs.YtjkanhbnialmmaaDoor
open Go.RowKit
open GoD (rd own)
set_option maxHeartbeats 1000000 in
theorem toValue_c (w : World) (ca : List Value) (a : ValueD) (ha : rd w ca a) (hsz : GoD.size a ≤ 1048576) : Calls Tryd.prog 13 #[.agg ca.toArray] w (RetA w a) := by
  obtain ⟨a1, a2, a3⟩ := a
  obtain ⟨ac1, at1, rfl, ar1, ac2, at2, rfl, ar2, ar3⟩ := ha
  obtain ⟨rfl, ar1⟩ := ar1
  obtain ⟨rfl, ar2⟩ := ar2
  obtain ⟨rfl, ar3⟩ := ar3
  dsimp only [List.cons_append, List.nil_append] at *
  replace hsz : (GoD.size a1 + (GoD.size a2 + GoD.size a3)) ≤ 1048576 := hsz
  have AR1H := Lib.hid ar1; clear ar1
  have AR2H := Lib.hid ar2; clear ar2
  have AR3H := Lib.hid ar3; clear ar3
  go_enter Tryd.func13, Tryd.ntmps13
  go_wp2
  refine bodyPost_ret (v := .agg #[.int .i64 a1, .int .i64 a2, .string a3]) (by simp [results, Tryd.results13, go_sem]) rfl ⟨[.int .i64 a1, .int .i64 a2, .string a3], ([] ++ ([] ++ [])), rfl, by go_grown, ?_, ?_⟩
  · exact (own_pair (own_i _ AR1H.out) (own_pair (own_i _ AR2H.out) (own_s _ AR3H.out) (by simp)) (by simp))
  · simp
end Go.Proofs.YtjkanhbnialmmaaDoor
