/- The laws' functions that compare. -/
import Derived.Test.YtjkanhbnialmmaaDoorProg
import Derived.Test.YtjkanhbnialmmaaDoorTy
namespace Go.Proofs.YtjkanhbnialmmaaDoor
open Go.RowKit
open GoD (rd own)
set_option maxHeartbeats 1000000 in
theorem eqValue_c (w : World) (ca cb : List Value) (a b : ValueD) (ha : rd w ca a) (hb : rd w cb b) : Calls Tryd.prog 15 #[.agg ca.toArray, .agg cb.toArray] w (Ret w (.bool (eqb a b))) := by
  obtain ⟨a1, a2, a3⟩ := a
  obtain ⟨ac1, at1, rfl, ar1, ac2, at2, rfl, ar2, ar3⟩ := ha
  obtain ⟨rfl, ar1⟩ := ar1
  obtain ⟨rfl, ar2⟩ := ar2
  obtain ⟨rfl, ar3⟩ := ar3
  obtain ⟨b1, b2, b3⟩ := b
  obtain ⟨bc1, bt1, rfl, br1, bc2, bt2, rfl, br2, br3⟩ := hb
  obtain ⟨rfl, br1⟩ := br1
  obtain ⟨rfl, br2⟩ := br2
  obtain ⟨rfl, br3⟩ := br3
  dsimp only [List.cons_append, List.nil_append] at *
  generalize hr : eqb (a1, a2, a3) (b1, b2, b3) = r
  have Hr := Lib.hid hr; clear hr
  have es := eqb_str
  clear ar1 br1
  clear ar2 br2
  clear ar3 br3
  go_enter Tryd.func15, Tryd.ntmps15
  go_wp2
  all_goals
    go_ret
    refine ⟨?_, by go_grown⟩
    rw [← Hr.out]
    go_light
    clear es
    simp_all [eqb_prod, eqb_int, eqb_bool]
end Go.Proofs.YtjkanhbnialmmaaDoor
