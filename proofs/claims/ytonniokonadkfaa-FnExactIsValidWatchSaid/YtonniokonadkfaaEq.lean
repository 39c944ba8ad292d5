/- The laws' functions that compare. -/
import Derived.Test.YtonniokonadkfaaProg
import Derived.Test.YtonniokonadkfaaTy
namespace Go.Proofs.Ytonniokonadkfaa
open Go.RowKit
open GoD (rd own)
set_option maxHeartbeats 1000000 in
theorem eqIntS_c (w : World) (sa sb : Value) (la lb : List Int) (ha : rd w [sa] la) (hb : rd w [sb] lb) : Calls Try.prog 12 #[sa, sb] w (Ret w (.bool (eqb la lb))) := by
  obtain ⟨oa, capa, e1, hl1, hm1, hel1⟩ := ha
  obtain ⟨ob, capb, e2, hl2, hm2, hel2⟩ := hb
  obtain rfl : sa = _ := by simpa using e1
  obtain rfl : sb = _ := by simpa using e2
  clear e1 e2
  have HE1 := Lib.hid hel1; clear hel1
  have HE2 := Lib.hid hel2; clear hel2
  unfold maxLen at hm1 hm2
  have hma : la.length ≤ 9223372036854775807 := by omega
  have hmb : lb.length ≤ 9223372036854775807 := by omega
  by_cases hlen : la.length = lb.length
  · have hne : ((la.length : Int) != (lb.length : Int)) = false := by simp [hlen]
    generalize hr : eqb la lb = r
    have Hr := Lib.hid hr; clear hr
    have Hlen := Lib.hid hlen; clear hlen
    have es := eqb_str
    go_enter Try.func12, Try.ntmps12
    go_wp2
    go_loopw [5] (fun i wr => ∃ k : Nat, k ≤ la.length ∧ i = .int .i64 k ∧ Hid (la.take k = lb.take k) ∧ Below w.heap.size w wr) (fun i _ => la.length - (intOf i).toNat)
    case atStart => exact ⟨0, Nat.zero_le _, rfl, rfl, Below.refl _ _⟩
    case round =>
      obtain ⟨k, hk, rfl, htk, hB⟩ := hrel
      by_cases hlt : k < la.length
      · have hltb : k < lb.length := by have := Hlen.out; omega
        obtain ⟨ba, fa, ea, rfl, hla, hca, hra⟩ := HE1.out k _ (List.getElem?_eq_getElem hlt)
        obtain ⟨bb, fb, eb, rfl, hlb, hcb, hrb⟩ := HE2.out k _ (List.getElem?_eq_getElem hltb)
        have Hno := Lib.hid (eqS_no (List.getElem?_eq_getElem hlt) (List.getElem?_eq_getElem hltb))
        have Hyes := Lib.hid (eqS_step htk.out (List.getElem?_eq_getElem hlt) (List.getElem?_eq_getElem hltb))
        generalize la[k] = xa at *
        generalize lb[k] = xb at *
        obtain ⟨x0, rfl⟩ := len1 (show _ = 1 from hla)
        obtain ⟨y0, rfl⟩ := len1 (show _ = 1 from hlb)
        have e3 : x0 = .int .i64 xa := by rcases hra with ⟨e, _⟩; simpa using e
        have e4 : y0 = .int .i64 xb := by rcases hrb with ⟨e, _⟩; simpa using e
        subst e3 e4
        have qba0 : w.cell? ⟨ba, fa + k, none⟩ = some _ := (by simpa [GoD.n] using hca 0 _ rfl)
        have pba0 := fun d os => cell_regrown ((hB.cell (World.block_lt_of_cell? w _ qba0)).trans qba0) d os
        clear qba0
        have qbb0 : w.cell? ⟨bb, fb + k, none⟩ = some _ := (by simpa [GoD.n] using hcb 0 _ rfl)
        have pbb0 := fun d os => cell_regrown ((hB.cell (World.block_lt_of_cell? w _ qbb0)).trans qbb0) d os
        clear qbb0
        clear hca hcb hra hrb hla hlb
        go_wp2
        refine wp_region_quiet_below (by kernel_rfl) (by kernel_rfl) ?_
        repeat (quiet_step (fail))
        refine wpQuiet_nil ?_
        intro _ hw'
        obtain ⟨⟨dq, osq⟩, hw''⟩ := hw'
        subst hw''
        have hB2 := hB.trans ((below_regrown wr dq osq).mono hB.size)
        go_wp2
        · go_ret
          obtain rfl : r = false := Hr.out.symm.trans (Hno.out (by go_light; clear es; simp_all [eqb_int, eqb_bool]))
          exact ⟨rfl, hB2⟩
        · go_roundw
          case rel => exact ⟨k + 1, by omega, by go_num, Hyes.out (by go_light; clear es; simp_all [eqb_int, eqb_bool]), hB2⟩
          case measure => simp [intOf]; omega
      · obtain rfl : k = la.length := by omega
        have Hy := Lib.hid (eqS_end htk.out (by have := Hlen.out; omega))
        go_wp2
        go_ret
        obtain rfl : r = true := Hr.out.symm.trans Hy.out
        exact ⟨rfl, hB⟩
  · have hne : ((la.length : Int) != (lb.length : Int)) = true := by simp; omega
    generalize hr : eqb la lb = r
    have Hr := Lib.hid hr; clear hr
    have Hn := Lib.hid (eqS_len hlen); clear hlen
    go_enter Try.func12, Try.ntmps12
    go_wp2
    go_ret
    obtain rfl : r = false := Hr.out.symm.trans Hn.out
    exact ⟨rfl, Below.refl _ _⟩

set_option maxHeartbeats 1000000 in
theorem eqEvent_c (w : World) (ca cb : List Value) (a b : EventD) (ha : rd w ca a) (hb : rd w cb b) : Calls Try.prog 32 #[.agg ca.toArray, .agg cb.toArray] w (Ret w (.bool (eqb a b))) := by
  obtain ⟨a1, a2, a3⟩ := a
  obtain ⟨ac1, at1, rfl, ar1, ac2, at2, rfl, ar2, ar3⟩ := ha
  obtain ⟨rfl, ar1⟩ := ar1
  obtain ⟨ax2_0, rfl⟩ := len1 (show _ = 1 from GoD.rd_len ar2)
  obtain ⟨ax3_0, rfl⟩ := len1 (show _ = 1 from GoD.rd_len ar3)
  obtain ⟨b1, b2, b3⟩ := b
  obtain ⟨bc1, bt1, rfl, br1, bc2, bt2, rfl, br2, br3⟩ := hb
  obtain ⟨rfl, br1⟩ := br1
  obtain ⟨bx2_0, rfl⟩ := len1 (show _ = 1 from GoD.rd_len br2)
  obtain ⟨bx3_0, rfl⟩ := len1 (show _ = 1 from GoD.rd_len br3)
  dsimp only [List.cons_append, List.nil_append] at *
  generalize hr : eqb (a1, a2, a3) (b1, b2, b3) = r
  have Hr := Lib.hid hr; clear hr
  have es := eqb_str
  clear ar1 br1
  have AR2H := Lib.hid ar2; clear ar2
  have BR2H := Lib.hid br2; clear br2
  have AR3H := Lib.hid ar3; clear ar3
  have BR3H := Lib.hid br3; clear br3
  have tok1 : True := trivial
  have tok2 : True := trivial
  go_enter Try.func32, Try.ntmps32
  go_wp2_with (first | (go_at_call 12; have tk := tok1; clear tok1; (refine call_ret (w := w) (eqIntS_c _ ax2_0 bx2_0 a2 b2 (rd_below AR2H.out (by go_grown)) (rd_below BR2H.out (by go_grown))) (by go_grown) ?_; intro w' hB hb hz hz2; (repeat (first | rewrite [World.size_alloc] at hz2 | rewrite [World.size_setCell] at hz2 | rewrite [World.size_drew] at hz2)); have c0 := fun o => bcell hb (w.heap.size) o (by go_size); have c1 := fun o => bcell hb (w.heap.size + 1) o (by go_size))) | (go_at_call 12; have tk := tok2; clear tok2; (refine call_ret (w := w) (eqIntS_c _ ax3_0 bx3_0 a3 b3 (rd_below AR3H.out (by go_grown)) (rd_below BR3H.out (by go_grown))) (by go_grown) ?_; intro w' hB hb hz hz2; (repeat (first | rewrite [World.size_alloc] at hz2 | rewrite [World.size_setCell] at hz2 | rewrite [World.size_drew] at hz2)); have c0 := fun o => bcell hb (w.heap.size) o (by go_size); have c1 := fun o => bcell hb (w.heap.size + 1) o (by go_size))))
  all_goals
    go_ret
    refine ⟨?_, by go_grown⟩
    rw [← Hr.out]
    go_light
    clear es
    simp_all [eqb_prod, eqb_int, eqb_bool]

set_option maxHeartbeats 1000000 in
theorem eqEventS_c (w : World) (sa sb : Value) (la lb : List EventD) (ha : rd w [sa] la) (hb : rd w [sb] lb) : Calls Try.prog 13 #[sa, sb] w (Ret w (.bool (eqb la lb))) := by
  obtain ⟨oa, capa, e1, hl1, hm1, hel1⟩ := ha
  obtain ⟨ob, capb, e2, hl2, hm2, hel2⟩ := hb
  obtain rfl : sa = _ := by simpa using e1
  obtain rfl : sb = _ := by simpa using e2
  clear e1 e2
  have HE1 := Lib.hid hel1; clear hel1
  have HE2 := Lib.hid hel2; clear hel2
  unfold maxLen at hm1 hm2
  have hma : la.length ≤ 9223372036854775807 := by omega
  have hmb : lb.length ≤ 9223372036854775807 := by omega
  by_cases hlen : la.length = lb.length
  · have hne : ((la.length : Int) != (lb.length : Int)) = false := by simp [hlen]
    generalize hr : eqb la lb = r
    have Hr := Lib.hid hr; clear hr
    have Hlen := Lib.hid hlen; clear hlen
    have es := eqb_str
    go_enter Try.func13, Try.ntmps13
    go_wp2
    go_loopw [5] (fun i wr => ∃ k : Nat, k ≤ la.length ∧ i = .int .i64 k ∧ Hid (la.take k = lb.take k) ∧ Below w.heap.size w wr) (fun i _ => la.length - (intOf i).toNat)
    case atStart => exact ⟨0, Nat.zero_le _, rfl, rfl, Below.refl _ _⟩
    case round =>
      obtain ⟨k, hk, rfl, htk, hB⟩ := hrel
      by_cases hlt : k < la.length
      · have hltb : k < lb.length := by have := Hlen.out; omega
        obtain ⟨ba, fa, ea, rfl, hla, hca, hra⟩ := HE1.out k _ (List.getElem?_eq_getElem hlt)
        obtain ⟨bb, fb, eb, rfl, hlb, hcb, hrb⟩ := HE2.out k _ (List.getElem?_eq_getElem hltb)
        have Hno := Lib.hid (eqS_no (List.getElem?_eq_getElem hlt) (List.getElem?_eq_getElem hltb))
        have Hyes := Lib.hid (eqS_step htk.out (List.getElem?_eq_getElem hlt) (List.getElem?_eq_getElem hltb))
        generalize la[k] = xa at *
        generalize lb[k] = xb at *
        obtain ⟨x0, x1, x2, rfl⟩ := len3 (show _ = 3 from hla)
        obtain ⟨y0, y1, y2, rfl⟩ := len3 (show _ = 3 from hlb)
        have qba0 : w.cell? ⟨ba, fa + k * 3, none⟩ = some _ := hca 0 _ rfl
        have pba0 := fun d os => cell_regrown ((hB.cell (World.block_lt_of_cell? w _ qba0)).trans qba0) d os
        clear qba0
        have qba1 : w.cell? ⟨ba, fa + k * 3 + 1, none⟩ = some _ := hca 1 _ rfl
        have pba1 := fun d os => cell_regrown ((hB.cell (World.block_lt_of_cell? w _ qba1)).trans qba1) d os
        clear qba1
        have qba2 : w.cell? ⟨ba, fa + k * 3 + 2, none⟩ = some _ := hca 2 _ rfl
        have pba2 := fun d os => cell_regrown ((hB.cell (World.block_lt_of_cell? w _ qba2)).trans qba2) d os
        clear qba2
        have qbb0 : w.cell? ⟨bb, fb + k * 3, none⟩ = some _ := hcb 0 _ rfl
        have pbb0 := fun d os => cell_regrown ((hB.cell (World.block_lt_of_cell? w _ qbb0)).trans qbb0) d os
        clear qbb0
        have qbb1 : w.cell? ⟨bb, fb + k * 3 + 1, none⟩ = some _ := hcb 1 _ rfl
        have pbb1 := fun d os => cell_regrown ((hB.cell (World.block_lt_of_cell? w _ qbb1)).trans qbb1) d os
        clear qbb1
        have qbb2 : w.cell? ⟨bb, fb + k * 3 + 2, none⟩ = some _ := hcb 2 _ rfl
        have pbb2 := fun d os => cell_regrown ((hB.cell (World.block_lt_of_cell? w _ qbb2)).trans qbb2) d os
        clear qbb2
        have ra := fun d os => rd_below (rd_below hra hB) (below_regrown wr d os)
        have rb := fun d os => rd_below (rd_below hrb hB) (below_regrown wr d os)
        have Ra := Lib.hid ra
        have Rb := Lib.hid rb
        clear ra rb
        clear hca hcb hra hrb hla hlb
        go_wp2
        refine wp_region_quiet_below (by kernel_rfl) (by kernel_rfl) ?_
        repeat (quiet_step (exact Calls.regrown_of (eqEvent_c _ [x0, x1, x2] [y0, y1, y2] xa xb (Ra.out _ _) (Rb.out _ _))))
        refine wpQuiet_nil ?_
        intro _ hw'
        obtain ⟨⟨dq, osq⟩, hw''⟩ := hw'
        subst hw''
        have hB2 := hB.trans ((below_regrown wr dq osq).mono hB.size)
        go_wp2
        · go_ret
          obtain rfl : r = false := Hr.out.symm.trans (Hno.out (by go_light; clear es; simp_all [eqb_int, eqb_bool]))
          exact ⟨rfl, hB2⟩
        · go_roundw
          case rel => exact ⟨k + 1, by omega, by go_num, Hyes.out (by go_light; clear es; simp_all [eqb_int, eqb_bool]), hB2⟩
          case measure => simp [intOf]; omega
      · obtain rfl : k = la.length := by omega
        have Hy := Lib.hid (eqS_end htk.out (by have := Hlen.out; omega))
        go_wp2
        go_ret
        obtain rfl : r = true := Hr.out.symm.trans Hy.out
        exact ⟨rfl, hB⟩
  · have hne : ((la.length : Int) != (lb.length : Int)) = true := by simp; omega
    generalize hr : eqb la lb = r
    have Hr := Lib.hid hr; clear hr
    have Hn := Lib.hid (eqS_len hlen); clear hlen
    go_enter Try.func13, Try.ntmps13
    go_wp2
    go_ret
    obtain rfl : r = false := Hr.out.symm.trans Hn.out
    exact ⟨rfl, Below.refl _ _⟩

set_option maxHeartbeats 1000000 in
theorem eqWatch_c (w : World) (ca cb : List Value) (a b : WatchD) (ha : rd w ca a) (hb : rd w cb b) : Calls Try.prog 21 #[.agg ca.toArray, .agg cb.toArray] w (Ret w (.bool (eqb a b))) := by
  obtain ⟨a1, a2, a3, a4⟩ := a
  obtain ⟨ac1, at1, rfl, ar1, ac2, at2, rfl, ar2, ac3, at3, rfl, ar3, ar4⟩ := ha
  obtain ⟨rfl, ar1⟩ := ar1
  obtain ⟨rfl, ar2⟩ := ar2
  obtain ⟨ax3_0, rfl⟩ := len1 (show _ = 1 from GoD.rd_len ar3)
  obtain ⟨ax4_0, rfl⟩ := len1 (show _ = 1 from GoD.rd_len ar4)
  obtain ⟨b1, b2, b3, b4⟩ := b
  obtain ⟨bc1, bt1, rfl, br1, bc2, bt2, rfl, br2, bc3, bt3, rfl, br3, br4⟩ := hb
  obtain ⟨rfl, br1⟩ := br1
  obtain ⟨rfl, br2⟩ := br2
  obtain ⟨bx3_0, rfl⟩ := len1 (show _ = 1 from GoD.rd_len br3)
  obtain ⟨bx4_0, rfl⟩ := len1 (show _ = 1 from GoD.rd_len br4)
  dsimp only [List.cons_append, List.nil_append] at *
  generalize hr : eqb (a1, a2, a3, a4) (b1, b2, b3, b4) = r
  have Hr := Lib.hid hr; clear hr
  have es := eqb_str
  clear ar1 br1
  clear ar2 br2
  have AR3H := Lib.hid ar3; clear ar3
  have BR3H := Lib.hid br3; clear br3
  have AR4H := Lib.hid ar4; clear ar4
  have BR4H := Lib.hid br4; clear br4
  have tok1 : True := trivial
  have tok2 : True := trivial
  go_enter Try.func21, Try.ntmps21
  go_wp2_with (first | (go_at_call 12; have tk := tok1; clear tok1; (refine call_ret (w := w) (eqIntS_c _ ax3_0 bx3_0 a3 b3 (rd_below AR3H.out (by go_grown)) (rd_below BR3H.out (by go_grown))) (by go_grown) ?_; intro w' hB hb hz hz2; (repeat (first | rewrite [World.size_alloc] at hz2 | rewrite [World.size_setCell] at hz2 | rewrite [World.size_drew] at hz2)); have c0 := fun o => bcell hb (w.heap.size) o (by go_size); have c1 := fun o => bcell hb (w.heap.size + 1) o (by go_size))) | (go_at_call 13; have tk := tok2; clear tok2; (refine call_ret (w := w) (eqEventS_c _ ax4_0 bx4_0 a4 b4 (rd_below AR4H.out (by go_grown)) (rd_below BR4H.out (by go_grown))) (by go_grown) ?_; intro w' hB hb hz hz2; (repeat (first | rewrite [World.size_alloc] at hz2 | rewrite [World.size_setCell] at hz2 | rewrite [World.size_drew] at hz2)); have c0 := fun o => bcell hb (w.heap.size) o (by go_size); have c1 := fun o => bcell hb (w.heap.size + 1) o (by go_size))))
  all_goals
    go_ret
    refine ⟨?_, by go_grown⟩
    rw [← Hr.out]
    go_light
    clear es
    simp_all [eqb_prod, eqb_int, eqb_bool]
end Go.Proofs.Ytonniokonadkfaa
