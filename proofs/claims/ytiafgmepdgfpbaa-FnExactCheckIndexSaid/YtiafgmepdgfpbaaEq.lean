/- The laws' functions that compare. -/
import Derived.Test.YtiafgmepdgfpbaaProg
import Derived.Test.YtiafgmepdgfpbaaTy
set_option linter.unusedVariables false
set_option linter.unusedSimpArgs false
namespace Go.Proofs.Ytiafgmepdgfpbaa
open Go.RowKit
open GoD (rd own)
set_option maxHeartbeats 1000000 in
theorem eqValue_c (w : World) (ca cb : List Value) (a b : ValueD) (ha : rd w ca a) (hb : rd w cb b) : Calls Try.prog 93 #[.agg ca.toArray, .agg cb.toArray] w (Ret w (.bool (eqb a b))) := by
  obtain ⟨a1, a2, a3⟩ := a
  obtain ⟨ac1, at1, rfl, ar1, ac2, at2, rfl, ar2, ar3⟩ := ha
  obtain ⟨rfl, ar1⟩ := ar1
  obtain ⟨rfl, ar2⟩ := ar2
  obtain ⟨rfl, ar3⟩ := ar3
  obtain ⟨b1, b2, b3⟩ := b
  obtain ⟨bc1, bt1, rfl, br1, bc2, bt2, rfl, br2, br3⟩ := hb
  obtain ⟨rfl, br1⟩ := br1
  obtain ⟨rfl, br2⟩ := br2
  obtain ⟨rfl, br3⟩ := br3
  dsimp only [List.cons_append, List.nil_append] at *
  generalize hr : eqb (a1, a2, a3) (b1, b2, b3) = r
  have Hr := Lib.hid hr; clear hr
  have es := eqb_str
  clear ar1 br1
  clear ar2 br2
  clear ar3 br3
  go_enter Try.func93, Try.ntmps93
  go_wp2
  all_goals
    go_ret
    refine ⟨?_, by go_grown⟩
    rw [← Hr.out]
    go_light
    clear es
    simp_all [eqb_prod, eqb_int, eqb_bool]
set_option maxHeartbeats 1000000 in
theorem eqAttr_c (w : World) (ca cb : List Value) (a b : AttrD) (ha : rd w ca a) (hb : rd w cb b) : Calls Try.prog 117 #[.agg ca.toArray, .agg cb.toArray] w (Ret w (.bool (eqb a b))) := by
  obtain ⟨a1, a2⟩ := a
  obtain ⟨ac1, at1, rfl, ar1, ar2⟩ := ha
  obtain ⟨rfl, ar1⟩ := ar1
  obtain ⟨ax2_0, ax2_1, ax2_2, rfl⟩ := len3 (show _ = 3 from GoD.rd_len ar2)
  obtain ⟨b1, b2⟩ := b
  obtain ⟨bc1, bt1, rfl, br1, br2⟩ := hb
  obtain ⟨rfl, br1⟩ := br1
  obtain ⟨bx2_0, bx2_1, bx2_2, rfl⟩ := len3 (show _ = 3 from GoD.rd_len br2)
  dsimp only [List.cons_append, List.nil_append] at *
  generalize hr : eqb (a1, a2) (b1, b2) = r
  have Hr := Lib.hid hr; clear hr
  have es := eqb_str
  clear ar1 br1
  have AR2H := Lib.hid ar2; clear ar2
  have BR2H := Lib.hid br2; clear br2
  have tok1 : True := trivial
  go_enter Try.func117, Try.ntmps117
  go_wp2_with (first | (go_at_call 93; have tk := tok1; clear tok1; (refine call_ret (w := w) (eqValue_c _ [ax2_0, ax2_1, ax2_2] [bx2_0, bx2_1, bx2_2] a2 b2 (rd_below AR2H.out (by go_grown)) (rd_below BR2H.out (by go_grown))) (by go_grown) ?_; intro w' hB hb hz hz2; (repeat (first | rewrite [World.size_alloc] at hz2 | rewrite [World.size_setCell] at hz2 | rewrite [World.size_drew] at hz2)); have c0 := fun o => bcell hb (w.heap.size) o (by go_size); have c1 := fun o => bcell hb (w.heap.size + 1) o (by go_size))))
  all_goals
    go_ret
    refine ⟨?_, by go_grown⟩
    rw [← Hr.out]
    go_light
    clear es
    simp_all [eqb_prod, eqb_int, eqb_bool]
set_option maxHeartbeats 1000000 in
theorem eqAttrS_c (w : World) (sa sb : Value) (la lb : List AttrD) (ha : rd w [sa] la) (hb : rd w [sb] lb) : Calls Try.prog 108 #[sa, sb] w (Ret w (.bool (eqb la lb))) := by
  obtain ⟨oa, capa, e1, hl1, hm1, hel1⟩ := ha
  obtain ⟨ob, capb, e2, hl2, hm2, hel2⟩ := hb
  obtain rfl : sa = _ := by simpa using e1
  obtain rfl : sb = _ := by simpa using e2
  clear e1 e2
  have HE1 := Lib.hid hel1; clear hel1
  have HE2 := Lib.hid hel2; clear hel2
  unfold maxLen at hm1 hm2
  have hma : la.length ≤ 9223372036854775807 := by omega
  have hmb : lb.length ≤ 9223372036854775807 := by omega
  by_cases hlen : la.length = lb.length
  · have hne : ((la.length : Int) != (lb.length : Int)) = false := by simp [hlen]
    generalize hr : eqb la lb = r
    have Hr := Lib.hid hr; clear hr
    have Hlen := Lib.hid hlen; clear hlen
    have es := eqb_str
    go_enter Try.func108, Try.ntmps108
    go_wp2
    go_loopw [5] (fun i wr => ∃ k : Nat, k ≤ la.length ∧ i = .int .i64 k ∧ Hid (la.take k = lb.take k) ∧ Below w.heap.size w wr) (fun i _ => la.length - (intOf i).toNat)
    case atStart => exact ⟨0, Nat.zero_le _, rfl, rfl, Below.refl _ _⟩
    case round =>
      obtain ⟨k, hk, rfl, htk, hB⟩ := hrel
      by_cases hlt : k < la.length
      · have hltb : k < lb.length := by have := Hlen.out; omega
        obtain ⟨ba, fa, ea, rfl, hla, hca, hra⟩ := HE1.out k _ (List.getElem?_eq_getElem hlt)
        obtain ⟨bb, fb, eb, rfl, hlb, hcb, hrb⟩ := HE2.out k _ (List.getElem?_eq_getElem hltb)
        have Hno := Lib.hid (eqS_no (List.getElem?_eq_getElem hlt) (List.getElem?_eq_getElem hltb))
        have Hyes := Lib.hid (eqS_step htk.out (List.getElem?_eq_getElem hlt) (List.getElem?_eq_getElem hltb))
        generalize la[k] = xa at *
        generalize lb[k] = xb at *
        obtain ⟨x0, x1, x2, x3, rfl⟩ := len4 (show _ = 4 from hla)
        obtain ⟨y0, y1, y2, y3, rfl⟩ := len4 (show _ = 4 from hlb)
        have qba0 : w.cell? ⟨ba, fa + k * 4, none⟩ = some _ := hca 0 _ rfl
        have pba0 := fun d os => cell_regrown ((hB.cell (World.block_lt_of_cell? w _ qba0)).trans qba0) d os
        clear qba0
        have qba1 : w.cell? ⟨ba, fa + k * 4 + 1, none⟩ = some _ := hca 1 _ rfl
        have pba1 := fun d os => cell_regrown ((hB.cell (World.block_lt_of_cell? w _ qba1)).trans qba1) d os
        clear qba1
        have qba2 : w.cell? ⟨ba, fa + k * 4 + 2, none⟩ = some _ := hca 2 _ rfl
        have pba2 := fun d os => cell_regrown ((hB.cell (World.block_lt_of_cell? w _ qba2)).trans qba2) d os
        clear qba2
        have qba3 : w.cell? ⟨ba, fa + k * 4 + 3, none⟩ = some _ := hca 3 _ rfl
        have pba3 := fun d os => cell_regrown ((hB.cell (World.block_lt_of_cell? w _ qba3)).trans qba3) d os
        clear qba3
        have qbb0 : w.cell? ⟨bb, fb + k * 4, none⟩ = some _ := hcb 0 _ rfl
        have pbb0 := fun d os => cell_regrown ((hB.cell (World.block_lt_of_cell? w _ qbb0)).trans qbb0) d os
        clear qbb0
        have qbb1 : w.cell? ⟨bb, fb + k * 4 + 1, none⟩ = some _ := hcb 1 _ rfl
        have pbb1 := fun d os => cell_regrown ((hB.cell (World.block_lt_of_cell? w _ qbb1)).trans qbb1) d os
        clear qbb1
        have qbb2 : w.cell? ⟨bb, fb + k * 4 + 2, none⟩ = some _ := hcb 2 _ rfl
        have pbb2 := fun d os => cell_regrown ((hB.cell (World.block_lt_of_cell? w _ qbb2)).trans qbb2) d os
        clear qbb2
        have qbb3 : w.cell? ⟨bb, fb + k * 4 + 3, none⟩ = some _ := hcb 3 _ rfl
        have pbb3 := fun d os => cell_regrown ((hB.cell (World.block_lt_of_cell? w _ qbb3)).trans qbb3) d os
        clear qbb3
        have ra := fun d os => rd_below (rd_below hra hB) (below_regrown wr d os)
        have rb := fun d os => rd_below (rd_below hrb hB) (below_regrown wr d os)
        have Ra := Lib.hid ra
        have Rb := Lib.hid rb
        clear ra rb
        clear hca hcb hra hrb hla hlb
        go_wp2
        refine wp_region_quiet_below (by kernel_rfl) (by kernel_rfl) ?_
        repeat (quiet_step (exact Calls.regrown_of (eqAttr_c _ [x0, x1, x2, x3] [y0, y1, y2, y3] xa xb (Ra.out _ _) (Rb.out _ _))))
        refine wpQuiet_nil ?_
        intro _ hw'
        obtain ⟨⟨dq, osq⟩, hw''⟩ := hw'
        subst hw''
        have hB2 := hB.trans ((below_regrown wr dq osq).mono hB.size)
        go_wp2
        · go_ret
          obtain rfl : r = false := Hr.out.symm.trans (Hno.out (by go_light; clear es; simp_all [eqb_int, eqb_bool]))
          exact ⟨rfl, hB2⟩
        · go_roundw
          case rel => exact ⟨k + 1, by omega, by go_num, Hyes.out (by go_light; clear es; simp_all [eqb_int, eqb_bool]), hB2⟩
          case measure => simp [intOf]; omega
      · obtain rfl : k = la.length := by omega
        have Hy := Lib.hid (eqS_end htk.out (by have := Hlen.out; omega))
        go_wp2
        go_ret
        obtain rfl : r = true := Hr.out.symm.trans Hy.out
        exact ⟨rfl, hB⟩
  · have hne : ((la.length : Int) != (lb.length : Int)) = true := by simp; omega
    generalize hr : eqb la lb = r
    have Hr := Lib.hid hr; clear hr
    have Hn := Lib.hid (eqS_len hlen); clear hlen
    go_enter Try.func108, Try.ntmps108
    go_wp2
    go_ret
    obtain rfl : r = false := Hr.out.symm.trans Hn.out
    exact ⟨rfl, Below.refl _ _⟩
set_option maxHeartbeats 1000000 in
theorem eqFile_c (w : World) (ca cb : List Value) (a b : FileD) (ha : rd w ca a) (hb : rd w cb b) : Calls Try.prog 92 #[.agg ca.toArray, .agg cb.toArray] w (Ret w (.bool (eqb a b))) := by
  obtain ⟨a1, a2, a3, a4, a5⟩ := a
  obtain ⟨ac1, at1, rfl, ar1, ac2, at2, rfl, ar2, ac3, at3, rfl, ar3, ac4, at4, rfl, ar4, ar5⟩ := ha
  obtain ⟨rfl, ar1⟩ := ar1
  obtain ⟨rfl, ar2⟩ := ar2
  obtain rfl := ar3
  obtain ⟨rfl, ar4⟩ := ar4
  obtain ⟨ax5_0, rfl⟩ := len1 (show _ = 1 from GoD.rd_len ar5)
  obtain ⟨b1, b2, b3, b4, b5⟩ := b
  obtain ⟨bc1, bt1, rfl, br1, bc2, bt2, rfl, br2, bc3, bt3, rfl, br3, bc4, bt4, rfl, br4, br5⟩ := hb
  obtain ⟨rfl, br1⟩ := br1
  obtain ⟨rfl, br2⟩ := br2
  obtain rfl := br3
  obtain ⟨rfl, br4⟩ := br4
  obtain ⟨bx5_0, rfl⟩ := len1 (show _ = 1 from GoD.rd_len br5)
  dsimp only [List.cons_append, List.nil_append] at *
  generalize hr : eqb (a1, a2, a3, a4, a5) (b1, b2, b3, b4, b5) = r
  have Hr := Lib.hid hr; clear hr
  have es := eqb_str
  clear ar1 br1
  clear ar2 br2
  clear ar4 br4
  have AR5H := Lib.hid ar5; clear ar5
  have BR5H := Lib.hid br5; clear br5
  have tok1 : True := trivial
  go_enter Try.func92, Try.ntmps92
  go_wp2_with (first | (go_at_call 108; have tk := tok1; clear tok1; (refine call_ret (w := w) (eqAttrS_c _ ax5_0 bx5_0 a5 b5 (rd_below AR5H.out (by go_grown)) (rd_below BR5H.out (by go_grown))) (by go_grown) ?_; intro w' hB hb hz hz2; (repeat (first | rewrite [World.size_alloc] at hz2 | rewrite [World.size_setCell] at hz2 | rewrite [World.size_drew] at hz2)); have c0 := fun o => bcell hb (w.heap.size) o (by go_size); have c1 := fun o => bcell hb (w.heap.size + 1) o (by go_size))))
  all_goals
    go_ret
    refine ⟨?_, by go_grown⟩
    rw [← Hr.out]
    go_light
    clear es
    simp_all [eqb_prod, eqb_int, eqb_bool]
set_option maxHeartbeats 1000000 in
theorem eqFileS_c (w : World) (sa sb : Value) (la lb : List FileD) (ha : rd w [sa] la) (hb : rd w [sb] lb) : Calls Try.prog 51 #[sa, sb] w (Ret w (.bool (eqb la lb))) := by
  obtain ⟨oa, capa, e1, hl1, hm1, hel1⟩ := ha
  obtain ⟨ob, capb, e2, hl2, hm2, hel2⟩ := hb
  obtain rfl : sa = _ := by simpa using e1
  obtain rfl : sb = _ := by simpa using e2
  clear e1 e2
  have HE1 := Lib.hid hel1; clear hel1
  have HE2 := Lib.hid hel2; clear hel2
  unfold maxLen at hm1 hm2
  have hma : la.length ≤ 9223372036854775807 := by omega
  have hmb : lb.length ≤ 9223372036854775807 := by omega
  by_cases hlen : la.length = lb.length
  · have hne : ((la.length : Int) != (lb.length : Int)) = false := by simp [hlen]
    generalize hr : eqb la lb = r
    have Hr := Lib.hid hr; clear hr
    have Hlen := Lib.hid hlen; clear hlen
    have es := eqb_str
    go_enter Try.func51, Try.ntmps51
    go_wp2
    go_loopw [5] (fun i wr => ∃ k : Nat, k ≤ la.length ∧ i = .int .i64 k ∧ Hid (la.take k = lb.take k) ∧ Below w.heap.size w wr) (fun i _ => la.length - (intOf i).toNat)
    case atStart => exact ⟨0, Nat.zero_le _, rfl, rfl, Below.refl _ _⟩
    case round =>
      obtain ⟨k, hk, rfl, htk, hB⟩ := hrel
      by_cases hlt : k < la.length
      · have hltb : k < lb.length := by have := Hlen.out; omega
        obtain ⟨ba, fa, ea, rfl, hla, hca, hra⟩ := HE1.out k _ (List.getElem?_eq_getElem hlt)
        obtain ⟨bb, fb, eb, rfl, hlb, hcb, hrb⟩ := HE2.out k _ (List.getElem?_eq_getElem hltb)
        have Hno := Lib.hid (eqS_no (List.getElem?_eq_getElem hlt) (List.getElem?_eq_getElem hltb))
        have Hyes := Lib.hid (eqS_step htk.out (List.getElem?_eq_getElem hlt) (List.getElem?_eq_getElem hltb))
        generalize la[k] = xa at *
        generalize lb[k] = xb at *
        obtain ⟨x0, x1, x2, x3, x4, rfl⟩ := len5 (show _ = 5 from hla)
        obtain ⟨y0, y1, y2, y3, y4, rfl⟩ := len5 (show _ = 5 from hlb)
        have qba0 : w.cell? ⟨ba, fa + k * 5, none⟩ = some _ := hca 0 _ rfl
        have pba0 := fun d os => cell_regrown ((hB.cell (World.block_lt_of_cell? w _ qba0)).trans qba0) d os
        clear qba0
        have qba1 : w.cell? ⟨ba, fa + k * 5 + 1, none⟩ = some _ := hca 1 _ rfl
        have pba1 := fun d os => cell_regrown ((hB.cell (World.block_lt_of_cell? w _ qba1)).trans qba1) d os
        clear qba1
        have qba2 : w.cell? ⟨ba, fa + k * 5 + 2, none⟩ = some _ := hca 2 _ rfl
        have pba2 := fun d os => cell_regrown ((hB.cell (World.block_lt_of_cell? w _ qba2)).trans qba2) d os
        clear qba2
        have qba3 : w.cell? ⟨ba, fa + k * 5 + 3, none⟩ = some _ := hca 3 _ rfl
        have pba3 := fun d os => cell_regrown ((hB.cell (World.block_lt_of_cell? w _ qba3)).trans qba3) d os
        clear qba3
        have qba4 : w.cell? ⟨ba, fa + k * 5 + 4, none⟩ = some _ := hca 4 _ rfl
        have pba4 := fun d os => cell_regrown ((hB.cell (World.block_lt_of_cell? w _ qba4)).trans qba4) d os
        clear qba4
        have qbb0 : w.cell? ⟨bb, fb + k * 5, none⟩ = some _ := hcb 0 _ rfl
        have pbb0 := fun d os => cell_regrown ((hB.cell (World.block_lt_of_cell? w _ qbb0)).trans qbb0) d os
        clear qbb0
        have qbb1 : w.cell? ⟨bb, fb + k * 5 + 1, none⟩ = some _ := hcb 1 _ rfl
        have pbb1 := fun d os => cell_regrown ((hB.cell (World.block_lt_of_cell? w _ qbb1)).trans qbb1) d os
        clear qbb1
        have qbb2 : w.cell? ⟨bb, fb + k * 5 + 2, none⟩ = some _ := hcb 2 _ rfl
        have pbb2 := fun d os => cell_regrown ((hB.cell (World.block_lt_of_cell? w _ qbb2)).trans qbb2) d os
        clear qbb2
        have qbb3 : w.cell? ⟨bb, fb + k * 5 + 3, none⟩ = some _ := hcb 3 _ rfl
        have pbb3 := fun d os => cell_regrown ((hB.cell (World.block_lt_of_cell? w _ qbb3)).trans qbb3) d os
        clear qbb3
        have qbb4 : w.cell? ⟨bb, fb + k * 5 + 4, none⟩ = some _ := hcb 4 _ rfl
        have pbb4 := fun d os => cell_regrown ((hB.cell (World.block_lt_of_cell? w _ qbb4)).trans qbb4) d os
        clear qbb4
        have ra := fun d os => rd_below (rd_below hra hB) (below_regrown wr d os)
        have rb := fun d os => rd_below (rd_below hrb hB) (below_regrown wr d os)
        have Ra := Lib.hid ra
        have Rb := Lib.hid rb
        clear ra rb
        clear hca hcb hra hrb hla hlb
        go_wp2
        refine wp_region_quiet_below (by kernel_rfl) (by kernel_rfl) ?_
        repeat (quiet_step (exact Calls.regrown_of (eqFile_c _ [x0, x1, x2, x3, x4] [y0, y1, y2, y3, y4] xa xb (Ra.out _ _) (Rb.out _ _))))
        refine wpQuiet_nil ?_
        intro _ hw'
        obtain ⟨⟨dq, osq⟩, hw''⟩ := hw'
        subst hw''
        have hB2 := hB.trans ((below_regrown wr dq osq).mono hB.size)
        go_wp2
        · go_ret
          obtain rfl : r = false := Hr.out.symm.trans (Hno.out (by go_light; clear es; simp_all [eqb_int, eqb_bool]))
          exact ⟨rfl, hB2⟩
        · go_roundw
          case rel => exact ⟨k + 1, by omega, by go_num, Hyes.out (by go_light; clear es; simp_all [eqb_int, eqb_bool]), hB2⟩
          case measure => simp [intOf]; omega
      · obtain rfl : k = la.length := by omega
        have Hy := Lib.hid (eqS_end htk.out (by have := Hlen.out; omega))
        go_wp2
        go_ret
        obtain rfl : r = true := Hr.out.symm.trans Hy.out
        exact ⟨rfl, hB⟩
  · have hne : ((la.length : Int) != (lb.length : Int)) = true := by simp; omega
    generalize hr : eqb la lb = r
    have Hr := Lib.hid hr; clear hr
    have Hn := Lib.hid (eqS_len hlen); clear hlen
    go_enter Try.func51, Try.ntmps51
    go_wp2
    go_ret
    obtain rfl : r = false := Hr.out.symm.trans Hn.out
    exact ⟨rfl, Below.refl _ _⟩
set_option maxHeartbeats 1000000 in
theorem eqIntS_c (w : World) (sa sb : Value) (la lb : List Int) (ha : rd w [sa] la) (hb : rd w [sb] lb) : Calls Try.prog 94 #[sa, sb] w (Ret w (.bool (eqb la lb))) := by
  obtain ⟨oa, capa, e1, hl1, hm1, hel1⟩ := ha
  obtain ⟨ob, capb, e2, hl2, hm2, hel2⟩ := hb
  obtain rfl : sa = _ := by simpa using e1
  obtain rfl : sb = _ := by simpa using e2
  clear e1 e2
  have HE1 := Lib.hid hel1; clear hel1
  have HE2 := Lib.hid hel2; clear hel2
  unfold maxLen at hm1 hm2
  have hma : la.length ≤ 9223372036854775807 := by omega
  have hmb : lb.length ≤ 9223372036854775807 := by omega
  by_cases hlen : la.length = lb.length
  · have hne : ((la.length : Int) != (lb.length : Int)) = false := by simp [hlen]
    generalize hr : eqb la lb = r
    have Hr := Lib.hid hr; clear hr
    have Hlen := Lib.hid hlen; clear hlen
    have es := eqb_str
    go_enter Try.func94, Try.ntmps94
    go_wp2
    go_loopw [5] (fun i wr => ∃ k : Nat, k ≤ la.length ∧ i = .int .i64 k ∧ Hid (la.take k = lb.take k) ∧ Below w.heap.size w wr) (fun i _ => la.length - (intOf i).toNat)
    case atStart => exact ⟨0, Nat.zero_le _, rfl, rfl, Below.refl _ _⟩
    case round =>
      obtain ⟨k, hk, rfl, htk, hB⟩ := hrel
      by_cases hlt : k < la.length
      · have hltb : k < lb.length := by have := Hlen.out; omega
        obtain ⟨ba, fa, ea, rfl, hla, hca, hra⟩ := HE1.out k _ (List.getElem?_eq_getElem hlt)
        obtain ⟨bb, fb, eb, rfl, hlb, hcb, hrb⟩ := HE2.out k _ (List.getElem?_eq_getElem hltb)
        have Hno := Lib.hid (eqS_no (List.getElem?_eq_getElem hlt) (List.getElem?_eq_getElem hltb))
        have Hyes := Lib.hid (eqS_step htk.out (List.getElem?_eq_getElem hlt) (List.getElem?_eq_getElem hltb))
        generalize la[k] = xa at *
        generalize lb[k] = xb at *
        obtain ⟨x0, rfl⟩ := len1 (show _ = 1 from hla)
        obtain ⟨y0, rfl⟩ := len1 (show _ = 1 from hlb)
        have e3 : x0 = .int .i64 xa := by rcases hra with ⟨e, _⟩; simpa using e
        have e4 : y0 = .int .i64 xb := by rcases hrb with ⟨e, _⟩; simpa using e
        subst e3 e4
        have qba0 : w.cell? ⟨ba, fa + k, none⟩ = some _ := (by simpa [GoD.n] using hca 0 _ rfl)
        have pba0 := fun d os => cell_regrown ((hB.cell (World.block_lt_of_cell? w _ qba0)).trans qba0) d os
        clear qba0
        have qbb0 : w.cell? ⟨bb, fb + k, none⟩ = some _ := (by simpa [GoD.n] using hcb 0 _ rfl)
        have pbb0 := fun d os => cell_regrown ((hB.cell (World.block_lt_of_cell? w _ qbb0)).trans qbb0) d os
        clear qbb0
        clear hca hcb hra hrb hla hlb
        go_wp2
        refine wp_region_quiet_below (by kernel_rfl) (by kernel_rfl) ?_
        repeat (quiet_step (fail))
        refine wpQuiet_nil ?_
        intro _ hw'
        obtain ⟨⟨dq, osq⟩, hw''⟩ := hw'
        subst hw''
        have hB2 := hB.trans ((below_regrown wr dq osq).mono hB.size)
        go_wp2
        · go_ret
          obtain rfl : r = false := Hr.out.symm.trans (Hno.out (by go_light; clear es; simp_all [eqb_int, eqb_bool]))
          exact ⟨rfl, hB2⟩
        · go_roundw
          case rel => exact ⟨k + 1, by omega, by go_num, Hyes.out (by go_light; clear es; simp_all [eqb_int, eqb_bool]), hB2⟩
          case measure => simp [intOf]; omega
      · obtain rfl : k = la.length := by omega
        have Hy := Lib.hid (eqS_end htk.out (by have := Hlen.out; omega))
        go_wp2
        go_ret
        obtain rfl : r = true := Hr.out.symm.trans Hy.out
        exact ⟨rfl, hB⟩
  · have hne : ((la.length : Int) != (lb.length : Int)) = true := by simp; omega
    generalize hr : eqb la lb = r
    have Hr := Lib.hid hr; clear hr
    have Hn := Lib.hid (eqS_len hlen); clear hlen
    go_enter Try.func94, Try.ntmps94
    go_wp2
    go_ret
    obtain rfl : r = false := Hr.out.symm.trans Hn.out
    exact ⟨rfl, Below.refl _ _⟩
set_option maxHeartbeats 1000000 in
theorem eqPosting_c (w : World) (ca cb : List Value) (a b : PostingD) (ha : rd w ca a) (hb : rd w cb b) : Calls Try.prog 52 #[.agg ca.toArray, .agg cb.toArray] w (Ret w (.bool (eqb a b))) := by
  obtain ⟨a1, a2, a3⟩ := a
  obtain ⟨ac1, at1, rfl, ar1, ac2, at2, rfl, ar2, ar3⟩ := ha
  obtain ⟨rfl, ar1⟩ := ar1
  obtain ⟨ax2_0, ax2_1, ax2_2, rfl⟩ := len3 (show _ = 3 from GoD.rd_len ar2)
  obtain ⟨ax3_0, rfl⟩ := len1 (show _ = 1 from GoD.rd_len ar3)
  obtain ⟨b1, b2, b3⟩ := b
  obtain ⟨bc1, bt1, rfl, br1, bc2, bt2, rfl, br2, br3⟩ := hb
  obtain ⟨rfl, br1⟩ := br1
  obtain ⟨bx2_0, bx2_1, bx2_2, rfl⟩ := len3 (show _ = 3 from GoD.rd_len br2)
  obtain ⟨bx3_0, rfl⟩ := len1 (show _ = 1 from GoD.rd_len br3)
  dsimp only [List.cons_append, List.nil_append] at *
  generalize hr : eqb (a1, a2, a3) (b1, b2, b3) = r
  have Hr := Lib.hid hr; clear hr
  have es := eqb_str
  clear ar1 br1
  have AR2H := Lib.hid ar2; clear ar2
  have BR2H := Lib.hid br2; clear br2
  have AR3H := Lib.hid ar3; clear ar3
  have BR3H := Lib.hid br3; clear br3
  have tok1 : True := trivial
  have tok2 : True := trivial
  go_enter Try.func52, Try.ntmps52
  go_wp2_with (first | (go_at_call 93; have tk := tok1; clear tok1; (refine call_ret (w := w) (eqValue_c _ [ax2_0, ax2_1, ax2_2] [bx2_0, bx2_1, bx2_2] a2 b2 (rd_below AR2H.out (by go_grown)) (rd_below BR2H.out (by go_grown))) (by go_grown) ?_; intro w' hB hb hz hz2; (repeat (first | rewrite [World.size_alloc] at hz2 | rewrite [World.size_setCell] at hz2 | rewrite [World.size_drew] at hz2)); have c0 := fun o => bcell hb (w.heap.size) o (by go_size); have c1 := fun o => bcell hb (w.heap.size + 1) o (by go_size))) | (go_at_call 94; have tk := tok2; clear tok2; (refine call_ret (w := w) (eqIntS_c _ ax3_0 bx3_0 a3 b3 (rd_below AR3H.out (by go_grown)) (rd_below BR3H.out (by go_grown))) (by go_grown) ?_; intro w' hB hb hz hz2; (repeat (first | rewrite [World.size_alloc] at hz2 | rewrite [World.size_setCell] at hz2 | rewrite [World.size_drew] at hz2)); have c0 := fun o => bcell hb (w.heap.size) o (by go_size); have c1 := fun o => bcell hb (w.heap.size + 1) o (by go_size))))
  all_goals
    go_ret
    refine ⟨?_, by go_grown⟩
    rw [← Hr.out]
    go_light
    clear es
    simp_all [eqb_prod, eqb_int, eqb_bool]
set_option maxHeartbeats 1000000 in
theorem eqField_c (w : World) (ca cb : List Value) (a b : FieldD) (ha : rd w ca a) (hb : rd w cb b) : Calls Try.prog 91 #[.agg ca.toArray, .agg cb.toArray] w (Ret w (.bool (eqb a b))) := by
  obtain ⟨a1, a2⟩ := a
  obtain ⟨ac1, at1, rfl, ar1, ar2⟩ := ha
  obtain ⟨rfl, ar1⟩ := ar1
  obtain ⟨rfl, ar2⟩ := ar2
  obtain ⟨b1, b2⟩ := b
  obtain ⟨bc1, bt1, rfl, br1, br2⟩ := hb
  obtain ⟨rfl, br1⟩ := br1
  obtain ⟨rfl, br2⟩ := br2
  dsimp only [List.cons_append, List.nil_append] at *
  generalize hr : eqb (a1, a2) (b1, b2) = r
  have Hr := Lib.hid hr; clear hr
  have es := eqb_str
  clear ar1 br1
  clear ar2 br2
  go_enter Try.func91, Try.ntmps91
  go_wp2
  all_goals
    go_ret
    refine ⟨?_, by go_grown⟩
    rw [← Hr.out]
    go_light
    clear es
    simp_all [eqb_prod, eqb_int, eqb_bool]
set_option maxHeartbeats 1000000 in
theorem eqFieldS_c (w : World) (sa sb : Value) (la lb : List FieldD) (ha : rd w [sa] la) (hb : rd w [sb] lb) : Calls Try.prog 50 #[sa, sb] w (Ret w (.bool (eqb la lb))) := by
  obtain ⟨oa, capa, e1, hl1, hm1, hel1⟩ := ha
  obtain ⟨ob, capb, e2, hl2, hm2, hel2⟩ := hb
  obtain rfl : sa = _ := by simpa using e1
  obtain rfl : sb = _ := by simpa using e2
  clear e1 e2
  have HE1 := Lib.hid hel1; clear hel1
  have HE2 := Lib.hid hel2; clear hel2
  unfold maxLen at hm1 hm2
  have hma : la.length ≤ 9223372036854775807 := by omega
  have hmb : lb.length ≤ 9223372036854775807 := by omega
  by_cases hlen : la.length = lb.length
  · have hne : ((la.length : Int) != (lb.length : Int)) = false := by simp [hlen]
    generalize hr : eqb la lb = r
    have Hr := Lib.hid hr; clear hr
    have Hlen := Lib.hid hlen; clear hlen
    have es := eqb_str
    go_enter Try.func50, Try.ntmps50
    go_wp2
    go_loopw [5] (fun i wr => ∃ k : Nat, k ≤ la.length ∧ i = .int .i64 k ∧ Hid (la.take k = lb.take k) ∧ Below w.heap.size w wr) (fun i _ => la.length - (intOf i).toNat)
    case atStart => exact ⟨0, Nat.zero_le _, rfl, rfl, Below.refl _ _⟩
    case round =>
      obtain ⟨k, hk, rfl, htk, hB⟩ := hrel
      by_cases hlt : k < la.length
      · have hltb : k < lb.length := by have := Hlen.out; omega
        obtain ⟨ba, fa, ea, rfl, hla, hca, hra⟩ := HE1.out k _ (List.getElem?_eq_getElem hlt)
        obtain ⟨bb, fb, eb, rfl, hlb, hcb, hrb⟩ := HE2.out k _ (List.getElem?_eq_getElem hltb)
        have Hno := Lib.hid (eqS_no (List.getElem?_eq_getElem hlt) (List.getElem?_eq_getElem hltb))
        have Hyes := Lib.hid (eqS_step htk.out (List.getElem?_eq_getElem hlt) (List.getElem?_eq_getElem hltb))
        generalize la[k] = xa at *
        generalize lb[k] = xb at *
        obtain ⟨x0, x1, rfl⟩ := len2 (show _ = 2 from hla)
        obtain ⟨y0, y1, rfl⟩ := len2 (show _ = 2 from hlb)
        have qba0 : w.cell? ⟨ba, fa + k * 2, none⟩ = some _ := hca 0 _ rfl
        have pba0 := fun d os => cell_regrown ((hB.cell (World.block_lt_of_cell? w _ qba0)).trans qba0) d os
        clear qba0
        have qba1 : w.cell? ⟨ba, fa + k * 2 + 1, none⟩ = some _ := hca 1 _ rfl
        have pba1 := fun d os => cell_regrown ((hB.cell (World.block_lt_of_cell? w _ qba1)).trans qba1) d os
        clear qba1
        have qbb0 : w.cell? ⟨bb, fb + k * 2, none⟩ = some _ := hcb 0 _ rfl
        have pbb0 := fun d os => cell_regrown ((hB.cell (World.block_lt_of_cell? w _ qbb0)).trans qbb0) d os
        clear qbb0
        have qbb1 : w.cell? ⟨bb, fb + k * 2 + 1, none⟩ = some _ := hcb 1 _ rfl
        have pbb1 := fun d os => cell_regrown ((hB.cell (World.block_lt_of_cell? w _ qbb1)).trans qbb1) d os
        clear qbb1
        have ra := fun d os => rd_below (rd_below hra hB) (below_regrown wr d os)
        have rb := fun d os => rd_below (rd_below hrb hB) (below_regrown wr d os)
        have Ra := Lib.hid ra
        have Rb := Lib.hid rb
        clear ra rb
        clear hca hcb hra hrb hla hlb
        go_wp2
        refine wp_region_quiet_below (by kernel_rfl) (by kernel_rfl) ?_
        repeat (quiet_step (exact Calls.regrown_of (eqField_c _ [x0, x1] [y0, y1] xa xb (Ra.out _ _) (Rb.out _ _))))
        refine wpQuiet_nil ?_
        intro _ hw'
        obtain ⟨⟨dq, osq⟩, hw''⟩ := hw'
        subst hw''
        have hB2 := hB.trans ((below_regrown wr dq osq).mono hB.size)
        go_wp2
        · go_ret
          obtain rfl : r = false := Hr.out.symm.trans (Hno.out (by go_light; clear es; simp_all [eqb_int, eqb_bool]))
          exact ⟨rfl, hB2⟩
        · go_roundw
          case rel => exact ⟨k + 1, by omega, by go_num, Hyes.out (by go_light; clear es; simp_all [eqb_int, eqb_bool]), hB2⟩
          case measure => simp [intOf]; omega
      · obtain rfl : k = la.length := by omega
        have Hy := Lib.hid (eqS_end htk.out (by have := Hlen.out; omega))
        go_wp2
        go_ret
        obtain rfl : r = true := Hr.out.symm.trans Hy.out
        exact ⟨rfl, hB⟩
  · have hne : ((la.length : Int) != (lb.length : Int)) = true := by simp; omega
    generalize hr : eqb la lb = r
    have Hr := Lib.hid hr; clear hr
    have Hn := Lib.hid (eqS_len hlen); clear hlen
    go_enter Try.func50, Try.ntmps50
    go_wp2
    go_ret
    obtain rfl : r = false := Hr.out.symm.trans Hn.out
    exact ⟨rfl, Below.refl _ _⟩
set_option maxHeartbeats 1000000 in
theorem eqStore_c (w : World) (ca cb : List Value) (a b : StoreD) (ha : rd w ca a) (hb : rd w cb b) : Calls Try.prog 25 #[.agg ca.toArray, .agg cb.toArray] w (Ret w (.bool (eqb a b))) := by
  obtain ⟨a1, a2, a3⟩ := a
  obtain ⟨ac1, at1, rfl, ar1, ac2, at2, rfl, ar2, ar3⟩ := ha
  obtain ⟨ax1_0, rfl⟩ := len1 (show _ = 1 from GoD.rd_len ar1)
  obtain ⟨ax2_0, rfl⟩ := len1 (show _ = 1 from GoD.rd_len ar2)
  obtain ⟨rfl, ar3⟩ := ar3
  obtain ⟨b1, b2, b3⟩ := b
  obtain ⟨bc1, bt1, rfl, br1, bc2, bt2, rfl, br2, br3⟩ := hb
  obtain ⟨bx1_0, rfl⟩ := len1 (show _ = 1 from GoD.rd_len br1)
  obtain ⟨bx2_0, rfl⟩ := len1 (show _ = 1 from GoD.rd_len br2)
  obtain ⟨rfl, br3⟩ := br3
  dsimp only [List.cons_append, List.nil_append] at *
  generalize hr : eqb (a1, a2, a3) (b1, b2, b3) = r
  have Hr := Lib.hid hr; clear hr
  have es := eqb_str
  have AR1H := Lib.hid ar1; clear ar1
  have BR1H := Lib.hid br1; clear br1
  have AR2H := Lib.hid ar2; clear ar2
  have BR2H := Lib.hid br2; clear br2
  clear ar3 br3
  have tok1 : True := trivial
  have tok2 : True := trivial
  go_enter Try.func25, Try.ntmps25
  go_wp2_with (first | (go_at_call 50; have tk := tok1; clear tok1; (refine call_ret (w := w) (eqFieldS_c _ ax1_0 bx1_0 a1 b1 (rd_below AR1H.out (by go_grown)) (rd_below BR1H.out (by go_grown))) (by go_grown) ?_; intro w' hB hb hz hz2; (repeat (first | rewrite [World.size_alloc] at hz2 | rewrite [World.size_setCell] at hz2 | rewrite [World.size_drew] at hz2)); have c0 := fun o => bcell hb (w.heap.size) o (by go_size); have c1 := fun o => bcell hb (w.heap.size + 1) o (by go_size))) | (go_at_call 51; have tk := tok2; clear tok2; (refine call_ret (w := w) (eqFileS_c _ ax2_0 bx2_0 a2 b2 (rd_below AR2H.out (by go_grown)) (rd_below BR2H.out (by go_grown))) (by go_grown) ?_; intro w' hB hb hz hz2; (repeat (first | rewrite [World.size_alloc] at hz2 | rewrite [World.size_setCell] at hz2 | rewrite [World.size_drew] at hz2)); have c0 := fun o => bcell hb (w.heap.size) o (by go_size); have c1 := fun o => bcell hb (w.heap.size + 1) o (by go_size))))
  all_goals
    go_ret
    refine ⟨?_, by go_grown⟩
    rw [← Hr.out]
    go_light
    clear es
    simp_all [eqb_prod, eqb_int, eqb_bool]
set_option maxHeartbeats 1000000 in
theorem eqPostingS_c (w : World) (sa sb : Value) (la lb : List PostingD) (ha : rd w [sa] la) (hb : rd w [sb] lb) : Calls Try.prog 26 #[sa, sb] w (Ret w (.bool (eqb la lb))) := by
  obtain ⟨oa, capa, e1, hl1, hm1, hel1⟩ := ha
  obtain ⟨ob, capb, e2, hl2, hm2, hel2⟩ := hb
  obtain rfl : sa = _ := by simpa using e1
  obtain rfl : sb = _ := by simpa using e2
  clear e1 e2
  have HE1 := Lib.hid hel1; clear hel1
  have HE2 := Lib.hid hel2; clear hel2
  unfold maxLen at hm1 hm2
  have hma : la.length ≤ 9223372036854775807 := by omega
  have hmb : lb.length ≤ 9223372036854775807 := by omega
  by_cases hlen : la.length = lb.length
  · have hne : ((la.length : Int) != (lb.length : Int)) = false := by simp [hlen]
    generalize hr : eqb la lb = r
    have Hr := Lib.hid hr; clear hr
    have Hlen := Lib.hid hlen; clear hlen
    have es := eqb_str
    go_enter Try.func26, Try.ntmps26
    go_wp2
    go_loopw [5] (fun i wr => ∃ k : Nat, k ≤ la.length ∧ i = .int .i64 k ∧ Hid (la.take k = lb.take k) ∧ Below w.heap.size w wr) (fun i _ => la.length - (intOf i).toNat)
    case atStart => exact ⟨0, Nat.zero_le _, rfl, rfl, Below.refl _ _⟩
    case round =>
      obtain ⟨k, hk, rfl, htk, hB⟩ := hrel
      by_cases hlt : k < la.length
      · have hltb : k < lb.length := by have := Hlen.out; omega
        obtain ⟨ba, fa, ea, rfl, hla, hca, hra⟩ := HE1.out k _ (List.getElem?_eq_getElem hlt)
        obtain ⟨bb, fb, eb, rfl, hlb, hcb, hrb⟩ := HE2.out k _ (List.getElem?_eq_getElem hltb)
        have Hno := Lib.hid (eqS_no (List.getElem?_eq_getElem hlt) (List.getElem?_eq_getElem hltb))
        have Hyes := Lib.hid (eqS_step htk.out (List.getElem?_eq_getElem hlt) (List.getElem?_eq_getElem hltb))
        generalize la[k] = xa at *
        generalize lb[k] = xb at *
        obtain ⟨x0, x1, x2, x3, x4, rfl⟩ := len5 (show _ = 5 from hla)
        obtain ⟨y0, y1, y2, y3, y4, rfl⟩ := len5 (show _ = 5 from hlb)
        have qba0 : w.cell? ⟨ba, fa + k * 5, none⟩ = some _ := hca 0 _ rfl
        have pba0 := fun d os => cell_regrown ((hB.cell (World.block_lt_of_cell? w _ qba0)).trans qba0) d os
        clear qba0
        have qba1 : w.cell? ⟨ba, fa + k * 5 + 1, none⟩ = some _ := hca 1 _ rfl
        have pba1 := fun d os => cell_regrown ((hB.cell (World.block_lt_of_cell? w _ qba1)).trans qba1) d os
        clear qba1
        have qba2 : w.cell? ⟨ba, fa + k * 5 + 2, none⟩ = some _ := hca 2 _ rfl
        have pba2 := fun d os => cell_regrown ((hB.cell (World.block_lt_of_cell? w _ qba2)).trans qba2) d os
        clear qba2
        have qba3 : w.cell? ⟨ba, fa + k * 5 + 3, none⟩ = some _ := hca 3 _ rfl
        have pba3 := fun d os => cell_regrown ((hB.cell (World.block_lt_of_cell? w _ qba3)).trans qba3) d os
        clear qba3
        have qba4 : w.cell? ⟨ba, fa + k * 5 + 4, none⟩ = some _ := hca 4 _ rfl
        have pba4 := fun d os => cell_regrown ((hB.cell (World.block_lt_of_cell? w _ qba4)).trans qba4) d os
        clear qba4
        have qbb0 : w.cell? ⟨bb, fb + k * 5, none⟩ = some _ := hcb 0 _ rfl
        have pbb0 := fun d os => cell_regrown ((hB.cell (World.block_lt_of_cell? w _ qbb0)).trans qbb0) d os
        clear qbb0
        have qbb1 : w.cell? ⟨bb, fb + k * 5 + 1, none⟩ = some _ := hcb 1 _ rfl
        have pbb1 := fun d os => cell_regrown ((hB.cell (World.block_lt_of_cell? w _ qbb1)).trans qbb1) d os
        clear qbb1
        have qbb2 : w.cell? ⟨bb, fb + k * 5 + 2, none⟩ = some _ := hcb 2 _ rfl
        have pbb2 := fun d os => cell_regrown ((hB.cell (World.block_lt_of_cell? w _ qbb2)).trans qbb2) d os
        clear qbb2
        have qbb3 : w.cell? ⟨bb, fb + k * 5 + 3, none⟩ = some _ := hcb 3 _ rfl
        have pbb3 := fun d os => cell_regrown ((hB.cell (World.block_lt_of_cell? w _ qbb3)).trans qbb3) d os
        clear qbb3
        have qbb4 : w.cell? ⟨bb, fb + k * 5 + 4, none⟩ = some _ := hcb 4 _ rfl
        have pbb4 := fun d os => cell_regrown ((hB.cell (World.block_lt_of_cell? w _ qbb4)).trans qbb4) d os
        clear qbb4
        have ra := fun d os => rd_below (rd_below hra hB) (below_regrown wr d os)
        have rb := fun d os => rd_below (rd_below hrb hB) (below_regrown wr d os)
        have Ra := Lib.hid ra
        have Rb := Lib.hid rb
        clear ra rb
        clear hca hcb hra hrb hla hlb
        go_wp2
        refine wp_region_quiet_below (by kernel_rfl) (by kernel_rfl) ?_
        repeat (quiet_step (exact Calls.regrown_of (eqPosting_c _ [x0, x1, x2, x3, x4] [y0, y1, y2, y3, y4] xa xb (Ra.out _ _) (Rb.out _ _))))
        refine wpQuiet_nil ?_
        intro _ hw'
        obtain ⟨⟨dq, osq⟩, hw''⟩ := hw'
        subst hw''
        have hB2 := hB.trans ((below_regrown wr dq osq).mono hB.size)
        go_wp2
        · go_ret
          obtain rfl : r = false := Hr.out.symm.trans (Hno.out (by go_light; clear es; simp_all [eqb_int, eqb_bool]))
          exact ⟨rfl, hB2⟩
        · go_roundw
          case rel => exact ⟨k + 1, by omega, by go_num, Hyes.out (by go_light; clear es; simp_all [eqb_int, eqb_bool]), hB2⟩
          case measure => simp [intOf]; omega
      · obtain rfl : k = la.length := by omega
        have Hy := Lib.hid (eqS_end htk.out (by have := Hlen.out; omega))
        go_wp2
        go_ret
        obtain rfl : r = true := Hr.out.symm.trans Hy.out
        exact ⟨rfl, hB⟩
  · have hne : ((la.length : Int) != (lb.length : Int)) = true := by simp; omega
    generalize hr : eqb la lb = r
    have Hr := Lib.hid hr; clear hr
    have Hn := Lib.hid (eqS_len hlen); clear hlen
    go_enter Try.func26, Try.ntmps26
    go_wp2
    go_ret
    obtain rfl : r = false := Hr.out.symm.trans Hn.out
    exact ⟨rfl, Below.refl _ _⟩
end Go.Proofs.Ytiafgmepdgfpbaa
