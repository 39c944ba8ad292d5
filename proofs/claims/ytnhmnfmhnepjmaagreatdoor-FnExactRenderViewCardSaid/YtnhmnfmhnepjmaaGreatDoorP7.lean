/- Texts of this proof, put together by a program: Eq, To, Ma, He, LPr, MPr. -/
import Derived.Test.YtnhmnfmhnepjmaaGreatDoorP6
import Derived.Test.YtnhmnfmhnepjmaaGreatDoorProg
import Derived.Laws.IdiomStrings
import Derived.KernelRfl
import Derived.Outline
set_option linter.unusedVariables false
set_option linter.unusedSimpArgs false
namespace Go.Proofs.YtnhmnfmhnepjmaaGreatDoor
open Go.RowKit
open GoD (rd own)
set_option maxHeartbeats 1000000 in
theorem eqValue_c (w : World) (ca cb : List Value) (a b : ValueD) (ha : rd w ca a) (hb : rd w cb b) : Calls Tryz.prog 112 #[.agg ca.toArray, .agg cb.toArray] w (Ret w (.bool (eqb a b))) := by
  obtain ⟨a1, a2, a3⟩ := a
  obtain ⟨ac1, at1, rfl, ar1, ac2, at2, rfl, ar2, ar3⟩ := ha
  obtain ⟨rfl, ar1⟩ := ar1
  obtain ⟨rfl, ar2⟩ := ar2
  obtain ⟨rfl, ar3⟩ := ar3
  obtain ⟨b1, b2, b3⟩ := b
  obtain ⟨bc1, bt1, rfl, br1, bc2, bt2, rfl, br2, br3⟩ := hb
  obtain ⟨rfl, br1⟩ := br1
  obtain ⟨rfl, br2⟩ := br2
  obtain ⟨rfl, br3⟩ := br3
  dsimp only [List.cons_append, List.nil_append] at *
  generalize hr : eqb (a1, a2, a3) (b1, b2, b3) = r
  have Hr := Lib.hid hr; clear hr
  have es := eqb_str
  clear ar1 br1
  clear ar2 br2
  clear ar3 br3
  go_enter Tryz.func112, Tryz.ntmps112
  go_wp2
  all_goals
    go_ret
    refine ⟨?_, by go_grown⟩
    rw [← Hr.out]
    go_light
    clear es
    simp_all [eqb_prod, eqb_int, eqb_bool]
set_option maxHeartbeats 1000000 in
theorem eqNode_c (w : World) (ca cb : List Value) (a b : NodeD) (ha : rd w ca a) (hb : rd w cb b) : Calls Tryz.prog 84 #[.agg ca.toArray, .agg cb.toArray] w (Ret w (.bool (eqb a b))) := by
  obtain ⟨a1, a2, a3, a4, a5⟩ := a
  obtain ⟨ac1, at1, rfl, ar1, ac2, at2, rfl, ar2, ac3, at3, rfl, ar3, ac4, at4, rfl, ar4, ar5⟩ := ha
  obtain ⟨rfl, ar1⟩ := ar1
  obtain ⟨rfl, ar2⟩ := ar2
  obtain ⟨rfl, ar3⟩ := ar3
  obtain ⟨rfl, ar4⟩ := ar4
  obtain ⟨ax5_0, ax5_1, ax5_2, rfl⟩ := len3 (show _ = 3 from GoD.rd_len ar5)
  obtain ⟨b1, b2, b3, b4, b5⟩ := b
  obtain ⟨bc1, bt1, rfl, br1, bc2, bt2, rfl, br2, bc3, bt3, rfl, br3, bc4, bt4, rfl, br4, br5⟩ := hb
  obtain ⟨rfl, br1⟩ := br1
  obtain ⟨rfl, br2⟩ := br2
  obtain ⟨rfl, br3⟩ := br3
  obtain ⟨rfl, br4⟩ := br4
  obtain ⟨bx5_0, bx5_1, bx5_2, rfl⟩ := len3 (show _ = 3 from GoD.rd_len br5)
  dsimp only [List.cons_append, List.nil_append] at *
  generalize hr : eqb (a1, a2, a3, a4, a5) (b1, b2, b3, b4, b5) = r
  have Hr := Lib.hid hr; clear hr
  have es := eqb_str
  clear ar1 br1
  clear ar2 br2
  clear ar3 br3
  clear ar4 br4
  have AR5H := Lib.hid ar5; clear ar5
  have BR5H := Lib.hid br5; clear br5
  have tok1 : True := trivial
  go_enter Tryz.func84, Tryz.ntmps84
  go_wp2_with (first | (go_at_call 112; have tk := tok1; clear tok1; (refine call_ret (w := w) (eqValue_c _ [ax5_0, ax5_1, ax5_2] [bx5_0, bx5_1, bx5_2] a5 b5 (rd_below AR5H.out (by go_grown)) (rd_below BR5H.out (by go_grown))) (by go_grown) ?_; intro w' hB hb hz hz2; (repeat (first | rewrite [World.size_alloc] at hz2 | rewrite [World.size_setCell] at hz2 | rewrite [World.size_drew] at hz2)); have c0 := fun o => bcell hb (w.heap.size) o (by go_size); have c1 := fun o => bcell hb (w.heap.size + 1) o (by go_size))))
  all_goals
    go_ret
    refine ⟨?_, by go_grown⟩
    rw [← Hr.out]
    go_light
    clear es
    simp_all [eqb_prod, eqb_int, eqb_bool]
set_option maxHeartbeats 1000000 in
theorem eqStringS_c (w : World) (sa sb : Value) (la lb : List ByteArray) (ha : rd w [sa] la) (hb : rd w [sb] lb) : Calls Tryz.prog 10 #[sa, sb] w (Ret w (.bool (eqb la lb))) := by
  obtain ⟨oa, capa, e1, hl1, hm1, hel1⟩ := ha
  obtain ⟨ob, capb, e2, hl2, hm2, hel2⟩ := hb
  obtain rfl : sa = _ := by simpa using e1
  obtain rfl : sb = _ := by simpa using e2
  clear e1 e2
  have HE1 := Lib.hid hel1; clear hel1
  have HE2 := Lib.hid hel2; clear hel2
  unfold maxLen at hm1 hm2
  have hma : la.length ≤ 9223372036854775807 := by omega
  have hmb : lb.length ≤ 9223372036854775807 := by omega
  by_cases hlen : la.length = lb.length
  · have hne : ((la.length : Int) != (lb.length : Int)) = false := by simp [hlen]
    generalize hr : eqb la lb = r
    have Hr := Lib.hid hr; clear hr
    have Hlen := Lib.hid hlen; clear hlen
    have es := eqb_str
    go_enter Tryz.func10, Tryz.ntmps10
    go_wp2
    go_loopw [5] (fun i wr => ∃ k : Nat, k ≤ la.length ∧ i = .int .i64 k ∧ Hid (la.take k = lb.take k) ∧ Below w.heap.size w wr) (fun i _ => la.length - (intOf i).toNat)
    case atStart => exact ⟨0, Nat.zero_le _, rfl, rfl, Below.refl _ _⟩
    case round =>
      obtain ⟨k, hk, rfl, htk, hB⟩ := hrel
      by_cases hlt : k < la.length
      · have hltb : k < lb.length := by have := Hlen.out; omega
        obtain ⟨ba, fa, ea, rfl, hla, hca, hra⟩ := HE1.out k _ (List.getElem?_eq_getElem hlt)
        obtain ⟨bb, fb, eb, rfl, hlb, hcb, hrb⟩ := HE2.out k _ (List.getElem?_eq_getElem hltb)
        have Hno := Lib.hid (eqS_no (List.getElem?_eq_getElem hlt) (List.getElem?_eq_getElem hltb))
        have Hyes := Lib.hid (eqS_step htk.out (List.getElem?_eq_getElem hlt) (List.getElem?_eq_getElem hltb))
        generalize la[k] = xa at *
        generalize lb[k] = xb at *
        obtain ⟨x0, rfl⟩ := len1 (show _ = 1 from hla)
        obtain ⟨y0, rfl⟩ := len1 (show _ = 1 from hlb)
        have e3 : x0 = .string xa := by rcases hra with ⟨e, _⟩; simpa using e
        have e4 : y0 = .string xb := by rcases hrb with ⟨e, _⟩; simpa using e
        subst e3 e4
        have qba0 : w.cell? ⟨ba, fa + k, none⟩ = some _ := (by simpa [GoD.n] using hca 0 _ rfl)
        have pba0 := fun d os => cell_regrown ((hB.cell (World.block_lt_of_cell? w _ qba0)).trans qba0) d os
        clear qba0
        have qbb0 : w.cell? ⟨bb, fb + k, none⟩ = some _ := (by simpa [GoD.n] using hcb 0 _ rfl)
        have pbb0 := fun d os => cell_regrown ((hB.cell (World.block_lt_of_cell? w _ qbb0)).trans qbb0) d os
        clear qbb0
        clear hca hcb hra hrb hla hlb
        go_wp2
        refine wp_region_quiet_below (by kernel_rfl) (by kernel_rfl) ?_
        repeat (quiet_step (fail))
        refine wpQuiet_nil ?_
        intro _ hw'
        obtain ⟨⟨dq, osq⟩, hw''⟩ := hw'
        subst hw''
        have hB2 := hB.trans ((below_regrown wr dq osq).mono hB.size)
        go_wp2
        · go_ret
          obtain rfl : r = false := Hr.out.symm.trans (Hno.out (by go_light; clear es; simp_all [eqb_int, eqb_bool]))
          exact ⟨rfl, hB2⟩
        · go_roundw
          case rel => exact ⟨k + 1, by omega, by go_num, Hyes.out (by go_light; clear es; simp_all [eqb_int, eqb_bool]), hB2⟩
          case measure => simp [intOf]; omega
      · obtain rfl : k = la.length := by omega
        have Hy := Lib.hid (eqS_end htk.out (by have := Hlen.out; omega))
        go_wp2
        go_ret
        obtain rfl : r = true := Hr.out.symm.trans Hy.out
        exact ⟨rfl, hB⟩
  · have hne : ((la.length : Int) != (lb.length : Int)) = true := by simp; omega
    generalize hr : eqb la lb = r
    have Hr := Lib.hid hr; clear hr
    have Hn := Lib.hid (eqS_len hlen); clear hlen
    go_enter Tryz.func10, Tryz.ntmps10
    go_wp2
    go_ret
    obtain rfl : r = false := Hr.out.symm.trans Hn.out
    exact ⟨rfl, Below.refl _ _⟩
set_option maxHeartbeats 1000000 in
theorem eqAttr_c (w : World) (ca cb : List Value) (a b : AttrD) (ha : rd w ca a) (hb : rd w cb b) : Calls Tryz.prog 111 #[.agg ca.toArray, .agg cb.toArray] w (Ret w (.bool (eqb a b))) := by
  obtain ⟨a1, a2⟩ := a
  obtain ⟨ac1, at1, rfl, ar1, ar2⟩ := ha
  obtain ⟨rfl, ar1⟩ := ar1
  obtain ⟨ax2_0, ax2_1, ax2_2, rfl⟩ := len3 (show _ = 3 from GoD.rd_len ar2)
  obtain ⟨b1, b2⟩ := b
  obtain ⟨bc1, bt1, rfl, br1, br2⟩ := hb
  obtain ⟨rfl, br1⟩ := br1
  obtain ⟨bx2_0, bx2_1, bx2_2, rfl⟩ := len3 (show _ = 3 from GoD.rd_len br2)
  dsimp only [List.cons_append, List.nil_append] at *
  generalize hr : eqb (a1, a2) (b1, b2) = r
  have Hr := Lib.hid hr; clear hr
  have es := eqb_str
  clear ar1 br1
  have AR2H := Lib.hid ar2; clear ar2
  have BR2H := Lib.hid br2; clear br2
  have tok1 : True := trivial
  go_enter Tryz.func111, Tryz.ntmps111
  go_wp2_with (first | (go_at_call 112; have tk := tok1; clear tok1; (refine call_ret (w := w) (eqValue_c _ [ax2_0, ax2_1, ax2_2] [bx2_0, bx2_1, bx2_2] a2 b2 (rd_below AR2H.out (by go_grown)) (rd_below BR2H.out (by go_grown))) (by go_grown) ?_; intro w' hB hb hz hz2; (repeat (first | rewrite [World.size_alloc] at hz2 | rewrite [World.size_setCell] at hz2 | rewrite [World.size_drew] at hz2)); have c0 := fun o => bcell hb (w.heap.size) o (by go_size); have c1 := fun o => bcell hb (w.heap.size + 1) o (by go_size))))
  all_goals
    go_ret
    refine ⟨?_, by go_grown⟩
    rw [← Hr.out]
    go_light
    clear es
    simp_all [eqb_prod, eqb_int, eqb_bool]
set_option maxHeartbeats 1000000 in
theorem eqAttrS_c (w : World) (sa sb : Value) (la lb : List AttrD) (ha : rd w [sa] la) (hb : rd w [sb] lb) : Calls Tryz.prog 83 #[sa, sb] w (Ret w (.bool (eqb la lb))) := by
  obtain ⟨oa, capa, e1, hl1, hm1, hel1⟩ := ha
  obtain ⟨ob, capb, e2, hl2, hm2, hel2⟩ := hb
  obtain rfl : sa = _ := by simpa using e1
  obtain rfl : sb = _ := by simpa using e2
  clear e1 e2
  have HE1 := Lib.hid hel1; clear hel1
  have HE2 := Lib.hid hel2; clear hel2
  unfold maxLen at hm1 hm2
  have hma : la.length ≤ 9223372036854775807 := by omega
  have hmb : lb.length ≤ 9223372036854775807 := by omega
  by_cases hlen : la.length = lb.length
  · have hne : ((la.length : Int) != (lb.length : Int)) = false := by simp [hlen]
    generalize hr : eqb la lb = r
    have Hr := Lib.hid hr; clear hr
    have Hlen := Lib.hid hlen; clear hlen
    have es := eqb_str
    go_enter Tryz.func83, Tryz.ntmps83
    go_wp2
    go_loopw [5] (fun i wr => ∃ k : Nat, k ≤ la.length ∧ i = .int .i64 k ∧ Hid (la.take k = lb.take k) ∧ Below w.heap.size w wr) (fun i _ => la.length - (intOf i).toNat)
    case atStart => exact ⟨0, Nat.zero_le _, rfl, rfl, Below.refl _ _⟩
    case round =>
      obtain ⟨k, hk, rfl, htk, hB⟩ := hrel
      by_cases hlt : k < la.length
      · have hltb : k < lb.length := by have := Hlen.out; omega
        obtain ⟨ba, fa, ea, rfl, hla, hca, hra⟩ := HE1.out k _ (List.getElem?_eq_getElem hlt)
        obtain ⟨bb, fb, eb, rfl, hlb, hcb, hrb⟩ := HE2.out k _ (List.getElem?_eq_getElem hltb)
        have Hno := Lib.hid (eqS_no (List.getElem?_eq_getElem hlt) (List.getElem?_eq_getElem hltb))
        have Hyes := Lib.hid (eqS_step htk.out (List.getElem?_eq_getElem hlt) (List.getElem?_eq_getElem hltb))
        generalize la[k] = xa at *
        generalize lb[k] = xb at *
        obtain ⟨x0, x1, x2, x3, rfl⟩ := len4 (show _ = 4 from hla)
        obtain ⟨y0, y1, y2, y3, rfl⟩ := len4 (show _ = 4 from hlb)
        have qba0 : w.cell? ⟨ba, fa + k * 4, none⟩ = some _ := hca 0 _ rfl
        have pba0 := fun d os => cell_regrown ((hB.cell (World.block_lt_of_cell? w _ qba0)).trans qba0) d os
        clear qba0
        have qba1 : w.cell? ⟨ba, fa + k * 4 + 1, none⟩ = some _ := hca 1 _ rfl
        have pba1 := fun d os => cell_regrown ((hB.cell (World.block_lt_of_cell? w _ qba1)).trans qba1) d os
        clear qba1
        have qba2 : w.cell? ⟨ba, fa + k * 4 + 2, none⟩ = some _ := hca 2 _ rfl
        have pba2 := fun d os => cell_regrown ((hB.cell (World.block_lt_of_cell? w _ qba2)).trans qba2) d os
        clear qba2
        have qba3 : w.cell? ⟨ba, fa + k * 4 + 3, none⟩ = some _ := hca 3 _ rfl
        have pba3 := fun d os => cell_regrown ((hB.cell (World.block_lt_of_cell? w _ qba3)).trans qba3) d os
        clear qba3
        have qbb0 : w.cell? ⟨bb, fb + k * 4, none⟩ = some _ := hcb 0 _ rfl
        have pbb0 := fun d os => cell_regrown ((hB.cell (World.block_lt_of_cell? w _ qbb0)).trans qbb0) d os
        clear qbb0
        have qbb1 : w.cell? ⟨bb, fb + k * 4 + 1, none⟩ = some _ := hcb 1 _ rfl
        have pbb1 := fun d os => cell_regrown ((hB.cell (World.block_lt_of_cell? w _ qbb1)).trans qbb1) d os
        clear qbb1
        have qbb2 : w.cell? ⟨bb, fb + k * 4 + 2, none⟩ = some _ := hcb 2 _ rfl
        have pbb2 := fun d os => cell_regrown ((hB.cell (World.block_lt_of_cell? w _ qbb2)).trans qbb2) d os
        clear qbb2
        have qbb3 : w.cell? ⟨bb, fb + k * 4 + 3, none⟩ = some _ := hcb 3 _ rfl
        have pbb3 := fun d os => cell_regrown ((hB.cell (World.block_lt_of_cell? w _ qbb3)).trans qbb3) d os
        clear qbb3
        have ra := fun d os => rd_below (rd_below hra hB) (below_regrown wr d os)
        have rb := fun d os => rd_below (rd_below hrb hB) (below_regrown wr d os)
        have Ra := Lib.hid ra
        have Rb := Lib.hid rb
        clear ra rb
        clear hca hcb hra hrb hla hlb
        go_wp2
        refine wp_region_quiet_below (by kernel_rfl) (by kernel_rfl) ?_
        repeat (quiet_step (exact Calls.regrown_of (eqAttr_c _ [x0, x1, x2, x3] [y0, y1, y2, y3] xa xb (Ra.out _ _) (Rb.out _ _))))
        refine wpQuiet_nil ?_
        intro _ hw'
        obtain ⟨⟨dq, osq⟩, hw''⟩ := hw'
        subst hw''
        have hB2 := hB.trans ((below_regrown wr dq osq).mono hB.size)
        go_wp2
        · go_ret
          obtain rfl : r = false := Hr.out.symm.trans (Hno.out (by go_light; clear es; simp_all [eqb_int, eqb_bool]))
          exact ⟨rfl, hB2⟩
        · go_roundw
          case rel => exact ⟨k + 1, by omega, by go_num, Hyes.out (by go_light; clear es; simp_all [eqb_int, eqb_bool]), hB2⟩
          case measure => simp [intOf]; omega
      · obtain rfl : k = la.length := by omega
        have Hy := Lib.hid (eqS_end htk.out (by have := Hlen.out; omega))
        go_wp2
        go_ret
        obtain rfl : r = true := Hr.out.symm.trans Hy.out
        exact ⟨rfl, hB⟩
  · have hne : ((la.length : Int) != (lb.length : Int)) = true := by simp; omega
    generalize hr : eqb la lb = r
    have Hr := Lib.hid hr; clear hr
    have Hn := Lib.hid (eqS_len hlen); clear hlen
    go_enter Tryz.func83, Tryz.ntmps83
    go_wp2
    go_ret
    obtain rfl : r = false := Hr.out.symm.trans Hn.out
    exact ⟨rfl, Below.refl _ _⟩
set_option maxHeartbeats 1000000 in
theorem eqFile_c (w : World) (ca cb : List Value) (a b : FileD) (ha : rd w ca a) (hb : rd w cb b) : Calls Tryz.prog 53 #[.agg ca.toArray, .agg cb.toArray] w (Ret w (.bool (eqb a b))) := by
  obtain ⟨a1, a2, a3, a4, a5⟩ := a
  obtain ⟨ac1, at1, rfl, ar1, ac2, at2, rfl, ar2, ac3, at3, rfl, ar3, ac4, at4, rfl, ar4, ar5⟩ := ha
  obtain ⟨rfl, ar1⟩ := ar1
  obtain ⟨rfl, ar2⟩ := ar2
  obtain rfl := ar3
  obtain ⟨rfl, ar4⟩ := ar4
  obtain ⟨ax5_0, rfl⟩ := len1 (show _ = 1 from GoD.rd_len ar5)
  obtain ⟨b1, b2, b3, b4, b5⟩ := b
  obtain ⟨bc1, bt1, rfl, br1, bc2, bt2, rfl, br2, bc3, bt3, rfl, br3, bc4, bt4, rfl, br4, br5⟩ := hb
  obtain ⟨rfl, br1⟩ := br1
  obtain ⟨rfl, br2⟩ := br2
  obtain rfl := br3
  obtain ⟨rfl, br4⟩ := br4
  obtain ⟨bx5_0, rfl⟩ := len1 (show _ = 1 from GoD.rd_len br5)
  dsimp only [List.cons_append, List.nil_append] at *
  generalize hr : eqb (a1, a2, a3, a4, a5) (b1, b2, b3, b4, b5) = r
  have Hr := Lib.hid hr; clear hr
  have es := eqb_str
  clear ar1 br1
  clear ar2 br2
  clear ar4 br4
  have AR5H := Lib.hid ar5; clear ar5
  have BR5H := Lib.hid br5; clear br5
  have tok1 : True := trivial
  go_enter Tryz.func53, Tryz.ntmps53
  go_wp2_with (first | (go_at_call 83; have tk := tok1; clear tok1; (refine call_ret (w := w) (eqAttrS_c _ ax5_0 bx5_0 a5 b5 (rd_below AR5H.out (by go_grown)) (rd_below BR5H.out (by go_grown))) (by go_grown) ?_; intro w' hB hb hz hz2; (repeat (first | rewrite [World.size_alloc] at hz2 | rewrite [World.size_setCell] at hz2 | rewrite [World.size_drew] at hz2)); have c0 := fun o => bcell hb (w.heap.size) o (by go_size); have c1 := fun o => bcell hb (w.heap.size + 1) o (by go_size))))
  all_goals
    go_ret
    refine ⟨?_, by go_grown⟩
    rw [← Hr.out]
    go_light
    clear es
    simp_all [eqb_prod, eqb_int, eqb_bool]
set_option maxHeartbeats 1000000 in
theorem eqFileS_c (w : World) (sa sb : Value) (la lb : List FileD) (ha : rd w [sa] la) (hb : rd w [sb] lb) : Calls Tryz.prog 28 #[sa, sb] w (Ret w (.bool (eqb la lb))) := by
  obtain ⟨oa, capa, e1, hl1, hm1, hel1⟩ := ha
  obtain ⟨ob, capb, e2, hl2, hm2, hel2⟩ := hb
  obtain rfl : sa = _ := by simpa using e1
  obtain rfl : sb = _ := by simpa using e2
  clear e1 e2
  have HE1 := Lib.hid hel1; clear hel1
  have HE2 := Lib.hid hel2; clear hel2
  unfold maxLen at hm1 hm2
  have hma : la.length ≤ 9223372036854775807 := by omega
  have hmb : lb.length ≤ 9223372036854775807 := by omega
  by_cases hlen : la.length = lb.length
  · have hne : ((la.length : Int) != (lb.length : Int)) = false := by simp [hlen]
    generalize hr : eqb la lb = r
    have Hr := Lib.hid hr; clear hr
    have Hlen := Lib.hid hlen; clear hlen
    have es := eqb_str
    go_enter Tryz.func28, Tryz.ntmps28
    go_wp2
    go_loopw [5] (fun i wr => ∃ k : Nat, k ≤ la.length ∧ i = .int .i64 k ∧ Hid (la.take k = lb.take k) ∧ Below w.heap.size w wr) (fun i _ => la.length - (intOf i).toNat)
    case atStart => exact ⟨0, Nat.zero_le _, rfl, rfl, Below.refl _ _⟩
    case round =>
      obtain ⟨k, hk, rfl, htk, hB⟩ := hrel
      by_cases hlt : k < la.length
      · have hltb : k < lb.length := by have := Hlen.out; omega
        obtain ⟨ba, fa, ea, rfl, hla, hca, hra⟩ := HE1.out k _ (List.getElem?_eq_getElem hlt)
        obtain ⟨bb, fb, eb, rfl, hlb, hcb, hrb⟩ := HE2.out k _ (List.getElem?_eq_getElem hltb)
        have Hno := Lib.hid (eqS_no (List.getElem?_eq_getElem hlt) (List.getElem?_eq_getElem hltb))
        have Hyes := Lib.hid (eqS_step htk.out (List.getElem?_eq_getElem hlt) (List.getElem?_eq_getElem hltb))
        generalize la[k] = xa at *
        generalize lb[k] = xb at *
        obtain ⟨x0, x1, x2, x3, x4, rfl⟩ := len5 (show _ = 5 from hla)
        obtain ⟨y0, y1, y2, y3, y4, rfl⟩ := len5 (show _ = 5 from hlb)
        have qba0 : w.cell? ⟨ba, fa + k * 5, none⟩ = some _ := hca 0 _ rfl
        have pba0 := fun d os => cell_regrown ((hB.cell (World.block_lt_of_cell? w _ qba0)).trans qba0) d os
        clear qba0
        have qba1 : w.cell? ⟨ba, fa + k * 5 + 1, none⟩ = some _ := hca 1 _ rfl
        have pba1 := fun d os => cell_regrown ((hB.cell (World.block_lt_of_cell? w _ qba1)).trans qba1) d os
        clear qba1
        have qba2 : w.cell? ⟨ba, fa + k * 5 + 2, none⟩ = some _ := hca 2 _ rfl
        have pba2 := fun d os => cell_regrown ((hB.cell (World.block_lt_of_cell? w _ qba2)).trans qba2) d os
        clear qba2
        have qba3 : w.cell? ⟨ba, fa + k * 5 + 3, none⟩ = some _ := hca 3 _ rfl
        have pba3 := fun d os => cell_regrown ((hB.cell (World.block_lt_of_cell? w _ qba3)).trans qba3) d os
        clear qba3
        have qba4 : w.cell? ⟨ba, fa + k * 5 + 4, none⟩ = some _ := hca 4 _ rfl
        have pba4 := fun d os => cell_regrown ((hB.cell (World.block_lt_of_cell? w _ qba4)).trans qba4) d os
        clear qba4
        have qbb0 : w.cell? ⟨bb, fb + k * 5, none⟩ = some _ := hcb 0 _ rfl
        have pbb0 := fun d os => cell_regrown ((hB.cell (World.block_lt_of_cell? w _ qbb0)).trans qbb0) d os
        clear qbb0
        have qbb1 : w.cell? ⟨bb, fb + k * 5 + 1, none⟩ = some _ := hcb 1 _ rfl
        have pbb1 := fun d os => cell_regrown ((hB.cell (World.block_lt_of_cell? w _ qbb1)).trans qbb1) d os
        clear qbb1
        have qbb2 : w.cell? ⟨bb, fb + k * 5 + 2, none⟩ = some _ := hcb 2 _ rfl
        have pbb2 := fun d os => cell_regrown ((hB.cell (World.block_lt_of_cell? w _ qbb2)).trans qbb2) d os
        clear qbb2
        have qbb3 : w.cell? ⟨bb, fb + k * 5 + 3, none⟩ = some _ := hcb 3 _ rfl
        have pbb3 := fun d os => cell_regrown ((hB.cell (World.block_lt_of_cell? w _ qbb3)).trans qbb3) d os
        clear qbb3
        have qbb4 : w.cell? ⟨bb, fb + k * 5 + 4, none⟩ = some _ := hcb 4 _ rfl
        have pbb4 := fun d os => cell_regrown ((hB.cell (World.block_lt_of_cell? w _ qbb4)).trans qbb4) d os
        clear qbb4
        have ra := fun d os => rd_below (rd_below hra hB) (below_regrown wr d os)
        have rb := fun d os => rd_below (rd_below hrb hB) (below_regrown wr d os)
        have Ra := Lib.hid ra
        have Rb := Lib.hid rb
        clear ra rb
        clear hca hcb hra hrb hla hlb
        go_wp2
        refine wp_region_quiet_below (by kernel_rfl) (by kernel_rfl) ?_
        repeat (quiet_step (exact Calls.regrown_of (eqFile_c _ [x0, x1, x2, x3, x4] [y0, y1, y2, y3, y4] xa xb (Ra.out _ _) (Rb.out _ _))))
        refine wpQuiet_nil ?_
        intro _ hw'
        obtain ⟨⟨dq, osq⟩, hw''⟩ := hw'
        subst hw''
        have hB2 := hB.trans ((below_regrown wr dq osq).mono hB.size)
        go_wp2
        · go_ret
          obtain rfl : r = false := Hr.out.symm.trans (Hno.out (by go_light; clear es; simp_all [eqb_int, eqb_bool]))
          exact ⟨rfl, hB2⟩
        · go_roundw
          case rel => exact ⟨k + 1, by omega, by go_num, Hyes.out (by go_light; clear es; simp_all [eqb_int, eqb_bool]), hB2⟩
          case measure => simp [intOf]; omega
      · obtain rfl : k = la.length := by omega
        have Hy := Lib.hid (eqS_end htk.out (by have := Hlen.out; omega))
        go_wp2
        go_ret
        obtain rfl : r = true := Hr.out.symm.trans Hy.out
        exact ⟨rfl, hB⟩
  · have hne : ((la.length : Int) != (lb.length : Int)) = true := by simp; omega
    generalize hr : eqb la lb = r
    have Hr := Lib.hid hr; clear hr
    have Hn := Lib.hid (eqS_len hlen); clear hlen
    go_enter Tryz.func28, Tryz.ntmps28
    go_wp2
    go_ret
    obtain rfl : r = false := Hr.out.symm.trans Hn.out
    exact ⟨rfl, Below.refl _ _⟩
set_option maxHeartbeats 1000000 in
theorem eqNodeS_c (w : World) (sa sb : Value) (la lb : List NodeD) (ha : rd w [sa] la) (hb : rd w [sb] lb) : Calls Tryz.prog 54 #[sa, sb] w (Ret w (.bool (eqb la lb))) := by
  obtain ⟨oa, capa, e1, hl1, hm1, hel1⟩ := ha
  obtain ⟨ob, capb, e2, hl2, hm2, hel2⟩ := hb
  obtain rfl : sa = _ := by simpa using e1
  obtain rfl : sb = _ := by simpa using e2
  clear e1 e2
  have HE1 := Lib.hid hel1; clear hel1
  have HE2 := Lib.hid hel2; clear hel2
  unfold maxLen at hm1 hm2
  have hma : la.length ≤ 9223372036854775807 := by omega
  have hmb : lb.length ≤ 9223372036854775807 := by omega
  by_cases hlen : la.length = lb.length
  · have hne : ((la.length : Int) != (lb.length : Int)) = false := by simp [hlen]
    generalize hr : eqb la lb = r
    have Hr := Lib.hid hr; clear hr
    have Hlen := Lib.hid hlen; clear hlen
    have es := eqb_str
    go_enter Tryz.func54, Tryz.ntmps54
    go_wp2
    go_loopw [5] (fun i wr => ∃ k : Nat, k ≤ la.length ∧ i = .int .i64 k ∧ Hid (la.take k = lb.take k) ∧ Below w.heap.size w wr) (fun i _ => la.length - (intOf i).toNat)
    case atStart => exact ⟨0, Nat.zero_le _, rfl, rfl, Below.refl _ _⟩
    case round =>
      obtain ⟨k, hk, rfl, htk, hB⟩ := hrel
      by_cases hlt : k < la.length
      · have hltb : k < lb.length := by have := Hlen.out; omega
        obtain ⟨ba, fa, ea, rfl, hla, hca, hra⟩ := HE1.out k _ (List.getElem?_eq_getElem hlt)
        obtain ⟨bb, fb, eb, rfl, hlb, hcb, hrb⟩ := HE2.out k _ (List.getElem?_eq_getElem hltb)
        have Hno := Lib.hid (eqS_no (List.getElem?_eq_getElem hlt) (List.getElem?_eq_getElem hltb))
        have Hyes := Lib.hid (eqS_step htk.out (List.getElem?_eq_getElem hlt) (List.getElem?_eq_getElem hltb))
        generalize la[k] = xa at *
        generalize lb[k] = xb at *
        obtain ⟨x0, x1, x2, x3, x4, x5, x6, rfl⟩ := len7 (show _ = 7 from hla)
        obtain ⟨y0, y1, y2, y3, y4, y5, y6, rfl⟩ := len7 (show _ = 7 from hlb)
        have qba0 : w.cell? ⟨ba, fa + k * 7, none⟩ = some _ := hca 0 _ rfl
        have pba0 := fun d os => cell_regrown ((hB.cell (World.block_lt_of_cell? w _ qba0)).trans qba0) d os
        clear qba0
        have qba1 : w.cell? ⟨ba, fa + k * 7 + 1, none⟩ = some _ := hca 1 _ rfl
        have pba1 := fun d os => cell_regrown ((hB.cell (World.block_lt_of_cell? w _ qba1)).trans qba1) d os
        clear qba1
        have qba2 : w.cell? ⟨ba, fa + k * 7 + 2, none⟩ = some _ := hca 2 _ rfl
        have pba2 := fun d os => cell_regrown ((hB.cell (World.block_lt_of_cell? w _ qba2)).trans qba2) d os
        clear qba2
        have qba3 : w.cell? ⟨ba, fa + k * 7 + 3, none⟩ = some _ := hca 3 _ rfl
        have pba3 := fun d os => cell_regrown ((hB.cell (World.block_lt_of_cell? w _ qba3)).trans qba3) d os
        clear qba3
        have qba4 : w.cell? ⟨ba, fa + k * 7 + 4, none⟩ = some _ := hca 4 _ rfl
        have pba4 := fun d os => cell_regrown ((hB.cell (World.block_lt_of_cell? w _ qba4)).trans qba4) d os
        clear qba4
        have qba5 : w.cell? ⟨ba, fa + k * 7 + 5, none⟩ = some _ := hca 5 _ rfl
        have pba5 := fun d os => cell_regrown ((hB.cell (World.block_lt_of_cell? w _ qba5)).trans qba5) d os
        clear qba5
        have qba6 : w.cell? ⟨ba, fa + k * 7 + 6, none⟩ = some _ := hca 6 _ rfl
        have pba6 := fun d os => cell_regrown ((hB.cell (World.block_lt_of_cell? w _ qba6)).trans qba6) d os
        clear qba6
        have qbb0 : w.cell? ⟨bb, fb + k * 7, none⟩ = some _ := hcb 0 _ rfl
        have pbb0 := fun d os => cell_regrown ((hB.cell (World.block_lt_of_cell? w _ qbb0)).trans qbb0) d os
        clear qbb0
        have qbb1 : w.cell? ⟨bb, fb + k * 7 + 1, none⟩ = some _ := hcb 1 _ rfl
        have pbb1 := fun d os => cell_regrown ((hB.cell (World.block_lt_of_cell? w _ qbb1)).trans qbb1) d os
        clear qbb1
        have qbb2 : w.cell? ⟨bb, fb + k * 7 + 2, none⟩ = some _ := hcb 2 _ rfl
        have pbb2 := fun d os => cell_regrown ((hB.cell (World.block_lt_of_cell? w _ qbb2)).trans qbb2) d os
        clear qbb2
        have qbb3 : w.cell? ⟨bb, fb + k * 7 + 3, none⟩ = some _ := hcb 3 _ rfl
        have pbb3 := fun d os => cell_regrown ((hB.cell (World.block_lt_of_cell? w _ qbb3)).trans qbb3) d os
        clear qbb3
        have qbb4 : w.cell? ⟨bb, fb + k * 7 + 4, none⟩ = some _ := hcb 4 _ rfl
        have pbb4 := fun d os => cell_regrown ((hB.cell (World.block_lt_of_cell? w _ qbb4)).trans qbb4) d os
        clear qbb4
        have qbb5 : w.cell? ⟨bb, fb + k * 7 + 5, none⟩ = some _ := hcb 5 _ rfl
        have pbb5 := fun d os => cell_regrown ((hB.cell (World.block_lt_of_cell? w _ qbb5)).trans qbb5) d os
        clear qbb5
        have qbb6 : w.cell? ⟨bb, fb + k * 7 + 6, none⟩ = some _ := hcb 6 _ rfl
        have pbb6 := fun d os => cell_regrown ((hB.cell (World.block_lt_of_cell? w _ qbb6)).trans qbb6) d os
        clear qbb6
        have ra := fun d os => rd_below (rd_below hra hB) (below_regrown wr d os)
        have rb := fun d os => rd_below (rd_below hrb hB) (below_regrown wr d os)
        have Ra := Lib.hid ra
        have Rb := Lib.hid rb
        clear ra rb
        clear hca hcb hra hrb hla hlb
        go_wp2
        refine wp_region_quiet_below (by kernel_rfl) (by kernel_rfl) ?_
        repeat (quiet_step (exact Calls.regrown_of (eqNode_c _ [x0, x1, x2, x3, x4, x5, x6] [y0, y1, y2, y3, y4, y5, y6] xa xb (Ra.out _ _) (Rb.out _ _))))
        refine wpQuiet_nil ?_
        intro _ hw'
        obtain ⟨⟨dq, osq⟩, hw''⟩ := hw'
        subst hw''
        have hB2 := hB.trans ((below_regrown wr dq osq).mono hB.size)
        go_wp2
        · go_ret
          obtain rfl : r = false := Hr.out.symm.trans (Hno.out (by go_light; clear es; simp_all [eqb_int, eqb_bool]))
          exact ⟨rfl, hB2⟩
        · go_roundw
          case rel => exact ⟨k + 1, by omega, by go_num, Hyes.out (by go_light; clear es; simp_all [eqb_int, eqb_bool]), hB2⟩
          case measure => simp [intOf]; omega
      · obtain rfl : k = la.length := by omega
        have Hy := Lib.hid (eqS_end htk.out (by have := Hlen.out; omega))
        go_wp2
        go_ret
        obtain rfl : r = true := Hr.out.symm.trans Hy.out
        exact ⟨rfl, hB⟩
  · have hne : ((la.length : Int) != (lb.length : Int)) = true := by simp; omega
    generalize hr : eqb la lb = r
    have Hr := Lib.hid hr; clear hr
    have Hn := Lib.hid (eqS_len hlen); clear hlen
    go_enter Tryz.func54, Tryz.ntmps54
    go_wp2
    go_ret
    obtain rfl : r = false := Hr.out.symm.trans Hn.out
    exact ⟨rfl, Below.refl _ _⟩
set_option maxHeartbeats 1000000 in
theorem eqDir_c (w : World) (ca cb : List Value) (a b : DirD) (ha : rd w ca a) (hb : rd w cb b) : Calls Tryz.prog 29 #[.agg ca.toArray, .agg cb.toArray] w (Ret w (.bool (eqb a b))) := by
  obtain ⟨a1, a2⟩ := a
  obtain ⟨ac1, at1, rfl, ar1, ar2⟩ := ha
  obtain ⟨rfl, ar1⟩ := ar1
  obtain ⟨ax2_0, rfl⟩ := len1 (show _ = 1 from GoD.rd_len ar2)
  obtain ⟨b1, b2⟩ := b
  obtain ⟨bc1, bt1, rfl, br1, br2⟩ := hb
  obtain ⟨rfl, br1⟩ := br1
  obtain ⟨bx2_0, rfl⟩ := len1 (show _ = 1 from GoD.rd_len br2)
  dsimp only [List.cons_append, List.nil_append] at *
  generalize hr : eqb (a1, a2) (b1, b2) = r
  have Hr := Lib.hid hr; clear hr
  have es := eqb_str
  clear ar1 br1
  have AR2H := Lib.hid ar2; clear ar2
  have BR2H := Lib.hid br2; clear br2
  have tok1 : True := trivial
  go_enter Tryz.func29, Tryz.ntmps29
  go_wp2_with (first | (go_at_call 54; have tk := tok1; clear tok1; (refine call_ret (w := w) (eqNodeS_c _ ax2_0 bx2_0 a2 b2 (rd_below AR2H.out (by go_grown)) (rd_below BR2H.out (by go_grown))) (by go_grown) ?_; intro w' hB hb hz hz2; (repeat (first | rewrite [World.size_alloc] at hz2 | rewrite [World.size_setCell] at hz2 | rewrite [World.size_drew] at hz2)); have c0 := fun o => bcell hb (w.heap.size) o (by go_size); have c1 := fun o => bcell hb (w.heap.size + 1) o (by go_size))))
  all_goals
    go_ret
    refine ⟨?_, by go_grown⟩
    rw [← Hr.out]
    go_light
    clear es
    simp_all [eqb_prod, eqb_int, eqb_bool]
set_option maxHeartbeats 1000000 in
theorem eqField_c (w : World) (ca cb : List Value) (a b : FieldD) (ha : rd w ca a) (hb : rd w cb b) : Calls Tryz.prog 52 #[.agg ca.toArray, .agg cb.toArray] w (Ret w (.bool (eqb a b))) := by
  obtain ⟨a1, a2⟩ := a
  obtain ⟨ac1, at1, rfl, ar1, ar2⟩ := ha
  obtain ⟨rfl, ar1⟩ := ar1
  obtain ⟨rfl, ar2⟩ := ar2
  obtain ⟨b1, b2⟩ := b
  obtain ⟨bc1, bt1, rfl, br1, br2⟩ := hb
  obtain ⟨rfl, br1⟩ := br1
  obtain ⟨rfl, br2⟩ := br2
  dsimp only [List.cons_append, List.nil_append] at *
  generalize hr : eqb (a1, a2) (b1, b2) = r
  have Hr := Lib.hid hr; clear hr
  have es := eqb_str
  clear ar1 br1
  clear ar2 br2
  go_enter Tryz.func52, Tryz.ntmps52
  go_wp2
  all_goals
    go_ret
    refine ⟨?_, by go_grown⟩
    rw [← Hr.out]
    go_light
    clear es
    simp_all [eqb_prod, eqb_int, eqb_bool]
set_option maxHeartbeats 1000000 in
theorem eqDirS_c (w : World) (sa sb : Value) (la lb : List DirD) (ha : rd w [sa] la) (hb : rd w [sb] lb) : Calls Tryz.prog 12 #[sa, sb] w (Ret w (.bool (eqb la lb))) := by
  obtain ⟨oa, capa, e1, hl1, hm1, hel1⟩ := ha
  obtain ⟨ob, capb, e2, hl2, hm2, hel2⟩ := hb
  obtain rfl : sa = _ := by simpa using e1
  obtain rfl : sb = _ := by simpa using e2
  clear e1 e2
  have HE1 := Lib.hid hel1; clear hel1
  have HE2 := Lib.hid hel2; clear hel2
  unfold maxLen at hm1 hm2
  have hma : la.length ≤ 9223372036854775807 := by omega
  have hmb : lb.length ≤ 9223372036854775807 := by omega
  by_cases hlen : la.length = lb.length
  · have hne : ((la.length : Int) != (lb.length : Int)) = false := by simp [hlen]
    generalize hr : eqb la lb = r
    have Hr := Lib.hid hr; clear hr
    have Hlen := Lib.hid hlen; clear hlen
    have es := eqb_str
    go_enter Tryz.func12, Tryz.ntmps12
    go_wp2
    go_loopw [5] (fun i wr => ∃ k : Nat, k ≤ la.length ∧ i = .int .i64 k ∧ Hid (la.take k = lb.take k) ∧ Below w.heap.size w wr) (fun i _ => la.length - (intOf i).toNat)
    case atStart => exact ⟨0, Nat.zero_le _, rfl, rfl, Below.refl _ _⟩
    case round =>
      obtain ⟨k, hk, rfl, htk, hB⟩ := hrel
      by_cases hlt : k < la.length
      · have hltb : k < lb.length := by have := Hlen.out; omega
        obtain ⟨ba, fa, ea, rfl, hla, hca, hra⟩ := HE1.out k _ (List.getElem?_eq_getElem hlt)
        obtain ⟨bb, fb, eb, rfl, hlb, hcb, hrb⟩ := HE2.out k _ (List.getElem?_eq_getElem hltb)
        have Hno := Lib.hid (eqS_no (List.getElem?_eq_getElem hlt) (List.getElem?_eq_getElem hltb))
        have Hyes := Lib.hid (eqS_step htk.out (List.getElem?_eq_getElem hlt) (List.getElem?_eq_getElem hltb))
        generalize la[k] = xa at *
        generalize lb[k] = xb at *
        obtain ⟨x0, x1, rfl⟩ := len2 (show _ = 2 from hla)
        obtain ⟨y0, y1, rfl⟩ := len2 (show _ = 2 from hlb)
        have qba0 : w.cell? ⟨ba, fa + k * 2, none⟩ = some _ := hca 0 _ rfl
        have pba0 := fun d os => cell_regrown ((hB.cell (World.block_lt_of_cell? w _ qba0)).trans qba0) d os
        clear qba0
        have qba1 : w.cell? ⟨ba, fa + k * 2 + 1, none⟩ = some _ := hca 1 _ rfl
        have pba1 := fun d os => cell_regrown ((hB.cell (World.block_lt_of_cell? w _ qba1)).trans qba1) d os
        clear qba1
        have qbb0 : w.cell? ⟨bb, fb + k * 2, none⟩ = some _ := hcb 0 _ rfl
        have pbb0 := fun d os => cell_regrown ((hB.cell (World.block_lt_of_cell? w _ qbb0)).trans qbb0) d os
        clear qbb0
        have qbb1 : w.cell? ⟨bb, fb + k * 2 + 1, none⟩ = some _ := hcb 1 _ rfl
        have pbb1 := fun d os => cell_regrown ((hB.cell (World.block_lt_of_cell? w _ qbb1)).trans qbb1) d os
        clear qbb1
        have ra := fun d os => rd_below (rd_below hra hB) (below_regrown wr d os)
        have rb := fun d os => rd_below (rd_below hrb hB) (below_regrown wr d os)
        have Ra := Lib.hid ra
        have Rb := Lib.hid rb
        clear ra rb
        clear hca hcb hra hrb hla hlb
        go_wp2
        refine wp_region_quiet_below (by kernel_rfl) (by kernel_rfl) ?_
        repeat (quiet_step (exact Calls.regrown_of (eqDir_c _ [x0, x1] [y0, y1] xa xb (Ra.out _ _) (Rb.out _ _))))
        refine wpQuiet_nil ?_
        intro _ hw'
        obtain ⟨⟨dq, osq⟩, hw''⟩ := hw'
        subst hw''
        have hB2 := hB.trans ((below_regrown wr dq osq).mono hB.size)
        go_wp2
        · go_ret
          obtain rfl : r = false := Hr.out.symm.trans (Hno.out (by go_light; clear es; simp_all [eqb_int, eqb_bool]))
          exact ⟨rfl, hB2⟩
        · go_roundw
          case rel => exact ⟨k + 1, by omega, by go_num, Hyes.out (by go_light; clear es; simp_all [eqb_int, eqb_bool]), hB2⟩
          case measure => simp [intOf]; omega
      · obtain rfl : k = la.length := by omega
        have Hy := Lib.hid (eqS_end htk.out (by have := Hlen.out; omega))
        go_wp2
        go_ret
        obtain rfl : r = true := Hr.out.symm.trans Hy.out
        exact ⟨rfl, hB⟩
  · have hne : ((la.length : Int) != (lb.length : Int)) = true := by simp; omega
    generalize hr : eqb la lb = r
    have Hr := Lib.hid hr; clear hr
    have Hn := Lib.hid (eqS_len hlen); clear hlen
    go_enter Tryz.func12, Tryz.ntmps12
    go_wp2
    go_ret
    obtain rfl : r = false := Hr.out.symm.trans Hn.out
    exact ⟨rfl, Below.refl _ _⟩
set_option maxHeartbeats 1000000 in
theorem eqFieldS_c (w : World) (sa sb : Value) (la lb : List FieldD) (ha : rd w [sa] la) (hb : rd w [sb] lb) : Calls Tryz.prog 27 #[sa, sb] w (Ret w (.bool (eqb la lb))) := by
  obtain ⟨oa, capa, e1, hl1, hm1, hel1⟩ := ha
  obtain ⟨ob, capb, e2, hl2, hm2, hel2⟩ := hb
  obtain rfl : sa = _ := by simpa using e1
  obtain rfl : sb = _ := by simpa using e2
  clear e1 e2
  have HE1 := Lib.hid hel1; clear hel1
  have HE2 := Lib.hid hel2; clear hel2
  unfold maxLen at hm1 hm2
  have hma : la.length ≤ 9223372036854775807 := by omega
  have hmb : lb.length ≤ 9223372036854775807 := by omega
  by_cases hlen : la.length = lb.length
  · have hne : ((la.length : Int) != (lb.length : Int)) = false := by simp [hlen]
    generalize hr : eqb la lb = r
    have Hr := Lib.hid hr; clear hr
    have Hlen := Lib.hid hlen; clear hlen
    have es := eqb_str
    go_enter Tryz.func27, Tryz.ntmps27
    go_wp2
    go_loopw [5] (fun i wr => ∃ k : Nat, k ≤ la.length ∧ i = .int .i64 k ∧ Hid (la.take k = lb.take k) ∧ Below w.heap.size w wr) (fun i _ => la.length - (intOf i).toNat)
    case atStart => exact ⟨0, Nat.zero_le _, rfl, rfl, Below.refl _ _⟩
    case round =>
      obtain ⟨k, hk, rfl, htk, hB⟩ := hrel
      by_cases hlt : k < la.length
      · have hltb : k < lb.length := by have := Hlen.out; omega
        obtain ⟨ba, fa, ea, rfl, hla, hca, hra⟩ := HE1.out k _ (List.getElem?_eq_getElem hlt)
        obtain ⟨bb, fb, eb, rfl, hlb, hcb, hrb⟩ := HE2.out k _ (List.getElem?_eq_getElem hltb)
        have Hno := Lib.hid (eqS_no (List.getElem?_eq_getElem hlt) (List.getElem?_eq_getElem hltb))
        have Hyes := Lib.hid (eqS_step htk.out (List.getElem?_eq_getElem hlt) (List.getElem?_eq_getElem hltb))
        generalize la[k] = xa at *
        generalize lb[k] = xb at *
        obtain ⟨x0, x1, rfl⟩ := len2 (show _ = 2 from hla)
        obtain ⟨y0, y1, rfl⟩ := len2 (show _ = 2 from hlb)
        have qba0 : w.cell? ⟨ba, fa + k * 2, none⟩ = some _ := hca 0 _ rfl
        have pba0 := fun d os => cell_regrown ((hB.cell (World.block_lt_of_cell? w _ qba0)).trans qba0) d os
        clear qba0
        have qba1 : w.cell? ⟨ba, fa + k * 2 + 1, none⟩ = some _ := hca 1 _ rfl
        have pba1 := fun d os => cell_regrown ((hB.cell (World.block_lt_of_cell? w _ qba1)).trans qba1) d os
        clear qba1
        have qbb0 : w.cell? ⟨bb, fb + k * 2, none⟩ = some _ := hcb 0 _ rfl
        have pbb0 := fun d os => cell_regrown ((hB.cell (World.block_lt_of_cell? w _ qbb0)).trans qbb0) d os
        clear qbb0
        have qbb1 : w.cell? ⟨bb, fb + k * 2 + 1, none⟩ = some _ := hcb 1 _ rfl
        have pbb1 := fun d os => cell_regrown ((hB.cell (World.block_lt_of_cell? w _ qbb1)).trans qbb1) d os
        clear qbb1
        have ra := fun d os => rd_below (rd_below hra hB) (below_regrown wr d os)
        have rb := fun d os => rd_below (rd_below hrb hB) (below_regrown wr d os)
        have Ra := Lib.hid ra
        have Rb := Lib.hid rb
        clear ra rb
        clear hca hcb hra hrb hla hlb
        go_wp2
        refine wp_region_quiet_below (by kernel_rfl) (by kernel_rfl) ?_
        repeat (quiet_step (exact Calls.regrown_of (eqField_c _ [x0, x1] [y0, y1] xa xb (Ra.out _ _) (Rb.out _ _))))
        refine wpQuiet_nil ?_
        intro _ hw'
        obtain ⟨⟨dq, osq⟩, hw''⟩ := hw'
        subst hw''
        have hB2 := hB.trans ((below_regrown wr dq osq).mono hB.size)
        go_wp2
        · go_ret
          obtain rfl : r = false := Hr.out.symm.trans (Hno.out (by go_light; clear es; simp_all [eqb_int, eqb_bool]))
          exact ⟨rfl, hB2⟩
        · go_roundw
          case rel => exact ⟨k + 1, by omega, by go_num, Hyes.out (by go_light; clear es; simp_all [eqb_int, eqb_bool]), hB2⟩
          case measure => simp [intOf]; omega
      · obtain rfl : k = la.length := by omega
        have Hy := Lib.hid (eqS_end htk.out (by have := Hlen.out; omega))
        go_wp2
        go_ret
        obtain rfl : r = true := Hr.out.symm.trans Hy.out
        exact ⟨rfl, hB⟩
  · have hne : ((la.length : Int) != (lb.length : Int)) = true := by simp; omega
    generalize hr : eqb la lb = r
    have Hr := Lib.hid hr; clear hr
    have Hn := Lib.hid (eqS_len hlen); clear hlen
    go_enter Tryz.func27, Tryz.ntmps27
    go_wp2
    go_ret
    obtain rfl : r = false := Hr.out.symm.trans Hn.out
    exact ⟨rfl, Below.refl _ _⟩
set_option maxHeartbeats 1000000 in
theorem eqStore_c (w : World) (ca cb : List Value) (a b : StoreD) (ha : rd w ca a) (hb : rd w cb b) : Calls Tryz.prog 11 #[.agg ca.toArray, .agg cb.toArray] w (Ret w (.bool (eqb a b))) := by
  obtain ⟨a1, a2, a3⟩ := a
  obtain ⟨ac1, at1, rfl, ar1, ac2, at2, rfl, ar2, ar3⟩ := ha
  obtain ⟨ax1_0, rfl⟩ := len1 (show _ = 1 from GoD.rd_len ar1)
  obtain ⟨ax2_0, rfl⟩ := len1 (show _ = 1 from GoD.rd_len ar2)
  obtain ⟨rfl, ar3⟩ := ar3
  obtain ⟨b1, b2, b3⟩ := b
  obtain ⟨bc1, bt1, rfl, br1, bc2, bt2, rfl, br2, br3⟩ := hb
  obtain ⟨bx1_0, rfl⟩ := len1 (show _ = 1 from GoD.rd_len br1)
  obtain ⟨bx2_0, rfl⟩ := len1 (show _ = 1 from GoD.rd_len br2)
  obtain ⟨rfl, br3⟩ := br3
  dsimp only [List.cons_append, List.nil_append] at *
  generalize hr : eqb (a1, a2, a3) (b1, b2, b3) = r
  have Hr := Lib.hid hr; clear hr
  have es := eqb_str
  have AR1H := Lib.hid ar1; clear ar1
  have BR1H := Lib.hid br1; clear br1
  have AR2H := Lib.hid ar2; clear ar2
  have BR2H := Lib.hid br2; clear br2
  clear ar3 br3
  have tok1 : True := trivial
  have tok2 : True := trivial
  go_enter Tryz.func11, Tryz.ntmps11
  go_wp2_with (first | (go_at_call 27; have tk := tok1; clear tok1; (refine call_ret (w := w) (eqFieldS_c _ ax1_0 bx1_0 a1 b1 (rd_below AR1H.out (by go_grown)) (rd_below BR1H.out (by go_grown))) (by go_grown) ?_; intro w' hB hb hz hz2; (repeat (first | rewrite [World.size_alloc] at hz2 | rewrite [World.size_setCell] at hz2 | rewrite [World.size_drew] at hz2)); have c0 := fun o => bcell hb (w.heap.size) o (by go_size); have c1 := fun o => bcell hb (w.heap.size + 1) o (by go_size))) | (go_at_call 28; have tk := tok2; clear tok2; (refine call_ret (w := w) (eqFileS_c _ ax2_0 bx2_0 a2 b2 (rd_below AR2H.out (by go_grown)) (rd_below BR2H.out (by go_grown))) (by go_grown) ?_; intro w' hB hb hz hz2; (repeat (first | rewrite [World.size_alloc] at hz2 | rewrite [World.size_setCell] at hz2 | rewrite [World.size_drew] at hz2)); have c0 := fun o => bcell hb (w.heap.size) o (by go_size); have c1 := fun o => bcell hb (w.heap.size + 1) o (by go_size))))
  all_goals
    go_ret
    refine ⟨?_, by go_grown⟩
    rw [← Hr.out]
    go_light
    clear es
    simp_all [eqb_prod, eqb_int, eqb_bool]
end Go.Proofs.YtnhmnfmhnepjmaaGreatDoor
namespace Go.Proofs.YtnhmnfmhnepjmaaGreatDoor
open Go.RowKit
open GoD (rd own)
set_option maxHeartbeats 1000000 in
theorem toField_c (w : World) (ca : List Value) (a : FieldD) (ha : rd w ca a) (hsz : GoD.size a ≤ 1048576) : Calls Tryz.prog 43 #[.agg ca.toArray] w (RetA w a) := by
  obtain ⟨a1, a2⟩ := a
  obtain ⟨ac1, at1, rfl, ar1, ar2⟩ := ha
  obtain ⟨rfl, ar1⟩ := ar1
  obtain ⟨rfl, ar2⟩ := ar2
  dsimp only [List.cons_append, List.nil_append] at *
  replace hsz : (GoD.size a1 + GoD.size a2) ≤ 1048576 := hsz
  have AR1H := Lib.hid ar1; clear ar1
  have AR2H := Lib.hid ar2; clear ar2
  go_enter Tryz.func43, Tryz.ntmps43
  go_wp2_with (first | ((with_reducible show bodyPost _ _ _ _ _ _); refine bodyPost_ret (v := .agg #[.string a1, .int .i64 a2]) (by simp [results, Tryz.results43, go_sem]) rfl ⟨[.string a1, .int .i64 a2], ([] ++ []), rfl, by go_grown, ?_, ?_⟩; (exact (own_pair (own_s _ AR1H.out) (own_i _ AR2H.out) (by simp))); simp))
set_option maxHeartbeats 1000000 in
theorem toValue_c (w : World) (ca : List Value) (a : ValueD) (ha : rd w ca a) (hsz : GoD.size a ≤ 1048576) : Calls Tryz.prog 97 #[.agg ca.toArray] w (RetA w a) := by
  obtain ⟨a1, a2, a3⟩ := a
  obtain ⟨ac1, at1, rfl, ar1, ac2, at2, rfl, ar2, ar3⟩ := ha
  obtain ⟨rfl, ar1⟩ := ar1
  obtain ⟨rfl, ar2⟩ := ar2
  obtain ⟨rfl, ar3⟩ := ar3
  dsimp only [List.cons_append, List.nil_append] at *
  replace hsz : (GoD.size a1 + (GoD.size a2 + GoD.size a3)) ≤ 1048576 := hsz
  have AR1H := Lib.hid ar1; clear ar1
  have AR2H := Lib.hid ar2; clear ar2
  have AR3H := Lib.hid ar3; clear ar3
  go_enter Tryz.func97, Tryz.ntmps97
  go_wp2_with (first | ((with_reducible show bodyPost _ _ _ _ _ _); refine bodyPost_ret (v := .agg #[.int .i64 a1, .int .i64 a2, .string a3]) (by simp [results, Tryz.results97, go_sem]) rfl ⟨[.int .i64 a1, .int .i64 a2, .string a3], ([] ++ ([] ++ [])), rfl, by go_grown, ?_, ?_⟩; (exact (own_pair (own_i _ AR1H.out) (own_pair (own_i _ AR2H.out) (own_s _ AR3H.out) (by simp)) (by simp))); simp))
set_option maxHeartbeats 1000000 in
theorem toNode_c (w : World) (ca : List Value) (a : NodeD) (ha : rd w ca a) (hsz : GoD.size a ≤ 1048576) : Calls Tryz.prog 68 #[.agg ca.toArray] w (RetA w a) := by
  obtain ⟨a1, a2, a3, a4, a5⟩ := a
  obtain ⟨ac1, at1, rfl, ar1, ac2, at2, rfl, ar2, ac3, at3, rfl, ar3, ac4, at4, rfl, ar4, ar5⟩ := ha
  obtain ⟨rfl, ar1⟩ := ar1
  obtain ⟨rfl, ar2⟩ := ar2
  obtain ⟨rfl, ar3⟩ := ar3
  obtain ⟨rfl, ar4⟩ := ar4
  obtain ⟨ax5_0, ax5_1, ax5_2, rfl⟩ := len3 (show _ = 3 from GoD.rd_len ar5)
  dsimp only [List.cons_append, List.nil_append] at *
  replace hsz : (GoD.size a1 + (GoD.size a2 + (GoD.size a3 + (GoD.size a4 + GoD.size a5)))) ≤ 1048576 := hsz
  have AR1H := Lib.hid ar1; clear ar1
  have AR2H := Lib.hid ar2; clear ar2
  have AR3H := Lib.hid ar3; clear ar3
  have AR4H := Lib.hid ar4; clear ar4
  have AR5H := Lib.hid ar5; clear ar5
  have tok1 : True := trivial
  go_enter Tryz.func68, Tryz.ntmps68
  go_wp2_with (first | (go_at_call 97; have tk := tok1; clear tok1; refine call_retA (w := w) (toValue_c _ [ax5_0, ax5_1, ax5_2] a5 (rd_below AR5H.out (by go_grown)) (by omega)) (by go_grown) ?_; intro w1 cs1 L1 hB hb hz _ ho1 hL1; obtain rfl := cells_Value (GoD.own_rd ho1); have hz2 := hb.size; (repeat (first | rewrite [World.size_alloc] at hz2 | rewrite [World.size_setCell] at hz2 | rewrite [World.size_drew] at hz2)); (repeat (first | rewrite [World.size_alloc] at hL1 | rewrite [World.size_setCell] at hL1 | rewrite [World.size_drew] at hL1)); have hlt1 := GoD.own_lt ho1; have c1_0 := fun o => bcell hb (w.heap.size) o (by go_size); have f1_0 := fun o => bfroz hb (w.heap.size) o (by go_size); have c1_1 := fun o => bcell hb (w.heap.size + 1) o (by go_size); have f1_1 := fun o => bfroz hb (w.heap.size + 1) o (by go_size); have c1_2 := fun o => bcell hb (w.heap.size + 1 + 1) o (by go_size); have f1_2 := fun o => bfroz hb (w.heap.size + 1 + 1) o (by go_size); have HO1 := Lib.hid ho1; clear ho1; have HL1 := Lib.hid hL1; clear hL1; have HT1 := Lib.hid hlt1; clear hlt1; have HB1 := Lib.hid hb; clear hb) | ((with_reducible show bodyPost _ _ _ _ _ _); refine bodyPost_ret (v := .agg #[.int .i64 a1, .int .i64 a2, .int .i64 a3, .string a4, .int .i64 a5.1, .int .i64 a5.2.1, .string a5.2.2]) (by simp [results, Tryz.results68, go_sem, c1_1]) rfl ⟨[.int .i64 a1, .int .i64 a2, .int .i64 a3, .string a4, .int .i64 a5.1, .int .i64 a5.2.1, .string a5.2.2], ([] ++ ([] ++ ([] ++ ([] ++ L1)))), rfl, by go_grown, ?_, ?_⟩; (exact (own_pair (own_i _ AR1H.out) (own_pair (own_i _ AR2H.out) (own_pair (own_i _ AR3H.out) (own_pair (own_s _ AR4H.out) (show own L1 _ [.int .i64 a5.1, .int .i64 a5.2.1, .string a5.2.2] a5 by (repeat (first | (with_reducible exact HO1.out) | ((with_reducible refine own_setCell ?_ ?_); rotate_left; exact (fun hm => by have := HL1.out _ hm; omega)) | (with_reducible refine own_alloc ?_) | (with_reducible refine own_drew ?_)))) (by simp)) (by simp)) (by simp)) (by simp))); intro x hx; (try simp only [List.mem_append, List.not_mem_nil, List.append_nil, List.nil_append, false_or, or_false] at hx); rcases hx with hx <;> first | (have := HL1.out x hx; omega)))
set_option maxRecDepth 100000 in
set_option maxHeartbeats 1000000 in
theorem toNodeS_c (w : World) (v : Value) (l : List NodeD) (ha : rd w [v] l) (hsz : GoD.size l ≤ 1048576) : Calls Tryz.prog 45 #[v] w (RetS w l) := by
  obtain ⟨oa, cap, e1, hl, hm, hel⟩ := ha
  obtain rfl : v = _ := by simpa using e1
  clear e1
  have HE := Lib.hid hel; clear hel
  have hn : l.length ≤ 1048576 := by have := size_list_len l; omega
  have HS := Lib.hid (fun i a (h : l[i]? = some a) => size_list_get h)
  have hlm : l.length ≤ maxLen := by omega
  go_enter Tryz.func45, Tryz.ntmps45
  go_wp2_with (at_make; refine wp_make w (.tmp 6) (.tmp 6) 55 99 7 l.length rfl rfl Tryz.underlying55 (by kernel_rfl) rfl rfl (by omega) (by go_grown) ?_; intro w1 cur hcur hcs hB1 hb1 hlt1)
  go_loopw [4] (fun i wr => ∃ k : Nat, k ≤ l.length ∧ i = .int .i64 k ∧ Below w.heap.size w wr ∧ w.heap.size < wr.heap.size ∧ Hid (Part wr w.heap.size l.length 99 l k)) (fun i _ => l.length - (intOf i).toNat)
  case atStart => exact ⟨0, Nat.zero_le _, rfl, hB1, hlt1, Part.start hcur hcs l⟩
  case round =>
    obtain ⟨k, hk, rfl, hB, hlt, hP⟩ := hrel
    clear hB1 hb1 hlt1 hcur hcs
    by_cases hkl : k < l.length
    · have hx := List.getElem?_eq_getElem hkl
      obtain ⟨eb, eo, ee, rfl, hcl, hcc, hxr⟩ := HE.out k _ hx
      have hxs := HS.out k _ hx
      have HX := Lib.hid hx; clear hx
      generalize l[k] = x at *
      obtain ⟨cur2, hg, hgs⟩ := hP.out.block
      have hgs2 : cur2.size = l.length * 7 := hgs
      have hroom := Nat.mul_le_mul_right 7 (show k + 1 ≤ l.length by omega)
      obtain ⟨x0, x1, x2, x3, x4, x5, x6, rfl⟩ := len7 (show _ = 7 from hcl)
      have p0 : wr.cell? ⟨eb, eo + k * 7, none⟩ = some x0 := (hB.cell (World.block_lt_of_cell? w _ (hcc 0 _ rfl))).trans (hcc 0 _ rfl)
      have p1 : wr.cell? ⟨eb, eo + k * 7 + 1, none⟩ = some x1 := (hB.cell (World.block_lt_of_cell? w _ (hcc 1 _ rfl))).trans (hcc 1 _ rfl)
      have p2 : wr.cell? ⟨eb, eo + k * 7 + 2, none⟩ = some x2 := (hB.cell (World.block_lt_of_cell? w _ (hcc 2 _ rfl))).trans (hcc 2 _ rfl)
      have p3 : wr.cell? ⟨eb, eo + k * 7 + 3, none⟩ = some x3 := (hB.cell (World.block_lt_of_cell? w _ (hcc 3 _ rfl))).trans (hcc 3 _ rfl)
      have p4 : wr.cell? ⟨eb, eo + k * 7 + 4, none⟩ = some x4 := (hB.cell (World.block_lt_of_cell? w _ (hcc 4 _ rfl))).trans (hcc 4 _ rfl)
      have p5 : wr.cell? ⟨eb, eo + k * 7 + 5, none⟩ = some x5 := (hB.cell (World.block_lt_of_cell? w _ (hcc 5 _ rfl))).trans (hcc 5 _ rfl)
      have p6 : wr.cell? ⟨eb, eo + k * 7 + 6, none⟩ = some x6 := (hB.cell (World.block_lt_of_cell? w _ (hcc 6 _ rfl))).trans (hcc 6 _ rfl)
      have HXR := Lib.hid hxr; clear hxr hcc hcl
      have HG := Lib.hid hg; clear hg
      go_wp2_with (go_at_call 68; refine call_retA (w := w) (toNode_c _ [x0, x1, x2, x3, x4, x5, x6] x (rd_below HXR.out hB) (by omega)) (by go_grown) ?_; intro w2 cs L hB2 hb2 hz2 _ ho hL; obtain rfl := cells_Node (GoD.own_rd ho); have hg2 := (hb2.block _ hlt).trans HG.out; obtain ⟨z0, q0⟩ : ∃ y, w2.cell? ⟨w.heap.size, k * 7, none⟩ = some y := ⟨_, cells_of_heap hg2 _ (by omega)⟩; obtain ⟨z1, q1⟩ : ∃ y, w2.cell? ⟨w.heap.size, k * 7 + 1, none⟩ = some y := ⟨_, cells_of_heap hg2 _ (by omega)⟩; obtain ⟨z2, q2⟩ : ∃ y, w2.cell? ⟨w.heap.size, k * 7 + 2, none⟩ = some y := ⟨_, cells_of_heap hg2 _ (by omega)⟩; obtain ⟨z3, q3⟩ : ∃ y, w2.cell? ⟨w.heap.size, k * 7 + 3, none⟩ = some y := ⟨_, cells_of_heap hg2 _ (by omega)⟩; obtain ⟨z4, q4⟩ : ∃ y, w2.cell? ⟨w.heap.size, k * 7 + 4, none⟩ = some y := ⟨_, cells_of_heap hg2 _ (by omega)⟩; obtain ⟨z5, q5⟩ : ∃ y, w2.cell? ⟨w.heap.size, k * 7 + 5, none⟩ = some y := ⟨_, cells_of_heap hg2 _ (by omega)⟩; obtain ⟨z6, q6⟩ : ∃ y, w2.cell? ⟨w.heap.size, k * 7 + 6, none⟩ = some y := ⟨_, cells_of_heap hg2 _ (by omega)⟩; have fz := free_of_heap hg2; clear hg2; have HO := Lib.hid ho; clear ho; have HL := Lib.hid hL; clear hL; have HB2 := Lib.hid hb2; clear hb2)
      go_roundw
      case rel => exact ⟨k + 1, by omega, by go_num, by go_grown, by simp only [World.size_setCell]; omega, by
        have h := hP.out.step HB2.out hkl hk HX.out HO.out HL.out
        rw [show GoD.n NodeD = 7 from rfl] at h
        simp only [World.setCells, Nat.add_assoc, Nat.reduceAdd] at h
        exact h⟩
      case measure => simp [intOf]; omega
    · obtain rfl : k = l.length := by omega
      go_wp2
      go_ret
      obtain ⟨L, hL, hLB⟩ := hP.out.done hlm
      exact ⟨_, L, rfl, hB, hL, hLB⟩
set_option maxHeartbeats 1000000 in
theorem toDir_c (w : World) (ca : List Value) (a : DirD) (ha : rd w ca a) (hsz : GoD.size a ≤ 1048576) : Calls Tryz.prog 24 #[.agg ca.toArray] w (RetA w a) := by
  obtain ⟨a1, a2⟩ := a
  obtain ⟨ac1, at1, rfl, ar1, ar2⟩ := ha
  obtain ⟨rfl, ar1⟩ := ar1
  obtain ⟨ax2_0, rfl⟩ := len1 (show _ = 1 from GoD.rd_len ar2)
  dsimp only [List.cons_append, List.nil_append] at *
  replace hsz : (GoD.size a1 + GoD.size a2) ≤ 1048576 := hsz
  have AR1H := Lib.hid ar1; clear ar1
  have AR2H := Lib.hid ar2; clear ar2
  have tok1 : True := trivial
  go_enter Tryz.func24, Tryz.ntmps24
  go_wp2_with (first | (go_at_call 45; have tk := tok1; clear tok1; refine call_retS (w := w) (toNodeS_c _ ax2_0 a2 (rd_below AR2H.out (by go_grown)) (by omega)) (by go_grown) ?_; intro w1 v1 L1 hB hb hz _ ho1 hL1; obtain ⟨oa1, cp1, rfl⟩ := slice_of_own ho1; have hz2 := hb.size; (repeat (first | rewrite [World.size_alloc] at hz2 | rewrite [World.size_setCell] at hz2 | rewrite [World.size_drew] at hz2)); (repeat (first | rewrite [World.size_alloc] at hL1 | rewrite [World.size_setCell] at hL1 | rewrite [World.size_drew] at hL1)); have hlt1 := GoD.own_lt ho1; have c1_0 := fun o => bcell hb (w.heap.size) o (by go_size); have f1_0 := fun o => bfroz hb (w.heap.size) o (by go_size); have c1_1 := fun o => bcell hb (w.heap.size + 1) o (by go_size); have f1_1 := fun o => bfroz hb (w.heap.size + 1) o (by go_size); have c1_2 := fun o => bcell hb (w.heap.size + 1 + 1) o (by go_size); have f1_2 := fun o => bfroz hb (w.heap.size + 1 + 1) o (by go_size); have HO1 := Lib.hid ho1; clear ho1; have HL1 := Lib.hid hL1; clear hL1; have HT1 := Lib.hid hlt1; clear hlt1; have HB1 := Lib.hid hb; clear hb) | ((with_reducible show bodyPost _ _ _ _ _ _); refine bodyPost_ret (v := .agg #[.string a1, .slice oa1 a2.length cp1]) (by simp [results, Tryz.results24, go_sem, c1_1]) rfl ⟨[.string a1, .slice oa1 a2.length cp1], ([] ++ L1), rfl, by go_grown, ?_, ?_⟩; (exact (own_pair (own_s _ AR1H.out) (show own L1 _ [.slice oa1 a2.length cp1] a2 by (repeat (first | (with_reducible exact HO1.out) | ((with_reducible refine own_setCell ?_ ?_); rotate_left; exact (fun hm => by have := HL1.out _ hm; omega)) | (with_reducible refine own_alloc ?_) | (with_reducible refine own_drew ?_)))) (by simp))); intro x hx; (try simp only [List.mem_append, List.not_mem_nil, List.append_nil, List.nil_append, false_or, or_false] at hx); rcases hx with hx <;> first | (have := HL1.out x hx; omega)))
set_option maxHeartbeats 1000000 in
theorem toAttr_c (w : World) (ca : List Value) (a : AttrD) (ha : rd w ca a) (hsz : GoD.size a ≤ 1048576) : Calls Tryz.prog 96 #[.agg ca.toArray] w (RetA w a) := by
  obtain ⟨a1, a2⟩ := a
  obtain ⟨ac1, at1, rfl, ar1, ar2⟩ := ha
  obtain ⟨rfl, ar1⟩ := ar1
  obtain ⟨ax2_0, ax2_1, ax2_2, rfl⟩ := len3 (show _ = 3 from GoD.rd_len ar2)
  dsimp only [List.cons_append, List.nil_append] at *
  replace hsz : (GoD.size a1 + GoD.size a2) ≤ 1048576 := hsz
  have AR1H := Lib.hid ar1; clear ar1
  have AR2H := Lib.hid ar2; clear ar2
  have tok1 : True := trivial
  go_enter Tryz.func96, Tryz.ntmps96
  go_wp2_with (first | (go_at_call 97; have tk := tok1; clear tok1; refine call_retA (w := w) (toValue_c _ [ax2_0, ax2_1, ax2_2] a2 (rd_below AR2H.out (by go_grown)) (by omega)) (by go_grown) ?_; intro w1 cs1 L1 hB hb hz _ ho1 hL1; obtain rfl := cells_Value (GoD.own_rd ho1); have hz2 := hb.size; (repeat (first | rewrite [World.size_alloc] at hz2 | rewrite [World.size_setCell] at hz2 | rewrite [World.size_drew] at hz2)); (repeat (first | rewrite [World.size_alloc] at hL1 | rewrite [World.size_setCell] at hL1 | rewrite [World.size_drew] at hL1)); have hlt1 := GoD.own_lt ho1; have c1_0 := fun o => bcell hb (w.heap.size) o (by go_size); have f1_0 := fun o => bfroz hb (w.heap.size) o (by go_size); have c1_1 := fun o => bcell hb (w.heap.size + 1) o (by go_size); have f1_1 := fun o => bfroz hb (w.heap.size + 1) o (by go_size); have c1_2 := fun o => bcell hb (w.heap.size + 1 + 1) o (by go_size); have f1_2 := fun o => bfroz hb (w.heap.size + 1 + 1) o (by go_size); have HO1 := Lib.hid ho1; clear ho1; have HL1 := Lib.hid hL1; clear hL1; have HT1 := Lib.hid hlt1; clear hlt1; have HB1 := Lib.hid hb; clear hb) | ((with_reducible show bodyPost _ _ _ _ _ _); refine bodyPost_ret (v := .agg #[.string a1, .int .i64 a2.1, .int .i64 a2.2.1, .string a2.2.2]) (by simp [results, Tryz.results96, go_sem, c1_1]) rfl ⟨[.string a1, .int .i64 a2.1, .int .i64 a2.2.1, .string a2.2.2], ([] ++ L1), rfl, by go_grown, ?_, ?_⟩; (exact (own_pair (own_s _ AR1H.out) (show own L1 _ [.int .i64 a2.1, .int .i64 a2.2.1, .string a2.2.2] a2 by (repeat (first | (with_reducible exact HO1.out) | ((with_reducible refine own_setCell ?_ ?_); rotate_left; exact (fun hm => by have := HL1.out _ hm; omega)) | (with_reducible refine own_alloc ?_) | (with_reducible refine own_drew ?_)))) (by simp))); intro x hx; (try simp only [List.mem_append, List.not_mem_nil, List.append_nil, List.nil_append, false_or, or_false] at hx); rcases hx with hx <;> first | (have := HL1.out x hx; omega)))
set_option maxRecDepth 100000 in
set_option maxHeartbeats 1000000 in
theorem toAttrS_c (w : World) (v : Value) (l : List AttrD) (ha : rd w [v] l) (hsz : GoD.size l ≤ 1048576) : Calls Tryz.prog 67 #[v] w (RetS w l) := by
  obtain ⟨oa, cap, e1, hl, hm, hel⟩ := ha
  obtain rfl : v = _ := by simpa using e1
  clear e1
  have HE := Lib.hid hel; clear hel
  have hn : l.length ≤ 1048576 := by have := size_list_len l; omega
  have HS := Lib.hid (fun i a (h : l[i]? = some a) => size_list_get h)
  have hlm : l.length ≤ maxLen := by omega
  go_enter Tryz.func67, Tryz.ntmps67
  go_wp2_with (at_make; refine wp_make w (.tmp 6) (.tmp 6) 85 125 4 l.length rfl rfl Tryz.underlying85 (by kernel_rfl) rfl rfl (by omega) (by go_grown) ?_; intro w1 cur hcur hcs hB1 hb1 hlt1)
  go_loopw [4] (fun i wr => ∃ k : Nat, k ≤ l.length ∧ i = .int .i64 k ∧ Below w.heap.size w wr ∧ w.heap.size < wr.heap.size ∧ Hid (Part wr w.heap.size l.length 125 l k)) (fun i _ => l.length - (intOf i).toNat)
  case atStart => exact ⟨0, Nat.zero_le _, rfl, hB1, hlt1, Part.start hcur hcs l⟩
  case round =>
    obtain ⟨k, hk, rfl, hB, hlt, hP⟩ := hrel
    clear hB1 hb1 hlt1 hcur hcs
    by_cases hkl : k < l.length
    · have hx := List.getElem?_eq_getElem hkl
      obtain ⟨eb, eo, ee, rfl, hcl, hcc, hxr⟩ := HE.out k _ hx
      have hxs := HS.out k _ hx
      have HX := Lib.hid hx; clear hx
      generalize l[k] = x at *
      obtain ⟨cur2, hg, hgs⟩ := hP.out.block
      have hgs2 : cur2.size = l.length * 4 := hgs
      have hroom := Nat.mul_le_mul_right 4 (show k + 1 ≤ l.length by omega)
      obtain ⟨x0, x1, x2, x3, rfl⟩ := len4 (show _ = 4 from hcl)
      have p0 : wr.cell? ⟨eb, eo + k * 4, none⟩ = some x0 := (hB.cell (World.block_lt_of_cell? w _ (hcc 0 _ rfl))).trans (hcc 0 _ rfl)
      have p1 : wr.cell? ⟨eb, eo + k * 4 + 1, none⟩ = some x1 := (hB.cell (World.block_lt_of_cell? w _ (hcc 1 _ rfl))).trans (hcc 1 _ rfl)
      have p2 : wr.cell? ⟨eb, eo + k * 4 + 2, none⟩ = some x2 := (hB.cell (World.block_lt_of_cell? w _ (hcc 2 _ rfl))).trans (hcc 2 _ rfl)
      have p3 : wr.cell? ⟨eb, eo + k * 4 + 3, none⟩ = some x3 := (hB.cell (World.block_lt_of_cell? w _ (hcc 3 _ rfl))).trans (hcc 3 _ rfl)
      have HXR := Lib.hid hxr; clear hxr hcc hcl
      have HG := Lib.hid hg; clear hg
      go_wp2_with (go_at_call 96; refine call_retA (w := w) (toAttr_c _ [x0, x1, x2, x3] x (rd_below HXR.out hB) (by omega)) (by go_grown) ?_; intro w2 cs L hB2 hb2 hz2 _ ho hL; obtain rfl := cells_Attr (GoD.own_rd ho); have hg2 := (hb2.block _ hlt).trans HG.out; obtain ⟨z0, q0⟩ : ∃ y, w2.cell? ⟨w.heap.size, k * 4, none⟩ = some y := ⟨_, cells_of_heap hg2 _ (by omega)⟩; obtain ⟨z1, q1⟩ : ∃ y, w2.cell? ⟨w.heap.size, k * 4 + 1, none⟩ = some y := ⟨_, cells_of_heap hg2 _ (by omega)⟩; obtain ⟨z2, q2⟩ : ∃ y, w2.cell? ⟨w.heap.size, k * 4 + 2, none⟩ = some y := ⟨_, cells_of_heap hg2 _ (by omega)⟩; obtain ⟨z3, q3⟩ : ∃ y, w2.cell? ⟨w.heap.size, k * 4 + 3, none⟩ = some y := ⟨_, cells_of_heap hg2 _ (by omega)⟩; have fz := free_of_heap hg2; clear hg2; have HO := Lib.hid ho; clear ho; have HL := Lib.hid hL; clear hL; have HB2 := Lib.hid hb2; clear hb2)
      go_roundw
      case rel => exact ⟨k + 1, by omega, by go_num, by go_grown, by simp only [World.size_setCell]; omega, by
        have h := hP.out.step HB2.out hkl hk HX.out HO.out HL.out
        rw [show GoD.n AttrD = 4 from rfl] at h
        simp only [World.setCells, Nat.add_assoc, Nat.reduceAdd] at h
        exact h⟩
      case measure => simp [intOf]; omega
    · obtain rfl : k = l.length := by omega
      go_wp2
      go_ret
      obtain ⟨L, hL, hLB⟩ := hP.out.done hlm
      exact ⟨_, L, rfl, hB, hL, hLB⟩
set_option maxHeartbeats 1000000 in
theorem toFile_c (w : World) (ca : List Value) (a : FileD) (ha : rd w ca a) (hsz : GoD.size a ≤ 1048576) : Calls Tryz.prog 44 #[.agg ca.toArray] w (RetA w a) := by
  obtain ⟨a1, a2, a3, a4, a5⟩ := a
  obtain ⟨ac1, at1, rfl, ar1, ac2, at2, rfl, ar2, ac3, at3, rfl, ar3, ac4, at4, rfl, ar4, ar5⟩ := ha
  obtain ⟨rfl, ar1⟩ := ar1
  obtain ⟨rfl, ar2⟩ := ar2
  obtain rfl := ar3
  obtain ⟨rfl, ar4⟩ := ar4
  obtain ⟨ax5_0, rfl⟩ := len1 (show _ = 1 from GoD.rd_len ar5)
  dsimp only [List.cons_append, List.nil_append] at *
  replace hsz : (GoD.size a1 + (GoD.size a2 + (GoD.size a3 + (GoD.size a4 + GoD.size a5)))) ≤ 1048576 := hsz
  have AR1H := Lib.hid ar1; clear ar1
  have AR2H := Lib.hid ar2; clear ar2
  have AR4H := Lib.hid ar4; clear ar4
  have AR5H := Lib.hid ar5; clear ar5
  have tok1 : True := trivial
  go_enter Tryz.func44, Tryz.ntmps44
  go_wp2_with (first | (go_at_call 67; have tk := tok1; clear tok1; refine call_retS (w := w) (toAttrS_c _ ax5_0 a5 (rd_below AR5H.out (by go_grown)) (by omega)) (by go_grown) ?_; intro w1 v1 L1 hB hb hz _ ho1 hL1; obtain ⟨oa1, cp1, rfl⟩ := slice_of_own ho1; have hz2 := hb.size; (repeat (first | rewrite [World.size_alloc] at hz2 | rewrite [World.size_setCell] at hz2 | rewrite [World.size_drew] at hz2)); (repeat (first | rewrite [World.size_alloc] at hL1 | rewrite [World.size_setCell] at hL1 | rewrite [World.size_drew] at hL1)); have hlt1 := GoD.own_lt ho1; have c1_0 := fun o => bcell hb (w.heap.size) o (by go_size); have f1_0 := fun o => bfroz hb (w.heap.size) o (by go_size); have c1_1 := fun o => bcell hb (w.heap.size + 1) o (by go_size); have f1_1 := fun o => bfroz hb (w.heap.size + 1) o (by go_size); have c1_2 := fun o => bcell hb (w.heap.size + 1 + 1) o (by go_size); have f1_2 := fun o => bfroz hb (w.heap.size + 1 + 1) o (by go_size); have HO1 := Lib.hid ho1; clear ho1; have HL1 := Lib.hid hL1; clear hL1; have HT1 := Lib.hid hlt1; clear hlt1; have HB1 := Lib.hid hb; clear hb) | ((with_reducible show bodyPost _ _ _ _ _ _); refine bodyPost_ret (v := .agg #[.int .i64 a1, .int .i64 a2, .bool a3, .int .i64 a4, .slice oa1 a5.length cp1]) (by simp [results, Tryz.results44, go_sem, c1_1]) rfl ⟨[.int .i64 a1, .int .i64 a2, .bool a3, .int .i64 a4, .slice oa1 a5.length cp1], ([] ++ ([] ++ ([] ++ ([] ++ L1)))), rfl, by go_grown, ?_, ?_⟩; (exact (own_pair (own_i _ AR1H.out) (own_pair (own_i _ AR2H.out) (own_pair (own_b _ _) (own_pair (own_i _ AR4H.out) (show own L1 _ [.slice oa1 a5.length cp1] a5 by (repeat (first | (with_reducible exact HO1.out) | ((with_reducible refine own_setCell ?_ ?_); rotate_left; exact (fun hm => by have := HL1.out _ hm; omega)) | (with_reducible refine own_alloc ?_) | (with_reducible refine own_drew ?_)))) (by simp)) (by simp)) (by simp)) (by simp))); intro x hx; (try simp only [List.mem_append, List.not_mem_nil, List.append_nil, List.nil_append, false_or, or_false] at hx); rcases hx with hx <;> first | (have := HL1.out x hx; omega)))
set_option maxRecDepth 100000 in
set_option maxHeartbeats 1000000 in
theorem toFileS_c (w : World) (v : Value) (l : List FileD) (ha : rd w [v] l) (hsz : GoD.size l ≤ 1048576) : Calls Tryz.prog 23 #[v] w (RetS w l) := by
  obtain ⟨oa, cap, e1, hl, hm, hel⟩ := ha
  obtain rfl : v = _ := by simpa using e1
  clear e1
  have HE := Lib.hid hel; clear hel
  have hn : l.length ≤ 1048576 := by have := size_list_len l; omega
  have HS := Lib.hid (fun i a (h : l[i]? = some a) => size_list_get h)
  have hlm : l.length ≤ maxLen := by omega
  go_enter Tryz.func23, Tryz.ntmps23
  go_wp2_with (at_make; refine wp_make w (.tmp 6) (.tmp 6) 32 87 5 l.length rfl rfl Tryz.underlying32 (by kernel_rfl) rfl rfl (by omega) (by go_grown) ?_; intro w1 cur hcur hcs hB1 hb1 hlt1)
  go_loopw [4] (fun i wr => ∃ k : Nat, k ≤ l.length ∧ i = .int .i64 k ∧ Below w.heap.size w wr ∧ w.heap.size < wr.heap.size ∧ Hid (Part wr w.heap.size l.length 87 l k)) (fun i _ => l.length - (intOf i).toNat)
  case atStart => exact ⟨0, Nat.zero_le _, rfl, hB1, hlt1, Part.start hcur hcs l⟩
  case round =>
    obtain ⟨k, hk, rfl, hB, hlt, hP⟩ := hrel
    clear hB1 hb1 hlt1 hcur hcs
    by_cases hkl : k < l.length
    · have hx := List.getElem?_eq_getElem hkl
      obtain ⟨eb, eo, ee, rfl, hcl, hcc, hxr⟩ := HE.out k _ hx
      have hxs := HS.out k _ hx
      have HX := Lib.hid hx; clear hx
      generalize l[k] = x at *
      obtain ⟨cur2, hg, hgs⟩ := hP.out.block
      have hgs2 : cur2.size = l.length * 5 := hgs
      have hroom := Nat.mul_le_mul_right 5 (show k + 1 ≤ l.length by omega)
      obtain ⟨x0, x1, x2, x3, x4, rfl⟩ := len5 (show _ = 5 from hcl)
      have p0 : wr.cell? ⟨eb, eo + k * 5, none⟩ = some x0 := (hB.cell (World.block_lt_of_cell? w _ (hcc 0 _ rfl))).trans (hcc 0 _ rfl)
      have p1 : wr.cell? ⟨eb, eo + k * 5 + 1, none⟩ = some x1 := (hB.cell (World.block_lt_of_cell? w _ (hcc 1 _ rfl))).trans (hcc 1 _ rfl)
      have p2 : wr.cell? ⟨eb, eo + k * 5 + 2, none⟩ = some x2 := (hB.cell (World.block_lt_of_cell? w _ (hcc 2 _ rfl))).trans (hcc 2 _ rfl)
      have p3 : wr.cell? ⟨eb, eo + k * 5 + 3, none⟩ = some x3 := (hB.cell (World.block_lt_of_cell? w _ (hcc 3 _ rfl))).trans (hcc 3 _ rfl)
      have p4 : wr.cell? ⟨eb, eo + k * 5 + 4, none⟩ = some x4 := (hB.cell (World.block_lt_of_cell? w _ (hcc 4 _ rfl))).trans (hcc 4 _ rfl)
      have HXR := Lib.hid hxr; clear hxr hcc hcl
      have HG := Lib.hid hg; clear hg
      go_wp2_with (go_at_call 44; refine call_retA (w := w) (toFile_c _ [x0, x1, x2, x3, x4] x (rd_below HXR.out hB) (by omega)) (by go_grown) ?_; intro w2 cs L hB2 hb2 hz2 _ ho hL; obtain ⟨eoa1, ecp1, rfl⟩ := cells_File (GoD.own_rd ho); have hg2 := (hb2.block _ hlt).trans HG.out; obtain ⟨z0, q0⟩ : ∃ y, w2.cell? ⟨w.heap.size, k * 5, none⟩ = some y := ⟨_, cells_of_heap hg2 _ (by omega)⟩; obtain ⟨z1, q1⟩ : ∃ y, w2.cell? ⟨w.heap.size, k * 5 + 1, none⟩ = some y := ⟨_, cells_of_heap hg2 _ (by omega)⟩; obtain ⟨z2, q2⟩ : ∃ y, w2.cell? ⟨w.heap.size, k * 5 + 2, none⟩ = some y := ⟨_, cells_of_heap hg2 _ (by omega)⟩; obtain ⟨z3, q3⟩ : ∃ y, w2.cell? ⟨w.heap.size, k * 5 + 3, none⟩ = some y := ⟨_, cells_of_heap hg2 _ (by omega)⟩; obtain ⟨z4, q4⟩ : ∃ y, w2.cell? ⟨w.heap.size, k * 5 + 4, none⟩ = some y := ⟨_, cells_of_heap hg2 _ (by omega)⟩; have fz := free_of_heap hg2; clear hg2; have HO := Lib.hid ho; clear ho; have HL := Lib.hid hL; clear hL; have HB2 := Lib.hid hb2; clear hb2)
      go_roundw
      case rel => exact ⟨k + 1, by omega, by go_num, by go_grown, by simp only [World.size_setCell]; omega, by
        have h := hP.out.step HB2.out hkl hk HX.out HO.out HL.out
        rw [show GoD.n FileD = 5 from rfl] at h
        simp only [World.setCells, Nat.add_assoc, Nat.reduceAdd] at h
        exact h⟩
      case measure => simp [intOf]; omega
    · obtain rfl : k = l.length := by omega
      go_wp2
      go_ret
      obtain ⟨L, hL, hLB⟩ := hP.out.done hlm
      exact ⟨_, L, rfl, hB, hL, hLB⟩
set_option maxRecDepth 100000 in
set_option maxHeartbeats 1000000 in
theorem toDirS_c (w : World) (v : Value) (l : List DirD) (ha : rd w [v] l) (hsz : GoD.size l ≤ 1048576) : Calls Tryz.prog 8 #[v] w (RetS w l) := by
  obtain ⟨oa, cap, e1, hl, hm, hel⟩ := ha
  obtain rfl : v = _ := by simpa using e1
  clear e1
  have HE := Lib.hid hel; clear hel
  have hn : l.length ≤ 1048576 := by have := size_list_len l; omega
  have HS := Lib.hid (fun i a (h : l[i]? = some a) => size_list_get h)
  have hlm : l.length ≤ maxLen := by omega
  go_enter Tryz.func8, Tryz.ntmps8
  go_wp2_with (at_make; refine wp_make w (.tmp 6) (.tmp 6) 36 57 2 l.length rfl rfl Tryz.underlying36 (by kernel_rfl) rfl rfl (by omega) (by go_grown) ?_; intro w1 cur hcur hcs hB1 hb1 hlt1)
  go_loopw [4] (fun i wr => ∃ k : Nat, k ≤ l.length ∧ i = .int .i64 k ∧ Below w.heap.size w wr ∧ w.heap.size < wr.heap.size ∧ Hid (Part wr w.heap.size l.length 57 l k)) (fun i _ => l.length - (intOf i).toNat)
  case atStart => exact ⟨0, Nat.zero_le _, rfl, hB1, hlt1, Part.start hcur hcs l⟩
  case round =>
    obtain ⟨k, hk, rfl, hB, hlt, hP⟩ := hrel
    clear hB1 hb1 hlt1 hcur hcs
    by_cases hkl : k < l.length
    · have hx := List.getElem?_eq_getElem hkl
      obtain ⟨eb, eo, ee, rfl, hcl, hcc, hxr⟩ := HE.out k _ hx
      have hxs := HS.out k _ hx
      have HX := Lib.hid hx; clear hx
      generalize l[k] = x at *
      obtain ⟨cur2, hg, hgs⟩ := hP.out.block
      have hgs2 : cur2.size = l.length * 2 := hgs
      have hroom := Nat.mul_le_mul_right 2 (show k + 1 ≤ l.length by omega)
      obtain ⟨x0, x1, rfl⟩ := len2 (show _ = 2 from hcl)
      have p0 : wr.cell? ⟨eb, eo + k * 2, none⟩ = some x0 := (hB.cell (World.block_lt_of_cell? w _ (hcc 0 _ rfl))).trans (hcc 0 _ rfl)
      have p1 : wr.cell? ⟨eb, eo + k * 2 + 1, none⟩ = some x1 := (hB.cell (World.block_lt_of_cell? w _ (hcc 1 _ rfl))).trans (hcc 1 _ rfl)
      have HXR := Lib.hid hxr; clear hxr hcc hcl
      have HG := Lib.hid hg; clear hg
      go_wp2_with (go_at_call 24; refine call_retA (w := w) (toDir_c _ [x0, x1] x (rd_below HXR.out hB) (by omega)) (by go_grown) ?_; intro w2 cs L hB2 hb2 hz2 _ ho hL; obtain ⟨eoa1, ecp1, rfl⟩ := cells_Dir (GoD.own_rd ho); have hg2 := (hb2.block _ hlt).trans HG.out; obtain ⟨z0, q0⟩ : ∃ y, w2.cell? ⟨w.heap.size, k * 2, none⟩ = some y := ⟨_, cells_of_heap hg2 _ (by omega)⟩; obtain ⟨z1, q1⟩ : ∃ y, w2.cell? ⟨w.heap.size, k * 2 + 1, none⟩ = some y := ⟨_, cells_of_heap hg2 _ (by omega)⟩; have fz := free_of_heap hg2; clear hg2; have HO := Lib.hid ho; clear ho; have HL := Lib.hid hL; clear hL; have HB2 := Lib.hid hb2; clear hb2)
      go_roundw
      case rel => exact ⟨k + 1, by omega, by go_num, by go_grown, by simp only [World.size_setCell]; omega, by
        have h := hP.out.step HB2.out hkl hk HX.out HO.out HL.out
        rw [show GoD.n DirD = 2 from rfl] at h
        simp only [World.setCells, Nat.add_assoc, Nat.reduceAdd] at h
        exact h⟩
      case measure => simp [intOf]; omega
    · obtain rfl : k = l.length := by omega
      go_wp2
      go_ret
      obtain ⟨L, hL, hLB⟩ := hP.out.done hlm
      exact ⟨_, L, rfl, hB, hL, hLB⟩
set_option maxRecDepth 100000 in
set_option maxHeartbeats 1000000 in
theorem toFieldS_c (w : World) (v : Value) (l : List FieldD) (ha : rd w [v] l) (hsz : GoD.size l ≤ 1048576) : Calls Tryz.prog 22 #[v] w (RetS w l) := by
  obtain ⟨oa, cap, e1, hl, hm, hel⟩ := ha
  obtain rfl : v = _ := by simpa using e1
  clear e1
  have HE := Lib.hid hel; clear hel
  have hn : l.length ≤ 1048576 := by have := size_list_len l; omega
  have HS := Lib.hid (fun i a (h : l[i]? = some a) => size_list_get h)
  have hlm : l.length ≤ maxLen := by omega
  go_enter Tryz.func22, Tryz.ntmps22
  go_wp2_with (at_make; refine wp_make w (.tmp 6) (.tmp 6) 31 83 2 l.length rfl rfl Tryz.underlying31 (by kernel_rfl) rfl rfl (by omega) (by go_grown) ?_; intro w1 cur hcur hcs hB1 hb1 hlt1)
  go_loopw [4] (fun i wr => ∃ k : Nat, k ≤ l.length ∧ i = .int .i64 k ∧ Below w.heap.size w wr ∧ w.heap.size < wr.heap.size ∧ Hid (Part wr w.heap.size l.length 83 l k)) (fun i _ => l.length - (intOf i).toNat)
  case atStart => exact ⟨0, Nat.zero_le _, rfl, hB1, hlt1, Part.start hcur hcs l⟩
  case round =>
    obtain ⟨k, hk, rfl, hB, hlt, hP⟩ := hrel
    clear hB1 hb1 hlt1 hcur hcs
    by_cases hkl : k < l.length
    · have hx := List.getElem?_eq_getElem hkl
      obtain ⟨eb, eo, ee, rfl, hcl, hcc, hxr⟩ := HE.out k _ hx
      have hxs := HS.out k _ hx
      have HX := Lib.hid hx; clear hx
      generalize l[k] = x at *
      obtain ⟨cur2, hg, hgs⟩ := hP.out.block
      have hgs2 : cur2.size = l.length * 2 := hgs
      have hroom := Nat.mul_le_mul_right 2 (show k + 1 ≤ l.length by omega)
      obtain ⟨x0, x1, rfl⟩ := len2 (show _ = 2 from hcl)
      have p0 : wr.cell? ⟨eb, eo + k * 2, none⟩ = some x0 := (hB.cell (World.block_lt_of_cell? w _ (hcc 0 _ rfl))).trans (hcc 0 _ rfl)
      have p1 : wr.cell? ⟨eb, eo + k * 2 + 1, none⟩ = some x1 := (hB.cell (World.block_lt_of_cell? w _ (hcc 1 _ rfl))).trans (hcc 1 _ rfl)
      have HXR := Lib.hid hxr; clear hxr hcc hcl
      have HG := Lib.hid hg; clear hg
      go_wp2_with (go_at_call 43; refine call_retA (w := w) (toField_c _ [x0, x1] x (rd_below HXR.out hB) (by omega)) (by go_grown) ?_; intro w2 cs L hB2 hb2 hz2 _ ho hL; obtain rfl := cells_Field (GoD.own_rd ho); have hg2 := (hb2.block _ hlt).trans HG.out; obtain ⟨z0, q0⟩ : ∃ y, w2.cell? ⟨w.heap.size, k * 2, none⟩ = some y := ⟨_, cells_of_heap hg2 _ (by omega)⟩; obtain ⟨z1, q1⟩ : ∃ y, w2.cell? ⟨w.heap.size, k * 2 + 1, none⟩ = some y := ⟨_, cells_of_heap hg2 _ (by omega)⟩; have fz := free_of_heap hg2; clear hg2; have HO := Lib.hid ho; clear ho; have HL := Lib.hid hL; clear hL; have HB2 := Lib.hid hb2; clear hb2)
      go_roundw
      case rel => exact ⟨k + 1, by omega, by go_num, by go_grown, by simp only [World.size_setCell]; omega, by
        have h := hP.out.step HB2.out hkl hk HX.out HO.out HL.out
        rw [show GoD.n FieldD = 2 from rfl] at h
        simp only [World.setCells, Nat.add_assoc, Nat.reduceAdd] at h
        exact h⟩
      case measure => simp [intOf]; omega
    · obtain rfl : k = l.length := by omega
      go_wp2
      go_ret
      obtain ⟨L, hL, hLB⟩ := hP.out.done hlm
      exact ⟨_, L, rfl, hB, hL, hLB⟩
set_option maxHeartbeats 1000000 in
theorem toStore_c (w : World) (ca : List Value) (a : StoreD) (ha : rd w ca a) (hsz : GoD.size a ≤ 1048576) : Calls Tryz.prog 7 #[.agg ca.toArray] w (RetA w a) := by
  obtain ⟨a1, a2, a3⟩ := a
  obtain ⟨ac1, at1, rfl, ar1, ac2, at2, rfl, ar2, ar3⟩ := ha
  obtain ⟨ax1_0, rfl⟩ := len1 (show _ = 1 from GoD.rd_len ar1)
  obtain ⟨ax2_0, rfl⟩ := len1 (show _ = 1 from GoD.rd_len ar2)
  obtain ⟨rfl, ar3⟩ := ar3
  dsimp only [List.cons_append, List.nil_append] at *
  replace hsz : (GoD.size a1 + (GoD.size a2 + GoD.size a3)) ≤ 1048576 := hsz
  have AR1H := Lib.hid ar1; clear ar1
  have AR2H := Lib.hid ar2; clear ar2
  have AR3H := Lib.hid ar3; clear ar3
  have tok1 : True := trivial
  have tok2 : True := trivial
  go_enter Tryz.func7, Tryz.ntmps7
  go_wp2_with (first | (go_at_call 22; have tk := tok1; clear tok1; refine call_retS (w := w) (toFieldS_c _ ax1_0 a1 (rd_below AR1H.out (by go_grown)) (by omega)) (by go_grown) ?_; intro w1 v1 L1 hB hb hz _ ho1 hL1; obtain ⟨oa1, cp1, rfl⟩ := slice_of_own ho1; have hz2 := hb.size; (repeat (first | rewrite [World.size_alloc] at hz2 | rewrite [World.size_setCell] at hz2 | rewrite [World.size_drew] at hz2)); (repeat (first | rewrite [World.size_alloc] at hL1 | rewrite [World.size_setCell] at hL1 | rewrite [World.size_drew] at hL1)); have hlt1 := GoD.own_lt ho1; have c1_0 := fun o => bcell hb (w.heap.size) o (by go_size); have f1_0 := fun o => bfroz hb (w.heap.size) o (by go_size); have c1_1 := fun o => bcell hb (w.heap.size + 1) o (by go_size); have f1_1 := fun o => bfroz hb (w.heap.size + 1) o (by go_size); have c1_2 := fun o => bcell hb (w.heap.size + 1 + 1) o (by go_size); have f1_2 := fun o => bfroz hb (w.heap.size + 1 + 1) o (by go_size); have HO1 := Lib.hid ho1; clear ho1; have HL1 := Lib.hid hL1; clear hL1; have HT1 := Lib.hid hlt1; clear hlt1; have HB1 := Lib.hid hb; clear hb) | (go_at_call 23; have tk := tok2; clear tok2; refine call_retS (w := w) (toFileS_c _ ax2_0 a2 (rd_below AR2H.out (by go_grown)) (by omega)) (by go_grown) ?_; intro w2 v2 L2 hB hb hz _ ho2 hL2; obtain ⟨oa2, cp2, rfl⟩ := slice_of_own ho2; have hz2 := hb.size; (repeat (first | rewrite [World.size_alloc] at hz2 | rewrite [World.size_setCell] at hz2 | rewrite [World.size_drew] at hz2)); (repeat (first | rewrite [World.size_alloc] at hL2 | rewrite [World.size_setCell] at hL2 | rewrite [World.size_drew] at hL2)); have hlt2 := GoD.own_lt ho2; have c2_0 := fun o => bcell hb (w.heap.size) o (by go_size); have f2_0 := fun o => bfroz hb (w.heap.size) o (by go_size); have c2_1 := fun o => bcell hb (w.heap.size + 1) o (by go_size); have f2_1 := fun o => bfroz hb (w.heap.size + 1) o (by go_size); have c2_2 := fun o => bcell hb (w.heap.size + 1 + 1) o (by go_size); have f2_2 := fun o => bfroz hb (w.heap.size + 1 + 1) o (by go_size); have HO2 := Lib.hid ho2; clear ho2; have HL2 := Lib.hid hL2; clear hL2; have HT2 := Lib.hid hlt2; clear hlt2; have HB2 := Lib.hid hb; clear hb) | ((with_reducible show bodyPost _ _ _ _ _ _); refine bodyPost_ret (v := .agg #[.slice oa1 a1.length cp1, .slice oa2 a2.length cp2, .int .i64 a3]) (by simp [results, Tryz.results7, go_sem, c1_1, c2_1]) rfl ⟨[.slice oa1 a1.length cp1, .slice oa2 a2.length cp2, .int .i64 a3], (L1 ++ (L2 ++ [])), rfl, by go_grown, ?_, ?_⟩; (exact (own_pair (show own L1 _ [.slice oa1 a1.length cp1] a1 by (repeat (first | (with_reducible exact HO1.out) | ((with_reducible refine own_setCell ?_ ?_); rotate_left; exact (fun hm => by have := HL1.out _ hm; omega)) | (with_reducible refine own_alloc ?_) | (with_reducible refine own_drew ?_) | (with_reducible refine own_below ?_ HB2.out)))) (own_pair (show own L2 _ [.slice oa2 a2.length cp2] a2 by (repeat (first | (with_reducible exact HO2.out) | ((with_reducible refine own_setCell ?_ ?_); rotate_left; exact (fun hm => by have := HL2.out _ hm; omega)) | (with_reducible refine own_alloc ?_) | (with_reducible refine own_drew ?_)))) (own_i _ AR3H.out) (by simp)) (fun x hx hy => by (try simp only [List.mem_append, List.not_mem_nil, List.append_nil, List.nil_append, false_or, or_false] at hy); have := HT1.out x hx; rcases hy with hy <;> (first | (have := HL2.out x hy; omega))))); intro x hx; (try simp only [List.mem_append, List.not_mem_nil, List.append_nil, List.nil_append, false_or, or_false] at hx); rcases hx with hx | hx <;> first | (have := HL1.out x hx; omega) | (have := HL2.out x hx; omega)))
end Go.Proofs.YtnhmnfmhnepjmaaGreatDoor
namespace Go.Proofs.YtnhmnfmhnepjmaaGreatDoor
open Go.RowKit
open GoD (rd own)
theorem digs_zero (f : Nat) : digs f 0 = [] := by cases f <;> rfl
theorem digs_fuel : ∀ (f f' k : Nat), k ≤ f → k ≤ f' → digs f k = digs f' k
  | 0, f', k, h, _ => by
    obtain rfl : k = 0 := by omega
    rw [digs_zero, digs_zero]
  | f + 1, 0, k, _, h => by
    obtain rfl : k = 0 := by omega
    rw [digs_zero, digs_zero]
  | f + 1, f' + 1, k, h, h' => by
    unfold digs
    by_cases hk : k = 0
    · rw [if_pos hk, if_pos hk]
    · rw [if_neg hk, if_neg hk, digs_fuel f f' (k / 10) (by omega) (by omega)]
theorem digs_pos {k : Nat} (h : 0 < k) : digs k k = digs (k / 10) (k / 10) ++ [UInt8.ofNat (48 + k % 10)] := by
  obtain ⟨f, rfl⟩ : ∃ f, k = f + 1 := ⟨k - 1, by omega⟩
  rw [digs, if_neg (by omega), digs_fuel f ((f + 1) / 10) _ (by omega) (Nat.le_refl _)]
theorem digs_len : ∀ (n k : Nat), k < 10 ^ n → (digs k k).length ≤ n
  | 0, k, h => by
    obtain rfl : k = 0 := by simpa using h
    simp [digs_zero]
  | n + 1, k, h => by
    by_cases hk : k = 0
    · subst hk; simp [digs_zero]
    · rw [digs_pos (by omega)]
      have := digs_len n (k / 10) (by rw [Nat.pow_succ] at h; omega)
      simp
      omega
theorem digs_len20 {k : Nat} (h : k ≤ 4611686018427387904) : (digs k k).length ≤ 20 := digs_len 20 k (by omega)
theorem markB_size {k : Nat} (h : k ≤ 4611686018427387904) : (markB k).size ≤ maxLen := by
  have h1 := digs_len20 h
  unfold markB maxLen
  show (List.toArray _).size ≤ _
  rw [List.size_toArray]
  split
  · simp
  · simp; omega
set_option maxRecDepth 100000 in
theorem markText_c (w : World) (K : Int) (k : Nat) (hK : K = k) (h1 : 1 ≤ k) (hk : k ≤ 4611686018427387904) : Calls Tryz.prog 32 #[.int .i64 K] w (Ret w (.string (markB k))) := by
  subst hK
  have hk0 : ¬ (k : Int) ≤ 0 := by omega
  have HL := Lib.hid (digs_len20 hk)
  go_enter Tryz.func32, Tryz.ntmps32
  go_wp2
  go_loopw [0, 3] (fun q s wr => ∃ (j : Nat) (out : ByteArray), q = .int .i64 j ∧ s = .string out ∧ j ≤ 4611686018427387904 ∧ Hid (digs j j ++ out.data.toList = digs k k) ∧ Below w.heap.size w wr) (fun q _ _ => (intOf q).toNat)
  case atStart => exact ⟨k, _, rfl, rfl, hk, by show _ = _; simp, Below.refl _ _⟩
  case round =>
    obtain ⟨j, out, rfl, rfl, hj, HD, hB⟩ := hrel
    have hos : out.size ≤ 20 := by
      have h := HL.out
      rw [← HD.out] at h
      simp at h
      have : out.size = out.data.size := rfl
      omega
    have hBs := hB.size
    by_cases hz : 0 < j
    · have hcv : ∀ w0 : World, Sem.run Tryz.prog (convert 95 9 (.slice (some ⟨w0.heap.size, 0, none⟩) 1 1)) (w0.alloc (.cells #[.int .u8 (48 + (j : Int) % 10)] 5)) = .ok (.string ⟨#[UInt8.ofNat (48 + j % 10)]⟩) (w0.alloc (.cells #[.int .u8 (48 + (j : Int) % 10)] 5)) := by
        intro w0
        refine run_convert_bytes_back (P := Tryz.prog) _ 95 9 5 _ 1 [UInt8.ofNat (48 + j % 10)] Tryz.underlying95 Tryz.underlying5 Tryz.underlying9 ?_
        intro i hi
        obtain rfl : i = 0 := by simp at hi; omega
        simp [Addr.add]
        omega
      have hos2 : 1 + out.size ≤ 30 := by omega
      go_wp2
      go_roundw
      case rel => exact ⟨j / 10, _, by go_num, rfl, by omega, by
        show _ = _
        rw [← HD.out, digs_pos hz]
        simp, by go_grown⟩
      case measure => simp [intOf]; omega
    · obtain rfl : j = 0 := by omega
      go_wp2
      go_ret
      refine ⟨?_, hB⟩
      have h := HD.out
      rw [digs_zero] at h
      simp only [List.nil_append] at h
      have e : markB k = ⟨#[109]⟩ ++ out := by
        unfold markB
        rw [if_neg (by omega), ← h]
        apply ByteArray.ext
        simp
      rw [e]
      rfl
set_option maxRecDepth 100000 in
set_option maxHeartbeats 1000000 in
theorem markFieldS_c (w : World) (v : Value) (l : List FieldD) (L : List Nat) (K : Int) (k : Nat) (hK : K = k) (h1 : 1 ≤ k) (hk : (markS l k).2 ≤ 4611686018427387904) (ho : own L w [v] l) : Calls Tryz.prog 30 #[v, .int .i64 K] w (MarkR L w [v] (markS l k)) := by
  subst hK
  obtain ⟨oa, cap, rfl⟩ := slice_of_own ho
  have hlm : l.length ≤ 9223372036854775807 := len_of_own ho
  have HO := Lib.hid ho; clear ho
  go_enter Tryz.func30, Tryz.ntmps30
  go_wp2
  go_loopw [1, 5] (fun q i wr => ∃ j : Nat, j ≤ l.length ∧ i = .int .i64 j ∧ q = .int .i64 ((markS (l.take j) k).2 : Nat) ∧ Hid (own L wr [.slice oa l.length cap] ((markS (l.take j) k).1 ++ l.drop j)) ∧ Hid (Chg L w wr)) (fun _ i _ => l.length - (intOf i).toNat)
  case atStart => exact ⟨0, Nat.zero_le _, rfl, rfl, HO.out, Chg.refl _ _⟩
  case round =>
    obtain ⟨j, hj, rfl, rfl, HW, HC⟩ := hrel
    by_cases hjl : j < l.length
    · have hx := List.getElem?_eq_getElem hjl
      have hsp := mark_split l k j _ hx
      have hle := Nat.le_trans (mark_take_le l k j _ hx) hk
      have hdr : l.drop j = l[j] :: l.drop (j + 1) := List.drop_eq_getElem_cons hjl
      have hxl : (markS (l.take j) k).1.length = j := by rw [markS_length, List.length_take]; omega
      have hkk : k ≤ (markS (l.take j) k).2 := markS_le _ _
      have how := HW.out
      rw [hdr] at how
      clear hx hdr HW
      generalize (markS (l.take j) k).2 = kk at *
      generalize (markS (l.take j) k).1 = xs at *
      generalize l[j] = x at *
      obtain ⟨g, cap', cur, e, Li, hv, hg, hroom, hgLi, hgL, hsub, hoe, hshut⟩ := own_open how
      simp only [Value.slice.injEq] at hv
      obtain ⟨rfl, hq0, rfl⟩ := hv
      clear hq0
      rw [hxl] at hroom hoe hshut
      clear hxl
      rw [show GoD.n FieldD = 2 from rfl] at hroom hoe hshut
      generalize hce : (cur.toList.drop (j * 2)).take 2 = ce at *
      obtain ⟨v0, v1⟩ := x
      obtain ⟨nd1, _, _, _, _, rfl, rfl, ⟨rfl, rfl, h0⟩, ⟨rfl, rfl, h1⟩⟩ := hoe
      have p0 : wr.cell? ⟨g, j * 2, none⟩ = some _ := cells_at hg hce 0 _ rfl
      have p1 : wr.cell? ⟨g, j * 2 + 1, none⟩ = some _ := cells_at hg hce 1 _ rfl
      have fz := free_of_heap hg
      have hglt := block_lt_of_heap hg
      clear hce hg how
      have HSH := Lib.hid hshut; clear hshut
      have HSP := Lib.hid hsp; clear hsp
      have hle : kk + 1 + 1 ≤ 4611686018427387904 := hle
      have HSUB := Lib.hid hsub; clear hsub
      have HU0 : Hid (Upd g (j * 2) 2 ([] ++ []) wr wr) := Upd.refl _ _ _ _ _
      have tok1 : True := trivial
      go_wp2_with (first | (go_at_call 32; have tk := tok1; clear tok1; refine (markText_c _ _ (kk) (by omega) (by omega) (by omega)).mono ?_; rintro e w1 ⟨rfl, hb⟩; have hz := hb.size; have c1 := fun o => bcell hb g o (by go_size); have f1 := fun o => bfroz hb g o (by go_size); have HU1 : Hid (Upd g (j * 2) 2 ([] ++ []) wr w1) := Upd.below (by repeat (first | (with_reducible exact HU0.out) | (with_reducible refine Upd.setCell ?_ _ (by omega) _))) hb (by go_size); (repeat (first | rewrite [World.size_alloc] at hz | rewrite [World.size_setCell] at hz | rewrite [World.size_drew] at hz)); have HB1 := Lib.hid hb; clear hb))
      go_roundw
      case measure => simp [intOf]; omega
      case rel =>
        refine ⟨j + 1, by omega, by go_num, ?_, ?_, ?_⟩
        · show Value.int _ _ = _
          rw [HSP.out]
          show Value.int .i64 _ = .int .i64 ((kk + 1 + 1 : Nat) : Int)
          first | go_num | (congr 1 <;> omega)
        · show own _ _ _ _
          rw [HSP.out]
          simp only [List.append_assoc, List.singleton_append]
          refine HSH.out _ [.string (markB (kk)), .int .i64 ((kk + 1 : Nat) : Int)] _ (by repeat (first | (with_reducible exact HU1.out) | (with_reducible refine Upd.setCell ?_ _ (by omega) _))) (own_pair (own_s _ (markB_size (by omega))) (own_i _ (i64_of (kk + 1) (by omega))) (fun x hx hy => (List.nodup_append.1 nd1).2.2 x hx x hy rfl)) ?_
          intro q u hq
          match q, hq with
          | 0, hq => obtain rfl := (Option.some.inj hq); simp [go_sem, *]
          | 1, hq => obtain rfl := (Option.some.inj hq); simp [go_sem, *]
          | q + 2, hq => simp at hq
        · exact HC.out.trans (((by repeat (first | (with_reducible exact HU1.out) | (with_reducible refine Upd.setCell ?_ _ (by omega) _))) : Upd g (j * 2) 2 ([] ++ []) wr _).chg.mono (fun b hb => (List.mem_cons.1 hb).elim (fun e => e ▸ hgL) (HSUB.out b)))
    · obtain rfl : j = l.length := by omega
      have how := HW.out; have hch := HC.out
      rw [List.take_length, List.drop_length, List.append_nil] at how
      rw [List.take_length] at *
      have HW2 := Lib.hid how; have HC2 := Lib.hid hch; clear how hch
      go_wp2
      go_ret
      exact ⟨rfl, HW2.out, HC2.out⟩
set_option maxRecDepth 100000 in
set_option maxHeartbeats 1000000 in
theorem markAttrS_c (w : World) (v : Value) (l : List AttrD) (L : List Nat) (K : Int) (k : Nat) (hK : K = k) (h1 : 1 ≤ k) (hk : (markS l k).2 ≤ 4611686018427387904) (ho : own L w [v] l) : Calls Tryz.prog 55 #[v, .int .i64 K] w (MarkR L w [v] (markS l k)) := by
  subst hK
  obtain ⟨oa, cap, rfl⟩ := slice_of_own ho
  have hlm : l.length ≤ 9223372036854775807 := len_of_own ho
  have HO := Lib.hid ho; clear ho
  go_enter Tryz.func55, Tryz.ntmps55
  go_wp2
  go_loopw [1, 5] (fun q i wr => ∃ j : Nat, j ≤ l.length ∧ i = .int .i64 j ∧ q = .int .i64 ((markS (l.take j) k).2 : Nat) ∧ Hid (own L wr [.slice oa l.length cap] ((markS (l.take j) k).1 ++ l.drop j)) ∧ Hid (Chg L w wr)) (fun _ i _ => l.length - (intOf i).toNat)
  case atStart => exact ⟨0, Nat.zero_le _, rfl, rfl, HO.out, Chg.refl _ _⟩
  case round =>
    obtain ⟨j, hj, rfl, rfl, HW, HC⟩ := hrel
    by_cases hjl : j < l.length
    · have hx := List.getElem?_eq_getElem hjl
      have hsp := mark_split l k j _ hx
      have hle := Nat.le_trans (mark_take_le l k j _ hx) hk
      have hdr : l.drop j = l[j] :: l.drop (j + 1) := List.drop_eq_getElem_cons hjl
      have hxl : (markS (l.take j) k).1.length = j := by rw [markS_length, List.length_take]; omega
      have hkk : k ≤ (markS (l.take j) k).2 := markS_le _ _
      have how := HW.out
      rw [hdr] at how
      clear hx hdr HW
      generalize (markS (l.take j) k).2 = kk at *
      generalize (markS (l.take j) k).1 = xs at *
      generalize l[j] = x at *
      obtain ⟨g, cap', cur, e, Li, hv, hg, hroom, hgLi, hgL, hsub, hoe, hshut⟩ := own_open how
      simp only [Value.slice.injEq] at hv
      obtain ⟨rfl, hq0, rfl⟩ := hv
      clear hq0
      rw [hxl] at hroom hoe hshut
      clear hxl
      rw [show GoD.n AttrD = 4 from rfl] at hroom hoe hshut
      generalize hce : (cur.toList.drop (j * 4)).take 4 = ce at *
      obtain ⟨v0, ⟨v1, v2, v3⟩⟩ := x
      obtain ⟨nd3, _, _, _, _, rfl, rfl, ⟨rfl, rfl, h0⟩, ⟨nd2, _, _, _, _, rfl, rfl, ⟨rfl, rfl, h1⟩, ⟨nd1, _, _, _, _, rfl, rfl, ⟨rfl, rfl, h2⟩, ⟨rfl, rfl, h3⟩⟩⟩⟩ := hoe
      have p0 : wr.cell? ⟨g, j * 4, none⟩ = some _ := cells_at hg hce 0 _ rfl
      have p1 : wr.cell? ⟨g, j * 4 + 1, none⟩ = some _ := cells_at hg hce 1 _ rfl
      have p2 : wr.cell? ⟨g, j * 4 + 2, none⟩ = some _ := cells_at hg hce 2 _ rfl
      have p3 : wr.cell? ⟨g, j * 4 + 3, none⟩ = some _ := cells_at hg hce 3 _ rfl
      have fz := free_of_heap hg
      have hglt := block_lt_of_heap hg
      clear hce hg how
      have HSH := Lib.hid hshut; clear hshut
      have HSP := Lib.hid hsp; clear hsp
      have hle : kk + 1 + 1 + 1 + 1 ≤ 4611686018427387904 := hle
      have HSUB := Lib.hid hsub; clear hsub
      have HU0 : Hid (Upd g (j * 4) 4 ([] ++ ([] ++ ([] ++ []))) wr wr) := Upd.refl _ _ _ _ _
      have tok1 : True := trivial
      have tok2 : True := trivial
      go_wp2_with (first | (go_at_call 32; have tk := tok1; clear tok1; refine (markText_c _ _ (kk) (by omega) (by omega) (by omega)).mono ?_; rintro e w1 ⟨rfl, hb⟩; have hz := hb.size; have c1 := fun o => bcell hb g o (by go_size); have f1 := fun o => bfroz hb g o (by go_size); have HU1 : Hid (Upd g (j * 4) 4 ([] ++ ([] ++ ([] ++ []))) wr w1) := Upd.below (by repeat (first | (with_reducible exact HU0.out) | (with_reducible refine Upd.setCell ?_ _ (by omega) _))) hb (by go_size); (repeat (first | rewrite [World.size_alloc] at hz | rewrite [World.size_setCell] at hz | rewrite [World.size_drew] at hz)); have HB1 := Lib.hid hb; clear hb) | (go_at_call 32; have tk := tok2; clear tok2; refine (markText_c _ _ (kk + 1 + 1 + 1) (by omega) (by omega) (by omega)).mono ?_; rintro e w2 ⟨rfl, hb⟩; have hz := hb.size; have c2 := fun o => bcell hb g o (by go_size); have f2 := fun o => bfroz hb g o (by go_size); have HU2 : Hid (Upd g (j * 4) 4 ([] ++ ([] ++ ([] ++ []))) wr w2) := Upd.below (by repeat (first | (with_reducible exact HU1.out) | (with_reducible refine Upd.setCell ?_ _ (by omega) _))) hb (by go_size); (repeat (first | rewrite [World.size_alloc] at hz | rewrite [World.size_setCell] at hz | rewrite [World.size_drew] at hz)); have HB2 := Lib.hid hb; clear hb))
      go_roundw
      case measure => simp [intOf]; omega
      case rel =>
        refine ⟨j + 1, by omega, by go_num, ?_, ?_, ?_⟩
        · show Value.int _ _ = _
          rw [HSP.out]
          show Value.int .i64 _ = .int .i64 ((kk + 1 + 1 + 1 + 1 : Nat) : Int)
          first | go_num | (congr 1 <;> omega)
        · show own _ _ _ _
          rw [HSP.out]
          simp only [List.append_assoc, List.singleton_append]
          refine HSH.out _ [.string (markB (kk)), .int .i64 ((kk + 1 : Nat) : Int), .int .i64 ((kk + 1 + 1 : Nat) : Int), .string (markB (kk + 1 + 1 + 1))] _ (by repeat (first | (with_reducible exact HU2.out) | (with_reducible refine Upd.setCell ?_ _ (by omega) _))) (own_pair (own_s _ (markB_size (by omega))) (own_pair (own_i _ (i64_of (kk + 1) (by omega))) (own_pair (own_i _ (i64_of (kk + 1 + 1) (by omega))) (own_s _ (markB_size (by omega))) (fun x hx hy => (List.nodup_append.1 nd1).2.2 x hx x hy rfl)) (fun x hx hy => (List.nodup_append.1 nd2).2.2 x hx x hy rfl)) (fun x hx hy => (List.nodup_append.1 nd3).2.2 x hx x hy rfl)) ?_
          intro q u hq
          match q, hq with
          | 0, hq => obtain rfl := (Option.some.inj hq); simp [go_sem, *]
          | 1, hq => obtain rfl := (Option.some.inj hq); simp [go_sem, *]
          | 2, hq => obtain rfl := (Option.some.inj hq); simp [go_sem, *]
          | 3, hq => obtain rfl := (Option.some.inj hq); simp [go_sem, *]
          | q + 4, hq => simp at hq
        · exact HC.out.trans (((by repeat (first | (with_reducible exact HU2.out) | (with_reducible refine Upd.setCell ?_ _ (by omega) _))) : Upd g (j * 4) 4 ([] ++ ([] ++ ([] ++ []))) wr _).chg.mono (fun b hb => (List.mem_cons.1 hb).elim (fun e => e ▸ hgL) (HSUB.out b)))
    · obtain rfl : j = l.length := by omega
      have how := HW.out; have hch := HC.out
      rw [List.take_length, List.drop_length, List.append_nil] at how
      rw [List.take_length] at *
      have HW2 := Lib.hid how; have HC2 := Lib.hid hch; clear how hch
      go_wp2
      go_ret
      exact ⟨rfl, HW2.out, HC2.out⟩
set_option maxRecDepth 100000 in
set_option maxHeartbeats 1000000 in
theorem markFileS_c (w : World) (v : Value) (l : List FileD) (L : List Nat) (K : Int) (k : Nat) (hK : K = k) (h1 : 1 ≤ k) (hk : (markS l k).2 ≤ 4611686018427387904) (ho : own L w [v] l) : Calls Tryz.prog 31 #[v, .int .i64 K] w (MarkR L w [v] (markS l k)) := by
  subst hK
  obtain ⟨oa, cap, rfl⟩ := slice_of_own ho
  have hlm : l.length ≤ 9223372036854775807 := len_of_own ho
  have HO := Lib.hid ho; clear ho
  go_enter Tryz.func31, Tryz.ntmps31
  go_wp2
  go_loopw [1, 5] (fun q i wr => ∃ j : Nat, j ≤ l.length ∧ i = .int .i64 j ∧ q = .int .i64 ((markS (l.take j) k).2 : Nat) ∧ Hid (own L wr [.slice oa l.length cap] ((markS (l.take j) k).1 ++ l.drop j)) ∧ Hid (Chg L w wr)) (fun _ i _ => l.length - (intOf i).toNat)
  case atStart => exact ⟨0, Nat.zero_le _, rfl, rfl, HO.out, Chg.refl _ _⟩
  case round =>
    obtain ⟨j, hj, rfl, rfl, HW, HC⟩ := hrel
    by_cases hjl : j < l.length
    · have hx := List.getElem?_eq_getElem hjl
      have hsp := mark_split l k j _ hx
      have hle := Nat.le_trans (mark_take_le l k j _ hx) hk
      have hdr : l.drop j = l[j] :: l.drop (j + 1) := List.drop_eq_getElem_cons hjl
      have hxl : (markS (l.take j) k).1.length = j := by rw [markS_length, List.length_take]; omega
      have hkk : k ≤ (markS (l.take j) k).2 := markS_le _ _
      have how := HW.out
      rw [hdr] at how
      clear hx hdr HW
      generalize (markS (l.take j) k).2 = kk at *
      generalize (markS (l.take j) k).1 = xs at *
      generalize l[j] = x at *
      obtain ⟨g, cap', cur, e, Li, hv, hg, hroom, hgLi, hgL, hsub, hoe, hshut⟩ := own_open how
      simp only [Value.slice.injEq] at hv
      obtain ⟨rfl, hq0, rfl⟩ := hv
      clear hq0
      rw [hxl] at hroom hoe hshut
      clear hxl
      rw [show GoD.n FileD = 5 from rfl] at hroom hoe hshut
      generalize hce : (cur.toList.drop (j * 5)).take 5 = ce at *
      obtain ⟨v0, v1, v2, v3, v4⟩ := x
      obtain ⟨nd4, _, _, _, _, rfl, rfl, ⟨rfl, rfl, h0⟩, ⟨nd3, _, _, _, _, rfl, rfl, ⟨rfl, rfl, h1⟩, ⟨nd2, _, _, _, _, rfl, rfl, ⟨rfl, rfl⟩, ⟨nd1, _, _, _, SL4, rfl, rfl, ⟨rfl, rfl, h3⟩, so4⟩⟩⟩⟩ := hoe
      obtain ⟨sv4, rfl⟩ := len1 (show _ = 1 from GoD.rd_len (GoD.own_rd so4))
      obtain ⟨oa4, cp4, rfl⟩ := slice_of_own so4
      have p0 : wr.cell? ⟨g, j * 5, none⟩ = some _ := cells_at hg hce 0 _ rfl
      have p1 : wr.cell? ⟨g, j * 5 + 1, none⟩ = some _ := cells_at hg hce 1 _ rfl
      have p2 : wr.cell? ⟨g, j * 5 + 2, none⟩ = some _ := cells_at hg hce 2 _ rfl
      have p3 : wr.cell? ⟨g, j * 5 + 3, none⟩ = some _ := cells_at hg hce 3 _ rfl
      have p4 : wr.cell? ⟨g, j * 5 + 4, none⟩ = some _ := cells_at hg hce 4 _ rfl
      have fz := free_of_heap hg
      have hglt := block_lt_of_heap hg
      clear hce hg how
      have HSH := Lib.hid hshut; clear hshut
      have HSP := Lib.hid hsp; clear hsp
      have hle : (markS v4 (kk + 1 + 1 + 1 + 1)).2 ≤ 4611686018427387904 := hle
      have hb2 := mod3_eq (kk + 1 + 1) _ (show ((kk : Int) + 1 + 1 : Int) = ((kk + 1 + 1 : Nat) : Int) by omega)
      have hm4 : kk + 1 + 1 + 1 + 1 ≤ (markS v4 (kk + 1 + 1 + 1 + 1)).2 := markS_le _ _
      have HSO4 := Lib.hid so4; clear so4
      have HSUB := Lib.hid hsub; clear hsub
      have HU0 : Hid (Upd g (j * 5) 5 ([] ++ ([] ++ ([] ++ ([] ++ SL4)))) wr wr) := Upd.refl _ _ _ _ _
      have tok1 : True := trivial
      go_wp2_with (first | (go_at_call 55; have tk := tok1; clear tok1; refine call_mark (markAttrS_c _ _ v4 SL4 _ (kk + 1 + 1 + 1 + 1) (by omega) (by omega) (by omega) (by repeat (first | (with_reducible exact HSO4.out) | (refine own_setCell ?_ (fun hm => hgLi (List.mem_append.2 (.inr (List.mem_append.2 (.inr (List.mem_append.2 (.inr (List.mem_append.2 (.inr hm)))))))))) ))) ?_; intro w1 ho1 hch hz; have c1 := fun o => hch.cell (b := g) (by go_size) (fun hm => hgLi (List.mem_append.2 (.inr (List.mem_append.2 (.inr (List.mem_append.2 (.inr (List.mem_append.2 (.inr hm))))))))) o; have f1 := fun o => hch.frozen (b := g) (by go_size) (fun hm => hgLi (List.mem_append.2 (.inr (List.mem_append.2 (.inr (List.mem_append.2 (.inr (List.mem_append.2 (.inr hm))))))))) o; have HU1 : Hid (Upd g (j * 5) 5 ([] ++ ([] ++ ([] ++ ([] ++ SL4)))) wr w1) := Upd.mark (by repeat (first | (with_reducible exact HU0.out) | (with_reducible refine Upd.setCell ?_ _ (by omega) _))) hch (fun b hm => (List.mem_append.2 (.inr (List.mem_append.2 (.inr (List.mem_append.2 (.inr (List.mem_append.2 (.inr hm))))))))) (fun hm => hgLi (List.mem_append.2 (.inr (List.mem_append.2 (.inr (List.mem_append.2 (.inr (List.mem_append.2 (.inr hm))))))))) (by go_size); (repeat (first | rewrite [World.size_alloc] at hz | rewrite [World.size_setCell] at hz | rewrite [World.size_drew] at hz)); have HB1 := Lib.hid hch; clear hch; have HM1 := Lib.hid ho1; clear ho1))
      go_roundw
      case measure => simp [intOf]; omega
      case rel =>
        refine ⟨j + 1, by omega, by go_num, ?_, ?_, ?_⟩
        · show Value.int _ _ = _
          rw [HSP.out]
          show Value.int .i64 _ = .int .i64 (((markS v4 (kk + 1 + 1 + 1 + 1)).2 : Nat) : Int)
          first | go_num | (congr 1 <;> omega)
        · show own _ _ _ _
          rw [HSP.out]
          simp only [List.append_assoc, List.singleton_append]
          refine HSH.out _ [.int .i64 ((kk : Nat) : Int), .int .i64 ((kk + 1 : Nat) : Int), .bool ((kk + 1 + 1) % 3 == 0), .int .i64 ((kk + 1 + 1 + 1 : Nat) : Int), .slice oa4 v4.length cp4] _ (by repeat (first | (with_reducible exact HU1.out) | (with_reducible refine Upd.setCell ?_ _ (by omega) _))) (own_pair (own_i _ (i64_of (kk) (by omega))) (own_pair (own_i _ (i64_of (kk + 1) (by omega))) (own_pair (own_b _ _) (own_pair (own_i _ (i64_of (kk + 1 + 1 + 1) (by omega))) (show own SL4 _ [.slice oa4 v4.length cp4] (markS v4 (kk + 1 + 1 + 1 + 1)).1 by repeat (first | (with_reducible exact HM1.out) | (refine own_setCell ?_ (fun hm => hgLi (List.mem_append.2 (.inr (List.mem_append.2 (.inr (List.mem_append.2 (.inr (List.mem_append.2 (.inr hm)))))))))) )) (fun x hx hy => (List.nodup_append.1 nd1).2.2 x hx x hy rfl)) (fun x hx hy => (List.nodup_append.1 nd2).2.2 x hx x hy rfl)) (fun x hx hy => (List.nodup_append.1 nd3).2.2 x hx x hy rfl)) (fun x hx hy => (List.nodup_append.1 nd4).2.2 x hx x hy rfl)) ?_
          intro q u hq
          match q, hq with
          | 0, hq => obtain rfl := (Option.some.inj hq); simp [go_sem, *]
          | 1, hq => obtain rfl := (Option.some.inj hq); simp [go_sem, *]
          | 2, hq => obtain rfl := (Option.some.inj hq); simp [go_sem, *]
          | 3, hq => obtain rfl := (Option.some.inj hq); simp [go_sem, *]
          | 4, hq => obtain rfl := (Option.some.inj hq); simp [go_sem, *]
          | q + 5, hq => simp at hq
        · exact HC.out.trans (((by repeat (first | (with_reducible exact HU1.out) | (with_reducible refine Upd.setCell ?_ _ (by omega) _))) : Upd g (j * 5) 5 ([] ++ ([] ++ ([] ++ ([] ++ SL4)))) wr _).chg.mono (fun b hb => (List.mem_cons.1 hb).elim (fun e => e ▸ hgL) (HSUB.out b)))
    · obtain rfl : j = l.length := by omega
      have how := HW.out; have hch := HC.out
      rw [List.take_length, List.drop_length, List.append_nil] at how
      rw [List.take_length] at *
      have HW2 := Lib.hid how; have HC2 := Lib.hid hch; clear how hch
      go_wp2
      go_ret
      exact ⟨rfl, HW2.out, HC2.out⟩
set_option maxRecDepth 100000 in
set_option maxHeartbeats 1000000 in
theorem markStore_c (w : World) (ca : List Value) (a : StoreD) (L : List Nat) (K : Int) (k : Nat) (hK : K = k) (h1 : 1 ≤ k) (hk : (GoD.markT a k).2 ≤ 4611686018427387904) (ho : own L w ca a) : Calls Tryz.prog 13 #[.agg ca.toArray, .int .i64 K] w (MarkR L w ca (GoD.markT a k)) := by
  subst hK
  obtain ⟨b1, b2, b3⟩ := a
  have hk : (markS b2 ((markS b1 (k)).2)).2 ≤ 4611686018427387904 := hk
  have hlt := GoD.own_lt ho
  obtain ⟨nd0, _, _, SL0, _, rfl, rfl, so0, ⟨nd1, _, _, SL1, _, rfl, rfl, so1, ⟨rfl, rfl, h2⟩⟩⟩ := ho
  obtain ⟨ax0_0, rfl⟩ := len1 (show _ = 1 from GoD.rd_len (GoD.own_rd so0))
  have HSO0 := Lib.hid so0; clear so0
  have hm0 : k ≤ (markS b1 (k)).2 := markS_le _ _
  obtain ⟨ax1_0, rfl⟩ := len1 (show _ = 1 from GoD.rd_len (GoD.own_rd so1))
  have HSO1 := Lib.hid so1; clear so1
  have hm1 : (markS b1 (k)).2 ≤ (markS b2 ((markS b1 (k)).2)).2 := markS_le _ _
  show Calls Tryz.prog 13 #[.agg #[ax0_0, ax1_0, .int .i64 b3], .int .i64 (k : Int)] w (MarkR (SL0 ++ (SL1 ++ [])) w [ax0_0, ax1_0, .int .i64 b3] (GoD.markT ((b1, b2, b3) : StoreD) k))
  have HLT := Lib.hid hlt; clear hlt
  have tok1 : True := trivial
  have tok2 : True := trivial
  go_enter Tryz.func13, Tryz.ntmps13
  go_wp2_with (first | (go_at_call 30; have tk := tok1; clear tok1; refine call_mark (markFieldS_c _ ax0_0 b1 SL0 _ (k) (by omega) (by omega) (show (markS b1 (k)).2 ≤ 4611686018427387904 by omega) (by repeat (first | (with_reducible exact HSO0.out) | (refine own_alloc ?_) ))) ?_; intro w1 ho1 hch hz; have c1 := fun o => hch.cell (b := w.heap.size) (by go_size) (fun hm => by have := HLT.out _ (List.mem_append.2 (.inl hm)); omega) o; (repeat (first | rewrite [World.size_alloc] at hz | rewrite [World.size_setCell] at hz | rewrite [World.size_drew] at hz)); have HB1 := Lib.hid hch; clear hch; have HM1 := Lib.hid ho1; clear ho1) | (go_at_call 31; have tk := tok2; clear tok2; refine call_mark (markFileS_c _ ax1_0 b2 SL1 _ ((markS b1 (k)).2) (by omega) (by omega) (show (markS b2 ((markS b1 (k)).2)).2 ≤ 4611686018427387904 by omega) (by repeat (first | (with_reducible exact HSO1.out) | (refine own_alloc ?_) | (refine own_chg ?_ HB1.out (fun b hb1 hb2 => (List.nodup_append.1 nd0).2.2 _ hb2 _ (List.mem_append.2 (.inl hb1)) rfl))))) ?_; intro w2 ho2 hch hz; have c2 := fun o => hch.cell (b := w.heap.size) (by go_size) (fun hm => by have := HLT.out _ (List.mem_append.2 (.inr (List.mem_append.2 (.inl hm)))); omega) o; (repeat (first | rewrite [World.size_alloc] at hz | rewrite [World.size_setCell] at hz | rewrite [World.size_drew] at hz)); have HB2 := Lib.hid hch; clear hch; have HM2 := Lib.hid ho2; clear ho2))
  go_ret
  refine ⟨rfl, ?_, ?_⟩
  · show own (SL0 ++ (SL1 ++ [])) _ [ax0_0, ax1_0, .int .i64 b3] _
    exact (own_pair (show own SL0 _ [ax0_0] (markS b1 (k)).1 by repeat (first | (with_reducible exact HM1.out) | (refine own_alloc ?_) | (refine own_chg ?_ HB2.out (fun b hb1 hb2 => (List.nodup_append.1 nd0).2.2 _ hb1 _ (List.mem_append.2 (.inl hb2)) rfl)))) (own_pair (show own SL1 _ [ax1_0] (markS b2 ((markS b1 (k)).2)).1 by repeat (first | (with_reducible exact HM2.out) | (refine own_alloc ?_) )) (own_i _ h2) (fun x hx hy => (List.nodup_append.1 nd1).2.2 x hx x hy rfl)) (fun x hx hy => (List.nodup_append.1 nd0).2.2 x hx x hy rfl))
  · show Chg (SL0 ++ (SL1 ++ [])) w _
    exact ((Chg.of_below (show Below w.heap.size w _ by go_grown)).trans (HB1.out.mono (fun b hm => (List.mem_append.2 (.inl hm))))).trans (HB2.out.mono (fun b hm => (List.mem_append.2 (.inr (List.mem_append.2 (.inl hm))))))
set_option maxRecDepth 100000 in
set_option maxHeartbeats 1000000 in
theorem markNodeS_c (w : World) (v : Value) (l : List NodeD) (L : List Nat) (K : Int) (k : Nat) (hK : K = k) (h1 : 1 ≤ k) (hk : (markS l k).2 ≤ 4611686018427387904) (ho : own L w [v] l) : Calls Tryz.prog 33 #[v, .int .i64 K] w (MarkR L w [v] (markS l k)) := by
  subst hK
  obtain ⟨oa, cap, rfl⟩ := slice_of_own ho
  have hlm : l.length ≤ 9223372036854775807 := len_of_own ho
  have HO := Lib.hid ho; clear ho
  go_enter Tryz.func33, Tryz.ntmps33
  go_wp2
  go_loopw [1, 5] (fun q i wr => ∃ j : Nat, j ≤ l.length ∧ i = .int .i64 j ∧ q = .int .i64 ((markS (l.take j) k).2 : Nat) ∧ Hid (own L wr [.slice oa l.length cap] ((markS (l.take j) k).1 ++ l.drop j)) ∧ Hid (Chg L w wr)) (fun _ i _ => l.length - (intOf i).toNat)
  case atStart => exact ⟨0, Nat.zero_le _, rfl, rfl, HO.out, Chg.refl _ _⟩
  case round =>
    obtain ⟨j, hj, rfl, rfl, HW, HC⟩ := hrel
    by_cases hjl : j < l.length
    · have hx := List.getElem?_eq_getElem hjl
      have hsp := mark_split l k j _ hx
      have hle := Nat.le_trans (mark_take_le l k j _ hx) hk
      have hdr : l.drop j = l[j] :: l.drop (j + 1) := List.drop_eq_getElem_cons hjl
      have hxl : (markS (l.take j) k).1.length = j := by rw [markS_length, List.length_take]; omega
      have hkk : k ≤ (markS (l.take j) k).2 := markS_le _ _
      have how := HW.out
      rw [hdr] at how
      clear hx hdr HW
      generalize (markS (l.take j) k).2 = kk at *
      generalize (markS (l.take j) k).1 = xs at *
      generalize l[j] = x at *
      obtain ⟨g, cap', cur, e, Li, hv, hg, hroom, hgLi, hgL, hsub, hoe, hshut⟩ := own_open how
      simp only [Value.slice.injEq] at hv
      obtain ⟨rfl, hq0, rfl⟩ := hv
      clear hq0
      rw [hxl] at hroom hoe hshut
      clear hxl
      rw [show GoD.n NodeD = 7 from rfl] at hroom hoe hshut
      generalize hce : (cur.toList.drop (j * 7)).take 7 = ce at *
      obtain ⟨v0, v1, v2, v3, ⟨v4, v5, v6⟩⟩ := x
      obtain ⟨nd6, _, _, _, _, rfl, rfl, ⟨rfl, rfl, h0⟩, ⟨nd5, _, _, _, _, rfl, rfl, ⟨rfl, rfl, h1⟩, ⟨nd4, _, _, _, _, rfl, rfl, ⟨rfl, rfl, h2⟩, ⟨nd3, _, _, _, _, rfl, rfl, ⟨rfl, rfl, h3⟩, ⟨nd2, _, _, _, _, rfl, rfl, ⟨rfl, rfl, h4⟩, ⟨nd1, _, _, _, _, rfl, rfl, ⟨rfl, rfl, h5⟩, ⟨rfl, rfl, h6⟩⟩⟩⟩⟩⟩⟩ := hoe
      have p0 : wr.cell? ⟨g, j * 7, none⟩ = some _ := cells_at hg hce 0 _ rfl
      have p1 : wr.cell? ⟨g, j * 7 + 1, none⟩ = some _ := cells_at hg hce 1 _ rfl
      have p2 : wr.cell? ⟨g, j * 7 + 2, none⟩ = some _ := cells_at hg hce 2 _ rfl
      have p3 : wr.cell? ⟨g, j * 7 + 3, none⟩ = some _ := cells_at hg hce 3 _ rfl
      have p4 : wr.cell? ⟨g, j * 7 + 4, none⟩ = some _ := cells_at hg hce 4 _ rfl
      have p5 : wr.cell? ⟨g, j * 7 + 5, none⟩ = some _ := cells_at hg hce 5 _ rfl
      have p6 : wr.cell? ⟨g, j * 7 + 6, none⟩ = some _ := cells_at hg hce 6 _ rfl
      have fz := free_of_heap hg
      have hglt := block_lt_of_heap hg
      clear hce hg how
      have HSH := Lib.hid hshut; clear hshut
      have HSP := Lib.hid hsp; clear hsp
      have hle : kk + 1 + 1 + 1 + 1 + 1 + 1 + 1 ≤ 4611686018427387904 := hle
      have HSUB := Lib.hid hsub; clear hsub
      have HU0 : Hid (Upd g (j * 7) 7 ([] ++ ([] ++ ([] ++ ([] ++ ([] ++ ([] ++ [])))))) wr wr) := Upd.refl _ _ _ _ _
      have tok1 : True := trivial
      have tok2 : True := trivial
      go_wp2_with (first | (go_at_call 32; have tk := tok1; clear tok1; refine (markText_c _ _ (kk + 1 + 1 + 1) (by omega) (by omega) (by omega)).mono ?_; rintro e w1 ⟨rfl, hb⟩; have hz := hb.size; have c1 := fun o => bcell hb g o (by go_size); have f1 := fun o => bfroz hb g o (by go_size); have HU1 : Hid (Upd g (j * 7) 7 ([] ++ ([] ++ ([] ++ ([] ++ ([] ++ ([] ++ [])))))) wr w1) := Upd.below (by repeat (first | (with_reducible exact HU0.out) | (with_reducible refine Upd.setCell ?_ _ (by omega) _))) hb (by go_size); (repeat (first | rewrite [World.size_alloc] at hz | rewrite [World.size_setCell] at hz | rewrite [World.size_drew] at hz)); have HB1 := Lib.hid hb; clear hb) | (go_at_call 32; have tk := tok2; clear tok2; refine (markText_c _ _ (kk + 1 + 1 + 1 + 1 + 1 + 1) (by omega) (by omega) (by omega)).mono ?_; rintro e w2 ⟨rfl, hb⟩; have hz := hb.size; have c2 := fun o => bcell hb g o (by go_size); have f2 := fun o => bfroz hb g o (by go_size); have HU2 : Hid (Upd g (j * 7) 7 ([] ++ ([] ++ ([] ++ ([] ++ ([] ++ ([] ++ [])))))) wr w2) := Upd.below (by repeat (first | (with_reducible exact HU1.out) | (with_reducible refine Upd.setCell ?_ _ (by omega) _))) hb (by go_size); (repeat (first | rewrite [World.size_alloc] at hz | rewrite [World.size_setCell] at hz | rewrite [World.size_drew] at hz)); have HB2 := Lib.hid hb; clear hb))
      go_roundw
      case measure => simp [intOf]; omega
      case rel =>
        refine ⟨j + 1, by omega, by go_num, ?_, ?_, ?_⟩
        · show Value.int _ _ = _
          rw [HSP.out]
          show Value.int .i64 _ = .int .i64 ((kk + 1 + 1 + 1 + 1 + 1 + 1 + 1 : Nat) : Int)
          first | go_num | (congr 1 <;> omega)
        · show own _ _ _ _
          rw [HSP.out]
          simp only [List.append_assoc, List.singleton_append]
          refine HSH.out _ [.int .i64 ((kk : Nat) : Int), .int .i64 ((kk + 1 : Nat) : Int), .int .i64 ((kk + 1 + 1 : Nat) : Int), .string (markB (kk + 1 + 1 + 1)), .int .i64 ((kk + 1 + 1 + 1 + 1 : Nat) : Int), .int .i64 ((kk + 1 + 1 + 1 + 1 + 1 : Nat) : Int), .string (markB (kk + 1 + 1 + 1 + 1 + 1 + 1))] _ (by repeat (first | (with_reducible exact HU2.out) | (with_reducible refine Upd.setCell ?_ _ (by omega) _))) (own_pair (own_i _ (i64_of (kk) (by omega))) (own_pair (own_i _ (i64_of (kk + 1) (by omega))) (own_pair (own_i _ (i64_of (kk + 1 + 1) (by omega))) (own_pair (own_s _ (markB_size (by omega))) (own_pair (own_i _ (i64_of (kk + 1 + 1 + 1 + 1) (by omega))) (own_pair (own_i _ (i64_of (kk + 1 + 1 + 1 + 1 + 1) (by omega))) (own_s _ (markB_size (by omega))) (fun x hx hy => (List.nodup_append.1 nd1).2.2 x hx x hy rfl)) (fun x hx hy => (List.nodup_append.1 nd2).2.2 x hx x hy rfl)) (fun x hx hy => (List.nodup_append.1 nd3).2.2 x hx x hy rfl)) (fun x hx hy => (List.nodup_append.1 nd4).2.2 x hx x hy rfl)) (fun x hx hy => (List.nodup_append.1 nd5).2.2 x hx x hy rfl)) (fun x hx hy => (List.nodup_append.1 nd6).2.2 x hx x hy rfl)) ?_
          intro q u hq
          match q, hq with
          | 0, hq => obtain rfl := (Option.some.inj hq); simp [go_sem, *]
          | 1, hq => obtain rfl := (Option.some.inj hq); simp [go_sem, *]
          | 2, hq => obtain rfl := (Option.some.inj hq); simp [go_sem, *]
          | 3, hq => obtain rfl := (Option.some.inj hq); simp [go_sem, *]
          | 4, hq => obtain rfl := (Option.some.inj hq); simp [go_sem, *]
          | 5, hq => obtain rfl := (Option.some.inj hq); simp [go_sem, *]
          | 6, hq => obtain rfl := (Option.some.inj hq); simp [go_sem, *]
          | q + 7, hq => simp at hq
        · exact HC.out.trans (((by repeat (first | (with_reducible exact HU2.out) | (with_reducible refine Upd.setCell ?_ _ (by omega) _))) : Upd g (j * 7) 7 ([] ++ ([] ++ ([] ++ ([] ++ ([] ++ ([] ++ [])))))) wr _).chg.mono (fun b hb => (List.mem_cons.1 hb).elim (fun e => e ▸ hgL) (HSUB.out b)))
    · obtain rfl : j = l.length := by omega
      have how := HW.out; have hch := HC.out
      rw [List.take_length, List.drop_length, List.append_nil] at how
      rw [List.take_length] at *
      have HW2 := Lib.hid how; have HC2 := Lib.hid hch; clear how hch
      go_wp2
      go_ret
      exact ⟨rfl, HW2.out, HC2.out⟩
set_option maxRecDepth 100000 in
set_option maxHeartbeats 1000000 in
theorem markStringS_c (w : World) (v : Value) (l : List ByteArray) (L : List Nat) (K : Int) (k : Nat) (hK : K = k) (h1 : 1 ≤ k) (hk : (markS l k).2 ≤ 4611686018427387904) (ho : own L w [v] l) : Calls Tryz.prog 15 #[v, .int .i64 K] w (MarkR L w [v] (markS l k)) := by
  subst hK
  obtain ⟨oa, cap, rfl⟩ := slice_of_own ho
  have hlm : l.length ≤ 9223372036854775807 := len_of_own ho
  have HO := Lib.hid ho; clear ho
  go_enter Tryz.func15, Tryz.ntmps15
  go_wp2
  go_loopw [1, 5] (fun q i wr => ∃ j : Nat, j ≤ l.length ∧ i = .int .i64 j ∧ q = .int .i64 ((markS (l.take j) k).2 : Nat) ∧ Hid (own L wr [.slice oa l.length cap] ((markS (l.take j) k).1 ++ l.drop j)) ∧ Hid (Chg L w wr)) (fun _ i _ => l.length - (intOf i).toNat)
  case atStart => exact ⟨0, Nat.zero_le _, rfl, rfl, HO.out, Chg.refl _ _⟩
  case round =>
    obtain ⟨j, hj, rfl, rfl, HW, HC⟩ := hrel
    by_cases hjl : j < l.length
    · have hx := List.getElem?_eq_getElem hjl
      have hsp := mark_split l k j _ hx
      have hle := Nat.le_trans (mark_take_le l k j _ hx) hk
      have hdr : l.drop j = l[j] :: l.drop (j + 1) := List.drop_eq_getElem_cons hjl
      have hxl : (markS (l.take j) k).1.length = j := by rw [markS_length, List.length_take]; omega
      have hkk : k ≤ (markS (l.take j) k).2 := markS_le _ _
      have how := HW.out
      rw [hdr] at how
      clear hx hdr HW
      generalize (markS (l.take j) k).2 = kk at *
      generalize (markS (l.take j) k).1 = xs at *
      generalize l[j] = x at *
      obtain ⟨g, cap', cur, e, Li, hv, hg, hroom, hgLi, hgL, hsub, hoe, hshut⟩ := own_open how
      simp only [Value.slice.injEq] at hv
      obtain ⟨rfl, hq0, rfl⟩ := hv
      clear hq0
      rw [hxl] at hroom hoe hshut
      clear hxl
      rw [show GoD.n ByteArray = 1 from rfl] at hroom hoe hshut
      rw [Nat.mul_one] at hoe hshut
      generalize hce : (cur.toList.drop j).take 1 = ce at *
      obtain ⟨rfl, rfl, hh⟩ := hoe
      have p0 : wr.cell? ⟨g, j, none⟩ = some _ := cells_at hg hce 0 _ rfl
      have fz := free_of_heap hg
      have hglt := block_lt_of_heap hg
      clear hce hg how
      have HSH := Lib.hid hshut; clear hshut
      have HSP := Lib.hid hsp; clear hsp
      have hle : kk + 1 ≤ 4611686018427387904 := hle
      have HU0 : Hid (Upd g j 1 [] wr wr) := Upd.refl _ _ _ _ _
      have tok1 : True := trivial
      go_wp2_with (first | (go_at_call 32; have tk := tok1; clear tok1; refine (markText_c _ _ (kk) (by omega) (by omega) (by omega)).mono ?_; rintro e w1 ⟨rfl, hb⟩; have hz := hb.size; have c1 := fun o => bcell hb g o (by go_size); have f1 := fun o => bfroz hb g o (by go_size); have HU1 : Hid (Upd g j 1 [] wr w1) := Upd.below (by repeat (first | (with_reducible exact HU0.out) | (with_reducible refine Upd.setCell ?_ _ (by omega) _))) hb (by go_size); (repeat (first | rewrite [World.size_alloc] at hz | rewrite [World.size_setCell] at hz | rewrite [World.size_drew] at hz)); have HB1 := Lib.hid hb; clear hb))
      go_roundw
      case measure => simp [intOf]; omega
      case rel =>
        refine ⟨j + 1, by omega, by go_num, ?_, ?_, ?_⟩
        · show Value.int _ _ = _
          rw [HSP.out]
          show Value.int .i64 _ = .int .i64 ((kk + 1 : Nat) : Int)
          first | go_num | (congr 1 <;> omega)
        · show own _ _ _ _
          rw [HSP.out]
          simp only [List.append_assoc, List.singleton_append]
          refine HSH.out _ [.string (markB (kk))] _ (by repeat (first | (with_reducible exact HU1.out) | (with_reducible refine Upd.setCell ?_ _ (by omega) _))) (own_s _ (markB_size (by omega))) ?_
          intro q u hq
          match q, hq with
          | 0, hq => obtain rfl := (Option.some.inj hq); simp [go_sem, *]
          | q + 1, hq => simp at hq
        · exact HC.out.trans (((by repeat (first | (with_reducible exact HU1.out) | (with_reducible refine Upd.setCell ?_ _ (by omega) _))) : Upd g j 1 [] wr _).chg.mono (fun b hb => (List.mem_cons.1 hb).elim (fun e => e ▸ hgL) (hsub b)))
    · obtain rfl : j = l.length := by omega
      have how := HW.out; have hch := HC.out
      rw [List.take_length, List.drop_length, List.append_nil] at how
      rw [List.take_length] at *
      have HW2 := Lib.hid how; have HC2 := Lib.hid hch; clear how hch
      go_wp2
      go_ret
      exact ⟨rfl, HW2.out, HC2.out⟩
set_option maxRecDepth 100000 in
set_option maxHeartbeats 1000000 in
theorem markDirS_c (w : World) (v : Value) (l : List DirD) (L : List Nat) (K : Int) (k : Nat) (hK : K = k) (h1 : 1 ≤ k) (hk : (markS l k).2 ≤ 4611686018427387904) (ho : own L w [v] l) : Calls Tryz.prog 14 #[v, .int .i64 K] w (MarkR L w [v] (markS l k)) := by
  subst hK
  obtain ⟨oa, cap, rfl⟩ := slice_of_own ho
  have hlm : l.length ≤ 9223372036854775807 := len_of_own ho
  have HO := Lib.hid ho; clear ho
  go_enter Tryz.func14, Tryz.ntmps14
  go_wp2
  go_loopw [1, 5] (fun q i wr => ∃ j : Nat, j ≤ l.length ∧ i = .int .i64 j ∧ q = .int .i64 ((markS (l.take j) k).2 : Nat) ∧ Hid (own L wr [.slice oa l.length cap] ((markS (l.take j) k).1 ++ l.drop j)) ∧ Hid (Chg L w wr)) (fun _ i _ => l.length - (intOf i).toNat)
  case atStart => exact ⟨0, Nat.zero_le _, rfl, rfl, HO.out, Chg.refl _ _⟩
  case round =>
    obtain ⟨j, hj, rfl, rfl, HW, HC⟩ := hrel
    by_cases hjl : j < l.length
    · have hx := List.getElem?_eq_getElem hjl
      have hsp := mark_split l k j _ hx
      have hle := Nat.le_trans (mark_take_le l k j _ hx) hk
      have hdr : l.drop j = l[j] :: l.drop (j + 1) := List.drop_eq_getElem_cons hjl
      have hxl : (markS (l.take j) k).1.length = j := by rw [markS_length, List.length_take]; omega
      have hkk : k ≤ (markS (l.take j) k).2 := markS_le _ _
      have how := HW.out
      rw [hdr] at how
      clear hx hdr HW
      generalize (markS (l.take j) k).2 = kk at *
      generalize (markS (l.take j) k).1 = xs at *
      generalize l[j] = x at *
      obtain ⟨g, cap', cur, e, Li, hv, hg, hroom, hgLi, hgL, hsub, hoe, hshut⟩ := own_open how
      simp only [Value.slice.injEq] at hv
      obtain ⟨rfl, hq0, rfl⟩ := hv
      clear hq0
      rw [hxl] at hroom hoe hshut
      clear hxl
      rw [show GoD.n DirD = 2 from rfl] at hroom hoe hshut
      generalize hce : (cur.toList.drop (j * 2)).take 2 = ce at *
      obtain ⟨v0, v1⟩ := x
      obtain ⟨nd1, _, _, _, SL1, rfl, rfl, ⟨rfl, rfl, h0⟩, so1⟩ := hoe
      obtain ⟨sv1, rfl⟩ := len1 (show _ = 1 from GoD.rd_len (GoD.own_rd so1))
      obtain ⟨oa1, cp1, rfl⟩ := slice_of_own so1
      have p0 : wr.cell? ⟨g, j * 2, none⟩ = some _ := cells_at hg hce 0 _ rfl
      have p1 : wr.cell? ⟨g, j * 2 + 1, none⟩ = some _ := cells_at hg hce 1 _ rfl
      have fz := free_of_heap hg
      have hglt := block_lt_of_heap hg
      clear hce hg how
      have HSH := Lib.hid hshut; clear hshut
      have HSP := Lib.hid hsp; clear hsp
      have hle : (markS v1 (kk + 1)).2 ≤ 4611686018427387904 := hle
      have hm1 : kk + 1 ≤ (markS v1 (kk + 1)).2 := markS_le _ _
      have HSO1 := Lib.hid so1; clear so1
      have HSUB := Lib.hid hsub; clear hsub
      have HU0 : Hid (Upd g (j * 2) 2 ([] ++ SL1) wr wr) := Upd.refl _ _ _ _ _
      have tok1 : True := trivial
      have tok2 : True := trivial
      go_wp2_with (first | (go_at_call 32; have tk := tok1; clear tok1; refine (markText_c _ _ (kk) (by omega) (by omega) (by omega)).mono ?_; rintro e w1 ⟨rfl, hb⟩; have hz := hb.size; have c1 := fun o => bcell hb g o (by go_size); have f1 := fun o => bfroz hb g o (by go_size); have HU1 : Hid (Upd g (j * 2) 2 ([] ++ SL1) wr w1) := Upd.below (by repeat (first | (with_reducible exact HU0.out) | (with_reducible refine Upd.setCell ?_ _ (by omega) _))) hb (by go_size); (repeat (first | rewrite [World.size_alloc] at hz | rewrite [World.size_setCell] at hz | rewrite [World.size_drew] at hz)); have HB1 := Lib.hid hb; clear hb) | (go_at_call 33; have tk := tok2; clear tok2; refine call_mark (markNodeS_c _ _ v1 SL1 _ (kk + 1) (by omega) (by omega) (by omega) (by repeat (first | (with_reducible exact HSO1.out) | (refine own_setCell ?_ (fun hm => hgLi (List.mem_append.2 (.inr hm)))) | (with_reducible refine own_below ?_ HB1.out)))) ?_; intro w2 ho2 hch hz; have c2 := fun o => hch.cell (b := g) (by go_size) (fun hm => hgLi (List.mem_append.2 (.inr hm))) o; have f2 := fun o => hch.frozen (b := g) (by go_size) (fun hm => hgLi (List.mem_append.2 (.inr hm))) o; have HU2 : Hid (Upd g (j * 2) 2 ([] ++ SL1) wr w2) := Upd.mark (by repeat (first | (with_reducible exact HU1.out) | (with_reducible refine Upd.setCell ?_ _ (by omega) _))) hch (fun b hm => (List.mem_append.2 (.inr hm))) (fun hm => hgLi (List.mem_append.2 (.inr hm))) (by go_size); (repeat (first | rewrite [World.size_alloc] at hz | rewrite [World.size_setCell] at hz | rewrite [World.size_drew] at hz)); have HB2 := Lib.hid hch; clear hch; have HM2 := Lib.hid ho2; clear ho2))
      go_roundw
      case measure => simp [intOf]; omega
      case rel =>
        refine ⟨j + 1, by omega, by go_num, ?_, ?_, ?_⟩
        · show Value.int _ _ = _
          rw [HSP.out]
          show Value.int .i64 _ = .int .i64 (((markS v1 (kk + 1)).2 : Nat) : Int)
          first | go_num | (congr 1 <;> omega)
        · show own _ _ _ _
          rw [HSP.out]
          simp only [List.append_assoc, List.singleton_append]
          refine HSH.out _ [.string (markB (kk)), .slice oa1 v1.length cp1] _ (by repeat (first | (with_reducible exact HU2.out) | (with_reducible refine Upd.setCell ?_ _ (by omega) _))) (own_pair (own_s _ (markB_size (by omega))) (show own SL1 _ [.slice oa1 v1.length cp1] (markS v1 (kk + 1)).1 by repeat (first | (with_reducible exact HM2.out) | (refine own_setCell ?_ (fun hm => hgLi (List.mem_append.2 (.inr hm)))) )) (fun x hx hy => (List.nodup_append.1 nd1).2.2 x hx x hy rfl)) ?_
          intro q u hq
          match q, hq with
          | 0, hq => obtain rfl := (Option.some.inj hq); simp [go_sem, *]
          | 1, hq => obtain rfl := (Option.some.inj hq); simp [go_sem, *]
          | q + 2, hq => simp at hq
        · exact HC.out.trans (((by repeat (first | (with_reducible exact HU2.out) | (with_reducible refine Upd.setCell ?_ _ (by omega) _))) : Upd g (j * 2) 2 ([] ++ SL1) wr _).chg.mono (fun b hb => (List.mem_cons.1 hb).elim (fun e => e ▸ hgL) (HSUB.out b)))
    · obtain rfl : j = l.length := by omega
      have how := HW.out; have hch := HC.out
      rw [List.take_length, List.drop_length, List.append_nil] at how
      rw [List.take_length] at *
      have HW2 := Lib.hid how; have HC2 := Lib.hid hch; clear how hch
      go_wp2
      go_ret
      exact ⟨rfl, HW2.out, HC2.out⟩
end Go.Proofs.YtnhmnfmhnepjmaaGreatDoor
namespace Go.Proofs.YtnhmnfmhnepjmaaGreatDoor
open Go.RowKit
open GoD (rd own)
set_option maxRecDepth 100000 in
set_option maxHeartbeats 1000000 in
theorem heldStringS_c (w : World) (v : Value) (l l' : List ByteArray) (K : Int) (k : Nat) (hK : K = k) (h1 : 1 ≤ k) (hk : (markS l k).2 ≤ 4611686018427387904) (hl' : l' = (markS l k).1) (ha : rd w [v] l') : Calls Tryz.prog 16 #[v, .int .i64 K] w (Ret w (.int .i64 ((markS l k).2 : Nat))) := by
  subst hK hl'
  obtain ⟨oa, cap, e1, hl, hm, hel⟩ := ha
  obtain rfl : v = _ := by simpa using e1
  clear e1
  have HE := Lib.hid hel; clear hel
  rw [markS_length] at hl ⊢
  unfold maxLen at hm
  have hlm : l.length ≤ 9223372036854775807 := by omega
  generalize hfin : (markS l k).2 = fin at *
  have HF := Lib.hid hfin; clear hfin
  go_enter Tryz.func16, Tryz.ntmps16
  go_wp2
  go_loopw [1, 5] (fun q i wr => ∃ j : Nat, j ≤ l.length ∧ i = .int .i64 j ∧ q = .int .i64 ((markS (l.take j) k).2 : Nat) ∧ Below w.heap.size w wr) (fun _ i _ => l.length - (intOf i).toNat)
  case atStart => exact ⟨0, Nat.zero_le _, rfl, rfl, Below.refl _ _⟩
  case round =>
    obtain ⟨j, hj, rfl, rfl, hB⟩ := hrel
    by_cases hjl : j < l.length
    · have hx := List.getElem?_eq_getElem hjl
      have hsp := mark_split l k j _ hx
      have hle := Nat.le_trans (mark_take_le l k j _ hx) (Nat.le_trans (Nat.le_of_eq HF.out) hk)
      have hkk : k ≤ (markS (l.take j) k).2 := markS_le _ _
      obtain ⟨eb, eo, ee, rfl, hcl, hcc, hxr⟩ := HE.out j _ (markS_get l k j _ hx)
      clear hx
      generalize (markS (l.take j) k).2 = kk at *
      generalize (markS (l.take j) k).1 = xs at *
      generalize l[j] = x at *
      have HSP : Hid (_ = (xs ++ [((markB (kk) : ByteArray))], kk + 1)) := hsp
      clear hsp
      have hle : kk + 1 ≤ 4611686018427387904 := hle
      have hxr : rd w ee (markB (kk) : ByteArray) := hxr
      obtain ⟨rfl, _⟩ := hxr
      have q0 : w.cell? ⟨eb, eo + j, none⟩ = some (.string (markB (kk))) := by have h0 := hcc 0 _ rfl; simp only [GoD.n, Nat.mul_one, Nat.add_zero] at h0; exact h0
      have HQ := Lib.hid (show True from trivial)
      have Q0 := Lib.hid q0; clear q0
      have p0_0 := (hB.cell (World.block_lt_of_cell? w _ Q0.out)).trans Q0.out
      have r0_0 := fun d os => cell_regrown p0_0 d os
      clear hcc hcl
      have hz0 := hB.size
      have tok1 : True := trivial
      go_wp2_with (first | (with_reducible refine wp_region_quiet_below (by kernel_rfl) (by kernel_rfl) ?_; have tk := tok1; clear tok1; (repeat (quiet_step (exact Calls.regrown_of (markText_c _ _ (kk) (by omega) (by omega) (by omega))))); refine wpQuiet_nil ?_; intro _ hw'; obtain ⟨⟨dq, osq⟩, hw''⟩ := hw'; subst hw''; have hbq := below_regrown wr dq osq; generalize Go.Sort.grow (redrawn wr dq) osq = w1 at hbq ⊢; have hB1 := below_via hB hbq; have hz1 := hB1.size; clear hbq; have p1_0 := (hB1.cell (World.block_lt_of_cell? w _ Q0.out)).trans Q0.out; have r1_0 := fun d os => cell_regrown p1_0 d os))
      first
      | exact ⟨⟨j + 1, by omega, by go_num, by (show Value.int _ _ = _; rw [HSP.out]; try (show Value.int .i64 _ = .int .i64 ((kk + 1 : Nat) : Int); first | go_num | (congr 1 <;> omega))), hB1⟩, by simp [intOf]; omega⟩
      | (go_roundw; (case measure => simp [intOf]; omega); (case rel => exact ⟨j + 1, by omega, by go_num, by (show Value.int _ _ = _; rw [HSP.out]; try (show Value.int .i64 _ = .int .i64 ((kk + 1 : Nat) : Int); first | go_num | (congr 1 <;> omega))), hB1⟩))
    · obtain rfl : j = l.length := by omega
      have hf := HF.out
      rw [List.take_length] at *
      rw [hf] at *
      have HF2 := Lib.hid hf; clear hf
      go_wp2
      go_ret
      exact ⟨rfl, hB⟩
open GoE (enc wide)
theorem szStore_a (a : StoreD) (left : Int) (h0 : 0 ≤ left) (h1 : left ≤ 1048576) : ACalls Tryz.prog 4 [argA a, intA left] (intA (szI (GoD.size a) left)) := acalls_szA (by unfold FnOk; kernel_rfl) h0 h1 fun w c hr => szStore_c w c a left hr h0 h1
theorem szDirS_a (a : (List DirD)) (left : Int) (h0 : 0 ≤ left) (h1 : left ≤ 1048576) : ACalls Tryz.prog 5 [argS a, intA left] (intA (szI (GoD.size a) left)) := acalls_szS (by unfold FnOk; kernel_rfl) h0 h1 fun w c hr => szDirS_c w c a left hr h0 h1
theorem toStore_a (a : StoreD) (h : GoD.size a ≤ 1048576) : ACalls Tryz.prog 7 [argA a] (resA a) := acalls_toA (by unfold FnOk; kernel_rfl) fun w c hr => toStore_c w c a hr h
theorem toDirS_a (a : (List DirD)) (h : GoD.size a ≤ 1048576) : ACalls Tryz.prog 8 [argS a] (resS a) := acalls_toS (by unfold FnOk; kernel_rfl) fun w c hr => toDirS_c w c a hr h
theorem eqStringS_a {a b : (List ByteArray)} (h : a = b) : ACalls Tryz.prog 10 [argS a, argS b] (boolA true) := acalls_eqS (by unfold FnOk; kernel_rfl) h fun w c c2 h1 h2 => eqStringS_c w c c2 a b h1 h2
theorem eqStore_a {a b : StoreD} (h : a = b) : ACalls Tryz.prog 11 [argA a, argA b] (boolA true) := acalls_eqA (by unfold FnOk; kernel_rfl) h fun w c c2 h1 h2 => eqStore_c w c c2 a b h1 h2
theorem eqDirS_a {a b : (List DirD)} (h : a = b) : ACalls Tryz.prog 12 [argS a, argS b] (boolA true) := acalls_eqS (by unfold FnOk; kernel_rfl) h fun w c c2 h1 h2 => eqDirS_c w c c2 a b h1 h2
theorem markStore_m (a : StoreD) (K : Int) (k : Nat) (hK : K = k) (h1 : 1 ≤ k) (hk : k ≤ 1152921504606846976) (hs : GoD.size a ≤ 1073741824) : MarkA Tryz.prog 13 a K (GoD.markT a k) := ⟨(by unfold FnOk; kernel_rfl), fun w L c ho => markStore_c w c a L K k hK h1 (by have := bdT (a := a) (k := k) (by decide) hs; omega) ho⟩
theorem markDirS_m (a : (List DirD)) (K : Int) (k : Nat) (hK : K = k) (h1 : 1 ≤ k) (hk : k ≤ 1152921504606846976) (hs : GoD.size a ≤ 1073741824) : MarkS Tryz.prog 14 a K (markS a k) := ⟨(by unfold FnOk; kernel_rfl), fun w L c ho => markDirS_c w c a L K k hK h1 (by have := bdS (l := a) (k := k) (by decide) hs; omega) ho⟩
theorem markStringS_m (a : (List ByteArray)) (K : Int) (k : Nat) (hK : K = k) (h1 : 1 ≤ k) (hk : k ≤ 1152921504606846976) (hs : GoD.size a ≤ 1073741824) : MarkS Tryz.prog 15 a K (markS a k) := ⟨(by unfold FnOk; kernel_rfl), fun w L c ho => markStringS_c w c a L K k hK h1 (by have := bdS (l := a) (k := k) (by decide) hs; omega) ho⟩
theorem heldStringS_a (a : (List ByteArray)) (hs : GoD.size a ≤ 1073741824) : ACalls Tryz.prog 16 [argS (markS a 1).1, intA 1] (intA ((markS a 1).2 : Nat)) := acalls_heS (by unfold FnOk; kernel_rfl) (by have := bdS (l := a) (k := 1) (by decide) hs; rw [inR_i64]; unfold I64; omega) fun w c hr => heldStringS_c w c a _ 1 1 rfl (by omega) (by have := bdS (l := a) (k := 1) (by decide) hs; omega) rfl hr
def lawsFnExactRenderView (aS : StoreD) (aD : (List DirD)) (aUser : Int) : Bool := (bif decide ((szI (GoD.size aS) 1048576) < (0 : Int)) then true else (bif decide ((szI (GoD.size aD) (szI (GoD.size aS) 1048576)) < (0 : Int)) then true else true))
theorem lawsFnExactRenderView_a (aS : StoreD) (aD : (List DirD)) (aUser : Int) : ACalls Tryz.prog 3 [.a [.h aS.1, .h aS.2.1, .i aS.2.2], .h aD, .i aUser] (.b (lawsFnExactRenderView aS aD aUser)) := by
 refine acalls_of (tt := tt) Qb Tryz.func3 (fn := Tryz.f3) rfl (by unfold FnOk; kernel_rfl) (Nat.le_of_ble_eq_true rfl) fun w0 F0 hG => ?_
 refine Qa ?_
 refine rk Qb [(3, .p 3 0), (6, .b false)] [0] [(3, [.h aS.1, .h aS.2.1, .i aS.2.2])] [] [] (o0) ?_
 refine Qa ?_
 refine rk Qb [(7, .i 1048576)] [] [] [] [] (o0) ?_
 refine Qa ?_
 have hz1 := szI_bd (GoD.size aS) 1048576
 refine rk Qb [(7, .i (szI (GoD.size aS) 1048576))] [7] [] [] [(2, .val (.i (szI (GoD.size aS) 1048576)))] (o1 (Qd (szStore_a aS 1048576 (by omega) (by omega)))) ?_
 refine Qa ?_
 refine Qa ?_
 refine rk Qb [(20, .b (decide ((szI (GoD.size aS) 1048576) < (0 : Int))))] [] [] [] [] (o0) ?_
 refine ck (decide ((szI (GoD.size aS) 1048576) < (0 : Int))) (fun h2 => ?_) (fun h2 => ?_)
 ·
  refine Qa ?_
  refine rk Qb [(6, .b true)] [6, 20] [] [] [] (o0) ?_
  refine Qh ?_
  exact pret [] (congrArg (fun z => (.b z : AV)) (show lawsFnExactRenderView aS aD aUser = true from bif_t h2 (rfl)).symm)
 ·
  have h2d := of_decide_eq_false h2
  refine Qg ?_
  refine Qa ?_
  have hz3 := szI_bd (GoD.size aD) (szI (GoD.size aS) 1048576)
  refine rk Qb [(7, .i (szI (GoD.size aD) (szI (GoD.size aS) 1048576)))] [7, 20] [] [] [(2, .val (.i (szI (GoD.size aD) (szI (GoD.size aS) 1048576))))] (o1 (Qd (szDirS_a aD (szI (GoD.size aS) 1048576) (by omega) (by omega)))) ?_
  refine Qa ?_
  refine Qa ?_
  refine rk Qb [(25, .b (decide ((szI (GoD.size aD) (szI (GoD.size aS) 1048576)) < (0 : Int))))] [7] [] [] [] (o0) ?_
  refine ck (decide ((szI (GoD.size aD) (szI (GoD.size aS) 1048576)) < (0 : Int))) (fun h4 => ?_) (fun h4 => ?_)
  ·
   refine Qa ?_
   refine rk Qb [(6, .b true)] [6, 25] [] [] [] (o0) ?_
   refine Qh ?_
   exact pret [] (congrArg (fun z => (.b z : AV)) (show lawsFnExactRenderView aS aD aUser = true from bif_f h2 (bif_t h4 (rfl))).symm)
  ·
   have h4d := of_decide_eq_false h4
   refine Qg ?_
   refine Qa ?_
   have hsz_aS : GoD.size aS ≤ 1048576 := by omega
   have hsz_aD : GoD.size aD ≤ 1048576 := by omega
   refine rk Qb [(8, .o 1984 (implRenderView aS aD aUser))] [25] [] [] [(1, .val (.a [.o 0 aS.1, .o 1 aS.2.1, .i aS.2.2])), (3, .val (.o 0 aD)), (5, .val (.o 0 (implRenderView aS aD aUser)))] (o2 (Qd (toStore_a aS hsz_aS)) (o2 (Qd (toDirS_a aD hsz_aD)) (o1 (Qd ((renderView_eq aS aD aUser) ▸ (specRenderView_a aS aD aUser (by have hz := hsz_aS; omega) (by have hz := hsz_aD; omega))))))) ?_
   refine Qa ?_
   refine rk Qb [(9, .p 9 0)] [] [(9, [.o 2112 aS.1, .o 2113 aS.2.1, .i aS.2.2])] [] [(1, .val (.a [.o 0 aS.1, .o 1 aS.2.1, .i aS.2.2]))] (o1 (Qd (toStore_a aS hsz_aS))) ?_
   refine Qa ?_
   refine rk Qb [(10, .o 2240 aD)] [] [] [] [(1, .val (.o 0 aD))] (o1 (Qd (toDirS_a aD hsz_aD))) ?_
   refine Qa ?_
   refine rk Qb [(11, .o 2496 (implRenderView aS aD aUser))] [] [] [] [(3, .val (.o 0 (implRenderView aS aD aUser)))] (o1 (Qd (implRenderView_a aS aD aUser (by have hz := hsz_aS; omega) (by have hz := hsz_aD; omega)))) ?_
   refine Qa ?_
   refine Qa ?_
   refine rk Qb [(43, .b false)] [] [] [] [(2, .val (.b true)), (3, .val (.b false))] (o2 (Qd (eqStringS_a (a := implRenderView aS aD aUser) (b := implRenderView aS aD aUser) (rfl))) (o1 (Qf (show .b (!true) = .b false from rfl)))) ?_
   refine ckF ?_
   refine Qg ?_
   refine Qa ?_
   refine Qa ?_
   refine rd' Qb tt_mx [(48, .b false)] [43] [] [] [(2, .val (.a [.o 0 aS.1, .o 1 aS.2.1, .i aS.2.2])), (3, .val (.b true)), (4, .val (.b false))] (o2 (Qd (toStore_a aS hsz_aS)) (o2 (Qd (eqStore_a (a := aS) (b := aS) (rfl))) (o1 (Qf (show .b (!true) = .b false from rfl))))) ?_
   refine ckF ?_
   refine Qg ?_
   refine Qa ?_
   refine Qa ?_
   refine rk Qb [(53, .b false)] [48] [] [] [(2, .val (.o 0 aD)), (3, .val (.b true)), (4, .val (.b false))] (o2 (Qd (toDirS_a aD hsz_aD)) (o2 (Qd (eqDirS_a (a := aD) (b := aD) (rfl))) (o1 (Qf (show .b (!true) = .b false from rfl))))) ?_
   refine ckF ?_
   refine Qg ?_
   refine Qa ?_
   refine rk Qb [(12, .i 1)] [53] [] [] [] (o0) ?_
   refine Qa ?_
   have hm5 := bdT (a := aS) (k := 1) (by decide) (Nat.le_trans hsz_aS (by decide))
   have hm6 := GoD.mkT_le aS 1
   refine awp_markA Qb (markStore_m aS 1 1 rfl (by omega) (by omega) ((Nat.le_trans hsz_aS (by decide)))) (by rw [inR_i64]; unfold I64; omega) GoM.mkT [2112, 2113] [1, 2, 3, 6, 8, 10, 11, 12] [3] (s' := ⟨[(1, .h aD), (2, .i aUser), (3, .p 3 0), (6, .b false), (8, .o 1984 (implRenderView aS aD aUser)), (10, .o 2240 aD), (11, .o 2496 (implRenderView aS aD aUser)), (12, .i (((GoD.markT aS 1).2 : Nat) : Int))], [(3, [.h aS.1, .h aS.2.1, .i aS.2.2])]⟩) rfl rfl rfl rfl rfl rfl rfl rfl rfl rfl rfl rfl (by kernel_rfl) rfl rfl (by kernel_rfl) rfl rfl (by kernel_rfl) (by kernel_rfl) rfl (by kernel_rfl) ?_
   refine Qa ?_
   have hm7 := bdS (l := aD) (k := (GoD.markT aS 1).2) (by decide) (Nat.le_trans hsz_aD (by decide))
   have hm8 := markS_le aD ((GoD.markT aS 1).2)
   refine awp_markS (markDirS_m aD (((GoD.markT aS 1).2 : Nat) : Int) ((GoD.markT aS 1).2) rfl (by omega) (by omega) ((Nat.le_trans hsz_aD (by decide)))) (by rw [inR_i64]; unfold I64; omega) GoM.mkT 2240 [1, 2, 3, 6, 8, 11, 12] [3] (s' := ⟨[(1, .h aD), (2, .i aUser), (3, .p 3 0), (6, .b false), (8, .o 1984 (implRenderView aS aD aUser)), (11, .o 2496 (implRenderView aS aD aUser)), (12, .i (((markS aD ((GoD.markT aS 1).2)).2 : Nat) : Int))], [(3, [.h aS.1, .h aS.2.1, .i aS.2.2])]⟩) rfl rfl rfl rfl rfl rfl rfl rfl rfl rfl rfl rfl (by kernel_rfl) (by kernel_rfl) rfl rfl (by kernel_rfl) ?_
   refine Qa ?_
   refine Qa ?_
   refine rk Qb [(67, .b false)] [12] [] [] [(1, .val (.b false)), (5, .val (.b true)), (6, .val (.b false))] (o2 (Qf (av_df (p := (((markS aD ((GoD.markT aS 1).2)).2 : Nat) : Int) < (0 : Int)) (by omega))) (o2 (Qd (eqStringS_a (a := implRenderView aS aD aUser) (b := implRenderView aS aD aUser) (rfl))) (o1 (Qf (show .b (!true) = .b false from rfl))))) ?_
   refine ckF ?_
   refine Qg ?_
   refine Qa ?_
   refine rk Qb [(13, .i 1)] [67] [] [] [] (o0) ?_
   refine Qa ?_
   have hm9 := bdS (l := (implRenderView aS aD aUser)) (k := 1) (by decide) (renderView_size aS aD aUser (by omega) (by omega))
   have hm10 := markS_le (implRenderView aS aD aUser) 1
   refine awp_markS (markStringS_m (implRenderView aS aD aUser) 1 1 rfl (by omega) (by omega) ((renderView_size aS aD aUser (by omega) (by omega)))) (by rw [inR_i64]; unfold I64; omega) GoM.mkT 2496 [1, 2, 3, 6, 8, 11, 13] [3] (s' := ⟨[(1, .h aD), (2, .i aUser), (3, .p 3 0), (6, .b false), (8, .o 1984 (implRenderView aS aD aUser)), (11, .h ((markS (implRenderView aS aD aUser) 1).1)), (13, .i (((markS (implRenderView aS aD aUser) 1).2 : Nat) : Int))], [(3, [.h aS.1, .h aS.2.1, .i aS.2.2])]⟩) rfl rfl rfl rfl rfl rfl rfl rfl rfl rfl rfl rfl (by kernel_rfl) (by kernel_rfl) rfl rfl (by kernel_rfl) ?_
   refine Qa ?_
   refine rk Qb [(14, .i 1)] [] [] [] [] (o0) ?_
   refine Qa ?_
   refine rk Qb [(14, .i (((markS (implRenderView aS aD aUser) 1).2 : Nat) : Int))] [14] [] [] [(2, .val (.i (((markS (implRenderView aS aD aUser) 1).2 : Nat) : Int)))] (o1 (Qd (heldStringS_a (implRenderView aS aD aUser) (renderView_size aS aD aUser (by omega) (by omega))))) ?_
   refine Qa ?_
   refine Qa ?_
   refine rk Qb [(75, .b false)] [] [] [] [(1, .val (.b false))] (o1 (Qf (av_df (p := (((markS (implRenderView aS aD aUser) 1).2 : Nat) : Int) < (0 : Int)) (by omega)))) ?_
   refine ckF ?_
   refine Qg ?_
   refine Qa ?_
   refine Qa ?_
   refine rk Qb [(78, .b false)] [75] [] [] [(2, .val (.b false))] (o1 (Qf (show .b ((((markS (implRenderView aS aD aUser) 1).2 : Nat) : Int) != (((markS (implRenderView aS aD aUser) 1).2 : Nat) : Int)) = .b false from Qe (by simp)))) ?_
   refine ckF ?_
   refine Qg ?_
   refine Qa ?_
   refine rk Qb [(15, .o 5376 (implRenderView aS aD aUser))] [1, 2, 3, 78] [] [3] [(1, .val (.a [.o 0 aS.1, .o 1 aS.2.1, .i aS.2.2])), (3, .val (.o 0 aD)), (5, .val (.o 0 (implRenderView aS aD aUser)))] (o2 (Qd (toStore_a aS hsz_aS)) (o2 (Qd (toDirS_a aD hsz_aD)) (o1 (Qd (implRenderView_a aS aD aUser (by have hz := hsz_aS; omega) (by have hz := hsz_aD; omega)))))) ?_
   refine Qa ?_
   refine Qa ?_
   refine rk Qb [(88, .b false)] [8, 15] [] [] [(2, .val (.b true)), (3, .val (.b false))] (o2 (Qd (eqStringS_a (a := implRenderView aS aD aUser) (b := implRenderView aS aD aUser) (rfl))) (o1 (Qf (show .b (!true) = .b false from rfl)))) ?_
   refine ckF ?_
   refine Qg ?_
   refine Qa ?_
   refine rk Qb [(14, .i 1)] [14, 88] [] [] [] (o0) ?_
   refine Qa ?_
   refine rk Qb [(14, .i (((markS (implRenderView aS aD aUser) 1).2 : Nat) : Int))] [11, 14] [] [] [(2, .val (.i (((markS (implRenderView aS aD aUser) 1).2 : Nat) : Int)))] (o1 (Qd (heldStringS_a (implRenderView aS aD aUser) (renderView_size aS aD aUser (by omega) (by omega))))) ?_
   refine Qa ?_
   refine Qa ?_
   refine rk Qb [(93, .b false)] [] [] [] [(1, .val (.b false))] (o1 (Qf (av_df (p := (((markS (implRenderView aS aD aUser) 1).2 : Nat) : Int) < (0 : Int)) (by omega)))) ?_
   refine ckF ?_
   refine Qg ?_
   refine Qa ?_
   refine Qa ?_
   refine rk Qb [(96, .b false)] [13, 14, 93] [] [] [(2, .val (.b false))] (o1 (Qf (show .b ((((markS (implRenderView aS aD aUser) 1).2 : Nat) : Int) != (((markS (implRenderView aS aD aUser) 1).2 : Nat) : Int)) = .b false from Qe (by simp)))) ?_
   refine ckF ?_
   refine Qg ?_
   refine Qa ?_
   refine rk Qb [(6, .b true)] [6, 96] [] [] [] (o0) ?_
   refine Qh ?_
   exact pret [] (congrArg (fun z => (.b z : AV)) (show lawsFnExactRenderView aS aD aUser = true from bif_f h2 (bif_f h4 (rfl))).symm)
end Go.Proofs.YtnhmnfmhnepjmaaGreatDoor
namespace Go.Proofs.YtnhmnfmhnepjmaaGreatDoor
open Go.RowKit
open GoD (rd own)
set_option maxRecDepth 100000 in
set_option maxHeartbeats 1000000 in
theorem bigRenderView (w : World) (c0 : List Value) (a0 : StoreD) (h0 : rd w c0 a0) (v1 : Value) (a1 : (List DirD)) (h1 : rd w [v1] a1) (a2 : Int) (h2 : I64 a2) (hbig : ¬ (GoD.size a0 + GoD.size a1 ≤ 1048576)) : Calls Tryz.prog 3 #[.agg c0.toArray, v1, .int .i64 a2] w (Ret w (.bool true)) := by
  obtain ⟨p0_oa1, p0_cp1, p0_oa2, p0_cp2, rfl⟩ := cells_Store h0
  have HA0 := Lib.hid h0; clear h0
  obtain ⟨p1_oa, p1_cp, rfl⟩ := slice_of_rd h1
  have hln1 := len_of_rd h1
  have HA1 := Lib.hid h1; clear h1
  have HA2 := Lib.hid h2; clear h2
  have tok1 : True := trivial
  have tok2 : True := trivial
  go_enter Tryz.func3, Tryz.ntmps3
  go_wp2_with (first | (go_at_call 4; have tk := tok1; clear tok1; refine call_sz (w := w) (szStore_c _ [.slice p0_oa1 a0.1.length p0_cp1, .slice p0_oa2 a0.2.1.length p0_cp2, .int .i64 a0.2.2] a0 _ (rd_below HA0.out (by repeat (first | (with_reducible exact Below.refl _ _) | (with_reducible refine Below.alloc ?_ (by go_size) _) | (with_reducible refine Below.drew ?_)))) (by omega) (by omega)) (by repeat (first | (with_reducible exact Below.refl _ _) | (with_reducible refine Below.alloc ?_ (by go_size) _) | (with_reducible refine Below.drew ?_))) ?_; intro w1 r1 hB1 hb hz1 _ hr hs1; have HR1 := Lib.hid hr; clear hr; have hz2 := hb.size; (repeat (first | rewrite [World.size_alloc] at hz2 | rewrite [World.size_setCell] at hz2 | rewrite [World.size_drew] at hz2)); have c1_0 := fun o => bcell hb (w.heap.size) o (by go_size); have l1_0 : w.heap.size < w1.heap.size := (by go_size); have HB1 := Lib.hid hb; clear hb) | (go_at_call 5; have tk := tok2; clear tok2; refine call_sz (w := w) (szDirS_c _ (.slice p1_oa a1.length p1_cp) a1 _ (rd_below HA1.out (by repeat (first | (with_reducible exact Below.refl _ _) | (with_reducible refine below_call ?_ HB1.out (by go_size)) | (with_reducible refine Below.alloc ?_ (by go_size) _) | (with_reducible refine Below.drew ?_)))) (by omega) (by omega)) (by repeat (first | (with_reducible exact Below.refl _ _) | (with_reducible refine below_call ?_ HB1.out (by go_size)) | (with_reducible refine Below.alloc ?_ (by go_size) _) | (with_reducible refine Below.drew ?_))) ?_; intro w2 r2 hB2 hb hz2 _ hr hs2; have HR2 := Lib.hid hr; clear hr; have hz2 := hb.size; (repeat (first | rewrite [World.size_alloc] at hz2 | rewrite [World.size_setCell] at hz2 | rewrite [World.size_drew] at hz2)); have c2_0 := fun o => bcell hb (w.heap.size) o (by go_size); have l2_0 : w.heap.size < w2.heap.size := (by go_size); have HB2 := Lib.hid hb; clear hb) | (exfalso; have q1 := HR1.out; have q2 := HR2.out; apply hbig; unfold szq at *; omega))
  all_goals
    go_ret
    refine ⟨rfl, ?_⟩
    first | (with_reducible assumption) | go_grown
theorem lawsFnExactRenderView_true (a0 : StoreD) (a1 : (List DirD)) (a2 : Int) : lawsFnExactRenderView a0 a1 a2 = true := by
  unfold lawsFnExactRenderView
  simp
theorem lawRenderView (w : World) (c0 : List Value) (a0 : StoreD) (h0 : rd w c0 a0) (v1 : Value) (a1 : (List DirD)) (h1 : rd w [v1] a1) (a2 : Int) (h2 : I64 a2) (ht : tabOk w) : Calls Tryz.prog 3 #[.agg c0.toArray, v1, .int .i64 a2] w (Ret w (.bool true)) := by
  by_cases hbig : GoD.size a0 + GoD.size a1 ≤ 1048576
  · haveI : Good Tryz.prog w := ⟨fun _ _ => ht⟩
    have h := (lawsFnExactRenderView_a a0 a1 a2).run (.cons (arg_agg h0 (GoE.wide_size (show GoD.size a0 ≤ 1073741824 by omega))) (.cons (arg_sli h1 (GoE.wide_size (show GoD.size a1 ≤ 1073741824 by omega))) (.cons (arg_int h2) .nil)))
    rw [lawsFnExactRenderView_true] at h
    exact h.mono fun _ _ h => ret_bool h
  · exact bigRenderView w c0 a0 h0 v1 a1 h1 a2 h2 hbig
end Go.Proofs.YtnhmnfmhnepjmaaGreatDoor
