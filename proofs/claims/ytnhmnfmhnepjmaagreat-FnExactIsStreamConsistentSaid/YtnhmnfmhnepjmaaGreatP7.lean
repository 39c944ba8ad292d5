/- Texts of this proof, put together by a program: Eq, To, LPs, MPs. -/
import Derived.Test.YtnhmnfmhnepjmaaGreatP6
import Derived.Test.YtnhmnfmhnepjmaaGreatProg
import Derived.KernelRfl
import Derived.Outline
set_option linter.unusedVariables false
set_option linter.unusedSimpArgs false
namespace Go.Proofs.YtnhmnfmhnepjmaaGreat
open Go.RowKit
open GoD (rd own)
set_option maxHeartbeats 1000000 in
theorem eqValue_c (w : World) (ca cb : List Value) (a b : ValueD) (ha : rd w ca a) (hb : rd w cb b) : Calls Tryz.prog 189 #[.agg ca.toArray, .agg cb.toArray] w (Ret w (.bool (eqb a b))) := by
  obtain ⟨a1, a2, a3⟩ := a
  obtain ⟨ac1, at1, rfl, ar1, ac2, at2, rfl, ar2, ar3⟩ := ha
  obtain ⟨rfl, ar1⟩ := ar1
  obtain ⟨rfl, ar2⟩ := ar2
  obtain ⟨rfl, ar3⟩ := ar3
  obtain ⟨b1, b2, b3⟩ := b
  obtain ⟨bc1, bt1, rfl, br1, bc2, bt2, rfl, br2, br3⟩ := hb
  obtain ⟨rfl, br1⟩ := br1
  obtain ⟨rfl, br2⟩ := br2
  obtain ⟨rfl, br3⟩ := br3
  dsimp only [List.cons_append, List.nil_append] at *
  generalize hr : eqb (a1, a2, a3) (b1, b2, b3) = r
  have Hr := Lib.hid hr; clear hr
  have es := Vp
  clear ar1 br1
  clear ar2 br2
  clear ar3 br3
  go_enter Tryz.func189, Tryz.ntmps189
  go_wp2
  all_goals
    go_ret
    refine ⟨?_, by go_grown⟩
    rw [← Hr.out]
    go_light
    clear es
    simp_all [eqb_prod, Zw, Y7]
set_option maxHeartbeats 1000000 in
theorem eqAttr_c (w : World) (ca cb : List Value) (a b : AttrD) (ha : rd w ca a) (hb : rd w cb b) : Calls Tryz.prog 188 #[.agg ca.toArray, .agg cb.toArray] w (Ret w (.bool (eqb a b))) := by
  obtain ⟨a1, a2⟩ := a
  obtain ⟨ac1, at1, rfl, ar1, ar2⟩ := ha
  obtain ⟨rfl, ar1⟩ := ar1
  obtain ⟨ax2_0, ax2_1, ax2_2, rfl⟩ := len3 (show _ = 3 from GoD.rd_len ar2)
  obtain ⟨b1, b2⟩ := b
  obtain ⟨bc1, bt1, rfl, br1, br2⟩ := hb
  obtain ⟨rfl, br1⟩ := br1
  obtain ⟨bx2_0, bx2_1, bx2_2, rfl⟩ := len3 (show _ = 3 from GoD.rd_len br2)
  dsimp only [List.cons_append, List.nil_append] at *
  generalize hr : eqb (a1, a2) (b1, b2) = r
  have Hr := Lib.hid hr; clear hr
  have es := Vp
  clear ar1 br1
  have AR2H := Lib.hid ar2; clear ar2
  have BR2H := Lib.hid br2; clear br2
  have tok1 : True := trivial
  go_enter Tryz.func188, Tryz.ntmps188
  go_wp2_with (first | (go_at_call 189; have tk := tok1; clear tok1; (refine Ks (w := w) (eqValue_c _ [ax2_0, ax2_1, ax2_2] [bx2_0, bx2_1, bx2_2] a2 b2 (Qh AR2H.out (by go_grown)) (Qh BR2H.out (by go_grown))) (by go_grown) ?_; intro w' hB hb hz hz2; (repeat (first | rewrite [World.size_alloc] at hz2 | rewrite [World.size_setCell] at hz2 | rewrite [World.size_drew] at hz2)); have c0 := fun o => Xy hb (w.heap.size) o (by go_size); have c1 := fun o => Xy hb (w.heap.size + 1) o (by go_size))))
  all_goals
    go_ret
    refine ⟨?_, by go_grown⟩
    rw [← Hr.out]
    go_light
    clear es
    simp_all [eqb_prod, Zw, Y7]
set_option maxHeartbeats 1000000 in
theorem eqField_c (w : World) (ca cb : List Value) (a b : Jr) (ha : rd w ca a) (hb : rd w cb b) : Calls Tryz.prog 99 #[.agg ca.toArray, .agg cb.toArray] w (Ret w (.bool (eqb a b))) := by
  obtain ⟨a1, a2⟩ := a
  obtain ⟨ac1, at1, rfl, ar1, ar2⟩ := ha
  obtain ⟨rfl, ar1⟩ := ar1
  obtain ⟨rfl, ar2⟩ := ar2
  obtain ⟨b1, b2⟩ := b
  obtain ⟨bc1, bt1, rfl, br1, br2⟩ := hb
  obtain ⟨rfl, br1⟩ := br1
  obtain ⟨rfl, br2⟩ := br2
  dsimp only [List.cons_append, List.nil_append] at *
  generalize hr : eqb (a1, a2) (b1, b2) = r
  have Hr := Lib.hid hr; clear hr
  have es := Vp
  clear ar1 br1
  clear ar2 br2
  go_enter Tryz.func99, Tryz.ntmps99
  go_wp2
  all_goals
    go_ret
    refine ⟨?_, by go_grown⟩
    rw [← Hr.out]
    go_light
    clear es
    simp_all [eqb_prod, Zw, Y7]
set_option maxHeartbeats 1000000 in
theorem eqFieldS_c (w : World) (sa sb : Value) (la lb : List Jr) (ha : rd w [sa] la) (hb : rd w [sb] lb) : Calls Tryz.prog 45 #[sa, sb] w (Ret w (.bool (eqb la lb))) := by
  obtain ⟨oa, capa, e1, hl1, hm1, hel1⟩ := ha
  obtain ⟨ob, capb, e2, hl2, hm2, hel2⟩ := hb
  obtain rfl : sa = _ := by simpa using e1
  obtain rfl : sb = _ := by simpa using e2
  clear e1 e2
  have HE1 := Lib.hid hel1; clear hel1
  have HE2 := Lib.hid hel2; clear hel2
  unfold maxLen at hm1 hm2
  have hma : la.length ≤ 9223372036854775807 := by omega
  have hmb : lb.length ≤ 9223372036854775807 := by omega
  by_cases hlen : la.length = lb.length
  · have hne : ((la.length : Int) != (lb.length : Int)) = false := by simp [hlen]
    generalize hr : eqb la lb = r
    have Hr := Lib.hid hr; clear hr
    have Hlen := Lib.hid hlen; clear hlen
    have es := Vp
    go_enter Tryz.func45, Tryz.ntmps45
    go_wp2
    go_loopw [5] (fun i wr => ∃ k : Nat, k ≤ la.length ∧ i = .int .i64 k ∧ Hid (la.take k = lb.take k) ∧ Below w.heap.size w wr) (fun i _ => la.length - (intOf i).toNat)
    case atStart => exact ⟨0, Nat.zero_le _, rfl, rfl, Below.refl _ _⟩
    case round =>
      obtain ⟨k, hk, rfl, htk, hB⟩ := hrel
      by_cases hlt : k < la.length
      · have hltb : k < lb.length := by have := Hlen.out; omega
        obtain ⟨ba, fa, ea, rfl, hla, hca, hra⟩ := HE1.out k _ (List.getElem?_eq_getElem hlt)
        obtain ⟨bb, fb, eb, rfl, hlb, hcb, hrb⟩ := HE2.out k _ (List.getElem?_eq_getElem hltb)
        have Hno := Lib.hid (eqS_no (List.getElem?_eq_getElem hlt) (List.getElem?_eq_getElem hltb))
        have Hyes := Lib.hid (eqS_step htk.out (List.getElem?_eq_getElem hlt) (List.getElem?_eq_getElem hltb))
        generalize la[k] = xa at *
        generalize lb[k] = xb at *
        obtain ⟨x0, x1, rfl⟩ := len2 (show _ = 2 from hla)
        obtain ⟨y0, y1, rfl⟩ := len2 (show _ = 2 from hlb)
        have qba0 : w.cell? ⟨ba, fa + k * 2, none⟩ = some _ := hca 0 _ rfl
        have pba0 := fun d os => cell_regrown ((hB.cell (World.block_lt_of_cell? w _ qba0)).trans qba0) d os
        clear qba0
        have qba1 : w.cell? ⟨ba, fa + k * 2 + 1, none⟩ = some _ := hca 1 _ rfl
        have pba1 := fun d os => cell_regrown ((hB.cell (World.block_lt_of_cell? w _ qba1)).trans qba1) d os
        clear qba1
        have qbb0 : w.cell? ⟨bb, fb + k * 2, none⟩ = some _ := hcb 0 _ rfl
        have pbb0 := fun d os => cell_regrown ((hB.cell (World.block_lt_of_cell? w _ qbb0)).trans qbb0) d os
        clear qbb0
        have qbb1 : w.cell? ⟨bb, fb + k * 2 + 1, none⟩ = some _ := hcb 1 _ rfl
        have pbb1 := fun d os => cell_regrown ((hB.cell (World.block_lt_of_cell? w _ qbb1)).trans qbb1) d os
        clear qbb1
        have ra := fun d os => Qh (Qh hra hB) (below_regrown wr d os)
        have rb := fun d os => Qh (Qh hrb hB) (below_regrown wr d os)
        have Ra := Lib.hid ra
        have Rb := Lib.hid rb
        clear ra rb
        clear hca hcb hra hrb hla hlb
        go_wp2
        refine wp_region_quiet_below (by kernel_rfl) (by kernel_rfl) ?_
        repeat (quiet_step (exact Calls.regrown_of (eqField_c _ [x0, x1] [y0, y1] xa xb (Ra.out _ _) (Rb.out _ _))))
        refine wpQuiet_nil ?_
        intro _ hw'
        obtain ⟨⟨dq, osq⟩, hw''⟩ := hw'
        subst hw''
        have hB2 := hB.trans ((below_regrown wr dq osq).mono hB.size)
        go_wp2
        · go_ret
          obtain rfl : r = false := Hr.out.symm.trans (Hno.out (by go_light; clear es; simp_all [Zw, Y7]))
          exact ⟨rfl, hB2⟩
        · go_roundw
          case rel => exact ⟨k + 1, by omega, by go_num, Hyes.out (by go_light; clear es; simp_all [Zw, Y7]), hB2⟩
          case measure => simp [intOf]; omega
      · obtain rfl : k = la.length := by omega
        have Hy := Lib.hid (eqS_end htk.out (by have := Hlen.out; omega))
        go_wp2
        go_ret
        obtain rfl : r = true := Hr.out.symm.trans Hy.out
        exact ⟨rfl, hB⟩
  · have hne : ((la.length : Int) != (lb.length : Int)) = true := by simp; omega
    generalize hr : eqb la lb = r
    have Hr := Lib.hid hr; clear hr
    have Hn := Lib.hid (eqS_len hlen); clear hlen
    go_enter Tryz.func45, Tryz.ntmps45
    go_wp2
    go_ret
    obtain rfl : r = false := Hr.out.symm.trans Hn.out
    exact ⟨rfl, Below.refl _ _⟩
set_option maxHeartbeats 1000000 in
theorem eqAttrS_c (w : World) (sa sb : Value) (la lb : List AttrD) (ha : rd w [sa] la) (hb : rd w [sb] lb) : Calls Tryz.prog 151 #[sa, sb] w (Ret w (.bool (eqb la lb))) := by
  obtain ⟨oa, capa, e1, hl1, hm1, hel1⟩ := ha
  obtain ⟨ob, capb, e2, hl2, hm2, hel2⟩ := hb
  obtain rfl : sa = _ := by simpa using e1
  obtain rfl : sb = _ := by simpa using e2
  clear e1 e2
  have HE1 := Lib.hid hel1; clear hel1
  have HE2 := Lib.hid hel2; clear hel2
  unfold maxLen at hm1 hm2
  have hma : la.length ≤ 9223372036854775807 := by omega
  have hmb : lb.length ≤ 9223372036854775807 := by omega
  by_cases hlen : la.length = lb.length
  · have hne : ((la.length : Int) != (lb.length : Int)) = false := by simp [hlen]
    generalize hr : eqb la lb = r
    have Hr := Lib.hid hr; clear hr
    have Hlen := Lib.hid hlen; clear hlen
    have es := Vp
    go_enter Tryz.func151, Tryz.ntmps151
    go_wp2
    go_loopw [5] (fun i wr => ∃ k : Nat, k ≤ la.length ∧ i = .int .i64 k ∧ Hid (la.take k = lb.take k) ∧ Below w.heap.size w wr) (fun i _ => la.length - (intOf i).toNat)
    case atStart => exact ⟨0, Nat.zero_le _, rfl, rfl, Below.refl _ _⟩
    case round =>
      obtain ⟨k, hk, rfl, htk, hB⟩ := hrel
      by_cases hlt : k < la.length
      · have hltb : k < lb.length := by have := Hlen.out; omega
        obtain ⟨ba, fa, ea, rfl, hla, hca, hra⟩ := HE1.out k _ (List.getElem?_eq_getElem hlt)
        obtain ⟨bb, fb, eb, rfl, hlb, hcb, hrb⟩ := HE2.out k _ (List.getElem?_eq_getElem hltb)
        have Hno := Lib.hid (eqS_no (List.getElem?_eq_getElem hlt) (List.getElem?_eq_getElem hltb))
        have Hyes := Lib.hid (eqS_step htk.out (List.getElem?_eq_getElem hlt) (List.getElem?_eq_getElem hltb))
        generalize la[k] = xa at *
        generalize lb[k] = xb at *
        obtain ⟨x0, x1, x2, x3, rfl⟩ := len4 (show _ = 4 from hla)
        obtain ⟨y0, y1, y2, y3, rfl⟩ := len4 (show _ = 4 from hlb)
        have qba0 : w.cell? ⟨ba, fa + k * 4, none⟩ = some _ := hca 0 _ rfl
        have pba0 := fun d os => cell_regrown ((hB.cell (World.block_lt_of_cell? w _ qba0)).trans qba0) d os
        clear qba0
        have qba1 : w.cell? ⟨ba, fa + k * 4 + 1, none⟩ = some _ := hca 1 _ rfl
        have pba1 := fun d os => cell_regrown ((hB.cell (World.block_lt_of_cell? w _ qba1)).trans qba1) d os
        clear qba1
        have qba2 : w.cell? ⟨ba, fa + k * 4 + 2, none⟩ = some _ := hca 2 _ rfl
        have pba2 := fun d os => cell_regrown ((hB.cell (World.block_lt_of_cell? w _ qba2)).trans qba2) d os
        clear qba2
        have qba3 : w.cell? ⟨ba, fa + k * 4 + 3, none⟩ = some _ := hca 3 _ rfl
        have pba3 := fun d os => cell_regrown ((hB.cell (World.block_lt_of_cell? w _ qba3)).trans qba3) d os
        clear qba3
        have qbb0 : w.cell? ⟨bb, fb + k * 4, none⟩ = some _ := hcb 0 _ rfl
        have pbb0 := fun d os => cell_regrown ((hB.cell (World.block_lt_of_cell? w _ qbb0)).trans qbb0) d os
        clear qbb0
        have qbb1 : w.cell? ⟨bb, fb + k * 4 + 1, none⟩ = some _ := hcb 1 _ rfl
        have pbb1 := fun d os => cell_regrown ((hB.cell (World.block_lt_of_cell? w _ qbb1)).trans qbb1) d os
        clear qbb1
        have qbb2 : w.cell? ⟨bb, fb + k * 4 + 2, none⟩ = some _ := hcb 2 _ rfl
        have pbb2 := fun d os => cell_regrown ((hB.cell (World.block_lt_of_cell? w _ qbb2)).trans qbb2) d os
        clear qbb2
        have qbb3 : w.cell? ⟨bb, fb + k * 4 + 3, none⟩ = some _ := hcb 3 _ rfl
        have pbb3 := fun d os => cell_regrown ((hB.cell (World.block_lt_of_cell? w _ qbb3)).trans qbb3) d os
        clear qbb3
        have ra := fun d os => Qh (Qh hra hB) (below_regrown wr d os)
        have rb := fun d os => Qh (Qh hrb hB) (below_regrown wr d os)
        have Ra := Lib.hid ra
        have Rb := Lib.hid rb
        clear ra rb
        clear hca hcb hra hrb hla hlb
        go_wp2
        refine wp_region_quiet_below (by kernel_rfl) (by kernel_rfl) ?_
        repeat (quiet_step (exact Calls.regrown_of (eqAttr_c _ [x0, x1, x2, x3] [y0, y1, y2, y3] xa xb (Ra.out _ _) (Rb.out _ _))))
        refine wpQuiet_nil ?_
        intro _ hw'
        obtain ⟨⟨dq, osq⟩, hw''⟩ := hw'
        subst hw''
        have hB2 := hB.trans ((below_regrown wr dq osq).mono hB.size)
        go_wp2
        · go_ret
          obtain rfl : r = false := Hr.out.symm.trans (Hno.out (by go_light; clear es; simp_all [Zw, Y7]))
          exact ⟨rfl, hB2⟩
        · go_roundw
          case rel => exact ⟨k + 1, by omega, by go_num, Hyes.out (by go_light; clear es; simp_all [Zw, Y7]), hB2⟩
          case measure => simp [intOf]; omega
      · obtain rfl : k = la.length := by omega
        have Hy := Lib.hid (eqS_end htk.out (by have := Hlen.out; omega))
        go_wp2
        go_ret
        obtain rfl : r = true := Hr.out.symm.trans Hy.out
        exact ⟨rfl, hB⟩
  · have hne : ((la.length : Int) != (lb.length : Int)) = true := by simp; omega
    generalize hr : eqb la lb = r
    have Hr := Lib.hid hr; clear hr
    have Hn := Lib.hid (eqS_len hlen); clear hlen
    go_enter Tryz.func151, Tryz.ntmps151
    go_wp2
    go_ret
    obtain rfl : r = false := Hr.out.symm.trans Hn.out
    exact ⟨rfl, Below.refl _ _⟩
set_option maxHeartbeats 1000000 in
theorem eqFile_c (w : World) (ca cb : List Value) (a b : Yo) (ha : rd w ca a) (hb : rd w cb b) : Calls Tryz.prog 100 #[.agg ca.toArray, .agg cb.toArray] w (Ret w (.bool (eqb a b))) := by
  obtain ⟨a1, a2, a3, a4, a5⟩ := a
  obtain ⟨ac1, at1, rfl, ar1, ac2, at2, rfl, ar2, ac3, at3, rfl, ar3, ac4, at4, rfl, ar4, ar5⟩ := ha
  obtain ⟨rfl, ar1⟩ := ar1
  obtain ⟨rfl, ar2⟩ := ar2
  obtain rfl := ar3
  obtain ⟨rfl, ar4⟩ := ar4
  obtain ⟨ax5_0, rfl⟩ := len1 (show _ = 1 from GoD.rd_len ar5)
  obtain ⟨b1, b2, b3, b4, b5⟩ := b
  obtain ⟨bc1, bt1, rfl, br1, bc2, bt2, rfl, br2, bc3, bt3, rfl, br3, bc4, bt4, rfl, br4, br5⟩ := hb
  obtain ⟨rfl, br1⟩ := br1
  obtain ⟨rfl, br2⟩ := br2
  obtain rfl := br3
  obtain ⟨rfl, br4⟩ := br4
  obtain ⟨bx5_0, rfl⟩ := len1 (show _ = 1 from GoD.rd_len br5)
  dsimp only [List.cons_append, List.nil_append] at *
  generalize hr : eqb (a1, a2, a3, a4, a5) (b1, b2, b3, b4, b5) = r
  have Hr := Lib.hid hr; clear hr
  have es := Vp
  clear ar1 br1
  clear ar2 br2
  clear ar4 br4
  have AR5H := Lib.hid ar5; clear ar5
  have BR5H := Lib.hid br5; clear br5
  have tok1 : True := trivial
  go_enter Tryz.func100, Tryz.ntmps100
  go_wp2_with (first | (go_at_call 151; have tk := tok1; clear tok1; (refine Ks (w := w) (eqAttrS_c _ ax5_0 bx5_0 a5 b5 (Qh AR5H.out (by go_grown)) (Qh BR5H.out (by go_grown))) (by go_grown) ?_; intro w' hB hb hz hz2; (repeat (first | rewrite [World.size_alloc] at hz2 | rewrite [World.size_setCell] at hz2 | rewrite [World.size_drew] at hz2)); have c0 := fun o => Xy hb (w.heap.size) o (by go_size); have c1 := fun o => Xy hb (w.heap.size + 1) o (by go_size))))
  all_goals
    go_ret
    refine ⟨?_, by go_grown⟩
    rw [← Hr.out]
    go_light
    clear es
    simp_all [eqb_prod, Zw, Y7]
set_option maxHeartbeats 1000000 in
theorem eqFileS_c (w : World) (sa sb : Value) (la lb : List Yo) (ha : rd w [sa] la) (hb : rd w [sb] lb) : Calls Tryz.prog 46 #[sa, sb] w (Ret w (.bool (eqb la lb))) := by
  obtain ⟨oa, capa, e1, hl1, hm1, hel1⟩ := ha
  obtain ⟨ob, capb, e2, hl2, hm2, hel2⟩ := hb
  obtain rfl : sa = _ := by simpa using e1
  obtain rfl : sb = _ := by simpa using e2
  clear e1 e2
  have HE1 := Lib.hid hel1; clear hel1
  have HE2 := Lib.hid hel2; clear hel2
  unfold maxLen at hm1 hm2
  have hma : la.length ≤ 9223372036854775807 := by omega
  have hmb : lb.length ≤ 9223372036854775807 := by omega
  by_cases hlen : la.length = lb.length
  · have hne : ((la.length : Int) != (lb.length : Int)) = false := by simp [hlen]
    generalize hr : eqb la lb = r
    have Hr := Lib.hid hr; clear hr
    have Hlen := Lib.hid hlen; clear hlen
    have es := Vp
    go_enter Tryz.func46, Tryz.ntmps46
    go_wp2
    go_loopw [5] (fun i wr => ∃ k : Nat, k ≤ la.length ∧ i = .int .i64 k ∧ Hid (la.take k = lb.take k) ∧ Below w.heap.size w wr) (fun i _ => la.length - (intOf i).toNat)
    case atStart => exact ⟨0, Nat.zero_le _, rfl, rfl, Below.refl _ _⟩
    case round =>
      obtain ⟨k, hk, rfl, htk, hB⟩ := hrel
      by_cases hlt : k < la.length
      · have hltb : k < lb.length := by have := Hlen.out; omega
        obtain ⟨ba, fa, ea, rfl, hla, hca, hra⟩ := HE1.out k _ (List.getElem?_eq_getElem hlt)
        obtain ⟨bb, fb, eb, rfl, hlb, hcb, hrb⟩ := HE2.out k _ (List.getElem?_eq_getElem hltb)
        have Hno := Lib.hid (eqS_no (List.getElem?_eq_getElem hlt) (List.getElem?_eq_getElem hltb))
        have Hyes := Lib.hid (eqS_step htk.out (List.getElem?_eq_getElem hlt) (List.getElem?_eq_getElem hltb))
        generalize la[k] = xa at *
        generalize lb[k] = xb at *
        obtain ⟨x0, x1, x2, x3, x4, rfl⟩ := len5 (show _ = 5 from hla)
        obtain ⟨y0, y1, y2, y3, y4, rfl⟩ := len5 (show _ = 5 from hlb)
        have qba0 : w.cell? ⟨ba, fa + k * 5, none⟩ = some _ := hca 0 _ rfl
        have pba0 := fun d os => cell_regrown ((hB.cell (World.block_lt_of_cell? w _ qba0)).trans qba0) d os
        clear qba0
        have qba1 : w.cell? ⟨ba, fa + k * 5 + 1, none⟩ = some _ := hca 1 _ rfl
        have pba1 := fun d os => cell_regrown ((hB.cell (World.block_lt_of_cell? w _ qba1)).trans qba1) d os
        clear qba1
        have qba2 : w.cell? ⟨ba, fa + k * 5 + 2, none⟩ = some _ := hca 2 _ rfl
        have pba2 := fun d os => cell_regrown ((hB.cell (World.block_lt_of_cell? w _ qba2)).trans qba2) d os
        clear qba2
        have qba3 : w.cell? ⟨ba, fa + k * 5 + 3, none⟩ = some _ := hca 3 _ rfl
        have pba3 := fun d os => cell_regrown ((hB.cell (World.block_lt_of_cell? w _ qba3)).trans qba3) d os
        clear qba3
        have qba4 : w.cell? ⟨ba, fa + k * 5 + 4, none⟩ = some _ := hca 4 _ rfl
        have pba4 := fun d os => cell_regrown ((hB.cell (World.block_lt_of_cell? w _ qba4)).trans qba4) d os
        clear qba4
        have qbb0 : w.cell? ⟨bb, fb + k * 5, none⟩ = some _ := hcb 0 _ rfl
        have pbb0 := fun d os => cell_regrown ((hB.cell (World.block_lt_of_cell? w _ qbb0)).trans qbb0) d os
        clear qbb0
        have qbb1 : w.cell? ⟨bb, fb + k * 5 + 1, none⟩ = some _ := hcb 1 _ rfl
        have pbb1 := fun d os => cell_regrown ((hB.cell (World.block_lt_of_cell? w _ qbb1)).trans qbb1) d os
        clear qbb1
        have qbb2 : w.cell? ⟨bb, fb + k * 5 + 2, none⟩ = some _ := hcb 2 _ rfl
        have pbb2 := fun d os => cell_regrown ((hB.cell (World.block_lt_of_cell? w _ qbb2)).trans qbb2) d os
        clear qbb2
        have qbb3 : w.cell? ⟨bb, fb + k * 5 + 3, none⟩ = some _ := hcb 3 _ rfl
        have pbb3 := fun d os => cell_regrown ((hB.cell (World.block_lt_of_cell? w _ qbb3)).trans qbb3) d os
        clear qbb3
        have qbb4 : w.cell? ⟨bb, fb + k * 5 + 4, none⟩ = some _ := hcb 4 _ rfl
        have pbb4 := fun d os => cell_regrown ((hB.cell (World.block_lt_of_cell? w _ qbb4)).trans qbb4) d os
        clear qbb4
        have ra := fun d os => Qh (Qh hra hB) (below_regrown wr d os)
        have rb := fun d os => Qh (Qh hrb hB) (below_regrown wr d os)
        have Ra := Lib.hid ra
        have Rb := Lib.hid rb
        clear ra rb
        clear hca hcb hra hrb hla hlb
        go_wp2
        refine wp_region_quiet_below (by kernel_rfl) (by kernel_rfl) ?_
        repeat (quiet_step (exact Calls.regrown_of (eqFile_c _ [x0, x1, x2, x3, x4] [y0, y1, y2, y3, y4] xa xb (Ra.out _ _) (Rb.out _ _))))
        refine wpQuiet_nil ?_
        intro _ hw'
        obtain ⟨⟨dq, osq⟩, hw''⟩ := hw'
        subst hw''
        have hB2 := hB.trans ((below_regrown wr dq osq).mono hB.size)
        go_wp2
        · go_ret
          obtain rfl : r = false := Hr.out.symm.trans (Hno.out (by go_light; clear es; simp_all [Zw, Y7]))
          exact ⟨rfl, hB2⟩
        · go_roundw
          case rel => exact ⟨k + 1, by omega, by go_num, Hyes.out (by go_light; clear es; simp_all [Zw, Y7]), hB2⟩
          case measure => simp [intOf]; omega
      · obtain rfl : k = la.length := by omega
        have Hy := Lib.hid (eqS_end htk.out (by have := Hlen.out; omega))
        go_wp2
        go_ret
        obtain rfl : r = true := Hr.out.symm.trans Hy.out
        exact ⟨rfl, hB⟩
  · have hne : ((la.length : Int) != (lb.length : Int)) = true := by simp; omega
    generalize hr : eqb la lb = r
    have Hr := Lib.hid hr; clear hr
    have Hn := Lib.hid (eqS_len hlen); clear hlen
    go_enter Tryz.func46, Tryz.ntmps46
    go_wp2
    go_ret
    obtain rfl : r = false := Hr.out.symm.trans Hn.out
    exact ⟨rfl, Below.refl _ _⟩
set_option maxHeartbeats 1000000 in
theorem eqStore_c (w : World) (ca cb : List Value) (a b : Yn) (ha : rd w ca a) (hb : rd w cb b) : Calls Tryz.prog 14 #[.agg ca.toArray, .agg cb.toArray] w (Ret w (.bool (eqb a b))) := by
  obtain ⟨a1, a2, a3⟩ := a
  obtain ⟨ac1, at1, rfl, ar1, ac2, at2, rfl, ar2, ar3⟩ := ha
  obtain ⟨ax1_0, rfl⟩ := len1 (show _ = 1 from GoD.rd_len ar1)
  obtain ⟨ax2_0, rfl⟩ := len1 (show _ = 1 from GoD.rd_len ar2)
  obtain ⟨rfl, ar3⟩ := ar3
  obtain ⟨b1, b2, b3⟩ := b
  obtain ⟨bc1, bt1, rfl, br1, bc2, bt2, rfl, br2, br3⟩ := hb
  obtain ⟨bx1_0, rfl⟩ := len1 (show _ = 1 from GoD.rd_len br1)
  obtain ⟨bx2_0, rfl⟩ := len1 (show _ = 1 from GoD.rd_len br2)
  obtain ⟨rfl, br3⟩ := br3
  dsimp only [List.cons_append, List.nil_append] at *
  generalize hr : eqb (a1, a2, a3) (b1, b2, b3) = r
  have Hr := Lib.hid hr; clear hr
  have es := Vp
  have AR1H := Lib.hid ar1; clear ar1
  have BR1H := Lib.hid br1; clear br1
  have AR2H := Lib.hid ar2; clear ar2
  have BR2H := Lib.hid br2; clear br2
  clear ar3 br3
  have tok1 : True := trivial
  have tok2 : True := trivial
  go_enter Tryz.func14, Tryz.ntmps14
  go_wp2_with (first | (go_at_call 45; have tk := tok1; clear tok1; (refine Ks (w := w) (eqFieldS_c _ ax1_0 bx1_0 a1 b1 (Qh AR1H.out (by go_grown)) (Qh BR1H.out (by go_grown))) (by go_grown) ?_; intro w' hB hb hz hz2; (repeat (first | rewrite [World.size_alloc] at hz2 | rewrite [World.size_setCell] at hz2 | rewrite [World.size_drew] at hz2)); have c0 := fun o => Xy hb (w.heap.size) o (by go_size); have c1 := fun o => Xy hb (w.heap.size + 1) o (by go_size))) | (go_at_call 46; have tk := tok2; clear tok2; (refine Ks (w := w) (eqFileS_c _ ax2_0 bx2_0 a2 b2 (Qh AR2H.out (by go_grown)) (Qh BR2H.out (by go_grown))) (by go_grown) ?_; intro w' hB hb hz hz2; (repeat (first | rewrite [World.size_alloc] at hz2 | rewrite [World.size_setCell] at hz2 | rewrite [World.size_drew] at hz2)); have c0 := fun o => Xy hb (w.heap.size) o (by go_size); have c1 := fun o => Xy hb (w.heap.size + 1) o (by go_size))))
  all_goals
    go_ret
    refine ⟨?_, by go_grown⟩
    rw [← Hr.out]
    go_light
    clear es
    simp_all [eqb_prod, Zw, Y7]
set_option maxHeartbeats 1000000 in
theorem eqIntS_c (w : World) (sa sb : Value) (la lb : List Int) (ha : rd w [sa] la) (hb : rd w [sb] lb) : Calls Tryz.prog 13 #[sa, sb] w (Ret w (.bool (eqb la lb))) := by
  obtain ⟨oa, capa, e1, hl1, hm1, hel1⟩ := ha
  obtain ⟨ob, capb, e2, hl2, hm2, hel2⟩ := hb
  obtain rfl : sa = _ := by simpa using e1
  obtain rfl : sb = _ := by simpa using e2
  clear e1 e2
  have HE1 := Lib.hid hel1; clear hel1
  have HE2 := Lib.hid hel2; clear hel2
  unfold maxLen at hm1 hm2
  have hma : la.length ≤ 9223372036854775807 := by omega
  have hmb : lb.length ≤ 9223372036854775807 := by omega
  by_cases hlen : la.length = lb.length
  · have hne : ((la.length : Int) != (lb.length : Int)) = false := by simp [hlen]
    generalize hr : eqb la lb = r
    have Hr := Lib.hid hr; clear hr
    have Hlen := Lib.hid hlen; clear hlen
    have es := Vp
    go_enter Tryz.func13, Tryz.ntmps13
    go_wp2
    go_loopw [5] (fun i wr => ∃ k : Nat, k ≤ la.length ∧ i = .int .i64 k ∧ Hid (la.take k = lb.take k) ∧ Below w.heap.size w wr) (fun i _ => la.length - (intOf i).toNat)
    case atStart => exact ⟨0, Nat.zero_le _, rfl, rfl, Below.refl _ _⟩
    case round =>
      obtain ⟨k, hk, rfl, htk, hB⟩ := hrel
      by_cases hlt : k < la.length
      · have hltb : k < lb.length := by have := Hlen.out; omega
        obtain ⟨ba, fa, ea, rfl, hla, hca, hra⟩ := HE1.out k _ (List.getElem?_eq_getElem hlt)
        obtain ⟨bb, fb, eb, rfl, hlb, hcb, hrb⟩ := HE2.out k _ (List.getElem?_eq_getElem hltb)
        have Hno := Lib.hid (eqS_no (List.getElem?_eq_getElem hlt) (List.getElem?_eq_getElem hltb))
        have Hyes := Lib.hid (eqS_step htk.out (List.getElem?_eq_getElem hlt) (List.getElem?_eq_getElem hltb))
        generalize la[k] = xa at *
        generalize lb[k] = xb at *
        obtain ⟨x0, rfl⟩ := len1 (show _ = 1 from hla)
        obtain ⟨y0, rfl⟩ := len1 (show _ = 1 from hlb)
        have e3 : x0 = .int .i64 xa := by rcases hra with ⟨e, _⟩; simpa using e
        have e4 : y0 = .int .i64 xb := by rcases hrb with ⟨e, _⟩; simpa using e
        subst e3 e4
        have qba0 : w.cell? ⟨ba, fa + k, none⟩ = some _ := (by simpa [GoD.n] using hca 0 _ rfl)
        have pba0 := fun d os => cell_regrown ((hB.cell (World.block_lt_of_cell? w _ qba0)).trans qba0) d os
        clear qba0
        have qbb0 : w.cell? ⟨bb, fb + k, none⟩ = some _ := (by simpa [GoD.n] using hcb 0 _ rfl)
        have pbb0 := fun d os => cell_regrown ((hB.cell (World.block_lt_of_cell? w _ qbb0)).trans qbb0) d os
        clear qbb0
        clear hca hcb hra hrb hla hlb
        go_wp2
        refine wp_region_quiet_below (by kernel_rfl) (by kernel_rfl) ?_
        repeat (quiet_step (fail))
        refine wpQuiet_nil ?_
        intro _ hw'
        obtain ⟨⟨dq, osq⟩, hw''⟩ := hw'
        subst hw''
        have hB2 := hB.trans ((below_regrown wr dq osq).mono hB.size)
        go_wp2
        · go_ret
          obtain rfl : r = false := Hr.out.symm.trans (Hno.out (by go_light; clear es; simp_all [Zw, Y7]))
          exact ⟨rfl, hB2⟩
        · go_roundw
          case rel => exact ⟨k + 1, by omega, by go_num, Hyes.out (by go_light; clear es; simp_all [Zw, Y7]), hB2⟩
          case measure => simp [intOf]; omega
      · obtain rfl : k = la.length := by omega
        have Hy := Lib.hid (eqS_end htk.out (by have := Hlen.out; omega))
        go_wp2
        go_ret
        obtain rfl : r = true := Hr.out.symm.trans Hy.out
        exact ⟨rfl, hB⟩
  · have hne : ((la.length : Int) != (lb.length : Int)) = true := by simp; omega
    generalize hr : eqb la lb = r
    have Hr := Lib.hid hr; clear hr
    have Hn := Lib.hid (eqS_len hlen); clear hlen
    go_enter Tryz.func13, Tryz.ntmps13
    go_wp2
    go_ret
    obtain rfl : r = false := Hr.out.symm.trans Hn.out
    exact ⟨rfl, Below.refl _ _⟩
set_option maxHeartbeats 1000000 in
theorem eqEvent_c (w : World) (ca cb : List Value) (a b : Zs) (ha : rd w ca a) (hb : rd w cb b) : Calls Tryz.prog 105 #[.agg ca.toArray, .agg cb.toArray] w (Ret w (.bool (eqb a b))) := by
  obtain ⟨a1, a2, a3⟩ := a
  obtain ⟨ac1, at1, rfl, ar1, ac2, at2, rfl, ar2, ar3⟩ := ha
  obtain ⟨rfl, ar1⟩ := ar1
  obtain ⟨ax2_0, rfl⟩ := len1 (show _ = 1 from GoD.rd_len ar2)
  obtain ⟨ax3_0, rfl⟩ := len1 (show _ = 1 from GoD.rd_len ar3)
  obtain ⟨b1, b2, b3⟩ := b
  obtain ⟨bc1, bt1, rfl, br1, bc2, bt2, rfl, br2, br3⟩ := hb
  obtain ⟨rfl, br1⟩ := br1
  obtain ⟨bx2_0, rfl⟩ := len1 (show _ = 1 from GoD.rd_len br2)
  obtain ⟨bx3_0, rfl⟩ := len1 (show _ = 1 from GoD.rd_len br3)
  dsimp only [List.cons_append, List.nil_append] at *
  generalize hr : eqb (a1, a2, a3) (b1, b2, b3) = r
  have Hr := Lib.hid hr; clear hr
  have es := Vp
  clear ar1 br1
  have AR2H := Lib.hid ar2; clear ar2
  have BR2H := Lib.hid br2; clear br2
  have AR3H := Lib.hid ar3; clear ar3
  have BR3H := Lib.hid br3; clear br3
  have tok1 : True := trivial
  have tok2 : True := trivial
  go_enter Tryz.func105, Tryz.ntmps105
  go_wp2_with (first | (go_at_call 13; have tk := tok1; clear tok1; (refine Ks (w := w) (eqIntS_c _ ax2_0 bx2_0 a2 b2 (Qh AR2H.out (by go_grown)) (Qh BR2H.out (by go_grown))) (by go_grown) ?_; intro w' hB hb hz hz2; (repeat (first | rewrite [World.size_alloc] at hz2 | rewrite [World.size_setCell] at hz2 | rewrite [World.size_drew] at hz2)); have c0 := fun o => Xy hb (w.heap.size) o (by go_size); have c1 := fun o => Xy hb (w.heap.size + 1) o (by go_size))) | (go_at_call 13; have tk := tok2; clear tok2; (refine Ks (w := w) (eqIntS_c _ ax3_0 bx3_0 a3 b3 (Qh AR3H.out (by go_grown)) (Qh BR3H.out (by go_grown))) (by go_grown) ?_; intro w' hB hb hz hz2; (repeat (first | rewrite [World.size_alloc] at hz2 | rewrite [World.size_setCell] at hz2 | rewrite [World.size_drew] at hz2)); have c0 := fun o => Xy hb (w.heap.size) o (by go_size); have c1 := fun o => Xy hb (w.heap.size + 1) o (by go_size))))
  all_goals
    go_ret
    refine ⟨?_, by go_grown⟩
    rw [← Hr.out]
    go_light
    clear es
    simp_all [eqb_prod, Zw, Y7]
set_option maxHeartbeats 1000000 in
theorem eqEventS_c (w : World) (sa sb : Value) (la lb : List Zs) (ha : rd w [sa] la) (hb : rd w [sb] lb) : Calls Tryz.prog 54 #[sa, sb] w (Ret w (.bool (eqb la lb))) := by
  obtain ⟨oa, capa, e1, hl1, hm1, hel1⟩ := ha
  obtain ⟨ob, capb, e2, hl2, hm2, hel2⟩ := hb
  obtain rfl : sa = _ := by simpa using e1
  obtain rfl : sb = _ := by simpa using e2
  clear e1 e2
  have HE1 := Lib.hid hel1; clear hel1
  have HE2 := Lib.hid hel2; clear hel2
  unfold maxLen at hm1 hm2
  have hma : la.length ≤ 9223372036854775807 := by omega
  have hmb : lb.length ≤ 9223372036854775807 := by omega
  by_cases hlen : la.length = lb.length
  · have hne : ((la.length : Int) != (lb.length : Int)) = false := by simp [hlen]
    generalize hr : eqb la lb = r
    have Hr := Lib.hid hr; clear hr
    have Hlen := Lib.hid hlen; clear hlen
    have es := Vp
    go_enter Tryz.func54, Tryz.ntmps54
    go_wp2
    go_loopw [5] (fun i wr => ∃ k : Nat, k ≤ la.length ∧ i = .int .i64 k ∧ Hid (la.take k = lb.take k) ∧ Below w.heap.size w wr) (fun i _ => la.length - (intOf i).toNat)
    case atStart => exact ⟨0, Nat.zero_le _, rfl, rfl, Below.refl _ _⟩
    case round =>
      obtain ⟨k, hk, rfl, htk, hB⟩ := hrel
      by_cases hlt : k < la.length
      · have hltb : k < lb.length := by have := Hlen.out; omega
        obtain ⟨ba, fa, ea, rfl, hla, hca, hra⟩ := HE1.out k _ (List.getElem?_eq_getElem hlt)
        obtain ⟨bb, fb, eb, rfl, hlb, hcb, hrb⟩ := HE2.out k _ (List.getElem?_eq_getElem hltb)
        have Hno := Lib.hid (eqS_no (List.getElem?_eq_getElem hlt) (List.getElem?_eq_getElem hltb))
        have Hyes := Lib.hid (eqS_step htk.out (List.getElem?_eq_getElem hlt) (List.getElem?_eq_getElem hltb))
        generalize la[k] = xa at *
        generalize lb[k] = xb at *
        obtain ⟨x0, x1, x2, rfl⟩ := len3 (show _ = 3 from hla)
        obtain ⟨y0, y1, y2, rfl⟩ := len3 (show _ = 3 from hlb)
        have qba0 : w.cell? ⟨ba, fa + k * 3, none⟩ = some _ := hca 0 _ rfl
        have pba0 := fun d os => cell_regrown ((hB.cell (World.block_lt_of_cell? w _ qba0)).trans qba0) d os
        clear qba0
        have qba1 : w.cell? ⟨ba, fa + k * 3 + 1, none⟩ = some _ := hca 1 _ rfl
        have pba1 := fun d os => cell_regrown ((hB.cell (World.block_lt_of_cell? w _ qba1)).trans qba1) d os
        clear qba1
        have qba2 : w.cell? ⟨ba, fa + k * 3 + 2, none⟩ = some _ := hca 2 _ rfl
        have pba2 := fun d os => cell_regrown ((hB.cell (World.block_lt_of_cell? w _ qba2)).trans qba2) d os
        clear qba2
        have qbb0 : w.cell? ⟨bb, fb + k * 3, none⟩ = some _ := hcb 0 _ rfl
        have pbb0 := fun d os => cell_regrown ((hB.cell (World.block_lt_of_cell? w _ qbb0)).trans qbb0) d os
        clear qbb0
        have qbb1 : w.cell? ⟨bb, fb + k * 3 + 1, none⟩ = some _ := hcb 1 _ rfl
        have pbb1 := fun d os => cell_regrown ((hB.cell (World.block_lt_of_cell? w _ qbb1)).trans qbb1) d os
        clear qbb1
        have qbb2 : w.cell? ⟨bb, fb + k * 3 + 2, none⟩ = some _ := hcb 2 _ rfl
        have pbb2 := fun d os => cell_regrown ((hB.cell (World.block_lt_of_cell? w _ qbb2)).trans qbb2) d os
        clear qbb2
        have ra := fun d os => Qh (Qh hra hB) (below_regrown wr d os)
        have rb := fun d os => Qh (Qh hrb hB) (below_regrown wr d os)
        have Ra := Lib.hid ra
        have Rb := Lib.hid rb
        clear ra rb
        clear hca hcb hra hrb hla hlb
        go_wp2
        refine wp_region_quiet_below (by kernel_rfl) (by kernel_rfl) ?_
        repeat (quiet_step (exact Calls.regrown_of (eqEvent_c _ [x0, x1, x2] [y0, y1, y2] xa xb (Ra.out _ _) (Rb.out _ _))))
        refine wpQuiet_nil ?_
        intro _ hw'
        obtain ⟨⟨dq, osq⟩, hw''⟩ := hw'
        subst hw''
        have hB2 := hB.trans ((below_regrown wr dq osq).mono hB.size)
        go_wp2
        · go_ret
          obtain rfl : r = false := Hr.out.symm.trans (Hno.out (by go_light; clear es; simp_all [Zw, Y7]))
          exact ⟨rfl, hB2⟩
        · go_roundw
          case rel => exact ⟨k + 1, by omega, by go_num, Hyes.out (by go_light; clear es; simp_all [Zw, Y7]), hB2⟩
          case measure => simp [intOf]; omega
      · obtain rfl : k = la.length := by omega
        have Hy := Lib.hid (eqS_end htk.out (by have := Hlen.out; omega))
        go_wp2
        go_ret
        obtain rfl : r = true := Hr.out.symm.trans Hy.out
        exact ⟨rfl, hB⟩
  · have hne : ((la.length : Int) != (lb.length : Int)) = true := by simp; omega
    generalize hr : eqb la lb = r
    have Hr := Lib.hid hr; clear hr
    have Hn := Lib.hid (eqS_len hlen); clear hlen
    go_enter Tryz.func54, Tryz.ntmps54
    go_wp2
    go_ret
    obtain rfl : r = false := Hr.out.symm.trans Hn.out
    exact ⟨rfl, Below.refl _ _⟩
set_option maxHeartbeats 1000000 in
theorem eqWatch_c (w : World) (ca cb : List Value) (a b : WatchD) (ha : rd w ca a) (hb : rd w cb b) : Calls Tryz.prog 22 #[.agg ca.toArray, .agg cb.toArray] w (Ret w (.bool (eqb a b))) := by
  obtain ⟨a1, a2, a3, a4⟩ := a
  obtain ⟨ac1, at1, rfl, ar1, ac2, at2, rfl, ar2, ac3, at3, rfl, ar3, ar4⟩ := ha
  obtain ⟨rfl, ar1⟩ := ar1
  obtain ⟨rfl, ar2⟩ := ar2
  obtain ⟨ax3_0, rfl⟩ := len1 (show _ = 1 from GoD.rd_len ar3)
  obtain ⟨ax4_0, rfl⟩ := len1 (show _ = 1 from GoD.rd_len ar4)
  obtain ⟨b1, b2, b3, b4⟩ := b
  obtain ⟨bc1, bt1, rfl, br1, bc2, bt2, rfl, br2, bc3, bt3, rfl, br3, br4⟩ := hb
  obtain ⟨rfl, br1⟩ := br1
  obtain ⟨rfl, br2⟩ := br2
  obtain ⟨bx3_0, rfl⟩ := len1 (show _ = 1 from GoD.rd_len br3)
  obtain ⟨bx4_0, rfl⟩ := len1 (show _ = 1 from GoD.rd_len br4)
  dsimp only [List.cons_append, List.nil_append] at *
  generalize hr : eqb (a1, a2, a3, a4) (b1, b2, b3, b4) = r
  have Hr := Lib.hid hr; clear hr
  have es := Vp
  clear ar1 br1
  clear ar2 br2
  have AR3H := Lib.hid ar3; clear ar3
  have BR3H := Lib.hid br3; clear br3
  have AR4H := Lib.hid ar4; clear ar4
  have BR4H := Lib.hid br4; clear br4
  have tok1 : True := trivial
  have tok2 : True := trivial
  go_enter Tryz.func22, Tryz.ntmps22
  go_wp2_with (first | (go_at_call 13; have tk := tok1; clear tok1; (refine Ks (w := w) (eqIntS_c _ ax3_0 bx3_0 a3 b3 (Qh AR3H.out (by go_grown)) (Qh BR3H.out (by go_grown))) (by go_grown) ?_; intro w' hB hb hz hz2; (repeat (first | rewrite [World.size_alloc] at hz2 | rewrite [World.size_setCell] at hz2 | rewrite [World.size_drew] at hz2)); have c0 := fun o => Xy hb (w.heap.size) o (by go_size); have c1 := fun o => Xy hb (w.heap.size + 1) o (by go_size))) | (go_at_call 54; have tk := tok2; clear tok2; (refine Ks (w := w) (eqEventS_c _ ax4_0 bx4_0 a4 b4 (Qh AR4H.out (by go_grown)) (Qh BR4H.out (by go_grown))) (by go_grown) ?_; intro w' hB hb hz hz2; (repeat (first | rewrite [World.size_alloc] at hz2 | rewrite [World.size_setCell] at hz2 | rewrite [World.size_drew] at hz2)); have c0 := fun o => Xy hb (w.heap.size) o (by go_size); have c1 := fun o => Xy hb (w.heap.size + 1) o (by go_size))))
  all_goals
    go_ret
    refine ⟨?_, by go_grown⟩
    rw [← Hr.out]
    go_light
    clear es
    simp_all [eqb_prod, Zw, Y7]
set_option maxHeartbeats 1000000 in
theorem eqNode_c (w : World) (ca cb : List Value) (a b : Yg) (ha : rd w ca a) (hb : rd w cb b) : Calls Tryz.prog 152 #[.agg ca.toArray, .agg cb.toArray] w (Ret w (.bool (eqb a b))) := by
  obtain ⟨a1, a2, a3, a4, a5⟩ := a
  obtain ⟨ac1, at1, rfl, ar1, ac2, at2, rfl, ar2, ac3, at3, rfl, ar3, ac4, at4, rfl, ar4, ar5⟩ := ha
  obtain ⟨rfl, ar1⟩ := ar1
  obtain ⟨rfl, ar2⟩ := ar2
  obtain ⟨rfl, ar3⟩ := ar3
  obtain ⟨rfl, ar4⟩ := ar4
  obtain ⟨ax5_0, ax5_1, ax5_2, rfl⟩ := len3 (show _ = 3 from GoD.rd_len ar5)
  obtain ⟨b1, b2, b3, b4, b5⟩ := b
  obtain ⟨bc1, bt1, rfl, br1, bc2, bt2, rfl, br2, bc3, bt3, rfl, br3, bc4, bt4, rfl, br4, br5⟩ := hb
  obtain ⟨rfl, br1⟩ := br1
  obtain ⟨rfl, br2⟩ := br2
  obtain ⟨rfl, br3⟩ := br3
  obtain ⟨rfl, br4⟩ := br4
  obtain ⟨bx5_0, bx5_1, bx5_2, rfl⟩ := len3 (show _ = 3 from GoD.rd_len br5)
  dsimp only [List.cons_append, List.nil_append] at *
  generalize hr : eqb (a1, a2, a3, a4, a5) (b1, b2, b3, b4, b5) = r
  have Hr := Lib.hid hr; clear hr
  have es := Vp
  clear ar1 br1
  clear ar2 br2
  clear ar3 br3
  clear ar4 br4
  have AR5H := Lib.hid ar5; clear ar5
  have BR5H := Lib.hid br5; clear br5
  have tok1 : True := trivial
  go_enter Tryz.func152, Tryz.ntmps152
  go_wp2_with (first | (go_at_call 189; have tk := tok1; clear tok1; (refine Ks (w := w) (eqValue_c _ [ax5_0, ax5_1, ax5_2] [bx5_0, bx5_1, bx5_2] a5 b5 (Qh AR5H.out (by go_grown)) (Qh BR5H.out (by go_grown))) (by go_grown) ?_; intro w' hB hb hz hz2; (repeat (first | rewrite [World.size_alloc] at hz2 | rewrite [World.size_setCell] at hz2 | rewrite [World.size_drew] at hz2)); have c0 := fun o => Xy hb (w.heap.size) o (by go_size); have c1 := fun o => Xy hb (w.heap.size + 1) o (by go_size))))
  all_goals
    go_ret
    refine ⟨?_, by go_grown⟩
    rw [← Hr.out]
    go_light
    clear es
    simp_all [eqb_prod, Zw, Y7]
set_option maxHeartbeats 1000000 in
theorem eqNodeS_c (w : World) (sa sb : Value) (la lb : List Yg) (ha : rd w [sa] la) (hb : rd w [sb] lb) : Calls Tryz.prog 101 #[sa, sb] w (Ret w (.bool (eqb la lb))) := by
  obtain ⟨oa, capa, e1, hl1, hm1, hel1⟩ := ha
  obtain ⟨ob, capb, e2, hl2, hm2, hel2⟩ := hb
  obtain rfl : sa = _ := by simpa using e1
  obtain rfl : sb = _ := by simpa using e2
  clear e1 e2
  have HE1 := Lib.hid hel1; clear hel1
  have HE2 := Lib.hid hel2; clear hel2
  unfold maxLen at hm1 hm2
  have hma : la.length ≤ 9223372036854775807 := by omega
  have hmb : lb.length ≤ 9223372036854775807 := by omega
  by_cases hlen : la.length = lb.length
  · have hne : ((la.length : Int) != (lb.length : Int)) = false := by simp [hlen]
    generalize hr : eqb la lb = r
    have Hr := Lib.hid hr; clear hr
    have Hlen := Lib.hid hlen; clear hlen
    have es := Vp
    go_enter Tryz.func101, Tryz.ntmps101
    go_wp2
    go_loopw [5] (fun i wr => ∃ k : Nat, k ≤ la.length ∧ i = .int .i64 k ∧ Hid (la.take k = lb.take k) ∧ Below w.heap.size w wr) (fun i _ => la.length - (intOf i).toNat)
    case atStart => exact ⟨0, Nat.zero_le _, rfl, rfl, Below.refl _ _⟩
    case round =>
      obtain ⟨k, hk, rfl, htk, hB⟩ := hrel
      by_cases hlt : k < la.length
      · have hltb : k < lb.length := by have := Hlen.out; omega
        obtain ⟨ba, fa, ea, rfl, hla, hca, hra⟩ := HE1.out k _ (List.getElem?_eq_getElem hlt)
        obtain ⟨bb, fb, eb, rfl, hlb, hcb, hrb⟩ := HE2.out k _ (List.getElem?_eq_getElem hltb)
        have Hno := Lib.hid (eqS_no (List.getElem?_eq_getElem hlt) (List.getElem?_eq_getElem hltb))
        have Hyes := Lib.hid (eqS_step htk.out (List.getElem?_eq_getElem hlt) (List.getElem?_eq_getElem hltb))
        generalize la[k] = xa at *
        generalize lb[k] = xb at *
        obtain ⟨x0, x1, x2, x3, x4, x5, x6, rfl⟩ := len7 (show _ = 7 from hla)
        obtain ⟨y0, y1, y2, y3, y4, y5, y6, rfl⟩ := len7 (show _ = 7 from hlb)
        have qba0 : w.cell? ⟨ba, fa + k * 7, none⟩ = some _ := hca 0 _ rfl
        have pba0 := fun d os => cell_regrown ((hB.cell (World.block_lt_of_cell? w _ qba0)).trans qba0) d os
        clear qba0
        have qba1 : w.cell? ⟨ba, fa + k * 7 + 1, none⟩ = some _ := hca 1 _ rfl
        have pba1 := fun d os => cell_regrown ((hB.cell (World.block_lt_of_cell? w _ qba1)).trans qba1) d os
        clear qba1
        have qba2 : w.cell? ⟨ba, fa + k * 7 + 2, none⟩ = some _ := hca 2 _ rfl
        have pba2 := fun d os => cell_regrown ((hB.cell (World.block_lt_of_cell? w _ qba2)).trans qba2) d os
        clear qba2
        have qba3 : w.cell? ⟨ba, fa + k * 7 + 3, none⟩ = some _ := hca 3 _ rfl
        have pba3 := fun d os => cell_regrown ((hB.cell (World.block_lt_of_cell? w _ qba3)).trans qba3) d os
        clear qba3
        have qba4 : w.cell? ⟨ba, fa + k * 7 + 4, none⟩ = some _ := hca 4 _ rfl
        have pba4 := fun d os => cell_regrown ((hB.cell (World.block_lt_of_cell? w _ qba4)).trans qba4) d os
        clear qba4
        have qba5 : w.cell? ⟨ba, fa + k * 7 + 5, none⟩ = some _ := hca 5 _ rfl
        have pba5 := fun d os => cell_regrown ((hB.cell (World.block_lt_of_cell? w _ qba5)).trans qba5) d os
        clear qba5
        have qba6 : w.cell? ⟨ba, fa + k * 7 + 6, none⟩ = some _ := hca 6 _ rfl
        have pba6 := fun d os => cell_regrown ((hB.cell (World.block_lt_of_cell? w _ qba6)).trans qba6) d os
        clear qba6
        have qbb0 : w.cell? ⟨bb, fb + k * 7, none⟩ = some _ := hcb 0 _ rfl
        have pbb0 := fun d os => cell_regrown ((hB.cell (World.block_lt_of_cell? w _ qbb0)).trans qbb0) d os
        clear qbb0
        have qbb1 : w.cell? ⟨bb, fb + k * 7 + 1, none⟩ = some _ := hcb 1 _ rfl
        have pbb1 := fun d os => cell_regrown ((hB.cell (World.block_lt_of_cell? w _ qbb1)).trans qbb1) d os
        clear qbb1
        have qbb2 : w.cell? ⟨bb, fb + k * 7 + 2, none⟩ = some _ := hcb 2 _ rfl
        have pbb2 := fun d os => cell_regrown ((hB.cell (World.block_lt_of_cell? w _ qbb2)).trans qbb2) d os
        clear qbb2
        have qbb3 : w.cell? ⟨bb, fb + k * 7 + 3, none⟩ = some _ := hcb 3 _ rfl
        have pbb3 := fun d os => cell_regrown ((hB.cell (World.block_lt_of_cell? w _ qbb3)).trans qbb3) d os
        clear qbb3
        have qbb4 : w.cell? ⟨bb, fb + k * 7 + 4, none⟩ = some _ := hcb 4 _ rfl
        have pbb4 := fun d os => cell_regrown ((hB.cell (World.block_lt_of_cell? w _ qbb4)).trans qbb4) d os
        clear qbb4
        have qbb5 : w.cell? ⟨bb, fb + k * 7 + 5, none⟩ = some _ := hcb 5 _ rfl
        have pbb5 := fun d os => cell_regrown ((hB.cell (World.block_lt_of_cell? w _ qbb5)).trans qbb5) d os
        clear qbb5
        have qbb6 : w.cell? ⟨bb, fb + k * 7 + 6, none⟩ = some _ := hcb 6 _ rfl
        have pbb6 := fun d os => cell_regrown ((hB.cell (World.block_lt_of_cell? w _ qbb6)).trans qbb6) d os
        clear qbb6
        have ra := fun d os => Qh (Qh hra hB) (below_regrown wr d os)
        have rb := fun d os => Qh (Qh hrb hB) (below_regrown wr d os)
        have Ra := Lib.hid ra
        have Rb := Lib.hid rb
        clear ra rb
        clear hca hcb hra hrb hla hlb
        go_wp2
        refine wp_region_quiet_below (by kernel_rfl) (by kernel_rfl) ?_
        repeat (quiet_step (exact Calls.regrown_of (eqNode_c _ [x0, x1, x2, x3, x4, x5, x6] [y0, y1, y2, y3, y4, y5, y6] xa xb (Ra.out _ _) (Rb.out _ _))))
        refine wpQuiet_nil ?_
        intro _ hw'
        obtain ⟨⟨dq, osq⟩, hw''⟩ := hw'
        subst hw''
        have hB2 := hB.trans ((below_regrown wr dq osq).mono hB.size)
        go_wp2
        · go_ret
          obtain rfl : r = false := Hr.out.symm.trans (Hno.out (by go_light; clear es; simp_all [Zw, Y7]))
          exact ⟨rfl, hB2⟩
        · go_roundw
          case rel => exact ⟨k + 1, by omega, by go_num, Hyes.out (by go_light; clear es; simp_all [Zw, Y7]), hB2⟩
          case measure => simp [intOf]; omega
      · obtain rfl : k = la.length := by omega
        have Hy := Lib.hid (eqS_end htk.out (by have := Hlen.out; omega))
        go_wp2
        go_ret
        obtain rfl : r = true := Hr.out.symm.trans Hy.out
        exact ⟨rfl, hB⟩
  · have hne : ((la.length : Int) != (lb.length : Int)) = true := by simp; omega
    generalize hr : eqb la lb = r
    have Hr := Lib.hid hr; clear hr
    have Hn := Lib.hid (eqS_len hlen); clear hlen
    go_enter Tryz.func101, Tryz.ntmps101
    go_wp2
    go_ret
    obtain rfl : r = false := Hr.out.symm.trans Hn.out
    exact ⟨rfl, Below.refl _ _⟩
set_option maxHeartbeats 1000000 in
theorem eqDir_c (w : World) (ca cb : List Value) (a b : Zh) (ha : rd w ca a) (hb : rd w cb b) : Calls Tryz.prog 47 #[.agg ca.toArray, .agg cb.toArray] w (Ret w (.bool (eqb a b))) := by
  obtain ⟨a1, a2⟩ := a
  obtain ⟨ac1, at1, rfl, ar1, ar2⟩ := ha
  obtain ⟨rfl, ar1⟩ := ar1
  obtain ⟨ax2_0, rfl⟩ := len1 (show _ = 1 from GoD.rd_len ar2)
  obtain ⟨b1, b2⟩ := b
  obtain ⟨bc1, bt1, rfl, br1, br2⟩ := hb
  obtain ⟨rfl, br1⟩ := br1
  obtain ⟨bx2_0, rfl⟩ := len1 (show _ = 1 from GoD.rd_len br2)
  dsimp only [List.cons_append, List.nil_append] at *
  generalize hr : eqb (a1, a2) (b1, b2) = r
  have Hr := Lib.hid hr; clear hr
  have es := Vp
  clear ar1 br1
  have AR2H := Lib.hid ar2; clear ar2
  have BR2H := Lib.hid br2; clear br2
  have tok1 : True := trivial
  go_enter Tryz.func47, Tryz.ntmps47
  go_wp2_with (first | (go_at_call 101; have tk := tok1; clear tok1; (refine Ks (w := w) (eqNodeS_c _ ax2_0 bx2_0 a2 b2 (Qh AR2H.out (by go_grown)) (Qh BR2H.out (by go_grown))) (by go_grown) ?_; intro w' hB hb hz hz2; (repeat (first | rewrite [World.size_alloc] at hz2 | rewrite [World.size_setCell] at hz2 | rewrite [World.size_drew] at hz2)); have c0 := fun o => Xy hb (w.heap.size) o (by go_size); have c1 := fun o => Xy hb (w.heap.size + 1) o (by go_size))))
  all_goals
    go_ret
    refine ⟨?_, by go_grown⟩
    rw [← Hr.out]
    go_light
    clear es
    simp_all [eqb_prod, Zw, Y7]
set_option maxHeartbeats 1000000 in
theorem eqDirS_c (w : World) (sa sb : Value) (la lb : List Zh) (ha : rd w [sa] la) (hb : rd w [sb] lb) : Calls Tryz.prog 15 #[sa, sb] w (Ret w (.bool (eqb la lb))) := by
  obtain ⟨oa, capa, e1, hl1, hm1, hel1⟩ := ha
  obtain ⟨ob, capb, e2, hl2, hm2, hel2⟩ := hb
  obtain rfl : sa = _ := by simpa using e1
  obtain rfl : sb = _ := by simpa using e2
  clear e1 e2
  have HE1 := Lib.hid hel1; clear hel1
  have HE2 := Lib.hid hel2; clear hel2
  unfold maxLen at hm1 hm2
  have hma : la.length ≤ 9223372036854775807 := by omega
  have hmb : lb.length ≤ 9223372036854775807 := by omega
  by_cases hlen : la.length = lb.length
  · have hne : ((la.length : Int) != (lb.length : Int)) = false := by simp [hlen]
    generalize hr : eqb la lb = r
    have Hr := Lib.hid hr; clear hr
    have Hlen := Lib.hid hlen; clear hlen
    have es := Vp
    go_enter Tryz.func15, Tryz.ntmps15
    go_wp2
    go_loopw [5] (fun i wr => ∃ k : Nat, k ≤ la.length ∧ i = .int .i64 k ∧ Hid (la.take k = lb.take k) ∧ Below w.heap.size w wr) (fun i _ => la.length - (intOf i).toNat)
    case atStart => exact ⟨0, Nat.zero_le _, rfl, rfl, Below.refl _ _⟩
    case round =>
      obtain ⟨k, hk, rfl, htk, hB⟩ := hrel
      by_cases hlt : k < la.length
      · have hltb : k < lb.length := by have := Hlen.out; omega
        obtain ⟨ba, fa, ea, rfl, hla, hca, hra⟩ := HE1.out k _ (List.getElem?_eq_getElem hlt)
        obtain ⟨bb, fb, eb, rfl, hlb, hcb, hrb⟩ := HE2.out k _ (List.getElem?_eq_getElem hltb)
        have Hno := Lib.hid (eqS_no (List.getElem?_eq_getElem hlt) (List.getElem?_eq_getElem hltb))
        have Hyes := Lib.hid (eqS_step htk.out (List.getElem?_eq_getElem hlt) (List.getElem?_eq_getElem hltb))
        generalize la[k] = xa at *
        generalize lb[k] = xb at *
        obtain ⟨x0, x1, rfl⟩ := len2 (show _ = 2 from hla)
        obtain ⟨y0, y1, rfl⟩ := len2 (show _ = 2 from hlb)
        have qba0 : w.cell? ⟨ba, fa + k * 2, none⟩ = some _ := hca 0 _ rfl
        have pba0 := fun d os => cell_regrown ((hB.cell (World.block_lt_of_cell? w _ qba0)).trans qba0) d os
        clear qba0
        have qba1 : w.cell? ⟨ba, fa + k * 2 + 1, none⟩ = some _ := hca 1 _ rfl
        have pba1 := fun d os => cell_regrown ((hB.cell (World.block_lt_of_cell? w _ qba1)).trans qba1) d os
        clear qba1
        have qbb0 : w.cell? ⟨bb, fb + k * 2, none⟩ = some _ := hcb 0 _ rfl
        have pbb0 := fun d os => cell_regrown ((hB.cell (World.block_lt_of_cell? w _ qbb0)).trans qbb0) d os
        clear qbb0
        have qbb1 : w.cell? ⟨bb, fb + k * 2 + 1, none⟩ = some _ := hcb 1 _ rfl
        have pbb1 := fun d os => cell_regrown ((hB.cell (World.block_lt_of_cell? w _ qbb1)).trans qbb1) d os
        clear qbb1
        have ra := fun d os => Qh (Qh hra hB) (below_regrown wr d os)
        have rb := fun d os => Qh (Qh hrb hB) (below_regrown wr d os)
        have Ra := Lib.hid ra
        have Rb := Lib.hid rb
        clear ra rb
        clear hca hcb hra hrb hla hlb
        go_wp2
        refine wp_region_quiet_below (by kernel_rfl) (by kernel_rfl) ?_
        repeat (quiet_step (exact Calls.regrown_of (eqDir_c _ [x0, x1] [y0, y1] xa xb (Ra.out _ _) (Rb.out _ _))))
        refine wpQuiet_nil ?_
        intro _ hw'
        obtain ⟨⟨dq, osq⟩, hw''⟩ := hw'
        subst hw''
        have hB2 := hB.trans ((below_regrown wr dq osq).mono hB.size)
        go_wp2
        · go_ret
          obtain rfl : r = false := Hr.out.symm.trans (Hno.out (by go_light; clear es; simp_all [Zw, Y7]))
          exact ⟨rfl, hB2⟩
        · go_roundw
          case rel => exact ⟨k + 1, by omega, by go_num, Hyes.out (by go_light; clear es; simp_all [Zw, Y7]), hB2⟩
          case measure => simp [intOf]; omega
      · obtain rfl : k = la.length := by omega
        have Hy := Lib.hid (eqS_end htk.out (by have := Hlen.out; omega))
        go_wp2
        go_ret
        obtain rfl : r = true := Hr.out.symm.trans Hy.out
        exact ⟨rfl, hB⟩
  · have hne : ((la.length : Int) != (lb.length : Int)) = true := by simp; omega
    generalize hr : eqb la lb = r
    have Hr := Lib.hid hr; clear hr
    have Hn := Lib.hid (eqS_len hlen); clear hlen
    go_enter Tryz.func15, Tryz.ntmps15
    go_wp2
    go_ret
    obtain rfl : r = false := Hr.out.symm.trans Hn.out
    exact ⟨rfl, Below.refl _ _⟩
set_option maxHeartbeats 1000000 in
theorem eqResult_c (w : World) (ca cb : List Value) (a b : Qi) (ha : rd w ca a) (hb : rd w cb b) : Calls Tryz.prog 162 #[.agg ca.toArray, .agg cb.toArray] w (Ret w (.bool (eqb a b))) := by
  obtain ⟨a1, a2⟩ := a
  obtain ⟨ac1, at1, rfl, ar1, ar2⟩ := ha
  obtain ⟨rfl, ar1⟩ := ar1
  obtain ⟨ax2_0, rfl⟩ := len1 (show _ = 1 from GoD.rd_len ar2)
  obtain ⟨b1, b2⟩ := b
  obtain ⟨bc1, bt1, rfl, br1, br2⟩ := hb
  obtain ⟨rfl, br1⟩ := br1
  obtain ⟨bx2_0, rfl⟩ := len1 (show _ = 1 from GoD.rd_len br2)
  dsimp only [List.cons_append, List.nil_append] at *
  generalize hr : eqb (a1, a2) (b1, b2) = r
  have Hr := Lib.hid hr; clear hr
  have es := Vp
  clear ar1 br1
  have AR2H := Lib.hid ar2; clear ar2
  have BR2H := Lib.hid br2; clear br2
  have tok1 : True := trivial
  go_enter Tryz.func162, Tryz.ntmps162
  go_wp2_with (first | (go_at_call 13; have tk := tok1; clear tok1; (refine Ks (w := w) (eqIntS_c _ ax2_0 bx2_0 a2 b2 (Qh AR2H.out (by go_grown)) (Qh BR2H.out (by go_grown))) (by go_grown) ?_; intro w' hB hb hz hz2; (repeat (first | rewrite [World.size_alloc] at hz2 | rewrite [World.size_setCell] at hz2 | rewrite [World.size_drew] at hz2)); have c0 := fun o => Xy hb (w.heap.size) o (by go_size); have c1 := fun o => Xy hb (w.heap.size + 1) o (by go_size))))
  all_goals
    go_ret
    refine ⟨?_, by go_grown⟩
    rw [← Hr.out]
    go_light
    clear es
    simp_all [eqb_prod, Zw, Y7]
set_option maxHeartbeats 1000000 in
theorem eqResultS_c (w : World) (sa sb : Value) (la lb : List Qi) (ha : rd w [sa] la) (hb : rd w [sb] lb) : Calls Tryz.prog 120 #[sa, sb] w (Ret w (.bool (eqb la lb))) := by
  obtain ⟨oa, capa, e1, hl1, hm1, hel1⟩ := ha
  obtain ⟨ob, capb, e2, hl2, hm2, hel2⟩ := hb
  obtain rfl : sa = _ := by simpa using e1
  obtain rfl : sb = _ := by simpa using e2
  clear e1 e2
  have HE1 := Lib.hid hel1; clear hel1
  have HE2 := Lib.hid hel2; clear hel2
  unfold maxLen at hm1 hm2
  have hma : la.length ≤ 9223372036854775807 := by omega
  have hmb : lb.length ≤ 9223372036854775807 := by omega
  by_cases hlen : la.length = lb.length
  · have hne : ((la.length : Int) != (lb.length : Int)) = false := by simp [hlen]
    generalize hr : eqb la lb = r
    have Hr := Lib.hid hr; clear hr
    have Hlen := Lib.hid hlen; clear hlen
    have es := Vp
    go_enter Tryz.func120, Tryz.ntmps120
    go_wp2
    go_loopw [5] (fun i wr => ∃ k : Nat, k ≤ la.length ∧ i = .int .i64 k ∧ Hid (la.take k = lb.take k) ∧ Below w.heap.size w wr) (fun i _ => la.length - (intOf i).toNat)
    case atStart => exact ⟨0, Nat.zero_le _, rfl, rfl, Below.refl _ _⟩
    case round =>
      obtain ⟨k, hk, rfl, htk, hB⟩ := hrel
      by_cases hlt : k < la.length
      · have hltb : k < lb.length := by have := Hlen.out; omega
        obtain ⟨ba, fa, ea, rfl, hla, hca, hra⟩ := HE1.out k _ (List.getElem?_eq_getElem hlt)
        obtain ⟨bb, fb, eb, rfl, hlb, hcb, hrb⟩ := HE2.out k _ (List.getElem?_eq_getElem hltb)
        have Hno := Lib.hid (eqS_no (List.getElem?_eq_getElem hlt) (List.getElem?_eq_getElem hltb))
        have Hyes := Lib.hid (eqS_step htk.out (List.getElem?_eq_getElem hlt) (List.getElem?_eq_getElem hltb))
        generalize la[k] = xa at *
        generalize lb[k] = xb at *
        obtain ⟨x0, x1, rfl⟩ := len2 (show _ = 2 from hla)
        obtain ⟨y0, y1, rfl⟩ := len2 (show _ = 2 from hlb)
        have qba0 : w.cell? ⟨ba, fa + k * 2, none⟩ = some _ := hca 0 _ rfl
        have pba0 := fun d os => cell_regrown ((hB.cell (World.block_lt_of_cell? w _ qba0)).trans qba0) d os
        clear qba0
        have qba1 : w.cell? ⟨ba, fa + k * 2 + 1, none⟩ = some _ := hca 1 _ rfl
        have pba1 := fun d os => cell_regrown ((hB.cell (World.block_lt_of_cell? w _ qba1)).trans qba1) d os
        clear qba1
        have qbb0 : w.cell? ⟨bb, fb + k * 2, none⟩ = some _ := hcb 0 _ rfl
        have pbb0 := fun d os => cell_regrown ((hB.cell (World.block_lt_of_cell? w _ qbb0)).trans qbb0) d os
        clear qbb0
        have qbb1 : w.cell? ⟨bb, fb + k * 2 + 1, none⟩ = some _ := hcb 1 _ rfl
        have pbb1 := fun d os => cell_regrown ((hB.cell (World.block_lt_of_cell? w _ qbb1)).trans qbb1) d os
        clear qbb1
        have ra := fun d os => Qh (Qh hra hB) (below_regrown wr d os)
        have rb := fun d os => Qh (Qh hrb hB) (below_regrown wr d os)
        have Ra := Lib.hid ra
        have Rb := Lib.hid rb
        clear ra rb
        clear hca hcb hra hrb hla hlb
        go_wp2
        refine wp_region_quiet_below (by kernel_rfl) (by kernel_rfl) ?_
        repeat (quiet_step (exact Calls.regrown_of (eqResult_c _ [x0, x1] [y0, y1] xa xb (Ra.out _ _) (Rb.out _ _))))
        refine wpQuiet_nil ?_
        intro _ hw'
        obtain ⟨⟨dq, osq⟩, hw''⟩ := hw'
        subst hw''
        have hB2 := hB.trans ((below_regrown wr dq osq).mono hB.size)
        go_wp2
        · go_ret
          obtain rfl : r = false := Hr.out.symm.trans (Hno.out (by go_light; clear es; simp_all [Zw, Y7]))
          exact ⟨rfl, hB2⟩
        · go_roundw
          case rel => exact ⟨k + 1, by omega, by go_num, Hyes.out (by go_light; clear es; simp_all [Zw, Y7]), hB2⟩
          case measure => simp [intOf]; omega
      · obtain rfl : k = la.length := by omega
        have Hy := Lib.hid (eqS_end htk.out (by have := Hlen.out; omega))
        go_wp2
        go_ret
        obtain rfl : r = true := Hr.out.symm.trans Hy.out
        exact ⟨rfl, hB⟩
  · have hne : ((la.length : Int) != (lb.length : Int)) = true := by simp; omega
    generalize hr : eqb la lb = r
    have Hr := Lib.hid hr; clear hr
    have Hn := Lib.hid (eqS_len hlen); clear hlen
    go_enter Tryz.func120, Tryz.ntmps120
    go_wp2
    go_ret
    obtain rfl : r = false := Hr.out.symm.trans Hn.out
    exact ⟨rfl, Below.refl _ _⟩
set_option maxHeartbeats 1000000 in
theorem eqCatalog_c (w : World) (ca cb : List Value) (a b : CatalogD) (ha : rd w ca a) (hb : rd w cb b) : Calls Tryz.prog 79 #[.agg ca.toArray, .agg cb.toArray] w (Ret w (.bool (eqb a b))) := by
  obtain ⟨a1, a2, a3⟩ := a
  obtain ⟨ac1, at1, rfl, ar1, ac2, at2, rfl, ar2, ar3⟩ := ha
  obtain ⟨ax1_0, ax1_1, ax1_2, rfl⟩ := len3 (show _ = 3 from GoD.rd_len ar1)
  obtain ⟨ax2_0, rfl⟩ := len1 (show _ = 1 from GoD.rd_len ar2)
  obtain ⟨ax3_0, rfl⟩ := len1 (show _ = 1 from GoD.rd_len ar3)
  obtain ⟨b1, b2, b3⟩ := b
  obtain ⟨bc1, bt1, rfl, br1, bc2, bt2, rfl, br2, br3⟩ := hb
  obtain ⟨bx1_0, bx1_1, bx1_2, rfl⟩ := len3 (show _ = 3 from GoD.rd_len br1)
  obtain ⟨bx2_0, rfl⟩ := len1 (show _ = 1 from GoD.rd_len br2)
  obtain ⟨bx3_0, rfl⟩ := len1 (show _ = 1 from GoD.rd_len br3)
  dsimp only [List.cons_append, List.nil_append] at *
  generalize hr : eqb (a1, a2, a3) (b1, b2, b3) = r
  have Hr := Lib.hid hr; clear hr
  have es := Vp
  have AR1H := Lib.hid ar1; clear ar1
  have BR1H := Lib.hid br1; clear br1
  have AR2H := Lib.hid ar2; clear ar2
  have BR2H := Lib.hid br2; clear br2
  have AR3H := Lib.hid ar3; clear ar3
  have BR3H := Lib.hid br3; clear br3
  have tok1 : True := trivial
  have tok2 : True := trivial
  have tok3 : True := trivial
  go_enter Tryz.func79, Tryz.ntmps79
  go_wp2_with (first | (go_at_call 14; have tk := tok1; clear tok1; (refine Ks (w := w) (eqStore_c _ [ax1_0, ax1_1, ax1_2] [bx1_0, bx1_1, bx1_2] a1 b1 (Qh AR1H.out (by go_grown)) (Qh BR1H.out (by go_grown))) (by go_grown) ?_; intro w' hB hb hz hz2; (repeat (first | rewrite [World.size_alloc] at hz2 | rewrite [World.size_setCell] at hz2 | rewrite [World.size_drew] at hz2)); have c0 := fun o => Xy hb (w.heap.size) o (by go_size); have c1 := fun o => Xy hb (w.heap.size + 1) o (by go_size))) | (go_at_call 15; have tk := tok2; clear tok2; (refine Ks (w := w) (eqDirS_c _ ax2_0 bx2_0 a2 b2 (Qh AR2H.out (by go_grown)) (Qh BR2H.out (by go_grown))) (by go_grown) ?_; intro w' hB hb hz hz2; (repeat (first | rewrite [World.size_alloc] at hz2 | rewrite [World.size_setCell] at hz2 | rewrite [World.size_drew] at hz2)); have c0 := fun o => Xy hb (w.heap.size) o (by go_size); have c1 := fun o => Xy hb (w.heap.size + 1) o (by go_size))) | (go_at_call 120; have tk := tok3; clear tok3; (refine Ks (w := w) (eqResultS_c _ ax3_0 bx3_0 a3 b3 (Qh AR3H.out (by go_grown)) (Qh BR3H.out (by go_grown))) (by go_grown) ?_; intro w' hB hb hz hz2; (repeat (first | rewrite [World.size_alloc] at hz2 | rewrite [World.size_setCell] at hz2 | rewrite [World.size_drew] at hz2)); have c0 := fun o => Xy hb (w.heap.size) o (by go_size); have c1 := fun o => Xy hb (w.heap.size + 1) o (by go_size))))
  all_goals
    go_ret
    refine ⟨?_, by go_grown⟩
    rw [← Hr.out]
    go_light
    clear es
    simp_all [eqb_prod, Zw, Y7]
set_option maxHeartbeats 1000000 in
theorem eqDisk_c (w : World) (ca cb : List Value) (a b : DiskD) (ha : rd w ca a) (hb : rd w cb b) : Calls Tryz.prog 80 #[.agg ca.toArray, .agg cb.toArray] w (Ret w (.bool (eqb a b))) := by
  obtain ⟨a1, a2⟩ := a
  obtain ⟨ac1, at1, rfl, ar1, ar2⟩ := ha
  obtain ⟨rfl, ar1⟩ := ar1
  obtain ⟨rfl, ar2⟩ := ar2
  obtain ⟨b1, b2⟩ := b
  obtain ⟨bc1, bt1, rfl, br1, br2⟩ := hb
  obtain ⟨rfl, br1⟩ := br1
  obtain ⟨rfl, br2⟩ := br2
  dsimp only [List.cons_append, List.nil_append] at *
  generalize hr : eqb (a1, a2) (b1, b2) = r
  have Hr := Lib.hid hr; clear hr
  have es := Vp
  clear ar1 br1
  clear ar2 br2
  go_enter Tryz.func80, Tryz.ntmps80
  go_wp2
  all_goals
    go_ret
    refine ⟨?_, by go_grown⟩
    rw [← Hr.out]
    go_light
    clear es
    simp_all [eqb_prod, Zw, Y7]
set_option maxHeartbeats 1000000 in
theorem eqSnapshot_c (w : World) (ca cb : List Value) (a b : SnapshotD) (ha : rd w ca a) (hb : rd w cb b) : Calls Tryz.prog 163 #[.agg ca.toArray, .agg cb.toArray] w (Ret w (.bool (eqb a b))) := by
  obtain ⟨a1, a2⟩ := a
  obtain ⟨ac1, at1, rfl, ar1, ar2⟩ := ha
  obtain ⟨ax1_0, ax1_1, ax1_2, rfl⟩ := len3 (show _ = 3 from GoD.rd_len ar1)
  obtain ⟨ax2_0, rfl⟩ := len1 (show _ = 1 from GoD.rd_len ar2)
  obtain ⟨b1, b2⟩ := b
  obtain ⟨bc1, bt1, rfl, br1, br2⟩ := hb
  obtain ⟨bx1_0, bx1_1, bx1_2, rfl⟩ := len3 (show _ = 3 from GoD.rd_len br1)
  obtain ⟨bx2_0, rfl⟩ := len1 (show _ = 1 from GoD.rd_len br2)
  dsimp only [List.cons_append, List.nil_append] at *
  generalize hr : eqb (a1, a2) (b1, b2) = r
  have Hr := Lib.hid hr; clear hr
  have es := Vp
  have AR1H := Lib.hid ar1; clear ar1
  have BR1H := Lib.hid br1; clear br1
  have AR2H := Lib.hid ar2; clear ar2
  have BR2H := Lib.hid br2; clear br2
  have tok1 : True := trivial
  have tok2 : True := trivial
  go_enter Tryz.func163, Tryz.ntmps163
  go_wp2_with (first | (go_at_call 14; have tk := tok1; clear tok1; (refine Ks (w := w) (eqStore_c _ [ax1_0, ax1_1, ax1_2] [bx1_0, bx1_1, bx1_2] a1 b1 (Qh AR1H.out (by go_grown)) (Qh BR1H.out (by go_grown))) (by go_grown) ?_; intro w' hB hb hz hz2; (repeat (first | rewrite [World.size_alloc] at hz2 | rewrite [World.size_setCell] at hz2 | rewrite [World.size_drew] at hz2)); have c0 := fun o => Xy hb (w.heap.size) o (by go_size); have c1 := fun o => Xy hb (w.heap.size + 1) o (by go_size))) | (go_at_call 15; have tk := tok2; clear tok2; (refine Ks (w := w) (eqDirS_c _ ax2_0 bx2_0 a2 b2 (Qh AR2H.out (by go_grown)) (Qh BR2H.out (by go_grown))) (by go_grown) ?_; intro w' hB hb hz hz2; (repeat (first | rewrite [World.size_alloc] at hz2 | rewrite [World.size_setCell] at hz2 | rewrite [World.size_drew] at hz2)); have c0 := fun o => Xy hb (w.heap.size) o (by go_size); have c1 := fun o => Xy hb (w.heap.size + 1) o (by go_size))))
  all_goals
    go_ret
    refine ⟨?_, by go_grown⟩
    rw [← Hr.out]
    go_light
    clear es
    simp_all [eqb_prod, Zw, Y7]
set_option maxHeartbeats 1000000 in
theorem eqVersion_c (w : World) (ca cb : List Value) (a b : VersionD) (ha : rd w ca a) (hb : rd w cb b) : Calls Tryz.prog 121 #[.agg ca.toArray, .agg cb.toArray] w (Ret w (.bool (eqb a b))) := by
  obtain ⟨a1, a2, a3⟩ := a
  obtain ⟨ac1, at1, rfl, ar1, ac2, at2, rfl, ar2, ar3⟩ := ha
  obtain ⟨rfl, ar1⟩ := ar1
  obtain ⟨ax2_0, ax2_1, ax2_2, ax2_3, rfl⟩ := len4 (show _ = 4 from GoD.rd_len ar2)
  obtain ⟨rfl, ar3⟩ := ar3
  obtain ⟨b1, b2, b3⟩ := b
  obtain ⟨bc1, bt1, rfl, br1, bc2, bt2, rfl, br2, br3⟩ := hb
  obtain ⟨rfl, br1⟩ := br1
  obtain ⟨bx2_0, bx2_1, bx2_2, bx2_3, rfl⟩ := len4 (show _ = 4 from GoD.rd_len br2)
  obtain ⟨rfl, br3⟩ := br3
  dsimp only [List.cons_append, List.nil_append] at *
  generalize hr : eqb (a1, a2, a3) (b1, b2, b3) = r
  have Hr := Lib.hid hr; clear hr
  have es := Vp
  clear ar1 br1
  have AR2H := Lib.hid ar2; clear ar2
  have BR2H := Lib.hid br2; clear br2
  clear ar3 br3
  have tok1 : True := trivial
  go_enter Tryz.func121, Tryz.ntmps121
  go_wp2_with (first | (go_at_call 163; have tk := tok1; clear tok1; (refine Ks (w := w) (eqSnapshot_c _ [ax2_0, ax2_1, ax2_2, ax2_3] [bx2_0, bx2_1, bx2_2, bx2_3] a2 b2 (Qh AR2H.out (by go_grown)) (Qh BR2H.out (by go_grown))) (by go_grown) ?_; intro w' hB hb hz hz2; (repeat (first | rewrite [World.size_alloc] at hz2 | rewrite [World.size_setCell] at hz2 | rewrite [World.size_drew] at hz2)); have c0 := fun o => Xy hb (w.heap.size) o (by go_size); have c1 := fun o => Xy hb (w.heap.size + 1) o (by go_size))))
  all_goals
    go_ret
    refine ⟨?_, by go_grown⟩
    rw [← Hr.out]
    go_light
    clear es
    simp_all [eqb_prod, Zw, Y7]
set_option maxHeartbeats 1000000 in
theorem eqVersionS_c (w : World) (sa sb : Value) (la lb : List VersionD) (ha : rd w [sa] la) (hb : rd w [sb] lb) : Calls Tryz.prog 81 #[sa, sb] w (Ret w (.bool (eqb la lb))) := by
  obtain ⟨oa, capa, e1, hl1, hm1, hel1⟩ := ha
  obtain ⟨ob, capb, e2, hl2, hm2, hel2⟩ := hb
  obtain rfl : sa = _ := by simpa using e1
  obtain rfl : sb = _ := by simpa using e2
  clear e1 e2
  have HE1 := Lib.hid hel1; clear hel1
  have HE2 := Lib.hid hel2; clear hel2
  unfold maxLen at hm1 hm2
  have hma : la.length ≤ 9223372036854775807 := by omega
  have hmb : lb.length ≤ 9223372036854775807 := by omega
  by_cases hlen : la.length = lb.length
  · have hne : ((la.length : Int) != (lb.length : Int)) = false := by simp [hlen]
    generalize hr : eqb la lb = r
    have Hr := Lib.hid hr; clear hr
    have Hlen := Lib.hid hlen; clear hlen
    have es := Vp
    go_enter Tryz.func81, Tryz.ntmps81
    go_wp2
    go_loopw [5] (fun i wr => ∃ k : Nat, k ≤ la.length ∧ i = .int .i64 k ∧ Hid (la.take k = lb.take k) ∧ Below w.heap.size w wr) (fun i _ => la.length - (intOf i).toNat)
    case atStart => exact ⟨0, Nat.zero_le _, rfl, rfl, Below.refl _ _⟩
    case round =>
      obtain ⟨k, hk, rfl, htk, hB⟩ := hrel
      by_cases hlt : k < la.length
      · have hltb : k < lb.length := by have := Hlen.out; omega
        obtain ⟨ba, fa, ea, rfl, hla, hca, hra⟩ := HE1.out k _ (List.getElem?_eq_getElem hlt)
        obtain ⟨bb, fb, eb, rfl, hlb, hcb, hrb⟩ := HE2.out k _ (List.getElem?_eq_getElem hltb)
        have Hno := Lib.hid (eqS_no (List.getElem?_eq_getElem hlt) (List.getElem?_eq_getElem hltb))
        have Hyes := Lib.hid (eqS_step htk.out (List.getElem?_eq_getElem hlt) (List.getElem?_eq_getElem hltb))
        generalize la[k] = xa at *
        generalize lb[k] = xb at *
        obtain ⟨x0, x1, x2, x3, x4, x5, rfl⟩ := len6 (show _ = 6 from hla)
        obtain ⟨y0, y1, y2, y3, y4, y5, rfl⟩ := len6 (show _ = 6 from hlb)
        have qba0 : w.cell? ⟨ba, fa + k * 6, none⟩ = some _ := hca 0 _ rfl
        have pba0 := fun d os => cell_regrown ((hB.cell (World.block_lt_of_cell? w _ qba0)).trans qba0) d os
        clear qba0
        have qba1 : w.cell? ⟨ba, fa + k * 6 + 1, none⟩ = some _ := hca 1 _ rfl
        have pba1 := fun d os => cell_regrown ((hB.cell (World.block_lt_of_cell? w _ qba1)).trans qba1) d os
        clear qba1
        have qba2 : w.cell? ⟨ba, fa + k * 6 + 2, none⟩ = some _ := hca 2 _ rfl
        have pba2 := fun d os => cell_regrown ((hB.cell (World.block_lt_of_cell? w _ qba2)).trans qba2) d os
        clear qba2
        have qba3 : w.cell? ⟨ba, fa + k * 6 + 3, none⟩ = some _ := hca 3 _ rfl
        have pba3 := fun d os => cell_regrown ((hB.cell (World.block_lt_of_cell? w _ qba3)).trans qba3) d os
        clear qba3
        have qba4 : w.cell? ⟨ba, fa + k * 6 + 4, none⟩ = some _ := hca 4 _ rfl
        have pba4 := fun d os => cell_regrown ((hB.cell (World.block_lt_of_cell? w _ qba4)).trans qba4) d os
        clear qba4
        have qba5 : w.cell? ⟨ba, fa + k * 6 + 5, none⟩ = some _ := hca 5 _ rfl
        have pba5 := fun d os => cell_regrown ((hB.cell (World.block_lt_of_cell? w _ qba5)).trans qba5) d os
        clear qba5
        have qbb0 : w.cell? ⟨bb, fb + k * 6, none⟩ = some _ := hcb 0 _ rfl
        have pbb0 := fun d os => cell_regrown ((hB.cell (World.block_lt_of_cell? w _ qbb0)).trans qbb0) d os
        clear qbb0
        have qbb1 : w.cell? ⟨bb, fb + k * 6 + 1, none⟩ = some _ := hcb 1 _ rfl
        have pbb1 := fun d os => cell_regrown ((hB.cell (World.block_lt_of_cell? w _ qbb1)).trans qbb1) d os
        clear qbb1
        have qbb2 : w.cell? ⟨bb, fb + k * 6 + 2, none⟩ = some _ := hcb 2 _ rfl
        have pbb2 := fun d os => cell_regrown ((hB.cell (World.block_lt_of_cell? w _ qbb2)).trans qbb2) d os
        clear qbb2
        have qbb3 : w.cell? ⟨bb, fb + k * 6 + 3, none⟩ = some _ := hcb 3 _ rfl
        have pbb3 := fun d os => cell_regrown ((hB.cell (World.block_lt_of_cell? w _ qbb3)).trans qbb3) d os
        clear qbb3
        have qbb4 : w.cell? ⟨bb, fb + k * 6 + 4, none⟩ = some _ := hcb 4 _ rfl
        have pbb4 := fun d os => cell_regrown ((hB.cell (World.block_lt_of_cell? w _ qbb4)).trans qbb4) d os
        clear qbb4
        have qbb5 : w.cell? ⟨bb, fb + k * 6 + 5, none⟩ = some _ := hcb 5 _ rfl
        have pbb5 := fun d os => cell_regrown ((hB.cell (World.block_lt_of_cell? w _ qbb5)).trans qbb5) d os
        clear qbb5
        have ra := fun d os => Qh (Qh hra hB) (below_regrown wr d os)
        have rb := fun d os => Qh (Qh hrb hB) (below_regrown wr d os)
        have Ra := Lib.hid ra
        have Rb := Lib.hid rb
        clear ra rb
        clear hca hcb hra hrb hla hlb
        go_wp2
        refine wp_region_quiet_below (by kernel_rfl) (by kernel_rfl) ?_
        repeat (quiet_step (exact Calls.regrown_of (eqVersion_c _ [x0, x1, x2, x3, x4, x5] [y0, y1, y2, y3, y4, y5] xa xb (Ra.out _ _) (Rb.out _ _))))
        refine wpQuiet_nil ?_
        intro _ hw'
        obtain ⟨⟨dq, osq⟩, hw''⟩ := hw'
        subst hw''
        have hB2 := hB.trans ((below_regrown wr dq osq).mono hB.size)
        go_wp2
        · go_ret
          obtain rfl : r = false := Hr.out.symm.trans (Hno.out (by go_light; clear es; simp_all [Zw, Y7]))
          exact ⟨rfl, hB2⟩
        · go_roundw
          case rel => exact ⟨k + 1, by omega, by go_num, Hyes.out (by go_light; clear es; simp_all [Zw, Y7]), hB2⟩
          case measure => simp [intOf]; omega
      · obtain rfl : k = la.length := by omega
        have Hy := Lib.hid (eqS_end htk.out (by have := Hlen.out; omega))
        go_wp2
        go_ret
        obtain rfl : r = true := Hr.out.symm.trans Hy.out
        exact ⟨rfl, hB⟩
  · have hne : ((la.length : Int) != (lb.length : Int)) = true := by simp; omega
    generalize hr : eqb la lb = r
    have Hr := Lib.hid hr; clear hr
    have Hn := Lib.hid (eqS_len hlen); clear hlen
    go_enter Tryz.func81, Tryz.ntmps81
    go_wp2
    go_ret
    obtain rfl : r = false := Hr.out.symm.trans Hn.out
    exact ⟨rfl, Below.refl _ _⟩
set_option maxHeartbeats 1000000 in
theorem eqWatchS_c (w : World) (sa sb : Value) (la lb : List WatchD) (ha : rd w [sa] la) (hb : rd w [sb] lb) : Calls Tryz.prog 82 #[sa, sb] w (Ret w (.bool (eqb la lb))) := by
  obtain ⟨oa, capa, e1, hl1, hm1, hel1⟩ := ha
  obtain ⟨ob, capb, e2, hl2, hm2, hel2⟩ := hb
  obtain rfl : sa = _ := by simpa using e1
  obtain rfl : sb = _ := by simpa using e2
  clear e1 e2
  have HE1 := Lib.hid hel1; clear hel1
  have HE2 := Lib.hid hel2; clear hel2
  unfold maxLen at hm1 hm2
  have hma : la.length ≤ 9223372036854775807 := by omega
  have hmb : lb.length ≤ 9223372036854775807 := by omega
  by_cases hlen : la.length = lb.length
  · have hne : ((la.length : Int) != (lb.length : Int)) = false := by simp [hlen]
    generalize hr : eqb la lb = r
    have Hr := Lib.hid hr; clear hr
    have Hlen := Lib.hid hlen; clear hlen
    have es := Vp
    go_enter Tryz.func82, Tryz.ntmps82
    go_wp2
    go_loopw [5] (fun i wr => ∃ k : Nat, k ≤ la.length ∧ i = .int .i64 k ∧ Hid (la.take k = lb.take k) ∧ Below w.heap.size w wr) (fun i _ => la.length - (intOf i).toNat)
    case atStart => exact ⟨0, Nat.zero_le _, rfl, rfl, Below.refl _ _⟩
    case round =>
      obtain ⟨k, hk, rfl, htk, hB⟩ := hrel
      by_cases hlt : k < la.length
      · have hltb : k < lb.length := by have := Hlen.out; omega
        obtain ⟨ba, fa, ea, rfl, hla, hca, hra⟩ := HE1.out k _ (List.getElem?_eq_getElem hlt)
        obtain ⟨bb, fb, eb, rfl, hlb, hcb, hrb⟩ := HE2.out k _ (List.getElem?_eq_getElem hltb)
        have Hno := Lib.hid (eqS_no (List.getElem?_eq_getElem hlt) (List.getElem?_eq_getElem hltb))
        have Hyes := Lib.hid (eqS_step htk.out (List.getElem?_eq_getElem hlt) (List.getElem?_eq_getElem hltb))
        generalize la[k] = xa at *
        generalize lb[k] = xb at *
        obtain ⟨x0, x1, x2, x3, rfl⟩ := len4 (show _ = 4 from hla)
        obtain ⟨y0, y1, y2, y3, rfl⟩ := len4 (show _ = 4 from hlb)
        have qba0 : w.cell? ⟨ba, fa + k * 4, none⟩ = some _ := hca 0 _ rfl
        have pba0 := fun d os => cell_regrown ((hB.cell (World.block_lt_of_cell? w _ qba0)).trans qba0) d os
        clear qba0
        have qba1 : w.cell? ⟨ba, fa + k * 4 + 1, none⟩ = some _ := hca 1 _ rfl
        have pba1 := fun d os => cell_regrown ((hB.cell (World.block_lt_of_cell? w _ qba1)).trans qba1) d os
        clear qba1
        have qba2 : w.cell? ⟨ba, fa + k * 4 + 2, none⟩ = some _ := hca 2 _ rfl
        have pba2 := fun d os => cell_regrown ((hB.cell (World.block_lt_of_cell? w _ qba2)).trans qba2) d os
        clear qba2
        have qba3 : w.cell? ⟨ba, fa + k * 4 + 3, none⟩ = some _ := hca 3 _ rfl
        have pba3 := fun d os => cell_regrown ((hB.cell (World.block_lt_of_cell? w _ qba3)).trans qba3) d os
        clear qba3
        have qbb0 : w.cell? ⟨bb, fb + k * 4, none⟩ = some _ := hcb 0 _ rfl
        have pbb0 := fun d os => cell_regrown ((hB.cell (World.block_lt_of_cell? w _ qbb0)).trans qbb0) d os
        clear qbb0
        have qbb1 : w.cell? ⟨bb, fb + k * 4 + 1, none⟩ = some _ := hcb 1 _ rfl
        have pbb1 := fun d os => cell_regrown ((hB.cell (World.block_lt_of_cell? w _ qbb1)).trans qbb1) d os
        clear qbb1
        have qbb2 : w.cell? ⟨bb, fb + k * 4 + 2, none⟩ = some _ := hcb 2 _ rfl
        have pbb2 := fun d os => cell_regrown ((hB.cell (World.block_lt_of_cell? w _ qbb2)).trans qbb2) d os
        clear qbb2
        have qbb3 : w.cell? ⟨bb, fb + k * 4 + 3, none⟩ = some _ := hcb 3 _ rfl
        have pbb3 := fun d os => cell_regrown ((hB.cell (World.block_lt_of_cell? w _ qbb3)).trans qbb3) d os
        clear qbb3
        have ra := fun d os => Qh (Qh hra hB) (below_regrown wr d os)
        have rb := fun d os => Qh (Qh hrb hB) (below_regrown wr d os)
        have Ra := Lib.hid ra
        have Rb := Lib.hid rb
        clear ra rb
        clear hca hcb hra hrb hla hlb
        go_wp2
        refine wp_region_quiet_below (by kernel_rfl) (by kernel_rfl) ?_
        repeat (quiet_step (exact Calls.regrown_of (eqWatch_c _ [x0, x1, x2, x3] [y0, y1, y2, y3] xa xb (Ra.out _ _) (Rb.out _ _))))
        refine wpQuiet_nil ?_
        intro _ hw'
        obtain ⟨⟨dq, osq⟩, hw''⟩ := hw'
        subst hw''
        have hB2 := hB.trans ((below_regrown wr dq osq).mono hB.size)
        go_wp2
        · go_ret
          obtain rfl : r = false := Hr.out.symm.trans (Hno.out (by go_light; clear es; simp_all [Zw, Y7]))
          exact ⟨rfl, hB2⟩
        · go_roundw
          case rel => exact ⟨k + 1, by omega, by go_num, Hyes.out (by go_light; clear es; simp_all [Zw, Y7]), hB2⟩
          case measure => simp [intOf]; omega
      · obtain rfl : k = la.length := by omega
        have Hy := Lib.hid (eqS_end htk.out (by have := Hlen.out; omega))
        go_wp2
        go_ret
        obtain rfl : r = true := Hr.out.symm.trans Hy.out
        exact ⟨rfl, hB⟩
  · have hne : ((la.length : Int) != (lb.length : Int)) = true := by simp; omega
    generalize hr : eqb la lb = r
    have Hr := Lib.hid hr; clear hr
    have Hn := Lib.hid (eqS_len hlen); clear hlen
    go_enter Tryz.func82, Tryz.ntmps82
    go_wp2
    go_ret
    obtain rfl : r = false := Hr.out.symm.trans Hn.out
    exact ⟨rfl, Below.refl _ _⟩
set_option maxHeartbeats 1000000 in
theorem eqSystem_c (w : World) (ca cb : List Value) (a b : Vo) (ha : rd w ca a) (hb : rd w cb b) : Calls Tryz.prog 33 #[.agg ca.toArray, .agg cb.toArray] w (Ret w (.bool (eqb a b))) := by
  obtain ⟨a1, a2, a3, a4, a5, a6⟩ := a
  obtain ⟨ac1, at1, rfl, ar1, ac2, at2, rfl, ar2, ac3, at3, rfl, ar3, ac4, at4, rfl, ar4, ac5, at5, rfl, ar5, ar6⟩ := ha
  obtain ⟨ax1_0, ax1_1, ax1_2, ax1_3, ax1_4, rfl⟩ := len5 (show _ = 5 from GoD.rd_len ar1)
  obtain ⟨ax2_0, ax2_1, rfl⟩ := len2 (show _ = 2 from GoD.rd_len ar2)
  obtain ⟨rfl, ar3⟩ := ar3
  obtain ⟨ax4_0, rfl⟩ := len1 (show _ = 1 from GoD.rd_len ar4)
  obtain ⟨ax5_0, rfl⟩ := len1 (show _ = 1 from GoD.rd_len ar5)
  obtain ⟨ax6_0, rfl⟩ := len1 (show _ = 1 from GoD.rd_len ar6)
  obtain ⟨b1, b2, b3, b4, b5, b6⟩ := b
  obtain ⟨bc1, bt1, rfl, br1, bc2, bt2, rfl, br2, bc3, bt3, rfl, br3, bc4, bt4, rfl, br4, bc5, bt5, rfl, br5, br6⟩ := hb
  obtain ⟨bx1_0, bx1_1, bx1_2, bx1_3, bx1_4, rfl⟩ := len5 (show _ = 5 from GoD.rd_len br1)
  obtain ⟨bx2_0, bx2_1, rfl⟩ := len2 (show _ = 2 from GoD.rd_len br2)
  obtain ⟨rfl, br3⟩ := br3
  obtain ⟨bx4_0, rfl⟩ := len1 (show _ = 1 from GoD.rd_len br4)
  obtain ⟨bx5_0, rfl⟩ := len1 (show _ = 1 from GoD.rd_len br5)
  obtain ⟨bx6_0, rfl⟩ := len1 (show _ = 1 from GoD.rd_len br6)
  dsimp only [List.cons_append, List.nil_append] at *
  generalize hr : eqb (a1, a2, a3, a4, a5, a6) (b1, b2, b3, b4, b5, b6) = r
  have Hr := Lib.hid hr; clear hr
  have es := Vp
  have AR1H := Lib.hid ar1; clear ar1
  have BR1H := Lib.hid br1; clear br1
  have AR2H := Lib.hid ar2; clear ar2
  have BR2H := Lib.hid br2; clear br2
  clear ar3 br3
  have AR4H := Lib.hid ar4; clear ar4
  have BR4H := Lib.hid br4; clear br4
  have AR5H := Lib.hid ar5; clear ar5
  have BR5H := Lib.hid br5; clear br5
  have AR6H := Lib.hid ar6; clear ar6
  have BR6H := Lib.hid br6; clear br6
  have tok1 : True := trivial
  have tok2 : True := trivial
  have tok3 : True := trivial
  have tok4 : True := trivial
  have tok5 : True := trivial
  go_enter Tryz.func33, Tryz.ntmps33
  go_wp2_with (first | (go_at_call 79; have tk := tok1; clear tok1; (refine Ks (w := w) (eqCatalog_c _ [ax1_0, ax1_1, ax1_2, ax1_3, ax1_4] [bx1_0, bx1_1, bx1_2, bx1_3, bx1_4] a1 b1 (Qh AR1H.out (by go_grown)) (Qh BR1H.out (by go_grown))) (by go_grown) ?_; intro w' hB hb hz hz2; (repeat (first | rewrite [World.size_alloc] at hz2 | rewrite [World.size_setCell] at hz2 | rewrite [World.size_drew] at hz2)); have c0 := fun o => Xy hb (w.heap.size) o (by go_size); have c1 := fun o => Xy hb (w.heap.size + 1) o (by go_size))) | (go_at_call 80; have tk := tok2; clear tok2; (refine Ks (w := w) (eqDisk_c _ [ax2_0, ax2_1] [bx2_0, bx2_1] a2 b2 (Qh AR2H.out (by go_grown)) (Qh BR2H.out (by go_grown))) (by go_grown) ?_; intro w' hB hb hz hz2; (repeat (first | rewrite [World.size_alloc] at hz2 | rewrite [World.size_setCell] at hz2 | rewrite [World.size_drew] at hz2)); have c0 := fun o => Xy hb (w.heap.size) o (by go_size); have c1 := fun o => Xy hb (w.heap.size + 1) o (by go_size))) | (go_at_call 81; have tk := tok3; clear tok3; (refine Ks (w := w) (eqVersionS_c _ ax4_0 bx4_0 a4 b4 (Qh AR4H.out (by go_grown)) (Qh BR4H.out (by go_grown))) (by go_grown) ?_; intro w' hB hb hz hz2; (repeat (first | rewrite [World.size_alloc] at hz2 | rewrite [World.size_setCell] at hz2 | rewrite [World.size_drew] at hz2)); have c0 := fun o => Xy hb (w.heap.size) o (by go_size); have c1 := fun o => Xy hb (w.heap.size + 1) o (by go_size))) | (go_at_call 82; have tk := tok4; clear tok4; (refine Ks (w := w) (eqWatchS_c _ ax5_0 bx5_0 a5 b5 (Qh AR5H.out (by go_grown)) (Qh BR5H.out (by go_grown))) (by go_grown) ?_; intro w' hB hb hz hz2; (repeat (first | rewrite [World.size_alloc] at hz2 | rewrite [World.size_setCell] at hz2 | rewrite [World.size_drew] at hz2)); have c0 := fun o => Xy hb (w.heap.size) o (by go_size); have c1 := fun o => Xy hb (w.heap.size + 1) o (by go_size))) | (go_at_call 13; have tk := tok5; clear tok5; (refine Ks (w := w) (eqIntS_c _ ax6_0 bx6_0 a6 b6 (Qh AR6H.out (by go_grown)) (Qh BR6H.out (by go_grown))) (by go_grown) ?_; intro w' hB hb hz hz2; (repeat (first | rewrite [World.size_alloc] at hz2 | rewrite [World.size_setCell] at hz2 | rewrite [World.size_drew] at hz2)); have c0 := fun o => Xy hb (w.heap.size) o (by go_size); have c1 := fun o => Xy hb (w.heap.size + 1) o (by go_size))))
  all_goals
    go_ret
    refine ⟨?_, by go_grown⟩
    rw [← Hr.out]
    go_light
    clear es
    simp_all [eqb_prod, Zw, Y7]
end Go.Proofs.YtnhmnfmhnepjmaaGreat
namespace Go.Proofs.YtnhmnfmhnepjmaaGreat
open Go.RowKit
open GoD (rd own)
set_option maxHeartbeats 1000000 in
theorem toValue_c (w : World) (ca : List Value) (a : ValueD) (ha : rd w ca a) (hsz : GoD.size a ≤ 1048576) : Calls Tryz.prog 172 #[.agg ca.toArray] w (RetA w a) := by
  obtain ⟨a1, a2, a3⟩ := a
  obtain ⟨ac1, at1, rfl, ar1, ac2, at2, rfl, ar2, ar3⟩ := ha
  obtain ⟨rfl, ar1⟩ := ar1
  obtain ⟨rfl, ar2⟩ := ar2
  obtain ⟨rfl, ar3⟩ := ar3
  dsimp only [List.cons_append, List.nil_append] at *
  replace hsz : (GoD.size a1 + (GoD.size a2 + GoD.size a3)) ≤ 1048576 := hsz
  have AR1H := Lib.hid ar1; clear ar1
  have AR2H := Lib.hid ar2; clear ar2
  have AR3H := Lib.hid ar3; clear ar3
  go_enter Tryz.func172, Tryz.ntmps172
  go_wp2_with (first | ((with_reducible show bodyPost _ _ _ _ _ _); refine bodyPost_ret (v := .agg #[.int .i64 a1, .int .i64 a2, .string a3]) (by simp [results, Tryz.results172, go_sem]) rfl ⟨[.int .i64 a1, .int .i64 a2, .string a3], ([] ++ ([] ++ [])), rfl, by go_grown, ?_, ?_⟩; (exact (Zd (own_i _ AR1H.out) (Zd (own_i _ AR2H.out) (own_s _ AR3H.out) (by simp)) (by simp))); simp))
set_option maxHeartbeats 1000000 in
theorem toNode_c (w : World) (ca : List Value) (a : Yg) (ha : rd w ca a) (hsz : GoD.size a ≤ 1048576) : Calls Tryz.prog 131 #[.agg ca.toArray] w (RetA w a) := by
  obtain ⟨a1, a2, a3, a4, a5⟩ := a
  obtain ⟨ac1, at1, rfl, ar1, ac2, at2, rfl, ar2, ac3, at3, rfl, ar3, ac4, at4, rfl, ar4, ar5⟩ := ha
  obtain ⟨rfl, ar1⟩ := ar1
  obtain ⟨rfl, ar2⟩ := ar2
  obtain ⟨rfl, ar3⟩ := ar3
  obtain ⟨rfl, ar4⟩ := ar4
  obtain ⟨ax5_0, ax5_1, ax5_2, rfl⟩ := len3 (show _ = 3 from GoD.rd_len ar5)
  dsimp only [List.cons_append, List.nil_append] at *
  replace hsz : (GoD.size a1 + (GoD.size a2 + (GoD.size a3 + (GoD.size a4 + GoD.size a5)))) ≤ 1048576 := hsz
  have AR1H := Lib.hid ar1; clear ar1
  have AR2H := Lib.hid ar2; clear ar2
  have AR3H := Lib.hid ar3; clear ar3
  have AR4H := Lib.hid ar4; clear ar4
  have AR5H := Lib.hid ar5; clear ar5
  have tok1 : True := trivial
  go_enter Tryz.func131, Tryz.ntmps131
  go_wp2_with (first | (go_at_call 172; have tk := tok1; clear tok1; refine Vt (w := w) (toValue_c _ [ax5_0, ax5_1, ax5_2] a5 (Qh AR5H.out (by go_grown)) (by omega)) (by go_grown) ?_; intro w1 cs1 L1 hB hb hz _ ho1 hL1; obtain rfl := cells_Value (GoD.own_rd ho1); have hz2 := hb.size; (repeat (first | rewrite [World.size_alloc] at hz2 | rewrite [World.size_setCell] at hz2 | rewrite [World.size_drew] at hz2)); (repeat (first | rewrite [World.size_alloc] at hL1 | rewrite [World.size_setCell] at hL1 | rewrite [World.size_drew] at hL1)); have hlt1 := GoD.own_lt ho1; have c1_0 := fun o => Xy hb (w.heap.size) o (by go_size); have f1_0 := fun o => Ji hb (w.heap.size) o (by go_size); have c1_1 := fun o => Xy hb (w.heap.size + 1) o (by go_size); have f1_1 := fun o => Ji hb (w.heap.size + 1) o (by go_size); have c1_2 := fun o => Xy hb (w.heap.size + 1 + 1) o (by go_size); have f1_2 := fun o => Ji hb (w.heap.size + 1 + 1) o (by go_size); have HO1 := Lib.hid ho1; clear ho1; have HL1 := Lib.hid hL1; clear hL1; have HT1 := Lib.hid hlt1; clear hlt1; have HB1 := Lib.hid hb; clear hb) | ((with_reducible show bodyPost _ _ _ _ _ _); refine bodyPost_ret (v := .agg #[.int .i64 a1, .int .i64 a2, .int .i64 a3, .string a4, .int .i64 a5.1, .int .i64 a5.2.1, .string a5.2.2]) (by simp [results, Tryz.results131, go_sem, c1_1]) rfl ⟨[.int .i64 a1, .int .i64 a2, .int .i64 a3, .string a4, .int .i64 a5.1, .int .i64 a5.2.1, .string a5.2.2], ([] ++ ([] ++ ([] ++ ([] ++ L1)))), rfl, by go_grown, ?_, ?_⟩; (exact (Zd (own_i _ AR1H.out) (Zd (own_i _ AR2H.out) (Zd (own_i _ AR3H.out) (Zd (own_s _ AR4H.out) (show own L1 _ [.int .i64 a5.1, .int .i64 a5.2.1, .string a5.2.2] a5 by (repeat (first | (with_reducible exact HO1.out) | ((with_reducible refine Y6 ?_ ?_); rotate_left; exact (fun hm => by have := HL1.out _ hm; omega)) | (with_reducible refine Ja ?_) | (with_reducible refine Kt ?_)))) (by simp)) (by simp)) (by simp)) (by simp))); intro x hx; (try simp only [List.mem_append, List.not_mem_nil, List.append_nil, List.nil_append, false_or, or_false] at hx); rcases hx with hx <;> first | (have := HL1.out x hx; omega)))
set_option maxRecDepth 100000 in
set_option maxHeartbeats 1000000 in
theorem toNodeS_c (w : World) (v : Value) (l : List Yg) (ha : rd w [v] l) (hsz : GoD.size l ≤ 1048576) : Calls Tryz.prog 92 #[v] w (RetS w l) := by
  obtain ⟨oa, cap, e1, hl, hm, hel⟩ := ha
  obtain rfl : v = _ := by simpa using e1
  clear e1
  have HE := Lib.hid hel; clear hel
  have hn : l.length ≤ 1048576 := by have := Ka l; omega
  have HS := Lib.hid (fun i a (h : l[i]? = some a) => Jn h)
  have hlm : l.length ≤ maxLen := by omega
  go_enter Tryz.func92, Tryz.ntmps92
  go_wp2_with (at_make; refine wp_make w (.tmp 6) (.tmp 6) 94 163 7 l.length rfl rfl Tryz.underlying94 (by kernel_rfl) rfl rfl (by omega) (by go_grown) ?_; intro w1 cur hcur hcs hB1 hb1 hlt1)
  go_loopw [4] (fun i wr => ∃ k : Nat, k ≤ l.length ∧ i = .int .i64 k ∧ Below w.heap.size w wr ∧ w.heap.size < wr.heap.size ∧ Hid (Part wr w.heap.size l.length 163 l k)) (fun i _ => l.length - (intOf i).toNat)
  case atStart => exact ⟨0, Nat.zero_le _, rfl, hB1, hlt1, Part.start hcur hcs l⟩
  case round =>
    obtain ⟨k, hk, rfl, hB, hlt, hP⟩ := hrel
    clear hB1 hb1 hlt1 hcur hcs
    by_cases hkl : k < l.length
    · have hx := List.getElem?_eq_getElem hkl
      obtain ⟨eb, eo, ee, rfl, hcl, hcc, hxr⟩ := HE.out k _ hx
      have hxs := HS.out k _ hx
      have HX := Lib.hid hx; clear hx
      generalize l[k] = x at *
      obtain ⟨cur2, hg, hgs⟩ := hP.out.block
      have hgs2 : cur2.size = l.length * 7 := hgs
      have hroom := Nat.mul_le_mul_right 7 (show k + 1 ≤ l.length by omega)
      obtain ⟨x0, x1, x2, x3, x4, x5, x6, rfl⟩ := len7 (show _ = 7 from hcl)
      have p0 : wr.cell? ⟨eb, eo + k * 7, none⟩ = some x0 := (hB.cell (World.block_lt_of_cell? w _ (hcc 0 _ rfl))).trans (hcc 0 _ rfl)
      have p1 : wr.cell? ⟨eb, eo + k * 7 + 1, none⟩ = some x1 := (hB.cell (World.block_lt_of_cell? w _ (hcc 1 _ rfl))).trans (hcc 1 _ rfl)
      have p2 : wr.cell? ⟨eb, eo + k * 7 + 2, none⟩ = some x2 := (hB.cell (World.block_lt_of_cell? w _ (hcc 2 _ rfl))).trans (hcc 2 _ rfl)
      have p3 : wr.cell? ⟨eb, eo + k * 7 + 3, none⟩ = some x3 := (hB.cell (World.block_lt_of_cell? w _ (hcc 3 _ rfl))).trans (hcc 3 _ rfl)
      have p4 : wr.cell? ⟨eb, eo + k * 7 + 4, none⟩ = some x4 := (hB.cell (World.block_lt_of_cell? w _ (hcc 4 _ rfl))).trans (hcc 4 _ rfl)
      have p5 : wr.cell? ⟨eb, eo + k * 7 + 5, none⟩ = some x5 := (hB.cell (World.block_lt_of_cell? w _ (hcc 5 _ rfl))).trans (hcc 5 _ rfl)
      have p6 : wr.cell? ⟨eb, eo + k * 7 + 6, none⟩ = some x6 := (hB.cell (World.block_lt_of_cell? w _ (hcc 6 _ rfl))).trans (hcc 6 _ rfl)
      have HXR := Lib.hid hxr; clear hxr hcc hcl
      have HG := Lib.hid hg; clear hg
      go_wp2_with (go_at_call 131; refine Vt (w := w) (toNode_c _ [x0, x1, x2, x3, x4, x5, x6] x (Qh HXR.out hB) (by omega)) (by go_grown) ?_; intro w2 cs L hB2 hb2 hz2 _ ho hL; obtain rfl := cells_Node (GoD.own_rd ho); have hg2 := (hb2.block _ hlt).trans HG.out; obtain ⟨z0, q0⟩ : ∃ y, w2.cell? ⟨w.heap.size, k * 7, none⟩ = some y := ⟨_, Q8 hg2 _ (by omega)⟩; obtain ⟨z1, q1⟩ : ∃ y, w2.cell? ⟨w.heap.size, k * 7 + 1, none⟩ = some y := ⟨_, Q8 hg2 _ (by omega)⟩; obtain ⟨z2, q2⟩ : ∃ y, w2.cell? ⟨w.heap.size, k * 7 + 2, none⟩ = some y := ⟨_, Q8 hg2 _ (by omega)⟩; obtain ⟨z3, q3⟩ : ∃ y, w2.cell? ⟨w.heap.size, k * 7 + 3, none⟩ = some y := ⟨_, Q8 hg2 _ (by omega)⟩; obtain ⟨z4, q4⟩ : ∃ y, w2.cell? ⟨w.heap.size, k * 7 + 4, none⟩ = some y := ⟨_, Q8 hg2 _ (by omega)⟩; obtain ⟨z5, q5⟩ : ∃ y, w2.cell? ⟨w.heap.size, k * 7 + 5, none⟩ = some y := ⟨_, Q8 hg2 _ (by omega)⟩; obtain ⟨z6, q6⟩ : ∃ y, w2.cell? ⟨w.heap.size, k * 7 + 6, none⟩ = some y := ⟨_, Q8 hg2 _ (by omega)⟩; have fz := V3 hg2; clear hg2; have HO := Lib.hid ho; clear ho; have HL := Lib.hid hL; clear hL; have HB2 := Lib.hid hb2; clear hb2)
      go_roundw
      case rel => exact ⟨k + 1, by omega, by go_num, by go_grown, by simp only [World.size_setCell]; omega, by
        have h := hP.out.step HB2.out hkl hk HX.out HO.out HL.out
        rw [show GoD.n Yg = 7 from rfl] at h
        simp only [World.setCells, Nat.add_assoc, Nat.reduceAdd] at h
        exact h⟩
      case measure => simp [intOf]; omega
    · obtain rfl : k = l.length := by omega
      go_wp2
      go_ret
      obtain ⟨L, hL, hLB⟩ := hP.out.done hlm
      exact ⟨_, L, rfl, hB, hL, hLB⟩
set_option maxHeartbeats 1000000 in
theorem toDir_c (w : World) (ca : List Value) (a : Zh) (ha : rd w ca a) (hsz : GoD.size a ≤ 1048576) : Calls Tryz.prog 41 #[.agg ca.toArray] w (RetA w a) := by
  obtain ⟨a1, a2⟩ := a
  obtain ⟨ac1, at1, rfl, ar1, ar2⟩ := ha
  obtain ⟨rfl, ar1⟩ := ar1
  obtain ⟨ax2_0, rfl⟩ := len1 (show _ = 1 from GoD.rd_len ar2)
  dsimp only [List.cons_append, List.nil_append] at *
  replace hsz : (GoD.size a1 + GoD.size a2) ≤ 1048576 := hsz
  have AR1H := Lib.hid ar1; clear ar1
  have AR2H := Lib.hid ar2; clear ar2
  have tok1 : True := trivial
  go_enter Tryz.func41, Tryz.ntmps41
  go_wp2_with (first | (go_at_call 92; have tk := tok1; clear tok1; refine V9 (w := w) (toNodeS_c _ ax2_0 a2 (Qh AR2H.out (by go_grown)) (by omega)) (by go_grown) ?_; intro w1 v1 L1 hB hb hz _ ho1 hL1; obtain ⟨oa1, cp1, rfl⟩ := Zr ho1; have hz2 := hb.size; (repeat (first | rewrite [World.size_alloc] at hz2 | rewrite [World.size_setCell] at hz2 | rewrite [World.size_drew] at hz2)); (repeat (first | rewrite [World.size_alloc] at hL1 | rewrite [World.size_setCell] at hL1 | rewrite [World.size_drew] at hL1)); have hlt1 := GoD.own_lt ho1; have c1_0 := fun o => Xy hb (w.heap.size) o (by go_size); have f1_0 := fun o => Ji hb (w.heap.size) o (by go_size); have c1_1 := fun o => Xy hb (w.heap.size + 1) o (by go_size); have f1_1 := fun o => Ji hb (w.heap.size + 1) o (by go_size); have c1_2 := fun o => Xy hb (w.heap.size + 1 + 1) o (by go_size); have f1_2 := fun o => Ji hb (w.heap.size + 1 + 1) o (by go_size); have HO1 := Lib.hid ho1; clear ho1; have HL1 := Lib.hid hL1; clear hL1; have HT1 := Lib.hid hlt1; clear hlt1; have HB1 := Lib.hid hb; clear hb) | ((with_reducible show bodyPost _ _ _ _ _ _); refine bodyPost_ret (v := .agg #[.string a1, .slice oa1 a2.length cp1]) (by simp [results, Tryz.results41, go_sem, c1_1]) rfl ⟨[.string a1, .slice oa1 a2.length cp1], ([] ++ L1), rfl, by go_grown, ?_, ?_⟩; (exact (Zd (own_s _ AR1H.out) (show own L1 _ [.slice oa1 a2.length cp1] a2 by (repeat (first | (with_reducible exact HO1.out) | ((with_reducible refine Y6 ?_ ?_); rotate_left; exact (fun hm => by have := HL1.out _ hm; omega)) | (with_reducible refine Ja ?_) | (with_reducible refine Kt ?_)))) (by simp))); intro x hx; (try simp only [List.mem_append, List.not_mem_nil, List.append_nil, List.nil_append, false_or, or_false] at hx); rcases hx with hx <;> first | (have := HL1.out x hx; omega)))
set_option maxRecDepth 100000 in
set_option maxHeartbeats 1000000 in
theorem toDirS_c (w : World) (v : Value) (l : List Zh) (ha : rd w [v] l) (hsz : GoD.size l ≤ 1048576) : Calls Tryz.prog 11 #[v] w (RetS w l) := by
  obtain ⟨oa, cap, e1, hl, hm, hel⟩ := ha
  obtain rfl : v = _ := by simpa using e1
  clear e1
  have HE := Lib.hid hel; clear hel
  have hn : l.length ≤ 1048576 := by have := Ka l; omega
  have HS := Lib.hid (fun i a (h : l[i]? = some a) => Jn h)
  have hlm : l.length ≤ maxLen := by omega
  go_enter Tryz.func11, Tryz.ntmps11
  go_wp2_with (at_make; refine wp_make w (.tmp 6) (.tmp 6) 36 96 2 l.length rfl rfl Tryz.underlying36 (by kernel_rfl) rfl rfl (by omega) (by go_grown) ?_; intro w1 cur hcur hcs hB1 hb1 hlt1)
  go_loopw [4] (fun i wr => ∃ k : Nat, k ≤ l.length ∧ i = .int .i64 k ∧ Below w.heap.size w wr ∧ w.heap.size < wr.heap.size ∧ Hid (Part wr w.heap.size l.length 96 l k)) (fun i _ => l.length - (intOf i).toNat)
  case atStart => exact ⟨0, Nat.zero_le _, rfl, hB1, hlt1, Part.start hcur hcs l⟩
  case round =>
    obtain ⟨k, hk, rfl, hB, hlt, hP⟩ := hrel
    clear hB1 hb1 hlt1 hcur hcs
    by_cases hkl : k < l.length
    · have hx := List.getElem?_eq_getElem hkl
      obtain ⟨eb, eo, ee, rfl, hcl, hcc, hxr⟩ := HE.out k _ hx
      have hxs := HS.out k _ hx
      have HX := Lib.hid hx; clear hx
      generalize l[k] = x at *
      obtain ⟨cur2, hg, hgs⟩ := hP.out.block
      have hgs2 : cur2.size = l.length * 2 := hgs
      have hroom := Nat.mul_le_mul_right 2 (show k + 1 ≤ l.length by omega)
      obtain ⟨x0, x1, rfl⟩ := len2 (show _ = 2 from hcl)
      have p0 : wr.cell? ⟨eb, eo + k * 2, none⟩ = some x0 := (hB.cell (World.block_lt_of_cell? w _ (hcc 0 _ rfl))).trans (hcc 0 _ rfl)
      have p1 : wr.cell? ⟨eb, eo + k * 2 + 1, none⟩ = some x1 := (hB.cell (World.block_lt_of_cell? w _ (hcc 1 _ rfl))).trans (hcc 1 _ rfl)
      have HXR := Lib.hid hxr; clear hxr hcc hcl
      have HG := Lib.hid hg; clear hg
      go_wp2_with (go_at_call 41; refine Vt (w := w) (toDir_c _ [x0, x1] x (Qh HXR.out hB) (by omega)) (by go_grown) ?_; intro w2 cs L hB2 hb2 hz2 _ ho hL; obtain ⟨eoa1, ecp1, rfl⟩ := cells_Dir (GoD.own_rd ho); have hg2 := (hb2.block _ hlt).trans HG.out; obtain ⟨z0, q0⟩ : ∃ y, w2.cell? ⟨w.heap.size, k * 2, none⟩ = some y := ⟨_, Q8 hg2 _ (by omega)⟩; obtain ⟨z1, q1⟩ : ∃ y, w2.cell? ⟨w.heap.size, k * 2 + 1, none⟩ = some y := ⟨_, Q8 hg2 _ (by omega)⟩; have fz := V3 hg2; clear hg2; have HO := Lib.hid ho; clear ho; have HL := Lib.hid hL; clear hL; have HB2 := Lib.hid hb2; clear hb2)
      go_roundw
      case rel => exact ⟨k + 1, by omega, by go_num, by go_grown, by simp only [World.size_setCell]; omega, by
        have h := hP.out.step HB2.out hkl hk HX.out HO.out HL.out
        rw [show GoD.n Zh = 2 from rfl] at h
        simp only [World.setCells, Nat.add_assoc, Nat.reduceAdd] at h
        exact h⟩
      case measure => simp [intOf]; omega
    · obtain rfl : k = l.length := by omega
      go_wp2
      go_ret
      obtain ⟨L, hL, hLB⟩ := hP.out.done hlm
      exact ⟨_, L, rfl, hB, hL, hLB⟩
set_option maxRecDepth 100000 in
set_option maxHeartbeats 1000000 in
theorem toIntS_c (w : World) (v : Value) (l : List Int) (ha : rd w [v] l) (hsz : GoD.size l ≤ 1048576) : Calls Tryz.prog 62 #[v] w (RetS w l) := by
  obtain ⟨oa, cap, e1, hl, hm, hel⟩ := ha
  obtain rfl : v = _ := by simpa using e1
  clear e1
  have HE := Lib.hid hel; clear hel
  have hn : l.length ≤ 1048576 := by have := Ka l; omega
  have HS := Lib.hid (fun i a (h : l[i]? = some a) => Jn h)
  have hlm : l.length ≤ maxLen := by omega
  go_enter Tryz.func62, Tryz.ntmps62
  go_wp2_with (at_make; refine wp_make w (.tmp 6) (.tmp 6) 29 3 1 l.length rfl rfl Tryz.underlying29 (by kernel_rfl) rfl rfl (by omega) (by go_grown) ?_; intro w1 cur hcur hcs hB1 hb1 hlt1)
  go_loopw [4] (fun i wr => ∃ k : Nat, k ≤ l.length ∧ i = .int .i64 k ∧ Below w.heap.size w wr ∧ w.heap.size < wr.heap.size ∧ Hid (Part wr w.heap.size l.length 3 l k)) (fun i _ => l.length - (intOf i).toNat)
  case atStart => exact ⟨0, Nat.zero_le _, rfl, hB1, hlt1, Part.start hcur hcs l⟩
  case round =>
    obtain ⟨k, hk, rfl, hB, hlt, hP⟩ := hrel
    clear hB1 hb1 hlt1 hcur hcs
    by_cases hkl : k < l.length
    · have hx := List.getElem?_eq_getElem hkl
      obtain ⟨eb, eo, ee, rfl, hcl, hcc, hxr⟩ := HE.out k _ hx
      have hxs := HS.out k _ hx
      have HX := Lib.hid hx; clear hx
      generalize l[k] = x at *
      obtain ⟨cur2, hg, hgs⟩ := hP.out.block
      have hgs2 : cur2.size = l.length * 1 := hgs
      have hroom := Nat.mul_le_mul_right 1 (show k + 1 ≤ l.length by omega)
      obtain ⟨e, hxi⟩ := hxr
      obtain rfl := e
      have p0 : wr.cell? ⟨eb, eo + k, none⟩ = some (.int .i64 x) := by have h0 := hcc 0 _ rfl; simp only [GoD.n, Nat.mul_one, Nat.add_zero] at h0; exact (hB.cell (World.block_lt_of_cell? w _ h0)).trans h0
      have HXI := Lib.hid hxi; clear hxi
      obtain ⟨y0, q0⟩ : ∃ y, wr.cell? ⟨w.heap.size, k, none⟩ = some y := ⟨_, Q8 hg k (by omega)⟩
      have fz := V3 hg
      clear hcc hcl hg hgs
      go_wp2
      go_roundw
      case rel => exact ⟨k + 1, by omega, by go_num, by go_grown, by simpa using hlt, by
        have h := hP.out.step (Below.refl _ _) hkl hk HX.out (own_i wr HXI.out) (by simp)
        simp only [GoD.n, Nat.mul_one, World.setCells] at h
        exact h⟩
      case measure => simp [intOf]; omega
    · obtain rfl : k = l.length := by omega
      go_wp2
      go_ret
      obtain ⟨L, hL, hLB⟩ := hP.out.done hlm
      exact ⟨_, L, rfl, hB, hL, hLB⟩
set_option maxHeartbeats 1000000 in
theorem toResult_c (w : World) (ca : List Value) (a : Qi) (ha : rd w ca a) (hsz : GoD.size a ≤ 1048576) : Calls Tryz.prog 160 #[.agg ca.toArray] w (RetA w a) := by
  obtain ⟨a1, a2⟩ := a
  obtain ⟨ac1, at1, rfl, ar1, ar2⟩ := ha
  obtain ⟨rfl, ar1⟩ := ar1
  obtain ⟨ax2_0, rfl⟩ := len1 (show _ = 1 from GoD.rd_len ar2)
  dsimp only [List.cons_append, List.nil_append] at *
  replace hsz : (GoD.size a1 + GoD.size a2) ≤ 1048576 := hsz
  have AR1H := Lib.hid ar1; clear ar1
  have AR2H := Lib.hid ar2; clear ar2
  have tok1 : True := trivial
  go_enter Tryz.func160, Tryz.ntmps160
  go_wp2_with (first | (go_at_call 62; have tk := tok1; clear tok1; refine V9 (w := w) (toIntS_c _ ax2_0 a2 (Qh AR2H.out (by go_grown)) (by omega)) (by go_grown) ?_; intro w1 v1 L1 hB hb hz _ ho1 hL1; obtain ⟨oa1, cp1, rfl⟩ := Zr ho1; have hz2 := hb.size; (repeat (first | rewrite [World.size_alloc] at hz2 | rewrite [World.size_setCell] at hz2 | rewrite [World.size_drew] at hz2)); (repeat (first | rewrite [World.size_alloc] at hL1 | rewrite [World.size_setCell] at hL1 | rewrite [World.size_drew] at hL1)); have hlt1 := GoD.own_lt ho1; have c1_0 := fun o => Xy hb (w.heap.size) o (by go_size); have f1_0 := fun o => Ji hb (w.heap.size) o (by go_size); have c1_1 := fun o => Xy hb (w.heap.size + 1) o (by go_size); have f1_1 := fun o => Ji hb (w.heap.size + 1) o (by go_size); have c1_2 := fun o => Xy hb (w.heap.size + 1 + 1) o (by go_size); have f1_2 := fun o => Ji hb (w.heap.size + 1 + 1) o (by go_size); have HO1 := Lib.hid ho1; clear ho1; have HL1 := Lib.hid hL1; clear hL1; have HT1 := Lib.hid hlt1; clear hlt1; have HB1 := Lib.hid hb; clear hb) | ((with_reducible show bodyPost _ _ _ _ _ _); refine bodyPost_ret (v := .agg #[.string a1, .slice oa1 a2.length cp1]) (by simp [results, Tryz.results160, go_sem, c1_1]) rfl ⟨[.string a1, .slice oa1 a2.length cp1], ([] ++ L1), rfl, by go_grown, ?_, ?_⟩; (exact (Zd (own_s _ AR1H.out) (show own L1 _ [.slice oa1 a2.length cp1] a2 by (repeat (first | (with_reducible exact HO1.out) | ((with_reducible refine Y6 ?_ ?_); rotate_left; exact (fun hm => by have := HL1.out _ hm; omega)) | (with_reducible refine Ja ?_) | (with_reducible refine Kt ?_)))) (by simp))); intro x hx; (try simp only [List.mem_append, List.not_mem_nil, List.append_nil, List.nil_append, false_or, or_false] at hx); rcases hx with hx <;> first | (have := HL1.out x hx; omega)))
set_option maxHeartbeats 1000000 in
theorem toField_c (w : World) (ca : List Value) (a : Jr) (ha : rd w ca a) (hsz : GoD.size a ≤ 1048576) : Calls Tryz.prog 90 #[.agg ca.toArray] w (RetA w a) := by
  obtain ⟨a1, a2⟩ := a
  obtain ⟨ac1, at1, rfl, ar1, ar2⟩ := ha
  obtain ⟨rfl, ar1⟩ := ar1
  obtain ⟨rfl, ar2⟩ := ar2
  dsimp only [List.cons_append, List.nil_append] at *
  replace hsz : (GoD.size a1 + GoD.size a2) ≤ 1048576 := hsz
  have AR1H := Lib.hid ar1; clear ar1
  have AR2H := Lib.hid ar2; clear ar2
  go_enter Tryz.func90, Tryz.ntmps90
  go_wp2_with (first | ((with_reducible show bodyPost _ _ _ _ _ _); refine bodyPost_ret (v := .agg #[.string a1, .int .i64 a2]) (by simp [results, Tryz.results90, go_sem]) rfl ⟨[.string a1, .int .i64 a2], ([] ++ []), rfl, by go_grown, ?_, ?_⟩; (exact (Zd (own_s _ AR1H.out) (own_i _ AR2H.out) (by simp))); simp))
set_option maxRecDepth 100000 in
set_option maxHeartbeats 1000000 in
theorem toFieldS_c (w : World) (v : Value) (l : List Jr) (ha : rd w [v] l) (hsz : GoD.size l ≤ 1048576) : Calls Tryz.prog 39 #[v] w (RetS w l) := by
  obtain ⟨oa, cap, e1, hl, hm, hel⟩ := ha
  obtain rfl : v = _ := by simpa using e1
  clear e1
  have HE := Lib.hid hel; clear hel
  have hn : l.length ≤ 1048576 := by have := Ka l; omega
  have HS := Lib.hid (fun i a (h : l[i]? = some a) => Jn h)
  have hlm : l.length ≤ maxLen := by omega
  go_enter Tryz.func39, Tryz.ntmps39
  go_wp2_with (at_make; refine wp_make w (.tmp 6) (.tmp 6) 31 144 2 l.length rfl rfl Tryz.underlying31 (by kernel_rfl) rfl rfl (by omega) (by go_grown) ?_; intro w1 cur hcur hcs hB1 hb1 hlt1)
  go_loopw [4] (fun i wr => ∃ k : Nat, k ≤ l.length ∧ i = .int .i64 k ∧ Below w.heap.size w wr ∧ w.heap.size < wr.heap.size ∧ Hid (Part wr w.heap.size l.length 144 l k)) (fun i _ => l.length - (intOf i).toNat)
  case atStart => exact ⟨0, Nat.zero_le _, rfl, hB1, hlt1, Part.start hcur hcs l⟩
  case round =>
    obtain ⟨k, hk, rfl, hB, hlt, hP⟩ := hrel
    clear hB1 hb1 hlt1 hcur hcs
    by_cases hkl : k < l.length
    · have hx := List.getElem?_eq_getElem hkl
      obtain ⟨eb, eo, ee, rfl, hcl, hcc, hxr⟩ := HE.out k _ hx
      have hxs := HS.out k _ hx
      have HX := Lib.hid hx; clear hx
      generalize l[k] = x at *
      obtain ⟨cur2, hg, hgs⟩ := hP.out.block
      have hgs2 : cur2.size = l.length * 2 := hgs
      have hroom := Nat.mul_le_mul_right 2 (show k + 1 ≤ l.length by omega)
      obtain ⟨x0, x1, rfl⟩ := len2 (show _ = 2 from hcl)
      have p0 : wr.cell? ⟨eb, eo + k * 2, none⟩ = some x0 := (hB.cell (World.block_lt_of_cell? w _ (hcc 0 _ rfl))).trans (hcc 0 _ rfl)
      have p1 : wr.cell? ⟨eb, eo + k * 2 + 1, none⟩ = some x1 := (hB.cell (World.block_lt_of_cell? w _ (hcc 1 _ rfl))).trans (hcc 1 _ rfl)
      have HXR := Lib.hid hxr; clear hxr hcc hcl
      have HG := Lib.hid hg; clear hg
      go_wp2_with (go_at_call 90; refine Vt (w := w) (toField_c _ [x0, x1] x (Qh HXR.out hB) (by omega)) (by go_grown) ?_; intro w2 cs L hB2 hb2 hz2 _ ho hL; obtain rfl := cells_Field (GoD.own_rd ho); have hg2 := (hb2.block _ hlt).trans HG.out; obtain ⟨z0, q0⟩ : ∃ y, w2.cell? ⟨w.heap.size, k * 2, none⟩ = some y := ⟨_, Q8 hg2 _ (by omega)⟩; obtain ⟨z1, q1⟩ : ∃ y, w2.cell? ⟨w.heap.size, k * 2 + 1, none⟩ = some y := ⟨_, Q8 hg2 _ (by omega)⟩; have fz := V3 hg2; clear hg2; have HO := Lib.hid ho; clear ho; have HL := Lib.hid hL; clear hL; have HB2 := Lib.hid hb2; clear hb2)
      go_roundw
      case rel => exact ⟨k + 1, by omega, by go_num, by go_grown, by simp only [World.size_setCell]; omega, by
        have h := hP.out.step HB2.out hkl hk HX.out HO.out HL.out
        rw [show GoD.n Jr = 2 from rfl] at h
        simp only [World.setCells, Nat.add_assoc, Nat.reduceAdd] at h
        exact h⟩
      case measure => simp [intOf]; omega
    · obtain rfl : k = l.length := by omega
      go_wp2
      go_ret
      obtain ⟨L, hL, hLB⟩ := hP.out.done hlm
      exact ⟨_, L, rfl, hB, hL, hLB⟩
set_option maxHeartbeats 1000000 in
theorem toAttr_c (w : World) (ca : List Value) (a : AttrD) (ha : rd w ca a) (hsz : GoD.size a ≤ 1048576) : Calls Tryz.prog 171 #[.agg ca.toArray] w (RetA w a) := by
  obtain ⟨a1, a2⟩ := a
  obtain ⟨ac1, at1, rfl, ar1, ar2⟩ := ha
  obtain ⟨rfl, ar1⟩ := ar1
  obtain ⟨ax2_0, ax2_1, ax2_2, rfl⟩ := len3 (show _ = 3 from GoD.rd_len ar2)
  dsimp only [List.cons_append, List.nil_append] at *
  replace hsz : (GoD.size a1 + GoD.size a2) ≤ 1048576 := hsz
  have AR1H := Lib.hid ar1; clear ar1
  have AR2H := Lib.hid ar2; clear ar2
  have tok1 : True := trivial
  go_enter Tryz.func171, Tryz.ntmps171
  go_wp2_with (first | (go_at_call 172; have tk := tok1; clear tok1; refine Vt (w := w) (toValue_c _ [ax2_0, ax2_1, ax2_2] a2 (Qh AR2H.out (by go_grown)) (by omega)) (by go_grown) ?_; intro w1 cs1 L1 hB hb hz _ ho1 hL1; obtain rfl := cells_Value (GoD.own_rd ho1); have hz2 := hb.size; (repeat (first | rewrite [World.size_alloc] at hz2 | rewrite [World.size_setCell] at hz2 | rewrite [World.size_drew] at hz2)); (repeat (first | rewrite [World.size_alloc] at hL1 | rewrite [World.size_setCell] at hL1 | rewrite [World.size_drew] at hL1)); have hlt1 := GoD.own_lt ho1; have c1_0 := fun o => Xy hb (w.heap.size) o (by go_size); have f1_0 := fun o => Ji hb (w.heap.size) o (by go_size); have c1_1 := fun o => Xy hb (w.heap.size + 1) o (by go_size); have f1_1 := fun o => Ji hb (w.heap.size + 1) o (by go_size); have c1_2 := fun o => Xy hb (w.heap.size + 1 + 1) o (by go_size); have f1_2 := fun o => Ji hb (w.heap.size + 1 + 1) o (by go_size); have HO1 := Lib.hid ho1; clear ho1; have HL1 := Lib.hid hL1; clear hL1; have HT1 := Lib.hid hlt1; clear hlt1; have HB1 := Lib.hid hb; clear hb) | ((with_reducible show bodyPost _ _ _ _ _ _); refine bodyPost_ret (v := .agg #[.string a1, .int .i64 a2.1, .int .i64 a2.2.1, .string a2.2.2]) (by simp [results, Tryz.results171, go_sem, c1_1]) rfl ⟨[.string a1, .int .i64 a2.1, .int .i64 a2.2.1, .string a2.2.2], ([] ++ L1), rfl, by go_grown, ?_, ?_⟩; (exact (Zd (own_s _ AR1H.out) (show own L1 _ [.int .i64 a2.1, .int .i64 a2.2.1, .string a2.2.2] a2 by (repeat (first | (with_reducible exact HO1.out) | ((with_reducible refine Y6 ?_ ?_); rotate_left; exact (fun hm => by have := HL1.out _ hm; omega)) | (with_reducible refine Ja ?_) | (with_reducible refine Kt ?_)))) (by simp))); intro x hx; (try simp only [List.mem_append, List.not_mem_nil, List.append_nil, List.nil_append, false_or, or_false] at hx); rcases hx with hx <;> first | (have := HL1.out x hx; omega)))
set_option maxRecDepth 100000 in
set_option maxHeartbeats 1000000 in
theorem toAttrS_c (w : World) (v : Value) (l : List AttrD) (ha : rd w [v] l) (hsz : GoD.size l ≤ 1048576) : Calls Tryz.prog 130 #[v] w (RetS w l) := by
  obtain ⟨oa, cap, e1, hl, hm, hel⟩ := ha
  obtain rfl : v = _ := by simpa using e1
  clear e1
  have HE := Lib.hid hel; clear hel
  have hn : l.length ≤ 1048576 := by have := Ka l; omega
  have HS := Lib.hid (fun i a (h : l[i]? = some a) => Jn h)
  have hlm : l.length ≤ maxLen := by omega
  go_enter Tryz.func130, Tryz.ntmps130
  go_wp2_with (at_make; refine wp_make w (.tmp 6) (.tmp 6) 146 221 4 l.length rfl rfl Tryz.underlying146 (by kernel_rfl) rfl rfl (by omega) (by go_grown) ?_; intro w1 cur hcur hcs hB1 hb1 hlt1)
  go_loopw [4] (fun i wr => ∃ k : Nat, k ≤ l.length ∧ i = .int .i64 k ∧ Below w.heap.size w wr ∧ w.heap.size < wr.heap.size ∧ Hid (Part wr w.heap.size l.length 221 l k)) (fun i _ => l.length - (intOf i).toNat)
  case atStart => exact ⟨0, Nat.zero_le _, rfl, hB1, hlt1, Part.start hcur hcs l⟩
  case round =>
    obtain ⟨k, hk, rfl, hB, hlt, hP⟩ := hrel
    clear hB1 hb1 hlt1 hcur hcs
    by_cases hkl : k < l.length
    · have hx := List.getElem?_eq_getElem hkl
      obtain ⟨eb, eo, ee, rfl, hcl, hcc, hxr⟩ := HE.out k _ hx
      have hxs := HS.out k _ hx
      have HX := Lib.hid hx; clear hx
      generalize l[k] = x at *
      obtain ⟨cur2, hg, hgs⟩ := hP.out.block
      have hgs2 : cur2.size = l.length * 4 := hgs
      have hroom := Nat.mul_le_mul_right 4 (show k + 1 ≤ l.length by omega)
      obtain ⟨x0, x1, x2, x3, rfl⟩ := len4 (show _ = 4 from hcl)
      have p0 : wr.cell? ⟨eb, eo + k * 4, none⟩ = some x0 := (hB.cell (World.block_lt_of_cell? w _ (hcc 0 _ rfl))).trans (hcc 0 _ rfl)
      have p1 : wr.cell? ⟨eb, eo + k * 4 + 1, none⟩ = some x1 := (hB.cell (World.block_lt_of_cell? w _ (hcc 1 _ rfl))).trans (hcc 1 _ rfl)
      have p2 : wr.cell? ⟨eb, eo + k * 4 + 2, none⟩ = some x2 := (hB.cell (World.block_lt_of_cell? w _ (hcc 2 _ rfl))).trans (hcc 2 _ rfl)
      have p3 : wr.cell? ⟨eb, eo + k * 4 + 3, none⟩ = some x3 := (hB.cell (World.block_lt_of_cell? w _ (hcc 3 _ rfl))).trans (hcc 3 _ rfl)
      have HXR := Lib.hid hxr; clear hxr hcc hcl
      have HG := Lib.hid hg; clear hg
      go_wp2_with (go_at_call 171; refine Vt (w := w) (toAttr_c _ [x0, x1, x2, x3] x (Qh HXR.out hB) (by omega)) (by go_grown) ?_; intro w2 cs L hB2 hb2 hz2 _ ho hL; obtain rfl := cells_Attr (GoD.own_rd ho); have hg2 := (hb2.block _ hlt).trans HG.out; obtain ⟨z0, q0⟩ : ∃ y, w2.cell? ⟨w.heap.size, k * 4, none⟩ = some y := ⟨_, Q8 hg2 _ (by omega)⟩; obtain ⟨z1, q1⟩ : ∃ y, w2.cell? ⟨w.heap.size, k * 4 + 1, none⟩ = some y := ⟨_, Q8 hg2 _ (by omega)⟩; obtain ⟨z2, q2⟩ : ∃ y, w2.cell? ⟨w.heap.size, k * 4 + 2, none⟩ = some y := ⟨_, Q8 hg2 _ (by omega)⟩; obtain ⟨z3, q3⟩ : ∃ y, w2.cell? ⟨w.heap.size, k * 4 + 3, none⟩ = some y := ⟨_, Q8 hg2 _ (by omega)⟩; have fz := V3 hg2; clear hg2; have HO := Lib.hid ho; clear ho; have HL := Lib.hid hL; clear hL; have HB2 := Lib.hid hb2; clear hb2)
      go_roundw
      case rel => exact ⟨k + 1, by omega, by go_num, by go_grown, by simp only [World.size_setCell]; omega, by
        have h := hP.out.step HB2.out hkl hk HX.out HO.out HL.out
        rw [show GoD.n AttrD = 4 from rfl] at h
        simp only [World.setCells, Nat.add_assoc, Nat.reduceAdd] at h
        exact h⟩
      case measure => simp [intOf]; omega
    · obtain rfl : k = l.length := by omega
      go_wp2
      go_ret
      obtain ⟨L, hL, hLB⟩ := hP.out.done hlm
      exact ⟨_, L, rfl, hB, hL, hLB⟩
set_option maxHeartbeats 1000000 in
theorem toFile_c (w : World) (ca : List Value) (a : Yo) (ha : rd w ca a) (hsz : GoD.size a ≤ 1048576) : Calls Tryz.prog 91 #[.agg ca.toArray] w (RetA w a) := by
  obtain ⟨a1, a2, a3, a4, a5⟩ := a
  obtain ⟨ac1, at1, rfl, ar1, ac2, at2, rfl, ar2, ac3, at3, rfl, ar3, ac4, at4, rfl, ar4, ar5⟩ := ha
  obtain ⟨rfl, ar1⟩ := ar1
  obtain ⟨rfl, ar2⟩ := ar2
  obtain rfl := ar3
  obtain ⟨rfl, ar4⟩ := ar4
  obtain ⟨ax5_0, rfl⟩ := len1 (show _ = 1 from GoD.rd_len ar5)
  dsimp only [List.cons_append, List.nil_append] at *
  replace hsz : (GoD.size a1 + (GoD.size a2 + (GoD.size a3 + (GoD.size a4 + GoD.size a5)))) ≤ 1048576 := hsz
  have AR1H := Lib.hid ar1; clear ar1
  have AR2H := Lib.hid ar2; clear ar2
  have AR4H := Lib.hid ar4; clear ar4
  have AR5H := Lib.hid ar5; clear ar5
  have tok1 : True := trivial
  go_enter Tryz.func91, Tryz.ntmps91
  go_wp2_with (first | (go_at_call 130; have tk := tok1; clear tok1; refine V9 (w := w) (toAttrS_c _ ax5_0 a5 (Qh AR5H.out (by go_grown)) (by omega)) (by go_grown) ?_; intro w1 v1 L1 hB hb hz _ ho1 hL1; obtain ⟨oa1, cp1, rfl⟩ := Zr ho1; have hz2 := hb.size; (repeat (first | rewrite [World.size_alloc] at hz2 | rewrite [World.size_setCell] at hz2 | rewrite [World.size_drew] at hz2)); (repeat (first | rewrite [World.size_alloc] at hL1 | rewrite [World.size_setCell] at hL1 | rewrite [World.size_drew] at hL1)); have hlt1 := GoD.own_lt ho1; have c1_0 := fun o => Xy hb (w.heap.size) o (by go_size); have f1_0 := fun o => Ji hb (w.heap.size) o (by go_size); have c1_1 := fun o => Xy hb (w.heap.size + 1) o (by go_size); have f1_1 := fun o => Ji hb (w.heap.size + 1) o (by go_size); have c1_2 := fun o => Xy hb (w.heap.size + 1 + 1) o (by go_size); have f1_2 := fun o => Ji hb (w.heap.size + 1 + 1) o (by go_size); have HO1 := Lib.hid ho1; clear ho1; have HL1 := Lib.hid hL1; clear hL1; have HT1 := Lib.hid hlt1; clear hlt1; have HB1 := Lib.hid hb; clear hb) | ((with_reducible show bodyPost _ _ _ _ _ _); refine bodyPost_ret (v := .agg #[.int .i64 a1, .int .i64 a2, .bool a3, .int .i64 a4, .slice oa1 a5.length cp1]) (by simp [results, Tryz.results91, go_sem, c1_1]) rfl ⟨[.int .i64 a1, .int .i64 a2, .bool a3, .int .i64 a4, .slice oa1 a5.length cp1], ([] ++ ([] ++ ([] ++ ([] ++ L1)))), rfl, by go_grown, ?_, ?_⟩; (exact (Zd (own_i _ AR1H.out) (Zd (own_i _ AR2H.out) (Zd (own_b _ _) (Zd (own_i _ AR4H.out) (show own L1 _ [.slice oa1 a5.length cp1] a5 by (repeat (first | (with_reducible exact HO1.out) | ((with_reducible refine Y6 ?_ ?_); rotate_left; exact (fun hm => by have := HL1.out _ hm; omega)) | (with_reducible refine Ja ?_) | (with_reducible refine Kt ?_)))) (by simp)) (by simp)) (by simp)) (by simp))); intro x hx; (try simp only [List.mem_append, List.not_mem_nil, List.append_nil, List.nil_append, false_or, or_false] at hx); rcases hx with hx <;> first | (have := HL1.out x hx; omega)))
set_option maxRecDepth 100000 in
set_option maxHeartbeats 1000000 in
theorem toFileS_c (w : World) (v : Value) (l : List Yo) (ha : rd w [v] l) (hsz : GoD.size l ≤ 1048576) : Calls Tryz.prog 40 #[v] w (RetS w l) := by
  obtain ⟨oa, cap, e1, hl, hm, hel⟩ := ha
  obtain rfl : v = _ := by simpa using e1
  clear e1
  have HE := Lib.hid hel; clear hel
  have hn : l.length ≤ 1048576 := by have := Ka l; omega
  have HS := Lib.hid (fun i a (h : l[i]? = some a) => Jn h)
  have hlm : l.length ≤ maxLen := by omega
  go_enter Tryz.func40, Tryz.ntmps40
  go_wp2_with (at_make; refine wp_make w (.tmp 6) (.tmp 6) 32 148 5 l.length rfl rfl Tryz.underlying32 (by kernel_rfl) rfl rfl (by omega) (by go_grown) ?_; intro w1 cur hcur hcs hB1 hb1 hlt1)
  go_loopw [4] (fun i wr => ∃ k : Nat, k ≤ l.length ∧ i = .int .i64 k ∧ Below w.heap.size w wr ∧ w.heap.size < wr.heap.size ∧ Hid (Part wr w.heap.size l.length 148 l k)) (fun i _ => l.length - (intOf i).toNat)
  case atStart => exact ⟨0, Nat.zero_le _, rfl, hB1, hlt1, Part.start hcur hcs l⟩
  case round =>
    obtain ⟨k, hk, rfl, hB, hlt, hP⟩ := hrel
    clear hB1 hb1 hlt1 hcur hcs
    by_cases hkl : k < l.length
    · have hx := List.getElem?_eq_getElem hkl
      obtain ⟨eb, eo, ee, rfl, hcl, hcc, hxr⟩ := HE.out k _ hx
      have hxs := HS.out k _ hx
      have HX := Lib.hid hx; clear hx
      generalize l[k] = x at *
      obtain ⟨cur2, hg, hgs⟩ := hP.out.block
      have hgs2 : cur2.size = l.length * 5 := hgs
      have hroom := Nat.mul_le_mul_right 5 (show k + 1 ≤ l.length by omega)
      obtain ⟨x0, x1, x2, x3, x4, rfl⟩ := len5 (show _ = 5 from hcl)
      have p0 : wr.cell? ⟨eb, eo + k * 5, none⟩ = some x0 := (hB.cell (World.block_lt_of_cell? w _ (hcc 0 _ rfl))).trans (hcc 0 _ rfl)
      have p1 : wr.cell? ⟨eb, eo + k * 5 + 1, none⟩ = some x1 := (hB.cell (World.block_lt_of_cell? w _ (hcc 1 _ rfl))).trans (hcc 1 _ rfl)
      have p2 : wr.cell? ⟨eb, eo + k * 5 + 2, none⟩ = some x2 := (hB.cell (World.block_lt_of_cell? w _ (hcc 2 _ rfl))).trans (hcc 2 _ rfl)
      have p3 : wr.cell? ⟨eb, eo + k * 5 + 3, none⟩ = some x3 := (hB.cell (World.block_lt_of_cell? w _ (hcc 3 _ rfl))).trans (hcc 3 _ rfl)
      have p4 : wr.cell? ⟨eb, eo + k * 5 + 4, none⟩ = some x4 := (hB.cell (World.block_lt_of_cell? w _ (hcc 4 _ rfl))).trans (hcc 4 _ rfl)
      have HXR := Lib.hid hxr; clear hxr hcc hcl
      have HG := Lib.hid hg; clear hg
      go_wp2_with (go_at_call 91; refine Vt (w := w) (toFile_c _ [x0, x1, x2, x3, x4] x (Qh HXR.out hB) (by omega)) (by go_grown) ?_; intro w2 cs L hB2 hb2 hz2 _ ho hL; obtain ⟨eoa1, ecp1, rfl⟩ := cells_File (GoD.own_rd ho); have hg2 := (hb2.block _ hlt).trans HG.out; obtain ⟨z0, q0⟩ : ∃ y, w2.cell? ⟨w.heap.size, k * 5, none⟩ = some y := ⟨_, Q8 hg2 _ (by omega)⟩; obtain ⟨z1, q1⟩ : ∃ y, w2.cell? ⟨w.heap.size, k * 5 + 1, none⟩ = some y := ⟨_, Q8 hg2 _ (by omega)⟩; obtain ⟨z2, q2⟩ : ∃ y, w2.cell? ⟨w.heap.size, k * 5 + 2, none⟩ = some y := ⟨_, Q8 hg2 _ (by omega)⟩; obtain ⟨z3, q3⟩ : ∃ y, w2.cell? ⟨w.heap.size, k * 5 + 3, none⟩ = some y := ⟨_, Q8 hg2 _ (by omega)⟩; obtain ⟨z4, q4⟩ : ∃ y, w2.cell? ⟨w.heap.size, k * 5 + 4, none⟩ = some y := ⟨_, Q8 hg2 _ (by omega)⟩; have fz := V3 hg2; clear hg2; have HO := Lib.hid ho; clear ho; have HL := Lib.hid hL; clear hL; have HB2 := Lib.hid hb2; clear hb2)
      go_roundw
      case rel => exact ⟨k + 1, by omega, by go_num, by go_grown, by simp only [World.size_setCell]; omega, by
        have h := hP.out.step HB2.out hkl hk HX.out HO.out HL.out
        rw [show GoD.n Yo = 5 from rfl] at h
        simp only [World.setCells, Nat.add_assoc, Nat.reduceAdd] at h
        exact h⟩
      case measure => simp [intOf]; omega
    · obtain rfl : k = l.length := by omega
      go_wp2
      go_ret
      obtain ⟨L, hL, hLB⟩ := hP.out.done hlm
      exact ⟨_, L, rfl, hB, hL, hLB⟩
set_option maxHeartbeats 1000000 in
theorem toStore_c (w : World) (ca : List Value) (a : Yn) (ha : rd w ca a) (hsz : GoD.size a ≤ 1048576) : Calls Tryz.prog 10 #[.agg ca.toArray] w (RetA w a) := by
  obtain ⟨a1, a2, a3⟩ := a
  obtain ⟨ac1, at1, rfl, ar1, ac2, at2, rfl, ar2, ar3⟩ := ha
  obtain ⟨ax1_0, rfl⟩ := len1 (show _ = 1 from GoD.rd_len ar1)
  obtain ⟨ax2_0, rfl⟩ := len1 (show _ = 1 from GoD.rd_len ar2)
  obtain ⟨rfl, ar3⟩ := ar3
  dsimp only [List.cons_append, List.nil_append] at *
  replace hsz : (GoD.size a1 + (GoD.size a2 + GoD.size a3)) ≤ 1048576 := hsz
  have AR1H := Lib.hid ar1; clear ar1
  have AR2H := Lib.hid ar2; clear ar2
  have AR3H := Lib.hid ar3; clear ar3
  have tok1 : True := trivial
  have tok2 : True := trivial
  go_enter Tryz.func10, Tryz.ntmps10
  go_wp2_with (first | (go_at_call 39; have tk := tok1; clear tok1; refine V9 (w := w) (toFieldS_c _ ax1_0 a1 (Qh AR1H.out (by go_grown)) (by omega)) (by go_grown) ?_; intro w1 v1 L1 hB hb hz _ ho1 hL1; obtain ⟨oa1, cp1, rfl⟩ := Zr ho1; have hz2 := hb.size; (repeat (first | rewrite [World.size_alloc] at hz2 | rewrite [World.size_setCell] at hz2 | rewrite [World.size_drew] at hz2)); (repeat (first | rewrite [World.size_alloc] at hL1 | rewrite [World.size_setCell] at hL1 | rewrite [World.size_drew] at hL1)); have hlt1 := GoD.own_lt ho1; have c1_0 := fun o => Xy hb (w.heap.size) o (by go_size); have f1_0 := fun o => Ji hb (w.heap.size) o (by go_size); have c1_1 := fun o => Xy hb (w.heap.size + 1) o (by go_size); have f1_1 := fun o => Ji hb (w.heap.size + 1) o (by go_size); have c1_2 := fun o => Xy hb (w.heap.size + 1 + 1) o (by go_size); have f1_2 := fun o => Ji hb (w.heap.size + 1 + 1) o (by go_size); have HO1 := Lib.hid ho1; clear ho1; have HL1 := Lib.hid hL1; clear hL1; have HT1 := Lib.hid hlt1; clear hlt1; have HB1 := Lib.hid hb; clear hb) | (go_at_call 40; have tk := tok2; clear tok2; refine V9 (w := w) (toFileS_c _ ax2_0 a2 (Qh AR2H.out (by go_grown)) (by omega)) (by go_grown) ?_; intro w2 v2 L2 hB hb hz _ ho2 hL2; obtain ⟨oa2, cp2, rfl⟩ := Zr ho2; have hz2 := hb.size; (repeat (first | rewrite [World.size_alloc] at hz2 | rewrite [World.size_setCell] at hz2 | rewrite [World.size_drew] at hz2)); (repeat (first | rewrite [World.size_alloc] at hL2 | rewrite [World.size_setCell] at hL2 | rewrite [World.size_drew] at hL2)); have hlt2 := GoD.own_lt ho2; have c2_0 := fun o => Xy hb (w.heap.size) o (by go_size); have f2_0 := fun o => Ji hb (w.heap.size) o (by go_size); have c2_1 := fun o => Xy hb (w.heap.size + 1) o (by go_size); have f2_1 := fun o => Ji hb (w.heap.size + 1) o (by go_size); have c2_2 := fun o => Xy hb (w.heap.size + 1 + 1) o (by go_size); have f2_2 := fun o => Ji hb (w.heap.size + 1 + 1) o (by go_size); have HO2 := Lib.hid ho2; clear ho2; have HL2 := Lib.hid hL2; clear hL2; have HT2 := Lib.hid hlt2; clear hlt2; have HB2 := Lib.hid hb; clear hb) | ((with_reducible show bodyPost _ _ _ _ _ _); refine bodyPost_ret (v := .agg #[.slice oa1 a1.length cp1, .slice oa2 a2.length cp2, .int .i64 a3]) (by simp [results, Tryz.results10, go_sem, c1_1, c2_1]) rfl ⟨[.slice oa1 a1.length cp1, .slice oa2 a2.length cp2, .int .i64 a3], (L1 ++ (L2 ++ [])), rfl, by go_grown, ?_, ?_⟩; (exact (Zd (show own L1 _ [.slice oa1 a1.length cp1] a1 by (repeat (first | (with_reducible exact HO1.out) | ((with_reducible refine Y6 ?_ ?_); rotate_left; exact (fun hm => by have := HL1.out _ hm; omega)) | (with_reducible refine Ja ?_) | (with_reducible refine Kt ?_) | (with_reducible refine Kv ?_ HB2.out)))) (Zd (show own L2 _ [.slice oa2 a2.length cp2] a2 by (repeat (first | (with_reducible exact HO2.out) | ((with_reducible refine Y6 ?_ ?_); rotate_left; exact (fun hm => by have := HL2.out _ hm; omega)) | (with_reducible refine Ja ?_) | (with_reducible refine Kt ?_)))) (own_i _ AR3H.out) (by simp)) (fun x hx hy => by (try simp only [List.mem_append, List.not_mem_nil, List.append_nil, List.nil_append, false_or, or_false] at hy); have := HT1.out x hx; rcases hy with hy <;> (first | (have := HL2.out x hy; omega))))); intro x hx; (try simp only [List.mem_append, List.not_mem_nil, List.append_nil, List.nil_append, false_or, or_false] at hx); rcases hx with hx | hx <;> first | (have := HL1.out x hx; omega) | (have := HL2.out x hx; omega)))
set_option maxHeartbeats 1000000 in
theorem toSnapshot_c (w : World) (ca : List Value) (a : SnapshotD) (ha : rd w ca a) (hsz : GoD.size a ≤ 1048576) : Calls Tryz.prog 161 #[.agg ca.toArray] w (RetA w a) := by
  obtain ⟨a1, a2⟩ := a
  obtain ⟨ac1, at1, rfl, ar1, ar2⟩ := ha
  obtain ⟨ax1_0, ax1_1, ax1_2, rfl⟩ := len3 (show _ = 3 from GoD.rd_len ar1)
  obtain ⟨ax2_0, rfl⟩ := len1 (show _ = 1 from GoD.rd_len ar2)
  dsimp only [List.cons_append, List.nil_append] at *
  replace hsz : (GoD.size a1 + GoD.size a2) ≤ 1048576 := hsz
  have AR1H := Lib.hid ar1; clear ar1
  have AR2H := Lib.hid ar2; clear ar2
  have tok1 : True := trivial
  have tok2 : True := trivial
  go_enter Tryz.func161, Tryz.ntmps161
  go_wp2_with (first | (go_at_call 10; have tk := tok1; clear tok1; refine Vt (w := w) (toStore_c _ [ax1_0, ax1_1, ax1_2] a1 (Qh AR1H.out (by go_grown)) (by omega)) (by go_grown) ?_; intro w1 cs1 L1 hB hb hz _ ho1 hL1; obtain ⟨r1_oa1, r1_cp1, r1_oa2, r1_cp2, rfl⟩ := cells_Store (GoD.own_rd ho1); have hz2 := hb.size; (repeat (first | rewrite [World.size_alloc] at hz2 | rewrite [World.size_setCell] at hz2 | rewrite [World.size_drew] at hz2)); (repeat (first | rewrite [World.size_alloc] at hL1 | rewrite [World.size_setCell] at hL1 | rewrite [World.size_drew] at hL1)); have hlt1 := GoD.own_lt ho1; have c1_0 := fun o => Xy hb (w.heap.size) o (by go_size); have f1_0 := fun o => Ji hb (w.heap.size) o (by go_size); have c1_1 := fun o => Xy hb (w.heap.size + 1) o (by go_size); have f1_1 := fun o => Ji hb (w.heap.size + 1) o (by go_size); have c1_2 := fun o => Xy hb (w.heap.size + 1 + 1) o (by go_size); have f1_2 := fun o => Ji hb (w.heap.size + 1 + 1) o (by go_size); have HO1 := Lib.hid ho1; clear ho1; have HL1 := Lib.hid hL1; clear hL1; have HT1 := Lib.hid hlt1; clear hlt1; have HB1 := Lib.hid hb; clear hb) | (go_at_call 11; have tk := tok2; clear tok2; refine V9 (w := w) (toDirS_c _ ax2_0 a2 (Qh AR2H.out (by go_grown)) (by omega)) (by go_grown) ?_; intro w2 v2 L2 hB hb hz _ ho2 hL2; obtain ⟨oa2, cp2, rfl⟩ := Zr ho2; have hz2 := hb.size; (repeat (first | rewrite [World.size_alloc] at hz2 | rewrite [World.size_setCell] at hz2 | rewrite [World.size_drew] at hz2)); (repeat (first | rewrite [World.size_alloc] at hL2 | rewrite [World.size_setCell] at hL2 | rewrite [World.size_drew] at hL2)); have hlt2 := GoD.own_lt ho2; have c2_0 := fun o => Xy hb (w.heap.size) o (by go_size); have f2_0 := fun o => Ji hb (w.heap.size) o (by go_size); have c2_1 := fun o => Xy hb (w.heap.size + 1) o (by go_size); have f2_1 := fun o => Ji hb (w.heap.size + 1) o (by go_size); have c2_2 := fun o => Xy hb (w.heap.size + 1 + 1) o (by go_size); have f2_2 := fun o => Ji hb (w.heap.size + 1 + 1) o (by go_size); have HO2 := Lib.hid ho2; clear ho2; have HL2 := Lib.hid hL2; clear hL2; have HT2 := Lib.hid hlt2; clear hlt2; have HB2 := Lib.hid hb; clear hb) | ((with_reducible show bodyPost _ _ _ _ _ _); refine bodyPost_ret (v := .agg #[.slice r1_oa1 a1.1.length r1_cp1, .slice r1_oa2 a1.2.1.length r1_cp2, .int .i64 a1.2.2, .slice oa2 a2.length cp2]) (by simp [results, Tryz.results161, go_sem, c1_1, c2_1]) rfl ⟨[.slice r1_oa1 a1.1.length r1_cp1, .slice r1_oa2 a1.2.1.length r1_cp2, .int .i64 a1.2.2, .slice oa2 a2.length cp2], (L1 ++ L2), rfl, by go_grown, ?_, ?_⟩; (exact (Zd (show own L1 _ [.slice r1_oa1 a1.1.length r1_cp1, .slice r1_oa2 a1.2.1.length r1_cp2, .int .i64 a1.2.2] a1 by (repeat (first | (with_reducible exact HO1.out) | ((with_reducible refine Y6 ?_ ?_); rotate_left; exact (fun hm => by have := HL1.out _ hm; omega)) | (with_reducible refine Ja ?_) | (with_reducible refine Kt ?_) | (with_reducible refine Kv ?_ HB2.out)))) (show own L2 _ [.slice oa2 a2.length cp2] a2 by (repeat (first | (with_reducible exact HO2.out) | ((with_reducible refine Y6 ?_ ?_); rotate_left; exact (fun hm => by have := HL2.out _ hm; omega)) | (with_reducible refine Ja ?_) | (with_reducible refine Kt ?_)))) (fun x hx hy => by (try simp only [List.mem_append, List.not_mem_nil, List.append_nil, List.nil_append, false_or, or_false] at hy); have := HT1.out x hx; rcases hy with hy <;> (first | (have := HL2.out x hy; omega))))); intro x hx; (try simp only [List.mem_append, List.not_mem_nil, List.append_nil, List.nil_append, false_or, or_false] at hx); rcases hx with hx | hx <;> first | (have := HL1.out x hx; omega) | (have := HL2.out x hx; omega)))
set_option maxHeartbeats 1000000 in
theorem toVersion_c (w : World) (ca : List Value) (a : VersionD) (ha : rd w ca a) (hsz : GoD.size a ≤ 1048576) : Calls Tryz.prog 118 #[.agg ca.toArray] w (RetA w a) := by
  obtain ⟨a1, a2, a3⟩ := a
  obtain ⟨ac1, at1, rfl, ar1, ac2, at2, rfl, ar2, ar3⟩ := ha
  obtain ⟨rfl, ar1⟩ := ar1
  obtain ⟨ax2_0, ax2_1, ax2_2, ax2_3, rfl⟩ := len4 (show _ = 4 from GoD.rd_len ar2)
  obtain ⟨rfl, ar3⟩ := ar3
  dsimp only [List.cons_append, List.nil_append] at *
  replace hsz : (GoD.size a1 + (GoD.size a2 + GoD.size a3)) ≤ 1048576 := hsz
  have AR1H := Lib.hid ar1; clear ar1
  have AR2H := Lib.hid ar2; clear ar2
  have AR3H := Lib.hid ar3; clear ar3
  have tok1 : True := trivial
  go_enter Tryz.func118, Tryz.ntmps118
  go_wp2_with (first | (go_at_call 161; have tk := tok1; clear tok1; refine Vt (w := w) (toSnapshot_c _ [ax2_0, ax2_1, ax2_2, ax2_3] a2 (Qh AR2H.out (by go_grown)) (by omega)) (by go_grown) ?_; intro w1 cs1 L1 hB hb hz _ ho1 hL1; obtain ⟨r1_oa1, r1_cp1, r1_oa2, r1_cp2, r1_oa3, r1_cp3, rfl⟩ := cells_Snapshot (GoD.own_rd ho1); have hz2 := hb.size; (repeat (first | rewrite [World.size_alloc] at hz2 | rewrite [World.size_setCell] at hz2 | rewrite [World.size_drew] at hz2)); (repeat (first | rewrite [World.size_alloc] at hL1 | rewrite [World.size_setCell] at hL1 | rewrite [World.size_drew] at hL1)); have hlt1 := GoD.own_lt ho1; have c1_0 := fun o => Xy hb (w.heap.size) o (by go_size); have f1_0 := fun o => Ji hb (w.heap.size) o (by go_size); have c1_1 := fun o => Xy hb (w.heap.size + 1) o (by go_size); have f1_1 := fun o => Ji hb (w.heap.size + 1) o (by go_size); have c1_2 := fun o => Xy hb (w.heap.size + 1 + 1) o (by go_size); have f1_2 := fun o => Ji hb (w.heap.size + 1 + 1) o (by go_size); have HO1 := Lib.hid ho1; clear ho1; have HL1 := Lib.hid hL1; clear hL1; have HT1 := Lib.hid hlt1; clear hlt1; have HB1 := Lib.hid hb; clear hb) | ((with_reducible show bodyPost _ _ _ _ _ _); refine bodyPost_ret (v := .agg #[.int .i64 a1, .slice r1_oa1 a2.1.1.length r1_cp1, .slice r1_oa2 a2.1.2.1.length r1_cp2, .int .i64 a2.1.2.2, .slice r1_oa3 a2.2.length r1_cp3, .int .i64 a3]) (by simp [results, Tryz.results118, go_sem, c1_1]) rfl ⟨[.int .i64 a1, .slice r1_oa1 a2.1.1.length r1_cp1, .slice r1_oa2 a2.1.2.1.length r1_cp2, .int .i64 a2.1.2.2, .slice r1_oa3 a2.2.length r1_cp3, .int .i64 a3], ([] ++ (L1 ++ [])), rfl, by go_grown, ?_, ?_⟩; (exact (Zd (own_i _ AR1H.out) (Zd (show own L1 _ [.slice r1_oa1 a2.1.1.length r1_cp1, .slice r1_oa2 a2.1.2.1.length r1_cp2, .int .i64 a2.1.2.2, .slice r1_oa3 a2.2.length r1_cp3] a2 by (repeat (first | (with_reducible exact HO1.out) | ((with_reducible refine Y6 ?_ ?_); rotate_left; exact (fun hm => by have := HL1.out _ hm; omega)) | (with_reducible refine Ja ?_) | (with_reducible refine Kt ?_)))) (own_i _ AR3H.out) (by simp)) (by simp))); intro x hx; (try simp only [List.mem_append, List.not_mem_nil, List.append_nil, List.nil_append, false_or, or_false] at hx); rcases hx with hx <;> first | (have := HL1.out x hx; omega)))
set_option maxRecDepth 100000 in
set_option maxHeartbeats 1000000 in
theorem toVersionS_c (w : World) (v : Value) (l : List VersionD) (ha : rd w [v] l) (hsz : GoD.size l ≤ 1048576) : Calls Tryz.prog 75 #[v] w (RetS w l) := by
  obtain ⟨oa, cap, e1, hl, hm, hel⟩ := ha
  obtain rfl : v = _ := by simpa using e1
  clear e1
  have HE := Lib.hid hel; clear hel
  have hn : l.length ≤ 1048576 := by have := Ka l; omega
  have HS := Lib.hid (fun i a (h : l[i]? = some a) => Jn h)
  have hlm : l.length ≤ maxLen := by omega
  go_enter Tryz.func75, Tryz.ntmps75
  go_wp2_with (at_make; refine wp_make w (.tmp 6) (.tmp 6) 74 184 6 l.length rfl rfl Tryz.underlying74 (by kernel_rfl) rfl rfl (by omega) (by go_grown) ?_; intro w1 cur hcur hcs hB1 hb1 hlt1)
  go_loopw [4] (fun i wr => ∃ k : Nat, k ≤ l.length ∧ i = .int .i64 k ∧ Below w.heap.size w wr ∧ w.heap.size < wr.heap.size ∧ Hid (Part wr w.heap.size l.length 184 l k)) (fun i _ => l.length - (intOf i).toNat)
  case atStart => exact ⟨0, Nat.zero_le _, rfl, hB1, hlt1, Part.start hcur hcs l⟩
  case round =>
    obtain ⟨k, hk, rfl, hB, hlt, hP⟩ := hrel
    clear hB1 hb1 hlt1 hcur hcs
    by_cases hkl : k < l.length
    · have hx := List.getElem?_eq_getElem hkl
      obtain ⟨eb, eo, ee, rfl, hcl, hcc, hxr⟩ := HE.out k _ hx
      have hxs := HS.out k _ hx
      have HX := Lib.hid hx; clear hx
      generalize l[k] = x at *
      obtain ⟨cur2, hg, hgs⟩ := hP.out.block
      have hgs2 : cur2.size = l.length * 6 := hgs
      have hroom := Nat.mul_le_mul_right 6 (show k + 1 ≤ l.length by omega)
      obtain ⟨x0, x1, x2, x3, x4, x5, rfl⟩ := len6 (show _ = 6 from hcl)
      have p0 : wr.cell? ⟨eb, eo + k * 6, none⟩ = some x0 := (hB.cell (World.block_lt_of_cell? w _ (hcc 0 _ rfl))).trans (hcc 0 _ rfl)
      have p1 : wr.cell? ⟨eb, eo + k * 6 + 1, none⟩ = some x1 := (hB.cell (World.block_lt_of_cell? w _ (hcc 1 _ rfl))).trans (hcc 1 _ rfl)
      have p2 : wr.cell? ⟨eb, eo + k * 6 + 2, none⟩ = some x2 := (hB.cell (World.block_lt_of_cell? w _ (hcc 2 _ rfl))).trans (hcc 2 _ rfl)
      have p3 : wr.cell? ⟨eb, eo + k * 6 + 3, none⟩ = some x3 := (hB.cell (World.block_lt_of_cell? w _ (hcc 3 _ rfl))).trans (hcc 3 _ rfl)
      have p4 : wr.cell? ⟨eb, eo + k * 6 + 4, none⟩ = some x4 := (hB.cell (World.block_lt_of_cell? w _ (hcc 4 _ rfl))).trans (hcc 4 _ rfl)
      have p5 : wr.cell? ⟨eb, eo + k * 6 + 5, none⟩ = some x5 := (hB.cell (World.block_lt_of_cell? w _ (hcc 5 _ rfl))).trans (hcc 5 _ rfl)
      have HXR := Lib.hid hxr; clear hxr hcc hcl
      have HG := Lib.hid hg; clear hg
      go_wp2_with (go_at_call 118; refine Vt (w := w) (toVersion_c _ [x0, x1, x2, x3, x4, x5] x (Qh HXR.out hB) (by omega)) (by go_grown) ?_; intro w2 cs L hB2 hb2 hz2 _ ho hL; obtain ⟨eoa1, ecp1, eoa2, ecp2, eoa3, ecp3, rfl⟩ := cells_Version (GoD.own_rd ho); have hg2 := (hb2.block _ hlt).trans HG.out; obtain ⟨z0, q0⟩ : ∃ y, w2.cell? ⟨w.heap.size, k * 6, none⟩ = some y := ⟨_, Q8 hg2 _ (by omega)⟩; obtain ⟨z1, q1⟩ : ∃ y, w2.cell? ⟨w.heap.size, k * 6 + 1, none⟩ = some y := ⟨_, Q8 hg2 _ (by omega)⟩; obtain ⟨z2, q2⟩ : ∃ y, w2.cell? ⟨w.heap.size, k * 6 + 2, none⟩ = some y := ⟨_, Q8 hg2 _ (by omega)⟩; obtain ⟨z3, q3⟩ : ∃ y, w2.cell? ⟨w.heap.size, k * 6 + 3, none⟩ = some y := ⟨_, Q8 hg2 _ (by omega)⟩; obtain ⟨z4, q4⟩ : ∃ y, w2.cell? ⟨w.heap.size, k * 6 + 4, none⟩ = some y := ⟨_, Q8 hg2 _ (by omega)⟩; obtain ⟨z5, q5⟩ : ∃ y, w2.cell? ⟨w.heap.size, k * 6 + 5, none⟩ = some y := ⟨_, Q8 hg2 _ (by omega)⟩; have fz := V3 hg2; clear hg2; have HO := Lib.hid ho; clear ho; have HL := Lib.hid hL; clear hL; have HB2 := Lib.hid hb2; clear hb2)
      go_roundw
      case rel => exact ⟨k + 1, by omega, by go_num, by go_grown, by simp only [World.size_setCell]; omega, by
        have h := hP.out.step HB2.out hkl hk HX.out HO.out HL.out
        rw [show GoD.n VersionD = 6 from rfl] at h
        simp only [World.setCells, Nat.add_assoc, Nat.reduceAdd] at h
        exact h⟩
      case measure => simp [intOf]; omega
    · obtain rfl : k = l.length := by omega
      go_wp2
      go_ret
      obtain ⟨L, hL, hLB⟩ := hP.out.done hlm
      exact ⟨_, L, rfl, hB, hL, hLB⟩
set_option maxHeartbeats 1000000 in
theorem toEvent_c (w : World) (ca : List Value) (a : Zs) (ha : rd w ca a) (hsz : GoD.size a ≤ 1048576) : Calls Tryz.prog 110 #[.agg ca.toArray] w (RetA w a) := by
  obtain ⟨a1, a2, a3⟩ := a
  obtain ⟨ac1, at1, rfl, ar1, ac2, at2, rfl, ar2, ar3⟩ := ha
  obtain ⟨rfl, ar1⟩ := ar1
  obtain ⟨ax2_0, rfl⟩ := len1 (show _ = 1 from GoD.rd_len ar2)
  obtain ⟨ax3_0, rfl⟩ := len1 (show _ = 1 from GoD.rd_len ar3)
  dsimp only [List.cons_append, List.nil_append] at *
  replace hsz : (GoD.size a1 + (GoD.size a2 + GoD.size a3)) ≤ 1048576 := hsz
  have AR1H := Lib.hid ar1; clear ar1
  have AR2H := Lib.hid ar2; clear ar2
  have AR3H := Lib.hid ar3; clear ar3
  have tok1 : True := trivial
  have tok2 : True := trivial
  go_enter Tryz.func110, Tryz.ntmps110
  go_wp2_with (first | (go_at_call 62; have tk := tok1; clear tok1; refine V9 (w := w) (toIntS_c _ ax2_0 a2 (Qh AR2H.out (by go_grown)) (by omega)) (by go_grown) ?_; intro w1 v1 L1 hB hb hz _ ho1 hL1; obtain ⟨oa1, cp1, rfl⟩ := Zr ho1; have hz2 := hb.size; (repeat (first | rewrite [World.size_alloc] at hz2 | rewrite [World.size_setCell] at hz2 | rewrite [World.size_drew] at hz2)); (repeat (first | rewrite [World.size_alloc] at hL1 | rewrite [World.size_setCell] at hL1 | rewrite [World.size_drew] at hL1)); have hlt1 := GoD.own_lt ho1; have c1_0 := fun o => Xy hb (w.heap.size) o (by go_size); have f1_0 := fun o => Ji hb (w.heap.size) o (by go_size); have c1_1 := fun o => Xy hb (w.heap.size + 1) o (by go_size); have f1_1 := fun o => Ji hb (w.heap.size + 1) o (by go_size); have c1_2 := fun o => Xy hb (w.heap.size + 1 + 1) o (by go_size); have f1_2 := fun o => Ji hb (w.heap.size + 1 + 1) o (by go_size); have HO1 := Lib.hid ho1; clear ho1; have HL1 := Lib.hid hL1; clear hL1; have HT1 := Lib.hid hlt1; clear hlt1; have HB1 := Lib.hid hb; clear hb) | (go_at_call 62; have tk := tok2; clear tok2; refine V9 (w := w) (toIntS_c _ ax3_0 a3 (Qh AR3H.out (by go_grown)) (by omega)) (by go_grown) ?_; intro w2 v2 L2 hB hb hz _ ho2 hL2; obtain ⟨oa2, cp2, rfl⟩ := Zr ho2; have hz2 := hb.size; (repeat (first | rewrite [World.size_alloc] at hz2 | rewrite [World.size_setCell] at hz2 | rewrite [World.size_drew] at hz2)); (repeat (first | rewrite [World.size_alloc] at hL2 | rewrite [World.size_setCell] at hL2 | rewrite [World.size_drew] at hL2)); have hlt2 := GoD.own_lt ho2; have c2_0 := fun o => Xy hb (w.heap.size) o (by go_size); have f2_0 := fun o => Ji hb (w.heap.size) o (by go_size); have c2_1 := fun o => Xy hb (w.heap.size + 1) o (by go_size); have f2_1 := fun o => Ji hb (w.heap.size + 1) o (by go_size); have c2_2 := fun o => Xy hb (w.heap.size + 1 + 1) o (by go_size); have f2_2 := fun o => Ji hb (w.heap.size + 1 + 1) o (by go_size); have HO2 := Lib.hid ho2; clear ho2; have HL2 := Lib.hid hL2; clear hL2; have HT2 := Lib.hid hlt2; clear hlt2; have HB2 := Lib.hid hb; clear hb) | ((with_reducible show bodyPost _ _ _ _ _ _); refine bodyPost_ret (v := .agg #[.int .i64 a1, .slice oa1 a2.length cp1, .slice oa2 a3.length cp2]) (by simp [results, Tryz.results110, go_sem, c1_1, c2_1]) rfl ⟨[.int .i64 a1, .slice oa1 a2.length cp1, .slice oa2 a3.length cp2], ([] ++ (L1 ++ L2)), rfl, by go_grown, ?_, ?_⟩; (exact (Zd (own_i _ AR1H.out) (Zd (show own L1 _ [.slice oa1 a2.length cp1] a2 by (repeat (first | (with_reducible exact HO1.out) | ((with_reducible refine Y6 ?_ ?_); rotate_left; exact (fun hm => by have := HL1.out _ hm; omega)) | (with_reducible refine Ja ?_) | (with_reducible refine Kt ?_) | (with_reducible refine Kv ?_ HB2.out)))) (show own L2 _ [.slice oa2 a3.length cp2] a3 by (repeat (first | (with_reducible exact HO2.out) | ((with_reducible refine Y6 ?_ ?_); rotate_left; exact (fun hm => by have := HL2.out _ hm; omega)) | (with_reducible refine Ja ?_) | (with_reducible refine Kt ?_)))) (fun x hx hy => by (try simp only [List.mem_append, List.not_mem_nil, List.append_nil, List.nil_append, false_or, or_false] at hy); have := HT1.out x hx; rcases hy with hy <;> (first | (have := HL2.out x hy; omega)))) (by simp))); intro x hx; (try simp only [List.mem_append, List.not_mem_nil, List.append_nil, List.nil_append, false_or, or_false] at hx); rcases hx with hx | hx <;> first | (have := HL1.out x hx; omega) | (have := HL2.out x hx; omega)))
set_option maxRecDepth 100000 in
set_option maxHeartbeats 1000000 in
theorem toEventS_c (w : World) (v : Value) (l : List Zs) (ha : rd w [v] l) (hsz : GoD.size l ≤ 1048576) : Calls Tryz.prog 63 #[v] w (RetS w l) := by
  obtain ⟨oa, cap, e1, hl, hm, hel⟩ := ha
  obtain rfl : v = _ := by simpa using e1
  clear e1
  have HE := Lib.hid hel; clear hel
  have hn : l.length ≤ 1048576 := by have := Ka l; omega
  have HS := Lib.hid (fun i a (h : l[i]? = some a) => Jn h)
  have hlm : l.length ≤ maxLen := by omega
  go_enter Tryz.func63, Tryz.ntmps63
  go_wp2_with (at_make; refine wp_make w (.tmp 6) (.tmp 6) 45 116 3 l.length rfl rfl Tryz.underlying45 (by kernel_rfl) rfl rfl (by omega) (by go_grown) ?_; intro w1 cur hcur hcs hB1 hb1 hlt1)
  go_loopw [4] (fun i wr => ∃ k : Nat, k ≤ l.length ∧ i = .int .i64 k ∧ Below w.heap.size w wr ∧ w.heap.size < wr.heap.size ∧ Hid (Part wr w.heap.size l.length 116 l k)) (fun i _ => l.length - (intOf i).toNat)
  case atStart => exact ⟨0, Nat.zero_le _, rfl, hB1, hlt1, Part.start hcur hcs l⟩
  case round =>
    obtain ⟨k, hk, rfl, hB, hlt, hP⟩ := hrel
    clear hB1 hb1 hlt1 hcur hcs
    by_cases hkl : k < l.length
    · have hx := List.getElem?_eq_getElem hkl
      obtain ⟨eb, eo, ee, rfl, hcl, hcc, hxr⟩ := HE.out k _ hx
      have hxs := HS.out k _ hx
      have HX := Lib.hid hx; clear hx
      generalize l[k] = x at *
      obtain ⟨cur2, hg, hgs⟩ := hP.out.block
      have hgs2 : cur2.size = l.length * 3 := hgs
      have hroom := Nat.mul_le_mul_right 3 (show k + 1 ≤ l.length by omega)
      obtain ⟨x0, x1, x2, rfl⟩ := len3 (show _ = 3 from hcl)
      have p0 : wr.cell? ⟨eb, eo + k * 3, none⟩ = some x0 := (hB.cell (World.block_lt_of_cell? w _ (hcc 0 _ rfl))).trans (hcc 0 _ rfl)
      have p1 : wr.cell? ⟨eb, eo + k * 3 + 1, none⟩ = some x1 := (hB.cell (World.block_lt_of_cell? w _ (hcc 1 _ rfl))).trans (hcc 1 _ rfl)
      have p2 : wr.cell? ⟨eb, eo + k * 3 + 2, none⟩ = some x2 := (hB.cell (World.block_lt_of_cell? w _ (hcc 2 _ rfl))).trans (hcc 2 _ rfl)
      have HXR := Lib.hid hxr; clear hxr hcc hcl
      have HG := Lib.hid hg; clear hg
      go_wp2_with (go_at_call 110; refine Vt (w := w) (toEvent_c _ [x0, x1, x2] x (Qh HXR.out hB) (by omega)) (by go_grown) ?_; intro w2 cs L hB2 hb2 hz2 _ ho hL; obtain ⟨eoa1, ecp1, eoa2, ecp2, rfl⟩ := cells_Event (GoD.own_rd ho); have hg2 := (hb2.block _ hlt).trans HG.out; obtain ⟨z0, q0⟩ : ∃ y, w2.cell? ⟨w.heap.size, k * 3, none⟩ = some y := ⟨_, Q8 hg2 _ (by omega)⟩; obtain ⟨z1, q1⟩ : ∃ y, w2.cell? ⟨w.heap.size, k * 3 + 1, none⟩ = some y := ⟨_, Q8 hg2 _ (by omega)⟩; obtain ⟨z2, q2⟩ : ∃ y, w2.cell? ⟨w.heap.size, k * 3 + 2, none⟩ = some y := ⟨_, Q8 hg2 _ (by omega)⟩; have fz := V3 hg2; clear hg2; have HO := Lib.hid ho; clear ho; have HL := Lib.hid hL; clear hL; have HB2 := Lib.hid hb2; clear hb2)
      go_roundw
      case rel => exact ⟨k + 1, by omega, by go_num, by go_grown, by simp only [World.size_setCell]; omega, by
        have h := hP.out.step HB2.out hkl hk HX.out HO.out HL.out
        rw [show GoD.n Zs = 3 from rfl] at h
        simp only [World.setCells, Nat.add_assoc, Nat.reduceAdd] at h
        exact h⟩
      case measure => simp [intOf]; omega
    · obtain rfl : k = l.length := by omega
      go_wp2
      go_ret
      obtain ⟨L, hL, hLB⟩ := hP.out.done hlm
      exact ⟨_, L, rfl, hB, hL, hLB⟩
set_option maxHeartbeats 1000000 in
theorem toWatch_c (w : World) (ca : List Value) (a : WatchD) (ha : rd w ca a) (hsz : GoD.size a ≤ 1048576) : Calls Tryz.prog 27 #[.agg ca.toArray] w (RetA w a) := by
  obtain ⟨a1, a2, a3, a4⟩ := a
  obtain ⟨ac1, at1, rfl, ar1, ac2, at2, rfl, ar2, ac3, at3, rfl, ar3, ar4⟩ := ha
  obtain ⟨rfl, ar1⟩ := ar1
  obtain ⟨rfl, ar2⟩ := ar2
  obtain ⟨ax3_0, rfl⟩ := len1 (show _ = 1 from GoD.rd_len ar3)
  obtain ⟨ax4_0, rfl⟩ := len1 (show _ = 1 from GoD.rd_len ar4)
  dsimp only [List.cons_append, List.nil_append] at *
  replace hsz : (GoD.size a1 + (GoD.size a2 + (GoD.size a3 + GoD.size a4))) ≤ 1048576 := hsz
  have AR1H := Lib.hid ar1; clear ar1
  have AR2H := Lib.hid ar2; clear ar2
  have AR3H := Lib.hid ar3; clear ar3
  have AR4H := Lib.hid ar4; clear ar4
  have tok1 : True := trivial
  have tok2 : True := trivial
  go_enter Tryz.func27, Tryz.ntmps27
  go_wp2_with (first | (go_at_call 62; have tk := tok1; clear tok1; refine V9 (w := w) (toIntS_c _ ax3_0 a3 (Qh AR3H.out (by go_grown)) (by omega)) (by go_grown) ?_; intro w1 v1 L1 hB hb hz _ ho1 hL1; obtain ⟨oa1, cp1, rfl⟩ := Zr ho1; have hz2 := hb.size; (repeat (first | rewrite [World.size_alloc] at hz2 | rewrite [World.size_setCell] at hz2 | rewrite [World.size_drew] at hz2)); (repeat (first | rewrite [World.size_alloc] at hL1 | rewrite [World.size_setCell] at hL1 | rewrite [World.size_drew] at hL1)); have hlt1 := GoD.own_lt ho1; have c1_0 := fun o => Xy hb (w.heap.size) o (by go_size); have f1_0 := fun o => Ji hb (w.heap.size) o (by go_size); have c1_1 := fun o => Xy hb (w.heap.size + 1) o (by go_size); have f1_1 := fun o => Ji hb (w.heap.size + 1) o (by go_size); have c1_2 := fun o => Xy hb (w.heap.size + 1 + 1) o (by go_size); have f1_2 := fun o => Ji hb (w.heap.size + 1 + 1) o (by go_size); have HO1 := Lib.hid ho1; clear ho1; have HL1 := Lib.hid hL1; clear hL1; have HT1 := Lib.hid hlt1; clear hlt1; have HB1 := Lib.hid hb; clear hb) | (go_at_call 63; have tk := tok2; clear tok2; refine V9 (w := w) (toEventS_c _ ax4_0 a4 (Qh AR4H.out (by go_grown)) (by omega)) (by go_grown) ?_; intro w2 v2 L2 hB hb hz _ ho2 hL2; obtain ⟨oa2, cp2, rfl⟩ := Zr ho2; have hz2 := hb.size; (repeat (first | rewrite [World.size_alloc] at hz2 | rewrite [World.size_setCell] at hz2 | rewrite [World.size_drew] at hz2)); (repeat (first | rewrite [World.size_alloc] at hL2 | rewrite [World.size_setCell] at hL2 | rewrite [World.size_drew] at hL2)); have hlt2 := GoD.own_lt ho2; have c2_0 := fun o => Xy hb (w.heap.size) o (by go_size); have f2_0 := fun o => Ji hb (w.heap.size) o (by go_size); have c2_1 := fun o => Xy hb (w.heap.size + 1) o (by go_size); have f2_1 := fun o => Ji hb (w.heap.size + 1) o (by go_size); have c2_2 := fun o => Xy hb (w.heap.size + 1 + 1) o (by go_size); have f2_2 := fun o => Ji hb (w.heap.size + 1 + 1) o (by go_size); have HO2 := Lib.hid ho2; clear ho2; have HL2 := Lib.hid hL2; clear hL2; have HT2 := Lib.hid hlt2; clear hlt2; have HB2 := Lib.hid hb; clear hb) | ((with_reducible show bodyPost _ _ _ _ _ _); refine bodyPost_ret (v := .agg #[.int .i64 a1, .string a2, .slice oa1 a3.length cp1, .slice oa2 a4.length cp2]) (by simp [results, Tryz.results27, go_sem, c1_1, c2_1]) rfl ⟨[.int .i64 a1, .string a2, .slice oa1 a3.length cp1, .slice oa2 a4.length cp2], ([] ++ ([] ++ (L1 ++ L2))), rfl, by go_grown, ?_, ?_⟩; (exact (Zd (own_i _ AR1H.out) (Zd (own_s _ AR2H.out) (Zd (show own L1 _ [.slice oa1 a3.length cp1] a3 by (repeat (first | (with_reducible exact HO1.out) | ((with_reducible refine Y6 ?_ ?_); rotate_left; exact (fun hm => by have := HL1.out _ hm; omega)) | (with_reducible refine Ja ?_) | (with_reducible refine Kt ?_) | (with_reducible refine Kv ?_ HB2.out)))) (show own L2 _ [.slice oa2 a4.length cp2] a4 by (repeat (first | (with_reducible exact HO2.out) | ((with_reducible refine Y6 ?_ ?_); rotate_left; exact (fun hm => by have := HL2.out _ hm; omega)) | (with_reducible refine Ja ?_) | (with_reducible refine Kt ?_)))) (fun x hx hy => by (try simp only [List.mem_append, List.not_mem_nil, List.append_nil, List.nil_append, false_or, or_false] at hy); have := HT1.out x hx; rcases hy with hy <;> (first | (have := HL2.out x hy; omega)))) (by simp)) (by simp))); intro x hx; (try simp only [List.mem_append, List.not_mem_nil, List.append_nil, List.nil_append, false_or, or_false] at hx); rcases hx with hx | hx <;> first | (have := HL1.out x hx; omega) | (have := HL2.out x hx; omega)))
set_option maxRecDepth 100000 in
set_option maxHeartbeats 1000000 in
theorem toWatchS_c (w : World) (v : Value) (l : List WatchD) (ha : rd w [v] l) (hsz : GoD.size l ≤ 1048576) : Calls Tryz.prog 76 #[v] w (RetS w l) := by
  obtain ⟨oa, cap, e1, hl, hm, hel⟩ := ha
  obtain rfl : v = _ := by simpa using e1
  clear e1
  have HE := Lib.hid hel; clear hel
  have hn : l.length ≤ 1048576 := by have := Ka l; omega
  have HS := Lib.hid (fun i a (h : l[i]? = some a) => Jn h)
  have hlm : l.length ≤ maxLen := by omega
  go_enter Tryz.func76, Tryz.ntmps76
  go_wp2_with (at_make; refine wp_make w (.tmp 6) (.tmp 6) 75 47 4 l.length rfl rfl Tryz.underlying75 (by kernel_rfl) rfl rfl (by omega) (by go_grown) ?_; intro w1 cur hcur hcs hB1 hb1 hlt1)
  go_loopw [4] (fun i wr => ∃ k : Nat, k ≤ l.length ∧ i = .int .i64 k ∧ Below w.heap.size w wr ∧ w.heap.size < wr.heap.size ∧ Hid (Part wr w.heap.size l.length 47 l k)) (fun i _ => l.length - (intOf i).toNat)
  case atStart => exact ⟨0, Nat.zero_le _, rfl, hB1, hlt1, Part.start hcur hcs l⟩
  case round =>
    obtain ⟨k, hk, rfl, hB, hlt, hP⟩ := hrel
    clear hB1 hb1 hlt1 hcur hcs
    by_cases hkl : k < l.length
    · have hx := List.getElem?_eq_getElem hkl
      obtain ⟨eb, eo, ee, rfl, hcl, hcc, hxr⟩ := HE.out k _ hx
      have hxs := HS.out k _ hx
      have HX := Lib.hid hx; clear hx
      generalize l[k] = x at *
      obtain ⟨cur2, hg, hgs⟩ := hP.out.block
      have hgs2 : cur2.size = l.length * 4 := hgs
      have hroom := Nat.mul_le_mul_right 4 (show k + 1 ≤ l.length by omega)
      obtain ⟨x0, x1, x2, x3, rfl⟩ := len4 (show _ = 4 from hcl)
      have p0 : wr.cell? ⟨eb, eo + k * 4, none⟩ = some x0 := (hB.cell (World.block_lt_of_cell? w _ (hcc 0 _ rfl))).trans (hcc 0 _ rfl)
      have p1 : wr.cell? ⟨eb, eo + k * 4 + 1, none⟩ = some x1 := (hB.cell (World.block_lt_of_cell? w _ (hcc 1 _ rfl))).trans (hcc 1 _ rfl)
      have p2 : wr.cell? ⟨eb, eo + k * 4 + 2, none⟩ = some x2 := (hB.cell (World.block_lt_of_cell? w _ (hcc 2 _ rfl))).trans (hcc 2 _ rfl)
      have p3 : wr.cell? ⟨eb, eo + k * 4 + 3, none⟩ = some x3 := (hB.cell (World.block_lt_of_cell? w _ (hcc 3 _ rfl))).trans (hcc 3 _ rfl)
      have HXR := Lib.hid hxr; clear hxr hcc hcl
      have HG := Lib.hid hg; clear hg
      go_wp2_with (go_at_call 27; refine Vt (w := w) (toWatch_c _ [x0, x1, x2, x3] x (Qh HXR.out hB) (by omega)) (by go_grown) ?_; intro w2 cs L hB2 hb2 hz2 _ ho hL; obtain ⟨eoa1, ecp1, eoa2, ecp2, rfl⟩ := cells_Watch (GoD.own_rd ho); have hg2 := (hb2.block _ hlt).trans HG.out; obtain ⟨z0, q0⟩ : ∃ y, w2.cell? ⟨w.heap.size, k * 4, none⟩ = some y := ⟨_, Q8 hg2 _ (by omega)⟩; obtain ⟨z1, q1⟩ : ∃ y, w2.cell? ⟨w.heap.size, k * 4 + 1, none⟩ = some y := ⟨_, Q8 hg2 _ (by omega)⟩; obtain ⟨z2, q2⟩ : ∃ y, w2.cell? ⟨w.heap.size, k * 4 + 2, none⟩ = some y := ⟨_, Q8 hg2 _ (by omega)⟩; obtain ⟨z3, q3⟩ : ∃ y, w2.cell? ⟨w.heap.size, k * 4 + 3, none⟩ = some y := ⟨_, Q8 hg2 _ (by omega)⟩; have fz := V3 hg2; clear hg2; have HO := Lib.hid ho; clear ho; have HL := Lib.hid hL; clear hL; have HB2 := Lib.hid hb2; clear hb2)
      go_roundw
      case rel => exact ⟨k + 1, by omega, by go_num, by go_grown, by simp only [World.size_setCell]; omega, by
        have h := hP.out.step HB2.out hkl hk HX.out HO.out HL.out
        rw [show GoD.n WatchD = 4 from rfl] at h
        simp only [World.setCells, Nat.add_assoc, Nat.reduceAdd] at h
        exact h⟩
      case measure => simp [intOf]; omega
    · obtain rfl : k = l.length := by omega
      go_wp2
      go_ret
      obtain ⟨L, hL, hLB⟩ := hP.out.done hlm
      exact ⟨_, L, rfl, hB, hL, hLB⟩
set_option maxHeartbeats 1000000 in
theorem toDisk_c (w : World) (ca : List Value) (a : DiskD) (ha : rd w ca a) (hsz : GoD.size a ≤ 1048576) : Calls Tryz.prog 74 #[.agg ca.toArray] w (RetA w a) := by
  obtain ⟨a1, a2⟩ := a
  obtain ⟨ac1, at1, rfl, ar1, ar2⟩ := ha
  obtain ⟨rfl, ar1⟩ := ar1
  obtain ⟨rfl, ar2⟩ := ar2
  dsimp only [List.cons_append, List.nil_append] at *
  replace hsz : (GoD.size a1 + GoD.size a2) ≤ 1048576 := hsz
  have AR1H := Lib.hid ar1; clear ar1
  have AR2H := Lib.hid ar2; clear ar2
  go_enter Tryz.func74, Tryz.ntmps74
  go_wp2_with (first | ((with_reducible show bodyPost _ _ _ _ _ _); refine bodyPost_ret (v := .agg #[.string a1, .string a2]) (by simp [results, Tryz.results74, go_sem]) rfl ⟨[.string a1, .string a2], ([] ++ []), rfl, by go_grown, ?_, ?_⟩; (exact (Zd (own_s _ AR1H.out) (own_s _ AR2H.out) (by simp))); simp))
set_option maxRecDepth 100000 in
set_option maxHeartbeats 1000000 in
theorem toResultS_c (w : World) (v : Value) (l : List Qi) (ha : rd w [v] l) (hsz : GoD.size l ≤ 1048576) : Calls Tryz.prog 117 #[v] w (RetS w l) := by
  obtain ⟨oa, cap, e1, hl, hm, hel⟩ := ha
  obtain rfl : v = _ := by simpa using e1
  clear e1
  have HE := Lib.hid hel; clear hel
  have hn : l.length ≤ 1048576 := by have := Ka l; omega
  have HS := Lib.hid (fun i a (h : l[i]? = some a) => Jn h)
  have hlm : l.length ≤ maxLen := by omega
  go_enter Tryz.func117, Tryz.ntmps117
  go_wp2_with (at_make; refine wp_make w (.tmp 6) (.tmp 6) 70 90 2 l.length rfl rfl Tryz.underlying70 (by kernel_rfl) rfl rfl (by omega) (by go_grown) ?_; intro w1 cur hcur hcs hB1 hb1 hlt1)
  go_loopw [4] (fun i wr => ∃ k : Nat, k ≤ l.length ∧ i = .int .i64 k ∧ Below w.heap.size w wr ∧ w.heap.size < wr.heap.size ∧ Hid (Part wr w.heap.size l.length 90 l k)) (fun i _ => l.length - (intOf i).toNat)
  case atStart => exact ⟨0, Nat.zero_le _, rfl, hB1, hlt1, Part.start hcur hcs l⟩
  case round =>
    obtain ⟨k, hk, rfl, hB, hlt, hP⟩ := hrel
    clear hB1 hb1 hlt1 hcur hcs
    by_cases hkl : k < l.length
    · have hx := List.getElem?_eq_getElem hkl
      obtain ⟨eb, eo, ee, rfl, hcl, hcc, hxr⟩ := HE.out k _ hx
      have hxs := HS.out k _ hx
      have HX := Lib.hid hx; clear hx
      generalize l[k] = x at *
      obtain ⟨cur2, hg, hgs⟩ := hP.out.block
      have hgs2 : cur2.size = l.length * 2 := hgs
      have hroom := Nat.mul_le_mul_right 2 (show k + 1 ≤ l.length by omega)
      obtain ⟨x0, x1, rfl⟩ := len2 (show _ = 2 from hcl)
      have p0 : wr.cell? ⟨eb, eo + k * 2, none⟩ = some x0 := (hB.cell (World.block_lt_of_cell? w _ (hcc 0 _ rfl))).trans (hcc 0 _ rfl)
      have p1 : wr.cell? ⟨eb, eo + k * 2 + 1, none⟩ = some x1 := (hB.cell (World.block_lt_of_cell? w _ (hcc 1 _ rfl))).trans (hcc 1 _ rfl)
      have HXR := Lib.hid hxr; clear hxr hcc hcl
      have HG := Lib.hid hg; clear hg
      go_wp2_with (go_at_call 160; refine Vt (w := w) (toResult_c _ [x0, x1] x (Qh HXR.out hB) (by omega)) (by go_grown) ?_; intro w2 cs L hB2 hb2 hz2 _ ho hL; obtain ⟨eoa1, ecp1, rfl⟩ := cells_Result (GoD.own_rd ho); have hg2 := (hb2.block _ hlt).trans HG.out; obtain ⟨z0, q0⟩ : ∃ y, w2.cell? ⟨w.heap.size, k * 2, none⟩ = some y := ⟨_, Q8 hg2 _ (by omega)⟩; obtain ⟨z1, q1⟩ : ∃ y, w2.cell? ⟨w.heap.size, k * 2 + 1, none⟩ = some y := ⟨_, Q8 hg2 _ (by omega)⟩; have fz := V3 hg2; clear hg2; have HO := Lib.hid ho; clear ho; have HL := Lib.hid hL; clear hL; have HB2 := Lib.hid hb2; clear hb2)
      go_roundw
      case rel => exact ⟨k + 1, by omega, by go_num, by go_grown, by simp only [World.size_setCell]; omega, by
        have h := hP.out.step HB2.out hkl hk HX.out HO.out HL.out
        rw [show GoD.n Qi = 2 from rfl] at h
        simp only [World.setCells, Nat.add_assoc, Nat.reduceAdd] at h
        exact h⟩
      case measure => simp [intOf]; omega
    · obtain rfl : k = l.length := by omega
      go_wp2
      go_ret
      obtain ⟨L, hL, hLB⟩ := hP.out.done hlm
      exact ⟨_, L, rfl, hB, hL, hLB⟩
set_option maxHeartbeats 1000000 in
theorem toCatalog_c (w : World) (ca : List Value) (a : CatalogD) (ha : rd w ca a) (hsz : GoD.size a ≤ 1048576) : Calls Tryz.prog 73 #[.agg ca.toArray] w (RetA w a) := by
  obtain ⟨a1, a2, a3⟩ := a
  obtain ⟨ac1, at1, rfl, ar1, ac2, at2, rfl, ar2, ar3⟩ := ha
  obtain ⟨ax1_0, ax1_1, ax1_2, rfl⟩ := len3 (show _ = 3 from GoD.rd_len ar1)
  obtain ⟨ax2_0, rfl⟩ := len1 (show _ = 1 from GoD.rd_len ar2)
  obtain ⟨ax3_0, rfl⟩ := len1 (show _ = 1 from GoD.rd_len ar3)
  dsimp only [List.cons_append, List.nil_append] at *
  replace hsz : (GoD.size a1 + (GoD.size a2 + GoD.size a3)) ≤ 1048576 := hsz
  have AR1H := Lib.hid ar1; clear ar1
  have AR2H := Lib.hid ar2; clear ar2
  have AR3H := Lib.hid ar3; clear ar3
  have tok1 : True := trivial
  have tok2 : True := trivial
  have tok3 : True := trivial
  go_enter Tryz.func73, Tryz.ntmps73
  go_wp2_with (first | (go_at_call 10; have tk := tok1; clear tok1; refine Vt (w := w) (toStore_c _ [ax1_0, ax1_1, ax1_2] a1 (Qh AR1H.out (by go_grown)) (by omega)) (by go_grown) ?_; intro w1 cs1 L1 hB hb hz _ ho1 hL1; obtain ⟨r1_oa1, r1_cp1, r1_oa2, r1_cp2, rfl⟩ := cells_Store (GoD.own_rd ho1); have hz2 := hb.size; (repeat (first | rewrite [World.size_alloc] at hz2 | rewrite [World.size_setCell] at hz2 | rewrite [World.size_drew] at hz2)); (repeat (first | rewrite [World.size_alloc] at hL1 | rewrite [World.size_setCell] at hL1 | rewrite [World.size_drew] at hL1)); have hlt1 := GoD.own_lt ho1; have c1_0 := fun o => Xy hb (w.heap.size) o (by go_size); have f1_0 := fun o => Ji hb (w.heap.size) o (by go_size); have c1_1 := fun o => Xy hb (w.heap.size + 1) o (by go_size); have f1_1 := fun o => Ji hb (w.heap.size + 1) o (by go_size); have c1_2 := fun o => Xy hb (w.heap.size + 1 + 1) o (by go_size); have f1_2 := fun o => Ji hb (w.heap.size + 1 + 1) o (by go_size); have HO1 := Lib.hid ho1; clear ho1; have HL1 := Lib.hid hL1; clear hL1; have HT1 := Lib.hid hlt1; clear hlt1; have HB1 := Lib.hid hb; clear hb) | (go_at_call 11; have tk := tok2; clear tok2; refine V9 (w := w) (toDirS_c _ ax2_0 a2 (Qh AR2H.out (by go_grown)) (by omega)) (by go_grown) ?_; intro w2 v2 L2 hB hb hz _ ho2 hL2; obtain ⟨oa2, cp2, rfl⟩ := Zr ho2; have hz2 := hb.size; (repeat (first | rewrite [World.size_alloc] at hz2 | rewrite [World.size_setCell] at hz2 | rewrite [World.size_drew] at hz2)); (repeat (first | rewrite [World.size_alloc] at hL2 | rewrite [World.size_setCell] at hL2 | rewrite [World.size_drew] at hL2)); have hlt2 := GoD.own_lt ho2; have c2_0 := fun o => Xy hb (w.heap.size) o (by go_size); have f2_0 := fun o => Ji hb (w.heap.size) o (by go_size); have c2_1 := fun o => Xy hb (w.heap.size + 1) o (by go_size); have f2_1 := fun o => Ji hb (w.heap.size + 1) o (by go_size); have c2_2 := fun o => Xy hb (w.heap.size + 1 + 1) o (by go_size); have f2_2 := fun o => Ji hb (w.heap.size + 1 + 1) o (by go_size); have HO2 := Lib.hid ho2; clear ho2; have HL2 := Lib.hid hL2; clear hL2; have HT2 := Lib.hid hlt2; clear hlt2; have HB2 := Lib.hid hb; clear hb) | (go_at_call 117; have tk := tok3; clear tok3; refine V9 (w := w) (toResultS_c _ ax3_0 a3 (Qh AR3H.out (by go_grown)) (by omega)) (by go_grown) ?_; intro w3 v3 L3 hB hb hz _ ho3 hL3; obtain ⟨oa3, cp3, rfl⟩ := Zr ho3; have hz2 := hb.size; (repeat (first | rewrite [World.size_alloc] at hz2 | rewrite [World.size_setCell] at hz2 | rewrite [World.size_drew] at hz2)); (repeat (first | rewrite [World.size_alloc] at hL3 | rewrite [World.size_setCell] at hL3 | rewrite [World.size_drew] at hL3)); have hlt3 := GoD.own_lt ho3; have c3_0 := fun o => Xy hb (w.heap.size) o (by go_size); have f3_0 := fun o => Ji hb (w.heap.size) o (by go_size); have c3_1 := fun o => Xy hb (w.heap.size + 1) o (by go_size); have f3_1 := fun o => Ji hb (w.heap.size + 1) o (by go_size); have c3_2 := fun o => Xy hb (w.heap.size + 1 + 1) o (by go_size); have f3_2 := fun o => Ji hb (w.heap.size + 1 + 1) o (by go_size); have HO3 := Lib.hid ho3; clear ho3; have HL3 := Lib.hid hL3; clear hL3; have HT3 := Lib.hid hlt3; clear hlt3; have HB3 := Lib.hid hb; clear hb) | ((with_reducible show bodyPost _ _ _ _ _ _); refine bodyPost_ret (v := .agg #[.slice r1_oa1 a1.1.length r1_cp1, .slice r1_oa2 a1.2.1.length r1_cp2, .int .i64 a1.2.2, .slice oa2 a2.length cp2, .slice oa3 a3.length cp3]) (by simp [results, Tryz.results73, go_sem, c1_1, c2_1, c3_1]) rfl ⟨[.slice r1_oa1 a1.1.length r1_cp1, .slice r1_oa2 a1.2.1.length r1_cp2, .int .i64 a1.2.2, .slice oa2 a2.length cp2, .slice oa3 a3.length cp3], (L1 ++ (L2 ++ L3)), rfl, by go_grown, ?_, ?_⟩; (exact (Zd (show own L1 _ [.slice r1_oa1 a1.1.length r1_cp1, .slice r1_oa2 a1.2.1.length r1_cp2, .int .i64 a1.2.2] a1 by (repeat (first | (with_reducible exact HO1.out) | ((with_reducible refine Y6 ?_ ?_); rotate_left; exact (fun hm => by have := HL1.out _ hm; omega)) | (with_reducible refine Ja ?_) | (with_reducible refine Kt ?_) | (with_reducible refine Kv ?_ HB3.out) | (with_reducible refine Kv ?_ HB2.out)))) (Zd (show own L2 _ [.slice oa2 a2.length cp2] a2 by (repeat (first | (with_reducible exact HO2.out) | ((with_reducible refine Y6 ?_ ?_); rotate_left; exact (fun hm => by have := HL2.out _ hm; omega)) | (with_reducible refine Ja ?_) | (with_reducible refine Kt ?_) | (with_reducible refine Kv ?_ HB3.out)))) (show own L3 _ [.slice oa3 a3.length cp3] a3 by (repeat (first | (with_reducible exact HO3.out) | ((with_reducible refine Y6 ?_ ?_); rotate_left; exact (fun hm => by have := HL3.out _ hm; omega)) | (with_reducible refine Ja ?_) | (with_reducible refine Kt ?_)))) (fun x hx hy => by (try simp only [List.mem_append, List.not_mem_nil, List.append_nil, List.nil_append, false_or, or_false] at hy); have := HT2.out x hx; rcases hy with hy <;> (first | (have := HL3.out x hy; omega)))) (fun x hx hy => by (try simp only [List.mem_append, List.not_mem_nil, List.append_nil, List.nil_append, false_or, or_false] at hy); have := HT1.out x hx; rcases hy with hy | hy <;> (first | (have := HL2.out x hy; omega) | (have := HL3.out x hy; omega))))); intro x hx; (try simp only [List.mem_append, List.not_mem_nil, List.append_nil, List.nil_append, false_or, or_false] at hx); rcases hx with hx | hx | hx <;> first | (have := HL1.out x hx; omega) | (have := HL2.out x hx; omega) | (have := HL3.out x hx; omega)))
set_option maxHeartbeats 1000000 in
theorem toSystem_c (w : World) (ca : List Value) (a : Vo) (ha : rd w ca a) (hsz : GoD.size a ≤ 1048576) : Calls Tryz.prog 31 #[.agg ca.toArray] w (RetA w a) := by
  obtain ⟨a1, a2, a3, a4, a5, a6⟩ := a
  obtain ⟨ac1, at1, rfl, ar1, ac2, at2, rfl, ar2, ac3, at3, rfl, ar3, ac4, at4, rfl, ar4, ac5, at5, rfl, ar5, ar6⟩ := ha
  obtain ⟨ax1_0, ax1_1, ax1_2, ax1_3, ax1_4, rfl⟩ := len5 (show _ = 5 from GoD.rd_len ar1)
  obtain ⟨ax2_0, ax2_1, rfl⟩ := len2 (show _ = 2 from GoD.rd_len ar2)
  obtain ⟨rfl, ar3⟩ := ar3
  obtain ⟨ax4_0, rfl⟩ := len1 (show _ = 1 from GoD.rd_len ar4)
  obtain ⟨ax5_0, rfl⟩ := len1 (show _ = 1 from GoD.rd_len ar5)
  obtain ⟨ax6_0, rfl⟩ := len1 (show _ = 1 from GoD.rd_len ar6)
  dsimp only [List.cons_append, List.nil_append] at *
  replace hsz : (GoD.size a1 + (GoD.size a2 + (GoD.size a3 + (GoD.size a4 + (GoD.size a5 + GoD.size a6))))) ≤ 1048576 := hsz
  have AR1H := Lib.hid ar1; clear ar1
  have AR2H := Lib.hid ar2; clear ar2
  have AR3H := Lib.hid ar3; clear ar3
  have AR4H := Lib.hid ar4; clear ar4
  have AR5H := Lib.hid ar5; clear ar5
  have AR6H := Lib.hid ar6; clear ar6
  have tok1 : True := trivial
  have tok2 : True := trivial
  have tok3 : True := trivial
  have tok4 : True := trivial
  have tok5 : True := trivial
  go_enter Tryz.func31, Tryz.ntmps31
  go_wp2_with (first | (go_at_call 73; have tk := tok1; clear tok1; refine Vt (w := w) (toCatalog_c _ [ax1_0, ax1_1, ax1_2, ax1_3, ax1_4] a1 (Qh AR1H.out (by go_grown)) (by omega)) (by go_grown) ?_; intro w1 cs1 L1 hB hb hz _ ho1 hL1; obtain ⟨r1_oa1, r1_cp1, r1_oa2, r1_cp2, r1_oa3, r1_cp3, r1_oa4, r1_cp4, rfl⟩ := cells_Catalog (GoD.own_rd ho1); have hz2 := hb.size; (repeat (first | rewrite [World.size_alloc] at hz2 | rewrite [World.size_setCell] at hz2 | rewrite [World.size_drew] at hz2)); (repeat (first | rewrite [World.size_alloc] at hL1 | rewrite [World.size_setCell] at hL1 | rewrite [World.size_drew] at hL1)); have hlt1 := GoD.own_lt ho1; have c1_0 := fun o => Xy hb (w.heap.size) o (by go_size); have f1_0 := fun o => Ji hb (w.heap.size) o (by go_size); have c1_1 := fun o => Xy hb (w.heap.size + 1) o (by go_size); have f1_1 := fun o => Ji hb (w.heap.size + 1) o (by go_size); have c1_2 := fun o => Xy hb (w.heap.size + 1 + 1) o (by go_size); have f1_2 := fun o => Ji hb (w.heap.size + 1 + 1) o (by go_size); have HO1 := Lib.hid ho1; clear ho1; have HL1 := Lib.hid hL1; clear hL1; have HT1 := Lib.hid hlt1; clear hlt1; have HB1 := Lib.hid hb; clear hb) | (go_at_call 74; have tk := tok2; clear tok2; refine Vt (w := w) (toDisk_c _ [ax2_0, ax2_1] a2 (Qh AR2H.out (by go_grown)) (by omega)) (by go_grown) ?_; intro w2 cs2 L2 hB hb hz _ ho2 hL2; obtain rfl := cells_Disk (GoD.own_rd ho2); have hz2 := hb.size; (repeat (first | rewrite [World.size_alloc] at hz2 | rewrite [World.size_setCell] at hz2 | rewrite [World.size_drew] at hz2)); (repeat (first | rewrite [World.size_alloc] at hL2 | rewrite [World.size_setCell] at hL2 | rewrite [World.size_drew] at hL2)); have hlt2 := GoD.own_lt ho2; have c2_0 := fun o => Xy hb (w.heap.size) o (by go_size); have f2_0 := fun o => Ji hb (w.heap.size) o (by go_size); have c2_1 := fun o => Xy hb (w.heap.size + 1) o (by go_size); have f2_1 := fun o => Ji hb (w.heap.size + 1) o (by go_size); have c2_2 := fun o => Xy hb (w.heap.size + 1 + 1) o (by go_size); have f2_2 := fun o => Ji hb (w.heap.size + 1 + 1) o (by go_size); have HO2 := Lib.hid ho2; clear ho2; have HL2 := Lib.hid hL2; clear hL2; have HT2 := Lib.hid hlt2; clear hlt2; have HB2 := Lib.hid hb; clear hb) | (go_at_call 75; have tk := tok3; clear tok3; refine V9 (w := w) (toVersionS_c _ ax4_0 a4 (Qh AR4H.out (by go_grown)) (by omega)) (by go_grown) ?_; intro w3 v3 L3 hB hb hz _ ho3 hL3; obtain ⟨oa3, cp3, rfl⟩ := Zr ho3; have hz2 := hb.size; (repeat (first | rewrite [World.size_alloc] at hz2 | rewrite [World.size_setCell] at hz2 | rewrite [World.size_drew] at hz2)); (repeat (first | rewrite [World.size_alloc] at hL3 | rewrite [World.size_setCell] at hL3 | rewrite [World.size_drew] at hL3)); have hlt3 := GoD.own_lt ho3; have c3_0 := fun o => Xy hb (w.heap.size) o (by go_size); have f3_0 := fun o => Ji hb (w.heap.size) o (by go_size); have c3_1 := fun o => Xy hb (w.heap.size + 1) o (by go_size); have f3_1 := fun o => Ji hb (w.heap.size + 1) o (by go_size); have c3_2 := fun o => Xy hb (w.heap.size + 1 + 1) o (by go_size); have f3_2 := fun o => Ji hb (w.heap.size + 1 + 1) o (by go_size); have HO3 := Lib.hid ho3; clear ho3; have HL3 := Lib.hid hL3; clear hL3; have HT3 := Lib.hid hlt3; clear hlt3; have HB3 := Lib.hid hb; clear hb) | (go_at_call 76; have tk := tok4; clear tok4; refine V9 (w := w) (toWatchS_c _ ax5_0 a5 (Qh AR5H.out (by go_grown)) (by omega)) (by go_grown) ?_; intro w4 v4 L4 hB hb hz _ ho4 hL4; obtain ⟨oa4, cp4, rfl⟩ := Zr ho4; have hz2 := hb.size; (repeat (first | rewrite [World.size_alloc] at hz2 | rewrite [World.size_setCell] at hz2 | rewrite [World.size_drew] at hz2)); (repeat (first | rewrite [World.size_alloc] at hL4 | rewrite [World.size_setCell] at hL4 | rewrite [World.size_drew] at hL4)); have hlt4 := GoD.own_lt ho4; have c4_0 := fun o => Xy hb (w.heap.size) o (by go_size); have f4_0 := fun o => Ji hb (w.heap.size) o (by go_size); have c4_1 := fun o => Xy hb (w.heap.size + 1) o (by go_size); have f4_1 := fun o => Ji hb (w.heap.size + 1) o (by go_size); have c4_2 := fun o => Xy hb (w.heap.size + 1 + 1) o (by go_size); have f4_2 := fun o => Ji hb (w.heap.size + 1 + 1) o (by go_size); have HO4 := Lib.hid ho4; clear ho4; have HL4 := Lib.hid hL4; clear hL4; have HT4 := Lib.hid hlt4; clear hlt4; have HB4 := Lib.hid hb; clear hb) | (go_at_call 62; have tk := tok5; clear tok5; refine V9 (w := w) (toIntS_c _ ax6_0 a6 (Qh AR6H.out (by go_grown)) (by omega)) (by go_grown) ?_; intro w5 v5 L5 hB hb hz _ ho5 hL5; obtain ⟨oa5, cp5, rfl⟩ := Zr ho5; have hz2 := hb.size; (repeat (first | rewrite [World.size_alloc] at hz2 | rewrite [World.size_setCell] at hz2 | rewrite [World.size_drew] at hz2)); (repeat (first | rewrite [World.size_alloc] at hL5 | rewrite [World.size_setCell] at hL5 | rewrite [World.size_drew] at hL5)); have hlt5 := GoD.own_lt ho5; have c5_0 := fun o => Xy hb (w.heap.size) o (by go_size); have f5_0 := fun o => Ji hb (w.heap.size) o (by go_size); have c5_1 := fun o => Xy hb (w.heap.size + 1) o (by go_size); have f5_1 := fun o => Ji hb (w.heap.size + 1) o (by go_size); have c5_2 := fun o => Xy hb (w.heap.size + 1 + 1) o (by go_size); have f5_2 := fun o => Ji hb (w.heap.size + 1 + 1) o (by go_size); have HO5 := Lib.hid ho5; clear ho5; have HL5 := Lib.hid hL5; clear hL5; have HT5 := Lib.hid hlt5; clear hlt5; have HB5 := Lib.hid hb; clear hb) | ((with_reducible show bodyPost _ _ _ _ _ _); refine bodyPost_ret (v := .agg #[.slice r1_oa1 a1.1.1.length r1_cp1, .slice r1_oa2 a1.1.2.1.length r1_cp2, .int .i64 a1.1.2.2, .slice r1_oa3 a1.2.1.length r1_cp3, .slice r1_oa4 a1.2.2.length r1_cp4, .string a2.1, .string a2.2, .int .i64 a3, .slice oa3 a4.length cp3, .slice oa4 a5.length cp4, .slice oa5 a6.length cp5]) (by simp [results, Tryz.results31, go_sem, c1_1, c2_1, c3_1, c4_1, c5_1]) rfl ⟨[.slice r1_oa1 a1.1.1.length r1_cp1, .slice r1_oa2 a1.1.2.1.length r1_cp2, .int .i64 a1.1.2.2, .slice r1_oa3 a1.2.1.length r1_cp3, .slice r1_oa4 a1.2.2.length r1_cp4, .string a2.1, .string a2.2, .int .i64 a3, .slice oa3 a4.length cp3, .slice oa4 a5.length cp4, .slice oa5 a6.length cp5], (L1 ++ (L2 ++ ([] ++ (L3 ++ (L4 ++ L5))))), rfl, by go_grown, ?_, ?_⟩; (exact (Zd (show own L1 _ [.slice r1_oa1 a1.1.1.length r1_cp1, .slice r1_oa2 a1.1.2.1.length r1_cp2, .int .i64 a1.1.2.2, .slice r1_oa3 a1.2.1.length r1_cp3, .slice r1_oa4 a1.2.2.length r1_cp4] a1 by (repeat (first | (with_reducible exact HO1.out) | ((with_reducible refine Y6 ?_ ?_); rotate_left; exact (fun hm => by have := HL1.out _ hm; omega)) | (with_reducible refine Ja ?_) | (with_reducible refine Kt ?_) | (with_reducible refine Kv ?_ HB5.out) | (with_reducible refine Kv ?_ HB4.out) | (with_reducible refine Kv ?_ HB3.out) | (with_reducible refine Kv ?_ HB2.out)))) (Zd (show own L2 _ [.string a2.1, .string a2.2] a2 by (repeat (first | (with_reducible exact HO2.out) | ((with_reducible refine Y6 ?_ ?_); rotate_left; exact (fun hm => by have := HL2.out _ hm; omega)) | (with_reducible refine Ja ?_) | (with_reducible refine Kt ?_) | (with_reducible refine Kv ?_ HB5.out) | (with_reducible refine Kv ?_ HB4.out) | (with_reducible refine Kv ?_ HB3.out)))) (Zd (own_i _ AR3H.out) (Zd (show own L3 _ [.slice oa3 a4.length cp3] a4 by (repeat (first | (with_reducible exact HO3.out) | ((with_reducible refine Y6 ?_ ?_); rotate_left; exact (fun hm => by have := HL3.out _ hm; omega)) | (with_reducible refine Ja ?_) | (with_reducible refine Kt ?_) | (with_reducible refine Kv ?_ HB5.out) | (with_reducible refine Kv ?_ HB4.out)))) (Zd (show own L4 _ [.slice oa4 a5.length cp4] a5 by (repeat (first | (with_reducible exact HO4.out) | ((with_reducible refine Y6 ?_ ?_); rotate_left; exact (fun hm => by have := HL4.out _ hm; omega)) | (with_reducible refine Ja ?_) | (with_reducible refine Kt ?_) | (with_reducible refine Kv ?_ HB5.out)))) (show own L5 _ [.slice oa5 a6.length cp5] a6 by (repeat (first | (with_reducible exact HO5.out) | ((with_reducible refine Y6 ?_ ?_); rotate_left; exact (fun hm => by have := HL5.out _ hm; omega)) | (with_reducible refine Ja ?_) | (with_reducible refine Kt ?_)))) (fun x hx hy => by (try simp only [List.mem_append, List.not_mem_nil, List.append_nil, List.nil_append, false_or, or_false] at hy); have := HT4.out x hx; rcases hy with hy <;> (first | (have := HL5.out x hy; omega)))) (fun x hx hy => by (try simp only [List.mem_append, List.not_mem_nil, List.append_nil, List.nil_append, false_or, or_false] at hy); have := HT3.out x hx; rcases hy with hy | hy <;> (first | (have := HL4.out x hy; omega) | (have := HL5.out x hy; omega)))) (by simp)) (fun x hx hy => by (try simp only [List.mem_append, List.not_mem_nil, List.append_nil, List.nil_append, false_or, or_false] at hy); have := HT2.out x hx; rcases hy with hy | hy | hy <;> (first | (have := HL3.out x hy; omega) | (have := HL4.out x hy; omega) | (have := HL5.out x hy; omega)))) (fun x hx hy => by (try simp only [List.mem_append, List.not_mem_nil, List.append_nil, List.nil_append, false_or, or_false] at hy); have := HT1.out x hx; rcases hy with hy | hy | hy | hy <;> (first | (have := HL2.out x hy; omega) | (have := HL3.out x hy; omega) | (have := HL4.out x hy; omega) | (have := HL5.out x hy; omega))))); intro x hx; (try simp only [List.mem_append, List.not_mem_nil, List.append_nil, List.nil_append, false_or, or_false] at hx); rcases hx with hx | hx | hx | hx | hx <;> first | (have := HL1.out x hx; omega) | (have := HL2.out x hx; omega) | (have := HL3.out x hx; omega) | (have := HL4.out x hx; omega) | (have := HL5.out x hx; omega)))
open GoE (enc wide)
theorem szSystem_a (a : Vo) (left : Int) (h0 : 0 ≤ left) (h1 : left ≤ 1048576) : ACalls Tryz.prog 29 [argA a, intA left] (intA (szI (GoD.size a) left)) := acalls_szA (by unfold Js; kernel_rfl) h0 h1 fun w c hr => szSystem_c w c a left hr h0 h1
theorem toSystem_a (a : Vo) (h : GoD.size a ≤ 1048576) : ACalls Tryz.prog 31 [argA a] (resA a) := acalls_toA (by unfold Js; kernel_rfl) fun w c hr => toSystem_c w c a hr h
theorem eqSystem_a {a b : Vo} (h : a = b) : ACalls Tryz.prog 33 [argA a, argA b] (boolA true) := acalls_eqA (by unfold Js; kernel_rfl) h fun w c c2 h1 h2 => eqSystem_c w c c2 a b h1 h2
def Zo (aX : Vo) (aI : Int) : Bool := (bif decide ((szI (GoD.size aX) 1048576) < (0 : Int)) then true else true)
theorem lawsFnExactIsStreamConsistent_a (aX : Vo) (aI : Int) : ACalls Tryz.prog 6 [.a [.h aX.1.1.1, .h aX.1.1.2.1, .i aX.1.1.2.2, .h aX.1.2.1, .h aX.1.2.2, .s aX.2.1.1, .s aX.2.1.2, .i aX.2.2.1, .h aX.2.2.2.1, .h aX.2.2.2.2.1, .h aX.2.2.2.2.2], .i aI] (.b (Zo aX aI)) := by
 refine Qn (tt := tt) Qb Tryz.func6 (fn := Tryz.f6) rfl (by unfold Js; kernel_rfl) (Nat.le_of_ble_eq_true rfl) fun w0 F0 => ?_
 refine Qa ?_
 refine rk Qb [(2, .p 2 0), (4, .b false)] [0] [(2, [.h aX.1.1.1, .h aX.1.1.2.1, .i aX.1.1.2.2, .h aX.1.2.1, .h aX.1.2.2, .s aX.2.1.1, .s aX.2.1.2, .i aX.2.2.1, .h aX.2.2.2.1, .h aX.2.2.2.2.1, .h aX.2.2.2.2.2])] [] [] (o0) ?_
 refine Qa ?_
 refine rk Qb [(5, .i 1048576)] [] [] [] [] (o0) ?_
 refine Qa ?_
 have hz1 := szI_bd (GoD.size aX) 1048576
 refine rk Qb [(5, .i (szI (GoD.size aX) 1048576))] [5] [] [] [(2, .val (.i (szI (GoD.size aX) 1048576)))] (o1 (Qf (szSystem_a aX 1048576 (by omega) (by omega)))) ?_
 refine Qa ?_
 refine Qa ?_
 refine rk Qb [(13, .b (decide ((szI (GoD.size aX) 1048576) < (0 : Int))))] [5] [] [] [] (o0) ?_
 refine ck (decide ((szI (GoD.size aX) 1048576) < (0 : Int))) (fun h2 => ?_) (fun h2 => ?_)
 ·
  refine Qa ?_
  refine rk Qb [(4, .b true)] [4, 13] [] [] [] (o0) ?_
  refine Qj ?_
  exact Y2 [] (congrArg (fun z => (.b z : AV)) (show Zo aX aI = true from X0 h2 (rfl)).symm)
 ·
  have h2d := of_decide_eq_false h2
  refine Qg ?_
  refine Qa ?_
  have hsz_aX : GoD.size aX ≤ 1048576 := by omega
  refine rk Qb [(6, .b (Yq aX aI))] [13] [] [] [(1, .val (.a [.o 0 aX.1.1.1, .o 1 aX.1.1.2.1, .i aX.1.1.2.2, .o 2 aX.1.2.1, .o 3 aX.1.2.2, .s aX.2.1.1, .s aX.2.1.2, .i aX.2.2.1, .o 4 aX.2.2.2.1, .o 5 aX.2.2.2.2.1, .o 6 aX.2.2.2.2.2])), (3, .val (.b (Yq aX aI)))] (o2 (Qf (toSystem_a aX hsz_aX)) (o1 (Qf ((stream_eq aX aI) ▸ (specIsStreamConsistent_a aX aI (by have := hsz_aX; omega)))))) ?_
  refine Qa ?_
  refine rk Qb [(7, .p 7 0)] [] [(7, [.o 1216 aX.1.1.1, .o 1217 aX.1.1.2.1, .i aX.1.1.2.2, .o 1218 aX.1.2.1, .o 1219 aX.1.2.2, .s aX.2.1.1, .s aX.2.1.2, .i aX.2.2.1, .o 1220 aX.2.2.2.1, .o 1221 aX.2.2.2.2.1, .o 1222 aX.2.2.2.2.2])] [] [(1, .val (.a [.o 0 aX.1.1.1, .o 1 aX.1.1.2.1, .i aX.1.1.2.2, .o 2 aX.1.2.1, .o 3 aX.1.2.2, .s aX.2.1.1, .s aX.2.1.2, .i aX.2.2.1, .o 4 aX.2.2.2.1, .o 5 aX.2.2.2.2.1, .o 6 aX.2.2.2.2.2]))] (o1 (Qf (toSystem_a aX hsz_aX))) ?_
  refine Qa ?_
  refine rk Qb [(8, .b (Yq aX aI))] [1] [] [] [(2, .val (.b (Yq aX aI)))] (o1 (Qf (implIsStreamConsistent_a aX aI (by have := hsz_aX; omega)))) ?_
  refine Qa ?_
  refine Qa ?_
  refine rk Qb [(25, .b false)] [6, 8] [] [] [(2, .val (.b false))] (o1 (Qe (show .b (!((Yq aX aI) == (Yq aX aI))) = .b false from Qd (by simp)))) ?_
  refine ckF ?_
  refine Qg ?_
  refine Qa ?_
  refine Qa ?_
  refine rd' Qb Zn [(30, .b false)] [2, 7, 25] [] [2, 7] [(2, .val (.a [.o 0 aX.1.1.1, .o 1 aX.1.1.2.1, .i aX.1.1.2.2, .o 2 aX.1.2.1, .o 3 aX.1.2.2, .s aX.2.1.1, .s aX.2.1.2, .i aX.2.2.1, .o 4 aX.2.2.2.1, .o 5 aX.2.2.2.2.1, .o 6 aX.2.2.2.2.2])), (3, .val (.b true)), (4, .val (.b false))] (o2 (Qf (toSystem_a aX hsz_aX)) (o2 (Qf (eqSystem_a (a := aX) (b := aX) (rfl))) (o1 (Qe (show .b (!true) = .b false from rfl))))) ?_
  refine ckF ?_
  refine Qg ?_
  refine Qa ?_
  refine rk Qb [(4, .b true)] [4, 30] [] [] [] (o0) ?_
  refine Qj ?_
  exact Y2 [] (congrArg (fun z => (.b z : AV)) (show Zo aX aI = true from Qv h2 (rfl)).symm)
end Go.Proofs.YtnhmnfmhnepjmaaGreat
namespace Go.Proofs.YtnhmnfmhnepjmaaGreat
open Go.RowKit
open GoD (rd own)
set_option maxRecDepth 100000 in
set_option maxHeartbeats 1000000 in
theorem bigIsStreamConsistent (w : World) (c0 : List Value) (a0 : Vo) (h0 : rd w c0 a0) (a1 : Int) (h1 : I64 a1) (hbig : ¬ (GoD.size a0 ≤ 1048576)) : Calls Tryz.prog 6 #[.agg c0.toArray, .int .i64 a1] w (Ret w (.bool true)) := by
  obtain ⟨p0_oa1, p0_cp1, p0_oa2, p0_cp2, p0_oa3, p0_cp3, p0_oa4, p0_cp4, p0_oa5, p0_cp5, p0_oa6, p0_cp6, p0_oa7, p0_cp7, rfl⟩ := cells_System h0
  have HA0 := Lib.hid h0; clear h0
  have HA1 := Lib.hid h1; clear h1
  have tok1 : True := trivial
  go_enter Tryz.func6, Tryz.ntmps6
  go_wp2_with (first | (go_at_call 29; have tk := tok1; clear tok1; refine Jm (w := w) (szSystem_c _ [.slice p0_oa1 a0.1.1.1.length p0_cp1, .slice p0_oa2 a0.1.1.2.1.length p0_cp2, .int .i64 a0.1.1.2.2, .slice p0_oa3 a0.1.2.1.length p0_cp3, .slice p0_oa4 a0.1.2.2.length p0_cp4, .string a0.2.1.1, .string a0.2.1.2, .int .i64 a0.2.2.1, .slice p0_oa5 a0.2.2.2.1.length p0_cp5, .slice p0_oa6 a0.2.2.2.2.1.length p0_cp6, .slice p0_oa7 a0.2.2.2.2.2.length p0_cp7] a0 _ (Qh HA0.out (by repeat (first | (with_reducible exact Below.refl _ _) | (with_reducible refine Below.alloc ?_ (by go_size) _) | (with_reducible refine Below.drew ?_)))) (by omega) (by omega)) (by repeat (first | (with_reducible exact Below.refl _ _) | (with_reducible refine Below.alloc ?_ (by go_size) _) | (with_reducible refine Below.drew ?_))) ?_; intro w1 r1 hB1 hb hz1 _ hr hs1; have HR1 := Lib.hid hr; clear hr; have hz2 := hb.size; (repeat (first | rewrite [World.size_alloc] at hz2 | rewrite [World.size_setCell] at hz2 | rewrite [World.size_drew] at hz2)); have c1_0 := fun o => Xy hb (w.heap.size) o (by go_size); have l1_0 : w.heap.size < w1.heap.size := (by go_size); have HB1 := Lib.hid hb; clear hb) | (exfalso; have q1 := HR1.out; apply hbig; unfold szq at *; omega))
  all_goals
    go_ret
    refine ⟨rfl, ?_⟩
    first | (with_reducible assumption) | go_grown
theorem lawsFnExactIsStreamConsistent_true (a0 : Vo) (a1 : Int) : Zo a0 a1 = true := by
  unfold Zo
  simp
theorem lawIsStreamConsistent (w : World) (c0 : List Value) (a0 : Vo) (h0 : rd w c0 a0) (a1 : Int) (h1 : I64 a1) : Calls Tryz.prog 6 #[.agg c0.toArray, .int .i64 a1] w (Ret w (.bool true)) := by
  by_cases hbig : GoD.size a0 ≤ 1048576
  · have h := (lawsFnExactIsStreamConsistent_a a0 a1).run (.cons (arg_agg h0 (GoE.wide_size (show GoD.size a0 ≤ 1073741824 by omega))) (.cons (arg_int h1) .nil))
    rw [lawsFnExactIsStreamConsistent_true] at h
    exact h.mono fun _ _ h => ret_bool h
  · exact bigIsStreamConsistent w c0 a0 h0 a1 h1 hbig
end Go.Proofs.YtnhmnfmhnepjmaaGreat
