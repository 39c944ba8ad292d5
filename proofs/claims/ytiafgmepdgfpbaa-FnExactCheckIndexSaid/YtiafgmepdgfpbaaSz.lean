/- The laws' functions that count sizes. -/
import Derived.Test.YtiafgmepdgfpbaaProg
import Derived.Test.YtiafgmepdgfpbaaTy
set_option linter.unusedVariables false
set_option linter.unusedSimpArgs false
namespace Go.Proofs.Ytiafgmepdgfpbaa
open Go.RowKit
open GoD (rd own)
set_option maxRecDepth 100000 in
set_option maxHeartbeats 1000000 in
theorem szValue_c (w : World) (ca : List Value) (a : ValueD) (left : Int) (ha : rd w ca a) (h0 : 0 ≤ left) (h1 : left ≤ 1048576) : Calls Try.prog 81 #[.agg ca.toArray, .int .i64 left] w (RetSz w (GoD.size a) left) := by
  obtain ⟨a1, a2, a3⟩ := a
  obtain ⟨ac1, at1, rfl, ar1, ac2, at2, rfl, ar2, ar3⟩ := ha
  obtain ⟨rfl, ar1⟩ := ar1
  obtain ⟨rfl, ar2⟩ := ar2
  obtain ⟨rfl, ar3⟩ := ar3
  dsimp only [List.cons_append, List.nil_append] at *
  clear ar1
  clear ar2
  unfold maxLen at ar3
  have ar3 : a3.size ≤ 9223372036854775807 := by omega
  have hsz : GoD.size (a1, a2, a3) = (0 + (0 + a3.size)) := rfl
  have HSZ := Lib.hid hsz; clear hsz
  go_enter Try.func81, Try.ntmps81
  go_wp2
  all_goals
    go_ret
    refine ⟨_, rfl, ?_, by go_grown⟩
    rw [HSZ.out]
    unfold szq
    (try unfold szq at *)
    go_light
    omega
set_option maxRecDepth 100000 in
set_option maxHeartbeats 1000000 in
theorem szIntS_c (w : World) (v : Value) (l : List Int) (left : Int) (ha : rd w [v] l) (h0 : 0 ≤ left) (h1 : left ≤ 1048576) : Calls Try.prog 82 #[v, .int .i64 left] w (RetSz w (GoD.size l) left) := by
  obtain ⟨oa, cap, e1, hl, hm, hel⟩ := ha
  obtain rfl : v = _ := by simpa using e1
  clear e1
  have HE := Lib.hid hel; clear hel
  unfold maxLen at hm
  have hlm : l.length ≤ 9223372036854775807 := by omega
  have hsz : GoD.size l = l.length + (l.map GoD.size).sum := rfl
  have HSZ := Lib.hid hsz; clear hsz
  have hz0 : (l.map GoD.size).sum = 0 := sum_zero l (fun _ => rfl)
  have HZ0 := Lib.hid hz0; clear hz0
  go_enter Try.func82, Try.ntmps82
  go_wp2
  all_goals
    go_ret
    refine ⟨_, rfl, ?_, by go_grown⟩
    rw [HSZ.out, HZ0.out]
    unfold szq
    go_light
    omega
set_option maxRecDepth 100000 in
set_option maxHeartbeats 1000000 in
theorem szPosting_c (w : World) (ca : List Value) (a : PostingD) (left : Int) (ha : rd w ca a) (h0 : 0 ≤ left) (h1 : left ≤ 1048576) : Calls Try.prog 44 #[.agg ca.toArray, .int .i64 left] w (RetSz w (GoD.size a) left) := by
  obtain ⟨a1, a2, a3⟩ := a
  obtain ⟨ac1, at1, rfl, ar1, ac2, at2, rfl, ar2, ar3⟩ := ha
  obtain ⟨rfl, ar1⟩ := ar1
  obtain ⟨ax2_0, ax2_1, ax2_2, rfl⟩ := len3 (show _ = 3 from GoD.rd_len ar2)
  obtain ⟨ax3_0, rfl⟩ := len1 (show _ = 1 from GoD.rd_len ar3)
  dsimp only [List.cons_append, List.nil_append] at *
  unfold maxLen at ar1
  have ar1 : a1.size ≤ 9223372036854775807 := by omega
  have AR2H := Lib.hid ar2; clear ar2
  have AR3H := Lib.hid ar3; clear ar3
  have tok1 : True := trivial
  have tok2 : True := trivial
  have hsz : GoD.size (a1, a2, a3) = (a1.size + (GoD.size a2 + GoD.size a3)) := rfl
  have HSZ := Lib.hid hsz; clear hsz
  go_enter Try.func44, Try.ntmps44
  go_wp2_with (first | (go_at_call 81; have tk := tok1; clear tok1; refine call_sz (w := w) (szValue_c _ [ax2_0, ax2_1, ax2_2] a2 _ (rd_below AR2H.out (by go_grown)) (by omega) (by omega)) (by go_grown) ?_; intro w1 r1 hB hb hz hz2 hr hs; have HR1 := Lib.hid hr; clear hr; (repeat (first | rewrite [World.size_alloc] at hz2 | rewrite [World.size_setCell] at hz2 | rewrite [World.size_drew] at hz2)); have c0 := fun o => bcell hb (w.heap.size) o (by go_size); clear hb) | (go_at_call 82; have tk := tok2; clear tok2; refine call_sz (w := w) (szIntS_c _ ax3_0 a3 _ (rd_below AR3H.out (by go_grown)) (by omega) (by omega)) (by go_grown) ?_; intro w2 r2 hB hb hz hz2 hr hs; have HR2 := Lib.hid hr; clear hr; (repeat (first | rewrite [World.size_alloc] at hz2 | rewrite [World.size_setCell] at hz2 | rewrite [World.size_drew] at hz2)); have c0 := fun o => bcell hb (w.heap.size) o (by go_size); clear hb))
  all_goals
    go_ret
    refine ⟨_, rfl, ?_, by go_grown⟩
    rw [HSZ.out]
    unfold szq
    (try have u1 := HR1.out)
    (try have u2 := HR2.out)
    (try unfold szq at *)
    go_light
    omega
set_option maxRecDepth 100000 in
set_option maxHeartbeats 1000000 in
theorem szPostingS_c (w : World) (v : Value) (l : List PostingD) (left : Int) (ha : rd w [v] l) (h0 : 0 ≤ left) (h1 : left ≤ 1048576) : Calls Try.prog 20 #[v, .int .i64 left] w (RetSz w (GoD.size l) left) := by
  obtain ⟨oa, cap, e1, hl, hm, hel⟩ := ha
  obtain rfl : v = _ := by simpa using e1
  clear e1
  have HE := Lib.hid hel; clear hel
  unfold maxLen at hm
  have hlm : l.length ≤ 9223372036854775807 := by omega
  have hsz : GoD.size l = l.length + (l.map GoD.size).sum := rfl
  have HSZ := Lib.hid hsz; clear hsz
  by_cases hneg : left - l.length < 0
  · go_enter Try.func20, Try.ntmps20
    go_wp2
    go_ret
    refine ⟨_, rfl, ?_, Below.refl _ _⟩
    rw [HSZ.out]
    unfold szq
    omega
  · go_enter Try.func20, Try.ntmps20
    go_wp2
    go_loopw [1, 5] (fun q i wr => ∃ (k : Nat) (r : Int), k ≤ l.length ∧ i = .int .i64 k ∧ q = .int .i64 r ∧ 0 ≤ r ∧ r ≤ 1048576 ∧ Hid (r = left - l.length - ((l.take k).map GoD.size).sum) ∧ Below w.heap.size w wr) (fun _ i _ => l.length - (intOf i).toNat)
    case atStart => exact ⟨0, _, Nat.zero_le _, rfl, rfl, by omega, by omega, by show _ = _; simp, Below.refl _ _⟩
    case round =>
      obtain ⟨k, r, hk, rfl, rfl, hr0, hr1, HR, hB⟩ := hrel
      by_cases hkl : k < l.length
      · have hx := List.getElem?_eq_getElem hkl
        obtain ⟨eb, eo, ee, rfl, hcl, hcc, hxr⟩ := HE.out k _ hx
        have HT := Lib.hid (sum_take hx)
        have HU := Lib.hid (sum_take_le hx)
        clear hx
        generalize l[k] = x at *
        obtain ⟨x0, x1, x2, x3, x4, rfl⟩ := len5 (show _ = 5 from hcl)
        have p0 : wr.cell? ⟨eb, eo + k * 5, none⟩ = some x0 := (hB.cell (World.block_lt_of_cell? w _ (hcc 0 _ rfl))).trans (hcc 0 _ rfl)
        have p1 : wr.cell? ⟨eb, eo + k * 5 + 1, none⟩ = some x1 := (hB.cell (World.block_lt_of_cell? w _ (hcc 1 _ rfl))).trans (hcc 1 _ rfl)
        have p2 : wr.cell? ⟨eb, eo + k * 5 + 2, none⟩ = some x2 := (hB.cell (World.block_lt_of_cell? w _ (hcc 2 _ rfl))).trans (hcc 2 _ rfl)
        have p3 : wr.cell? ⟨eb, eo + k * 5 + 3, none⟩ = some x3 := (hB.cell (World.block_lt_of_cell? w _ (hcc 3 _ rfl))).trans (hcc 3 _ rfl)
        have p4 : wr.cell? ⟨eb, eo + k * 5 + 4, none⟩ = some x4 := (hB.cell (World.block_lt_of_cell? w _ (hcc 4 _ rfl))).trans (hcc 4 _ rfl)
        have HXR := Lib.hid hxr; clear hxr hcc hcl
        go_wp2_with (go_at_call 44; refine call_sz (w := w) (szPosting_c _ [x0, x1, x2, x3, x4] x _ (rd_below HXR.out hB) (by omega) (by omega)) (by go_grown) ?_; intro w2 r2 hB2 hb hz hz2 hr2 hs; have HR2 := Lib.hid hr2; clear hr2 hb)
        · go_ret
          refine ⟨_, rfl, ?_, by go_grown⟩
          have u1 := HU.out; have u2 := HR2.out; have u3 := HR.out
          rw [HSZ.out]
          unfold szq at *
          go_light
          omega
        · go_roundw
          case rel => exact ⟨k + 1, _, by omega, by go_num, rfl, by omega, by omega, by
          show _ = _
          have u1 := HT.out; have u2 := HR2.out; have u3 := HR.out
          unfold szq at *
          rw [u1]
          omega, by go_grown⟩
          case measure => simp [intOf]; omega
      · obtain rfl : k = l.length := by omega
        go_wp2
        go_ret
        refine ⟨_, rfl, ?_, hB⟩
        have u3 := HR.out
        rw [List.take_length] at u3
        rw [HSZ.out]
        unfold szq
        omega
set_option maxRecDepth 100000 in
set_option maxHeartbeats 1000000 in
theorem szField_c (w : World) (ca : List Value) (a : FieldD) (left : Int) (ha : rd w ca a) (h0 : 0 ≤ left) (h1 : left ≤ 1048576) : Calls Try.prog 79 #[.agg ca.toArray, .int .i64 left] w (RetSz w (GoD.size a) left) := by
  obtain ⟨a1, a2⟩ := a
  obtain ⟨ac1, at1, rfl, ar1, ar2⟩ := ha
  obtain ⟨rfl, ar1⟩ := ar1
  obtain ⟨rfl, ar2⟩ := ar2
  dsimp only [List.cons_append, List.nil_append] at *
  unfold maxLen at ar1
  have ar1 : a1.size ≤ 9223372036854775807 := by omega
  clear ar2
  have hsz : GoD.size (a1, a2) = (a1.size + 0) := rfl
  have HSZ := Lib.hid hsz; clear hsz
  go_enter Try.func79, Try.ntmps79
  go_wp2
  all_goals
    go_ret
    refine ⟨_, rfl, ?_, by go_grown⟩
    rw [HSZ.out]
    unfold szq
    (try unfold szq at *)
    go_light
    omega
set_option maxRecDepth 100000 in
set_option maxHeartbeats 1000000 in
theorem szFieldS_c (w : World) (v : Value) (l : List FieldD) (left : Int) (ha : rd w [v] l) (h0 : 0 ≤ left) (h1 : left ≤ 1048576) : Calls Try.prog 42 #[v, .int .i64 left] w (RetSz w (GoD.size l) left) := by
  obtain ⟨oa, cap, e1, hl, hm, hel⟩ := ha
  obtain rfl : v = _ := by simpa using e1
  clear e1
  have HE := Lib.hid hel; clear hel
  unfold maxLen at hm
  have hlm : l.length ≤ 9223372036854775807 := by omega
  have hsz : GoD.size l = l.length + (l.map GoD.size).sum := rfl
  have HSZ := Lib.hid hsz; clear hsz
  by_cases hneg : left - l.length < 0
  · go_enter Try.func42, Try.ntmps42
    go_wp2
    go_ret
    refine ⟨_, rfl, ?_, Below.refl _ _⟩
    rw [HSZ.out]
    unfold szq
    omega
  · go_enter Try.func42, Try.ntmps42
    go_wp2
    go_loopw [1, 5] (fun q i wr => ∃ (k : Nat) (r : Int), k ≤ l.length ∧ i = .int .i64 k ∧ q = .int .i64 r ∧ 0 ≤ r ∧ r ≤ 1048576 ∧ Hid (r = left - l.length - ((l.take k).map GoD.size).sum) ∧ Below w.heap.size w wr) (fun _ i _ => l.length - (intOf i).toNat)
    case atStart => exact ⟨0, _, Nat.zero_le _, rfl, rfl, by omega, by omega, by show _ = _; simp, Below.refl _ _⟩
    case round =>
      obtain ⟨k, r, hk, rfl, rfl, hr0, hr1, HR, hB⟩ := hrel
      by_cases hkl : k < l.length
      · have hx := List.getElem?_eq_getElem hkl
        obtain ⟨eb, eo, ee, rfl, hcl, hcc, hxr⟩ := HE.out k _ hx
        have HT := Lib.hid (sum_take hx)
        have HU := Lib.hid (sum_take_le hx)
        clear hx
        generalize l[k] = x at *
        obtain ⟨x0, x1, rfl⟩ := len2 (show _ = 2 from hcl)
        have p0 : wr.cell? ⟨eb, eo + k * 2, none⟩ = some x0 := (hB.cell (World.block_lt_of_cell? w _ (hcc 0 _ rfl))).trans (hcc 0 _ rfl)
        have p1 : wr.cell? ⟨eb, eo + k * 2 + 1, none⟩ = some x1 := (hB.cell (World.block_lt_of_cell? w _ (hcc 1 _ rfl))).trans (hcc 1 _ rfl)
        have HXR := Lib.hid hxr; clear hxr hcc hcl
        go_wp2_with (go_at_call 79; refine call_sz (w := w) (szField_c _ [x0, x1] x _ (rd_below HXR.out hB) (by omega) (by omega)) (by go_grown) ?_; intro w2 r2 hB2 hb hz hz2 hr2 hs; have HR2 := Lib.hid hr2; clear hr2 hb)
        · go_ret
          refine ⟨_, rfl, ?_, by go_grown⟩
          have u1 := HU.out; have u2 := HR2.out; have u3 := HR.out
          rw [HSZ.out]
          unfold szq at *
          go_light
          omega
        · go_roundw
          case rel => exact ⟨k + 1, _, by omega, by go_num, rfl, by omega, by omega, by
          show _ = _
          have u1 := HT.out; have u2 := HR2.out; have u3 := HR.out
          unfold szq at *
          rw [u1]
          omega, by go_grown⟩
          case measure => simp [intOf]; omega
      · obtain rfl : k = l.length := by omega
        go_wp2
        go_ret
        refine ⟨_, rfl, ?_, hB⟩
        have u3 := HR.out
        rw [List.take_length] at u3
        rw [HSZ.out]
        unfold szq
        omega
set_option maxRecDepth 100000 in
set_option maxHeartbeats 1000000 in
theorem szAttr_c (w : World) (ca : List Value) (a : AttrD) (left : Int) (ha : rd w ca a) (h0 : 0 ≤ left) (h1 : left ≤ 1048576) : Calls Try.prog 115 #[.agg ca.toArray, .int .i64 left] w (RetSz w (GoD.size a) left) := by
  obtain ⟨a1, a2⟩ := a
  obtain ⟨ac1, at1, rfl, ar1, ar2⟩ := ha
  obtain ⟨rfl, ar1⟩ := ar1
  obtain ⟨ax2_0, ax2_1, ax2_2, rfl⟩ := len3 (show _ = 3 from GoD.rd_len ar2)
  dsimp only [List.cons_append, List.nil_append] at *
  unfold maxLen at ar1
  have ar1 : a1.size ≤ 9223372036854775807 := by omega
  have AR2H := Lib.hid ar2; clear ar2
  have tok1 : True := trivial
  have hsz : GoD.size (a1, a2) = (a1.size + GoD.size a2) := rfl
  have HSZ := Lib.hid hsz; clear hsz
  go_enter Try.func115, Try.ntmps115
  go_wp2_with (first | (go_at_call 81; have tk := tok1; clear tok1; refine call_sz (w := w) (szValue_c _ [ax2_0, ax2_1, ax2_2] a2 _ (rd_below AR2H.out (by go_grown)) (by omega) (by omega)) (by go_grown) ?_; intro w1 r1 hB hb hz hz2 hr hs; have HR1 := Lib.hid hr; clear hr; (repeat (first | rewrite [World.size_alloc] at hz2 | rewrite [World.size_setCell] at hz2 | rewrite [World.size_drew] at hz2)); have c0 := fun o => bcell hb (w.heap.size) o (by go_size); clear hb))
  all_goals
    go_ret
    refine ⟨_, rfl, ?_, by go_grown⟩
    rw [HSZ.out]
    unfold szq
    (try have u1 := HR1.out)
    (try unfold szq at *)
    go_light
    omega
set_option maxRecDepth 100000 in
set_option maxHeartbeats 1000000 in
theorem szAttrS_c (w : World) (v : Value) (l : List AttrD) (left : Int) (ha : rd w [v] l) (h0 : 0 ≤ left) (h1 : left ≤ 1048576) : Calls Try.prog 106 #[v, .int .i64 left] w (RetSz w (GoD.size l) left) := by
  obtain ⟨oa, cap, e1, hl, hm, hel⟩ := ha
  obtain rfl : v = _ := by simpa using e1
  clear e1
  have HE := Lib.hid hel; clear hel
  unfold maxLen at hm
  have hlm : l.length ≤ 9223372036854775807 := by omega
  have hsz : GoD.size l = l.length + (l.map GoD.size).sum := rfl
  have HSZ := Lib.hid hsz; clear hsz
  by_cases hneg : left - l.length < 0
  · go_enter Try.func106, Try.ntmps106
    go_wp2
    go_ret
    refine ⟨_, rfl, ?_, Below.refl _ _⟩
    rw [HSZ.out]
    unfold szq
    omega
  · go_enter Try.func106, Try.ntmps106
    go_wp2
    go_loopw [1, 5] (fun q i wr => ∃ (k : Nat) (r : Int), k ≤ l.length ∧ i = .int .i64 k ∧ q = .int .i64 r ∧ 0 ≤ r ∧ r ≤ 1048576 ∧ Hid (r = left - l.length - ((l.take k).map GoD.size).sum) ∧ Below w.heap.size w wr) (fun _ i _ => l.length - (intOf i).toNat)
    case atStart => exact ⟨0, _, Nat.zero_le _, rfl, rfl, by omega, by omega, by show _ = _; simp, Below.refl _ _⟩
    case round =>
      obtain ⟨k, r, hk, rfl, rfl, hr0, hr1, HR, hB⟩ := hrel
      by_cases hkl : k < l.length
      · have hx := List.getElem?_eq_getElem hkl
        obtain ⟨eb, eo, ee, rfl, hcl, hcc, hxr⟩ := HE.out k _ hx
        have HT := Lib.hid (sum_take hx)
        have HU := Lib.hid (sum_take_le hx)
        clear hx
        generalize l[k] = x at *
        obtain ⟨x0, x1, x2, x3, rfl⟩ := len4 (show _ = 4 from hcl)
        have p0 : wr.cell? ⟨eb, eo + k * 4, none⟩ = some x0 := (hB.cell (World.block_lt_of_cell? w _ (hcc 0 _ rfl))).trans (hcc 0 _ rfl)
        have p1 : wr.cell? ⟨eb, eo + k * 4 + 1, none⟩ = some x1 := (hB.cell (World.block_lt_of_cell? w _ (hcc 1 _ rfl))).trans (hcc 1 _ rfl)
        have p2 : wr.cell? ⟨eb, eo + k * 4 + 2, none⟩ = some x2 := (hB.cell (World.block_lt_of_cell? w _ (hcc 2 _ rfl))).trans (hcc 2 _ rfl)
        have p3 : wr.cell? ⟨eb, eo + k * 4 + 3, none⟩ = some x3 := (hB.cell (World.block_lt_of_cell? w _ (hcc 3 _ rfl))).trans (hcc 3 _ rfl)
        have HXR := Lib.hid hxr; clear hxr hcc hcl
        go_wp2_with (go_at_call 115; refine call_sz (w := w) (szAttr_c _ [x0, x1, x2, x3] x _ (rd_below HXR.out hB) (by omega) (by omega)) (by go_grown) ?_; intro w2 r2 hB2 hb hz hz2 hr2 hs; have HR2 := Lib.hid hr2; clear hr2 hb)
        · go_ret
          refine ⟨_, rfl, ?_, by go_grown⟩
          have u1 := HU.out; have u2 := HR2.out; have u3 := HR.out
          rw [HSZ.out]
          unfold szq at *
          go_light
          omega
        · go_roundw
          case rel => exact ⟨k + 1, _, by omega, by go_num, rfl, by omega, by omega, by
          show _ = _
          have u1 := HT.out; have u2 := HR2.out; have u3 := HR.out
          unfold szq at *
          rw [u1]
          omega, by go_grown⟩
          case measure => simp [intOf]; omega
      · obtain rfl : k = l.length := by omega
        go_wp2
        go_ret
        refine ⟨_, rfl, ?_, hB⟩
        have u3 := HR.out
        rw [List.take_length] at u3
        rw [HSZ.out]
        unfold szq
        omega
set_option maxRecDepth 100000 in
set_option maxHeartbeats 1000000 in
theorem szFile_c (w : World) (ca : List Value) (a : FileD) (left : Int) (ha : rd w ca a) (h0 : 0 ≤ left) (h1 : left ≤ 1048576) : Calls Try.prog 80 #[.agg ca.toArray, .int .i64 left] w (RetSz w (GoD.size a) left) := by
  obtain ⟨a1, a2, a3, a4, a5⟩ := a
  obtain ⟨ac1, at1, rfl, ar1, ac2, at2, rfl, ar2, ac3, at3, rfl, ar3, ac4, at4, rfl, ar4, ar5⟩ := ha
  obtain ⟨rfl, ar1⟩ := ar1
  obtain ⟨rfl, ar2⟩ := ar2
  obtain rfl := ar3
  obtain ⟨rfl, ar4⟩ := ar4
  obtain ⟨ax5_0, rfl⟩ := len1 (show _ = 1 from GoD.rd_len ar5)
  dsimp only [List.cons_append, List.nil_append] at *
  clear ar1
  clear ar2
  clear ar4
  have AR5H := Lib.hid ar5; clear ar5
  have tok1 : True := trivial
  have hsz : GoD.size (a1, a2, a3, a4, a5) = (0 + (0 + (0 + (0 + GoD.size a5)))) := rfl
  have HSZ := Lib.hid hsz; clear hsz
  go_enter Try.func80, Try.ntmps80
  go_wp2_with (first | (go_at_call 106; have tk := tok1; clear tok1; refine call_sz (w := w) (szAttrS_c _ ax5_0 a5 _ (rd_below AR5H.out (by go_grown)) (by omega) (by omega)) (by go_grown) ?_; intro w1 r1 hB hb hz hz2 hr hs; have HR1 := Lib.hid hr; clear hr; (repeat (first | rewrite [World.size_alloc] at hz2 | rewrite [World.size_setCell] at hz2 | rewrite [World.size_drew] at hz2)); have c0 := fun o => bcell hb (w.heap.size) o (by go_size); clear hb))
  all_goals
    go_ret
    refine ⟨_, rfl, ?_, by go_grown⟩
    rw [HSZ.out]
    unfold szq
    (try have u1 := HR1.out)
    (try unfold szq at *)
    go_light
    omega
set_option maxRecDepth 100000 in
set_option maxHeartbeats 1000000 in
theorem szFileS_c (w : World) (v : Value) (l : List FileD) (left : Int) (ha : rd w [v] l) (h0 : 0 ≤ left) (h1 : left ≤ 1048576) : Calls Try.prog 43 #[v, .int .i64 left] w (RetSz w (GoD.size l) left) := by
  obtain ⟨oa, cap, e1, hl, hm, hel⟩ := ha
  obtain rfl : v = _ := by simpa using e1
  clear e1
  have HE := Lib.hid hel; clear hel
  unfold maxLen at hm
  have hlm : l.length ≤ 9223372036854775807 := by omega
  have hsz : GoD.size l = l.length + (l.map GoD.size).sum := rfl
  have HSZ := Lib.hid hsz; clear hsz
  by_cases hneg : left - l.length < 0
  · go_enter Try.func43, Try.ntmps43
    go_wp2
    go_ret
    refine ⟨_, rfl, ?_, Below.refl _ _⟩
    rw [HSZ.out]
    unfold szq
    omega
  · go_enter Try.func43, Try.ntmps43
    go_wp2
    go_loopw [1, 5] (fun q i wr => ∃ (k : Nat) (r : Int), k ≤ l.length ∧ i = .int .i64 k ∧ q = .int .i64 r ∧ 0 ≤ r ∧ r ≤ 1048576 ∧ Hid (r = left - l.length - ((l.take k).map GoD.size).sum) ∧ Below w.heap.size w wr) (fun _ i _ => l.length - (intOf i).toNat)
    case atStart => exact ⟨0, _, Nat.zero_le _, rfl, rfl, by omega, by omega, by show _ = _; simp, Below.refl _ _⟩
    case round =>
      obtain ⟨k, r, hk, rfl, rfl, hr0, hr1, HR, hB⟩ := hrel
      by_cases hkl : k < l.length
      · have hx := List.getElem?_eq_getElem hkl
        obtain ⟨eb, eo, ee, rfl, hcl, hcc, hxr⟩ := HE.out k _ hx
        have HT := Lib.hid (sum_take hx)
        have HU := Lib.hid (sum_take_le hx)
        clear hx
        generalize l[k] = x at *
        obtain ⟨x0, x1, x2, x3, x4, rfl⟩ := len5 (show _ = 5 from hcl)
        have p0 : wr.cell? ⟨eb, eo + k * 5, none⟩ = some x0 := (hB.cell (World.block_lt_of_cell? w _ (hcc 0 _ rfl))).trans (hcc 0 _ rfl)
        have p1 : wr.cell? ⟨eb, eo + k * 5 + 1, none⟩ = some x1 := (hB.cell (World.block_lt_of_cell? w _ (hcc 1 _ rfl))).trans (hcc 1 _ rfl)
        have p2 : wr.cell? ⟨eb, eo + k * 5 + 2, none⟩ = some x2 := (hB.cell (World.block_lt_of_cell? w _ (hcc 2 _ rfl))).trans (hcc 2 _ rfl)
        have p3 : wr.cell? ⟨eb, eo + k * 5 + 3, none⟩ = some x3 := (hB.cell (World.block_lt_of_cell? w _ (hcc 3 _ rfl))).trans (hcc 3 _ rfl)
        have p4 : wr.cell? ⟨eb, eo + k * 5 + 4, none⟩ = some x4 := (hB.cell (World.block_lt_of_cell? w _ (hcc 4 _ rfl))).trans (hcc 4 _ rfl)
        have HXR := Lib.hid hxr; clear hxr hcc hcl
        go_wp2_with (go_at_call 80; refine call_sz (w := w) (szFile_c _ [x0, x1, x2, x3, x4] x _ (rd_below HXR.out hB) (by omega) (by omega)) (by go_grown) ?_; intro w2 r2 hB2 hb hz hz2 hr2 hs; have HR2 := Lib.hid hr2; clear hr2 hb)
        · go_ret
          refine ⟨_, rfl, ?_, by go_grown⟩
          have u1 := HU.out; have u2 := HR2.out; have u3 := HR.out
          rw [HSZ.out]
          unfold szq at *
          go_light
          omega
        · go_roundw
          case rel => exact ⟨k + 1, _, by omega, by go_num, rfl, by omega, by omega, by
          show _ = _
          have u1 := HT.out; have u2 := HR2.out; have u3 := HR.out
          unfold szq at *
          rw [u1]
          omega, by go_grown⟩
          case measure => simp [intOf]; omega
      · obtain rfl : k = l.length := by omega
        go_wp2
        go_ret
        refine ⟨_, rfl, ?_, hB⟩
        have u3 := HR.out
        rw [List.take_length] at u3
        rw [HSZ.out]
        unfold szq
        omega
set_option maxRecDepth 100000 in
set_option maxHeartbeats 1000000 in
theorem szStore_c (w : World) (ca : List Value) (a : StoreD) (left : Int) (ha : rd w ca a) (h0 : 0 ≤ left) (h1 : left ≤ 1048576) : Calls Try.prog 19 #[.agg ca.toArray, .int .i64 left] w (RetSz w (GoD.size a) left) := by
  obtain ⟨a1, a2, a3⟩ := a
  obtain ⟨ac1, at1, rfl, ar1, ac2, at2, rfl, ar2, ar3⟩ := ha
  obtain ⟨ax1_0, rfl⟩ := len1 (show _ = 1 from GoD.rd_len ar1)
  obtain ⟨ax2_0, rfl⟩ := len1 (show _ = 1 from GoD.rd_len ar2)
  obtain ⟨rfl, ar3⟩ := ar3
  dsimp only [List.cons_append, List.nil_append] at *
  have AR1H := Lib.hid ar1; clear ar1
  have AR2H := Lib.hid ar2; clear ar2
  clear ar3
  have tok1 : True := trivial
  have tok2 : True := trivial
  have hsz : GoD.size (a1, a2, a3) = (GoD.size a1 + (GoD.size a2 + 0)) := rfl
  have HSZ := Lib.hid hsz; clear hsz
  go_enter Try.func19, Try.ntmps19
  go_wp2_with (first | (go_at_call 42; have tk := tok1; clear tok1; refine call_sz (w := w) (szFieldS_c _ ax1_0 a1 _ (rd_below AR1H.out (by go_grown)) (by omega) (by omega)) (by go_grown) ?_; intro w1 r1 hB hb hz hz2 hr hs; have HR1 := Lib.hid hr; clear hr; (repeat (first | rewrite [World.size_alloc] at hz2 | rewrite [World.size_setCell] at hz2 | rewrite [World.size_drew] at hz2)); have c0 := fun o => bcell hb (w.heap.size) o (by go_size); clear hb) | (go_at_call 43; have tk := tok2; clear tok2; refine call_sz (w := w) (szFileS_c _ ax2_0 a2 _ (rd_below AR2H.out (by go_grown)) (by omega) (by omega)) (by go_grown) ?_; intro w2 r2 hB hb hz hz2 hr hs; have HR2 := Lib.hid hr; clear hr; (repeat (first | rewrite [World.size_alloc] at hz2 | rewrite [World.size_setCell] at hz2 | rewrite [World.size_drew] at hz2)); have c0 := fun o => bcell hb (w.heap.size) o (by go_size); clear hb))
  all_goals
    go_ret
    refine ⟨_, rfl, ?_, by go_grown⟩
    rw [HSZ.out]
    unfold szq
    (try have u1 := HR1.out)
    (try have u2 := HR2.out)
    (try unfold szq at *)
    go_light
    omega
end Go.Proofs.Ytiafgmepdgfpbaa
