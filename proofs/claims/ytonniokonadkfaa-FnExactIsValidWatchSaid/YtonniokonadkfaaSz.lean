/- The laws' functions that count sizes. -/
import Derived.Test.YtonniokonadkfaaProg
import Derived.Test.YtonniokonadkfaaTy
namespace Go.Proofs.Ytonniokonadkfaa
open Go.RowKit
open GoD (rd own)
set_option maxHeartbeats 1000000 in
theorem szIntS_c (w : World) (v : Value) (l : List Int) (left : Int) (ha : rd w [v] l) (h0 : 0 ≤ left) (h1 : left ≤ 1048576) : Calls Try.prog 33 #[v, .int .i64 left] w (RetSz w (GoD.size l) left) := by
  obtain ⟨oa, cap, e1, hl, hm, hel⟩ := ha
  obtain rfl : v = _ := by simpa using e1
  clear e1
  have HE := Lib.hid hel; clear hel
  unfold maxLen at hm
  have hlm : l.length ≤ 9223372036854775807 := by omega
  have hsz : GoD.size l = l.length + (l.map GoD.size).sum := rfl
  have HSZ := Lib.hid hsz; clear hsz
  have hz0 : (l.map GoD.size).sum = 0 := sum_zero l (fun _ => rfl)
  have HZ0 := Lib.hid hz0; clear hz0
  go_enter Try.func33, Try.ntmps33
  go_wp2
  all_goals
    go_ret
    refine ⟨_, rfl, ?_, by go_grown⟩
    rw [HSZ.out, HZ0.out]
    unfold szq
    go_light
    omega

set_option maxHeartbeats 1000000 in
theorem szEvent_c (w : World) (ca : List Value) (a : EventD) (left : Int) (ha : rd w ca a) (h0 : 0 ≤ left) (h1 : left ≤ 1048576) : Calls Try.prog 27 #[.agg ca.toArray, .int .i64 left] w (RetSz w (GoD.size a) left) := by
  obtain ⟨a1, a2, a3⟩ := a
  obtain ⟨ac1, at1, rfl, ar1, ac2, at2, rfl, ar2, ar3⟩ := ha
  obtain ⟨rfl, ar1⟩ := ar1
  obtain ⟨ax2_0, rfl⟩ := len1 (show _ = 1 from GoD.rd_len ar2)
  obtain ⟨ax3_0, rfl⟩ := len1 (show _ = 1 from GoD.rd_len ar3)
  dsimp only [List.cons_append, List.nil_append] at *
  clear ar1
  have AR2H := Lib.hid ar2; clear ar2
  have AR3H := Lib.hid ar3; clear ar3
  have tok1 : True := trivial
  have tok2 : True := trivial
  have hsz : GoD.size (a1, a2, a3) = (0 + (GoD.size a2 + GoD.size a3)) := rfl
  have HSZ := Lib.hid hsz; clear hsz
  go_enter Try.func27, Try.ntmps27
  go_wp2_with (first | (go_at_call 33; have tk := tok1; clear tok1; refine call_sz (w := w) (szIntS_c _ ax2_0 a2 _ (rd_below AR2H.out (by go_grown)) (by omega) (by omega)) (by go_grown) ?_; intro w1 r1 hB hb hz hz2 hr hs; have HR1 := Lib.hid hr; clear hr; (repeat (first | rewrite [World.size_alloc] at hz2 | rewrite [World.size_setCell] at hz2 | rewrite [World.size_drew] at hz2)); have c0 := fun o => bcell hb (w.heap.size) o (by go_size); clear hb) | (go_at_call 33; have tk := tok2; clear tok2; refine call_sz (w := w) (szIntS_c _ ax3_0 a3 _ (rd_below AR3H.out (by go_grown)) (by omega) (by omega)) (by go_grown) ?_; intro w2 r2 hB hb hz hz2 hr hs; have HR2 := Lib.hid hr; clear hr; (repeat (first | rewrite [World.size_alloc] at hz2 | rewrite [World.size_setCell] at hz2 | rewrite [World.size_drew] at hz2)); have c0 := fun o => bcell hb (w.heap.size) o (by go_size); clear hb))
  all_goals
    go_ret
    refine ⟨_, rfl, ?_, by go_grown⟩
    rw [HSZ.out]
    unfold szq
    (try have u1 := HR1.out)
    (try have u2 := HR2.out)
    (try unfold szq at *)
    go_light
    omega

set_option maxHeartbeats 1000000 in
theorem szEventS_c (w : World) (v : Value) (l : List EventD) (left : Int) (ha : rd w [v] l) (h0 : 0 ≤ left) (h1 : left ≤ 1048576) : Calls Try.prog 7 #[v, .int .i64 left] w (RetSz w (GoD.size l) left) := by
  obtain ⟨oa, cap, e1, hl, hm, hel⟩ := ha
  obtain rfl : v = _ := by simpa using e1
  clear e1
  have HE := Lib.hid hel; clear hel
  unfold maxLen at hm
  have hlm : l.length ≤ 9223372036854775807 := by omega
  have hsz : GoD.size l = l.length + (l.map GoD.size).sum := rfl
  have HSZ := Lib.hid hsz; clear hsz
  by_cases hneg : left - l.length < 0
  · go_enter Try.func7, Try.ntmps7
    go_wp2
    go_ret
    refine ⟨_, rfl, ?_, Below.refl _ _⟩
    rw [HSZ.out]
    unfold szq
    omega
  · go_enter Try.func7, Try.ntmps7
    go_wp2
    go_loopw [1, 5] (fun q i wr => ∃ (k : Nat) (r : Int), k ≤ l.length ∧ i = .int .i64 k ∧ q = .int .i64 r ∧ 0 ≤ r ∧ r ≤ 1048576 ∧ Hid (r = left - l.length - ((l.take k).map GoD.size).sum) ∧ Below w.heap.size w wr) (fun _ i _ => l.length - (intOf i).toNat)
    case atStart => exact ⟨0, _, Nat.zero_le _, rfl, rfl, by omega, by omega, by show _ = _; simp, Below.refl _ _⟩
    case round =>
      obtain ⟨k, r, hk, rfl, rfl, hr0, hr1, HR, hB⟩ := hrel
      by_cases hkl : k < l.length
      · have hx := List.getElem?_eq_getElem hkl
        obtain ⟨eb, eo, ee, rfl, hcl, hcc, hxr⟩ := HE.out k _ hx
        have HT := Lib.hid (sum_take hx)
        have HU := Lib.hid (sum_take_le hx)
        clear hx
        generalize l[k] = x at *
        obtain ⟨x0, x1, x2, rfl⟩ := len3 (show _ = 3 from hcl)
        have p0 : wr.cell? ⟨eb, eo + k * 3, none⟩ = some x0 := (hB.cell (World.block_lt_of_cell? w _ (hcc 0 _ rfl))).trans (hcc 0 _ rfl)
        have p1 : wr.cell? ⟨eb, eo + k * 3 + 1, none⟩ = some x1 := (hB.cell (World.block_lt_of_cell? w _ (hcc 1 _ rfl))).trans (hcc 1 _ rfl)
        have p2 : wr.cell? ⟨eb, eo + k * 3 + 2, none⟩ = some x2 := (hB.cell (World.block_lt_of_cell? w _ (hcc 2 _ rfl))).trans (hcc 2 _ rfl)
        have HXR := Lib.hid hxr; clear hxr hcc hcl
        go_wp2_with (go_at_call 27; refine call_sz (w := w) (szEvent_c _ [x0, x1, x2] x _ (rd_below HXR.out hB) (by omega) (by omega)) (by go_grown) ?_; intro w2 r2 hB2 hb hz hz2 hr2 hs; have HR2 := Lib.hid hr2; clear hr2 hb)
        · go_ret
          refine ⟨_, rfl, ?_, by go_grown⟩
          have u1 := HU.out; have u2 := HR2.out; have u3 := HR.out
          rw [HSZ.out]
          unfold szq at *
          go_light
          omega
        · go_roundw
          case rel => exact ⟨k + 1, _, by omega, by go_num, rfl, by omega, by omega, by
          show _ = _
          have u1 := HT.out; have u2 := HR2.out; have u3 := HR.out
          unfold szq at *
          rw [u1]
          omega, by go_grown⟩
          case measure => simp [intOf]; omega
      · obtain rfl : k = l.length := by omega
        go_wp2
        go_ret
        refine ⟨_, rfl, ?_, hB⟩
        have u3 := HR.out
        rw [List.take_length] at u3
        rw [HSZ.out]
        unfold szq
        omega

set_option maxHeartbeats 1000000 in
theorem szWatch_c (w : World) (ca : List Value) (a : WatchD) (left : Int) (ha : rd w ca a) (h0 : 0 ≤ left) (h1 : left ≤ 1048576) : Calls Try.prog 17 #[.agg ca.toArray, .int .i64 left] w (RetSz w (GoD.size a) left) := by
  obtain ⟨a1, a2, a3, a4⟩ := a
  obtain ⟨ac1, at1, rfl, ar1, ac2, at2, rfl, ar2, ac3, at3, rfl, ar3, ar4⟩ := ha
  obtain ⟨rfl, ar1⟩ := ar1
  obtain ⟨rfl, ar2⟩ := ar2
  obtain ⟨ax3_0, rfl⟩ := len1 (show _ = 1 from GoD.rd_len ar3)
  obtain ⟨ax4_0, rfl⟩ := len1 (show _ = 1 from GoD.rd_len ar4)
  dsimp only [List.cons_append, List.nil_append] at *
  clear ar1
  unfold maxLen at ar2
  have ar2 : a2.size ≤ 9223372036854775807 := by omega
  have AR3H := Lib.hid ar3; clear ar3
  have AR4H := Lib.hid ar4; clear ar4
  have tok1 : True := trivial
  have tok2 : True := trivial
  have hsz : GoD.size (a1, a2, a3, a4) = (0 + (a2.size + (GoD.size a3 + GoD.size a4))) := rfl
  have HSZ := Lib.hid hsz; clear hsz
  go_enter Try.func17, Try.ntmps17
  go_wp2_with (first | (go_at_call 33; have tk := tok1; clear tok1; refine call_sz (w := w) (szIntS_c _ ax3_0 a3 _ (rd_below AR3H.out (by go_grown)) (by omega) (by omega)) (by go_grown) ?_; intro w1 r1 hB hb hz hz2 hr hs; have HR1 := Lib.hid hr; clear hr; (repeat (first | rewrite [World.size_alloc] at hz2 | rewrite [World.size_setCell] at hz2 | rewrite [World.size_drew] at hz2)); have c0 := fun o => bcell hb (w.heap.size) o (by go_size); clear hb) | (go_at_call 7; have tk := tok2; clear tok2; refine call_sz (w := w) (szEventS_c _ ax4_0 a4 _ (rd_below AR4H.out (by go_grown)) (by omega) (by omega)) (by go_grown) ?_; intro w2 r2 hB hb hz hz2 hr hs; have HR2 := Lib.hid hr; clear hr; (repeat (first | rewrite [World.size_alloc] at hz2 | rewrite [World.size_setCell] at hz2 | rewrite [World.size_drew] at hz2)); have c0 := fun o => bcell hb (w.heap.size) o (by go_size); clear hb))
  all_goals
    go_ret
    refine ⟨_, rfl, ?_, by go_grown⟩
    rw [HSZ.out]
    unfold szq
    (try have u1 := HR1.out)
    (try have u2 := HR2.out)
    (try unfold szq at *)
    go_light
    omega
end Go.Proofs.Ytonniokonadkfaa
