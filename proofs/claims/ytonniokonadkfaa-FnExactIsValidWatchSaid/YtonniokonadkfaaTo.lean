/- The laws' functions that copy their arguments into new memory. -/
import Derived.Test.YtonniokonadkfaaProg
import Derived.Test.YtonniokonadkfaaTy
namespace Go.Proofs.Ytonniokonadkfaa
open Go.RowKit
open GoD (rd own)
set_option maxHeartbeats 1000000 in
theorem toIntS_c (w : World) (v : Value) (l : List Int) (ha : rd w [v] l) (hsz : GoD.size l ≤ 1048576) : Calls Try.prog 9 #[v] w (RetS w l) := by
  obtain ⟨oa, cap, e1, hl, hm, hel⟩ := ha
  obtain rfl : v = _ := by simpa using e1
  clear e1
  have HE := Lib.hid hel; clear hel
  have hn : l.length ≤ 1048576 := by have := size_list_len l; omega
  have HS := Lib.hid (fun i a (h : l[i]? = some a) => size_list_get h)
  have hlm : l.length ≤ maxLen := by omega
  go_enter Try.func9, Try.ntmps9
  go_wp2_with (at_make; refine wp_make w (.tmp 6) (.tmp 6) 22 3 1 l.length rfl rfl Try.underlying22 (by kernel_rfl) rfl rfl (by omega) (by go_grown) ?_; intro w1 cur hcur hcs hB1 hb1 hlt1)
  go_loopw [4] (fun i wr => ∃ k : Nat, k ≤ l.length ∧ i = .int .i64 k ∧ Below w.heap.size w wr ∧ w.heap.size < wr.heap.size ∧ Hid (Part wr w.heap.size l.length 3 l k)) (fun i _ => l.length - (intOf i).toNat)
  case atStart => exact ⟨0, Nat.zero_le _, rfl, hB1, hlt1, Part.start hcur hcs l⟩
  case round =>
    obtain ⟨k, hk, rfl, hB, hlt, hP⟩ := hrel
    clear hB1 hb1 hlt1 hcur hcs
    by_cases hkl : k < l.length
    · have hx := List.getElem?_eq_getElem hkl
      obtain ⟨eb, eo, ee, rfl, hcl, hcc, hxr⟩ := HE.out k _ hx
      have hxs := HS.out k _ hx
      have HX := Lib.hid hx; clear hx
      generalize l[k] = x at *
      obtain ⟨cur2, hg, hgs⟩ := hP.out.block
      have hgs2 : cur2.size = l.length * 1 := hgs
      have hroom := Nat.mul_le_mul_right 1 (show k + 1 ≤ l.length by omega)
      obtain ⟨e, hxi⟩ := hxr
      obtain rfl := e
      have p0 : wr.cell? ⟨eb, eo + k, none⟩ = some (.int .i64 x) := by have h0 := hcc 0 _ rfl; simp only [GoD.n, Nat.mul_one, Nat.add_zero] at h0; exact (hB.cell (World.block_lt_of_cell? w _ h0)).trans h0
      have HXI := Lib.hid hxi; clear hxi
      obtain ⟨y0, q0⟩ : ∃ y, wr.cell? ⟨w.heap.size, k, none⟩ = some y := ⟨_, cells_of_heap hg k (by omega)⟩
      have fz := free_of_heap hg
      clear hcc hcl hg hgs
      go_wp2
      go_roundw
      case rel => exact ⟨k + 1, by omega, by go_num, by go_grown, by simpa using hlt, by
        have h := hP.out.step (Below.refl _ _) hkl hk HX.out (own_i wr HXI.out) (by simp)
        simp only [GoD.n, Nat.mul_one, World.setCells] at h
        exact h⟩
      case measure => simp [intOf]; omega
    · obtain rfl : k = l.length := by omega
      go_wp2
      go_ret
      obtain ⟨L, hL, hLB⟩ := hP.out.done hlm
      exact ⟨_, L, rfl, hB, hL, hLB⟩

set_option maxHeartbeats 1000000 in
theorem toEvent_c (w : World) (ca : List Value) (a : EventD) (ha : rd w ca a) (hsz : GoD.size a ≤ 1048576) : Calls Try.prog 29 #[.agg ca.toArray] w (RetA w a) := by
  obtain ⟨a1, a2, a3⟩ := a
  obtain ⟨ac1, at1, rfl, ar1, ac2, at2, rfl, ar2, ar3⟩ := ha
  obtain ⟨rfl, ar1⟩ := ar1
  obtain ⟨ax2_0, rfl⟩ := len1 (show _ = 1 from GoD.rd_len ar2)
  obtain ⟨ax3_0, rfl⟩ := len1 (show _ = 1 from GoD.rd_len ar3)
  dsimp only [List.cons_append, List.nil_append] at *
  replace hsz : (GoD.size a1 + (GoD.size a2 + GoD.size a3)) ≤ 1048576 := hsz
  have AR1H := Lib.hid ar1; clear ar1
  have AR2H := Lib.hid ar2; clear ar2
  have AR3H := Lib.hid ar3; clear ar3
  have tok1 : True := trivial
  have tok2 : True := trivial
  go_enter Try.func29, Try.ntmps29
  go_wp2_with (first | (go_at_call 9; have tk := tok1; clear tok1; refine call_retS (w := w) (toIntS_c _ ax2_0 a2 (rd_below AR2H.out (by go_grown)) (by omega)) (by go_grown) ?_; intro w1 v1 L1 hB hb hz _ ho1 hL1; obtain ⟨oa1, cp1, rfl⟩ := slice_of_own ho1; have hz2 := hb.size; (repeat (first | rewrite [World.size_alloc] at hz2 | rewrite [World.size_setCell] at hz2 | rewrite [World.size_drew] at hz2)); (repeat (first | rewrite [World.size_alloc] at hL1 | rewrite [World.size_setCell] at hL1 | rewrite [World.size_drew] at hL1)); have hlt1 := GoD.own_lt ho1; have c1_0 := fun o => bcell hb (w.heap.size) o (by go_size); have f1_0 := fun o => bfroz hb (w.heap.size) o (by go_size); have c1_1 := fun o => bcell hb (w.heap.size + 1) o (by go_size); have f1_1 := fun o => bfroz hb (w.heap.size + 1) o (by go_size); have c1_2 := fun o => bcell hb (w.heap.size + 1 + 1) o (by go_size); have f1_2 := fun o => bfroz hb (w.heap.size + 1 + 1) o (by go_size); have HO1 := Lib.hid ho1; clear ho1; have HL1 := Lib.hid hL1; clear hL1; have HT1 := Lib.hid hlt1; clear hlt1; have HB1 := Lib.hid hb; clear hb) | (go_at_call 9; have tk := tok2; clear tok2; refine call_retS (w := w) (toIntS_c _ ax3_0 a3 (rd_below AR3H.out (by go_grown)) (by omega)) (by go_grown) ?_; intro w2 v2 L2 hB hb hz _ ho2 hL2; obtain ⟨oa2, cp2, rfl⟩ := slice_of_own ho2; have hz2 := hb.size; (repeat (first | rewrite [World.size_alloc] at hz2 | rewrite [World.size_setCell] at hz2 | rewrite [World.size_drew] at hz2)); (repeat (first | rewrite [World.size_alloc] at hL2 | rewrite [World.size_setCell] at hL2 | rewrite [World.size_drew] at hL2)); have hlt2 := GoD.own_lt ho2; have c2_0 := fun o => bcell hb (w.heap.size) o (by go_size); have f2_0 := fun o => bfroz hb (w.heap.size) o (by go_size); have c2_1 := fun o => bcell hb (w.heap.size + 1) o (by go_size); have f2_1 := fun o => bfroz hb (w.heap.size + 1) o (by go_size); have c2_2 := fun o => bcell hb (w.heap.size + 1 + 1) o (by go_size); have f2_2 := fun o => bfroz hb (w.heap.size + 1 + 1) o (by go_size); have HO2 := Lib.hid ho2; clear ho2; have HL2 := Lib.hid hL2; clear hL2; have HT2 := Lib.hid hlt2; clear hlt2; have HB2 := Lib.hid hb; clear hb))
  refine bodyPost_ret (v := .agg #[.int .i64 a1, .slice oa1 a2.length cp1, .slice oa2 a3.length cp2]) (by simp [results, Try.results29, go_sem, c1_1, c2_1]) rfl ⟨[.int .i64 a1, .slice oa1 a2.length cp1, .slice oa2 a3.length cp2], ([] ++ (L1 ++ L2)), rfl, by go_grown, ?_, ?_⟩
  · exact (own_pair (own_i _ AR1H.out) (own_pair (show own L1 _ [.slice oa1 a2.length cp1] a2 by (repeat (first | (with_reducible exact HO1.out) | ((with_reducible refine own_setCell ?_ ?_); rotate_left; exact (fun hm => by have := HL1.out _ hm; omega)) | (with_reducible refine own_alloc ?_) | (with_reducible refine own_drew ?_) | (with_reducible refine own_below ?_ HB2.out)))) (show own L2 _ [.slice oa2 a3.length cp2] a3 by (repeat (first | (with_reducible exact HO2.out) | ((with_reducible refine own_setCell ?_ ?_); rotate_left; exact (fun hm => by have := HL2.out _ hm; omega)) | (with_reducible refine own_alloc ?_) | (with_reducible refine own_drew ?_)))) (fun x hx hy => by (try simp only [List.mem_append, List.not_mem_nil, List.append_nil, List.nil_append, false_or, or_false] at hy); have := HT1.out x hx; rcases hy with hy <;> (first | (have := HL2.out x hy; omega)))) (by simp))
  · intro x hx; (try simp only [List.mem_append, List.not_mem_nil, List.append_nil, List.nil_append, false_or, or_false] at hx); rcases hx with hx | hx <;> first | (have := HL1.out x hx; omega) | (have := HL2.out x hx; omega)

set_option maxHeartbeats 1000000 in
theorem toEventS_c (w : World) (v : Value) (l : List EventD) (ha : rd w [v] l) (hsz : GoD.size l ≤ 1048576) : Calls Try.prog 10 #[v] w (RetS w l) := by
  obtain ⟨oa, cap, e1, hl, hm, hel⟩ := ha
  obtain rfl : v = _ := by simpa using e1
  clear e1
  have HE := Lib.hid hel; clear hel
  have hn : l.length ≤ 1048576 := by have := size_list_len l; omega
  have HS := Lib.hid (fun i a (h : l[i]? = some a) => size_list_get h)
  have hlm : l.length ≤ maxLen := by omega
  go_enter Try.func10, Try.ntmps10
  go_wp2_with (at_make; refine wp_make w (.tmp 6) (.tmp 6) 27 51 3 l.length rfl rfl Try.underlying27 (by kernel_rfl) rfl rfl (by omega) (by go_grown) ?_; intro w1 cur hcur hcs hB1 hb1 hlt1)
  go_loopw [4] (fun i wr => ∃ k : Nat, k ≤ l.length ∧ i = .int .i64 k ∧ Below w.heap.size w wr ∧ w.heap.size < wr.heap.size ∧ Hid (Part wr w.heap.size l.length 51 l k)) (fun i _ => l.length - (intOf i).toNat)
  case atStart => exact ⟨0, Nat.zero_le _, rfl, hB1, hlt1, Part.start hcur hcs l⟩
  case round =>
    obtain ⟨k, hk, rfl, hB, hlt, hP⟩ := hrel
    clear hB1 hb1 hlt1 hcur hcs
    by_cases hkl : k < l.length
    · have hx := List.getElem?_eq_getElem hkl
      obtain ⟨eb, eo, ee, rfl, hcl, hcc, hxr⟩ := HE.out k _ hx
      have hxs := HS.out k _ hx
      have HX := Lib.hid hx; clear hx
      generalize l[k] = x at *
      obtain ⟨cur2, hg, hgs⟩ := hP.out.block
      have hgs2 : cur2.size = l.length * 3 := hgs
      have hroom := Nat.mul_le_mul_right 3 (show k + 1 ≤ l.length by omega)
      obtain ⟨x0, x1, x2, rfl⟩ := len3 (show _ = 3 from hcl)
      have p0 : wr.cell? ⟨eb, eo + k * 3, none⟩ = some x0 := (hB.cell (World.block_lt_of_cell? w _ (hcc 0 _ rfl))).trans (hcc 0 _ rfl)
      have p1 : wr.cell? ⟨eb, eo + k * 3 + 1, none⟩ = some x1 := (hB.cell (World.block_lt_of_cell? w _ (hcc 1 _ rfl))).trans (hcc 1 _ rfl)
      have p2 : wr.cell? ⟨eb, eo + k * 3 + 2, none⟩ = some x2 := (hB.cell (World.block_lt_of_cell? w _ (hcc 2 _ rfl))).trans (hcc 2 _ rfl)
      have HXR := Lib.hid hxr; clear hxr hcc hcl
      have HG := Lib.hid hg; clear hg
      go_wp2_with (go_at_call 29; refine call_retA (w := w) (toEvent_c _ [x0, x1, x2] x (rd_below HXR.out hB) (by omega)) (by go_grown) ?_; intro w2 cs L hB2 hb2 hz2 _ ho hL; obtain ⟨eoa1, ecp1, eoa2, ecp2, rfl⟩ := cells_Event (GoD.own_rd ho); have hg2 := (hb2.block _ hlt).trans HG.out; obtain ⟨z0, q0⟩ : ∃ y, w2.cell? ⟨w.heap.size, k * 3, none⟩ = some y := ⟨_, cells_of_heap hg2 _ (by omega)⟩; obtain ⟨z1, q1⟩ : ∃ y, w2.cell? ⟨w.heap.size, k * 3 + 1, none⟩ = some y := ⟨_, cells_of_heap hg2 _ (by omega)⟩; obtain ⟨z2, q2⟩ : ∃ y, w2.cell? ⟨w.heap.size, k * 3 + 2, none⟩ = some y := ⟨_, cells_of_heap hg2 _ (by omega)⟩; have fz := free_of_heap hg2; clear hg2; have HO := Lib.hid ho; clear ho; have HL := Lib.hid hL; clear hL; have HB2 := Lib.hid hb2; clear hb2)
      go_roundw
      case rel => exact ⟨k + 1, by omega, by go_num, by go_grown, by simp only [World.size_setCell]; omega, by
        have h := hP.out.step HB2.out hkl hk HX.out HO.out HL.out
        rw [show GoD.n EventD = 3 from rfl] at h
        simp only [World.setCells, Nat.add_assoc, Nat.reduceAdd] at h
        exact h⟩
      case measure => simp [intOf]; omega
    · obtain rfl : k = l.length := by omega
      go_wp2
      go_ret
      obtain ⟨L, hL, hLB⟩ := hP.out.done hlm
      exact ⟨_, L, rfl, hB, hL, hLB⟩

set_option maxHeartbeats 1000000 in
theorem toWatch_c (w : World) (ca : List Value) (a : WatchD) (ha : rd w ca a) (hsz : GoD.size a ≤ 1048576) : Calls Try.prog 19 #[.agg ca.toArray] w (RetA w a) := by
  obtain ⟨a1, a2, a3, a4⟩ := a
  obtain ⟨ac1, at1, rfl, ar1, ac2, at2, rfl, ar2, ac3, at3, rfl, ar3, ar4⟩ := ha
  obtain ⟨rfl, ar1⟩ := ar1
  obtain ⟨rfl, ar2⟩ := ar2
  obtain ⟨ax3_0, rfl⟩ := len1 (show _ = 1 from GoD.rd_len ar3)
  obtain ⟨ax4_0, rfl⟩ := len1 (show _ = 1 from GoD.rd_len ar4)
  dsimp only [List.cons_append, List.nil_append] at *
  replace hsz : (GoD.size a1 + (GoD.size a2 + (GoD.size a3 + GoD.size a4))) ≤ 1048576 := hsz
  have AR1H := Lib.hid ar1; clear ar1
  have AR2H := Lib.hid ar2; clear ar2
  have AR3H := Lib.hid ar3; clear ar3
  have AR4H := Lib.hid ar4; clear ar4
  have tok1 : True := trivial
  have tok2 : True := trivial
  go_enter Try.func19, Try.ntmps19
  go_wp2_with (first | (go_at_call 9; have tk := tok1; clear tok1; refine call_retS (w := w) (toIntS_c _ ax3_0 a3 (rd_below AR3H.out (by go_grown)) (by omega)) (by go_grown) ?_; intro w1 v1 L1 hB hb hz _ ho1 hL1; obtain ⟨oa1, cp1, rfl⟩ := slice_of_own ho1; have hz2 := hb.size; (repeat (first | rewrite [World.size_alloc] at hz2 | rewrite [World.size_setCell] at hz2 | rewrite [World.size_drew] at hz2)); (repeat (first | rewrite [World.size_alloc] at hL1 | rewrite [World.size_setCell] at hL1 | rewrite [World.size_drew] at hL1)); have hlt1 := GoD.own_lt ho1; have c1_0 := fun o => bcell hb (w.heap.size) o (by go_size); have f1_0 := fun o => bfroz hb (w.heap.size) o (by go_size); have c1_1 := fun o => bcell hb (w.heap.size + 1) o (by go_size); have f1_1 := fun o => bfroz hb (w.heap.size + 1) o (by go_size); have c1_2 := fun o => bcell hb (w.heap.size + 1 + 1) o (by go_size); have f1_2 := fun o => bfroz hb (w.heap.size + 1 + 1) o (by go_size); have HO1 := Lib.hid ho1; clear ho1; have HL1 := Lib.hid hL1; clear hL1; have HT1 := Lib.hid hlt1; clear hlt1; have HB1 := Lib.hid hb; clear hb) | (go_at_call 10; have tk := tok2; clear tok2; refine call_retS (w := w) (toEventS_c _ ax4_0 a4 (rd_below AR4H.out (by go_grown)) (by omega)) (by go_grown) ?_; intro w2 v2 L2 hB hb hz _ ho2 hL2; obtain ⟨oa2, cp2, rfl⟩ := slice_of_own ho2; have hz2 := hb.size; (repeat (first | rewrite [World.size_alloc] at hz2 | rewrite [World.size_setCell] at hz2 | rewrite [World.size_drew] at hz2)); (repeat (first | rewrite [World.size_alloc] at hL2 | rewrite [World.size_setCell] at hL2 | rewrite [World.size_drew] at hL2)); have hlt2 := GoD.own_lt ho2; have c2_0 := fun o => bcell hb (w.heap.size) o (by go_size); have f2_0 := fun o => bfroz hb (w.heap.size) o (by go_size); have c2_1 := fun o => bcell hb (w.heap.size + 1) o (by go_size); have f2_1 := fun o => bfroz hb (w.heap.size + 1) o (by go_size); have c2_2 := fun o => bcell hb (w.heap.size + 1 + 1) o (by go_size); have f2_2 := fun o => bfroz hb (w.heap.size + 1 + 1) o (by go_size); have HO2 := Lib.hid ho2; clear ho2; have HL2 := Lib.hid hL2; clear hL2; have HT2 := Lib.hid hlt2; clear hlt2; have HB2 := Lib.hid hb; clear hb))
  refine bodyPost_ret (v := .agg #[.int .i64 a1, .string a2, .slice oa1 a3.length cp1, .slice oa2 a4.length cp2]) (by simp [results, Try.results19, go_sem, c1_1, c2_1]) rfl ⟨[.int .i64 a1, .string a2, .slice oa1 a3.length cp1, .slice oa2 a4.length cp2], ([] ++ ([] ++ (L1 ++ L2))), rfl, by go_grown, ?_, ?_⟩
  · exact (own_pair (own_i _ AR1H.out) (own_pair (own_s _ AR2H.out) (own_pair (show own L1 _ [.slice oa1 a3.length cp1] a3 by (repeat (first | (with_reducible exact HO1.out) | ((with_reducible refine own_setCell ?_ ?_); rotate_left; exact (fun hm => by have := HL1.out _ hm; omega)) | (with_reducible refine own_alloc ?_) | (with_reducible refine own_drew ?_) | (with_reducible refine own_below ?_ HB2.out)))) (show own L2 _ [.slice oa2 a4.length cp2] a4 by (repeat (first | (with_reducible exact HO2.out) | ((with_reducible refine own_setCell ?_ ?_); rotate_left; exact (fun hm => by have := HL2.out _ hm; omega)) | (with_reducible refine own_alloc ?_) | (with_reducible refine own_drew ?_)))) (fun x hx hy => by (try simp only [List.mem_append, List.not_mem_nil, List.append_nil, List.nil_append, false_or, or_false] at hy); have := HT1.out x hx; rcases hy with hy <;> (first | (have := HL2.out x hy; omega)))) (by simp)) (by simp))
  · intro x hx; (try simp only [List.mem_append, List.not_mem_nil, List.append_nil, List.nil_append, false_or, or_false] at hx); rcases hx with hx | hx <;> first | (have := HL1.out x hx; omega) | (have := HL2.out x hx; omega)
end Go.Proofs.Ytonniokonadkfaa
