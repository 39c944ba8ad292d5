/- The laws' functions that copy their arguments into new memory. -/
import Derived.Test.YtiafgmepdgfpbaaProg
import Derived.Test.YtiafgmepdgfpbaaTy
set_option linter.unusedVariables false
set_option linter.unusedSimpArgs false
namespace Go.Proofs.Ytiafgmepdgfpbaa
open Go.RowKit
open GoD (rd own)
set_option maxHeartbeats 1000000 in
theorem toField_c (w : World) (ca : List Value) (a : FieldD) (ha : rd w ca a) (hsz : GoD.size a ≤ 1048576) : Calls Try.prog 84 #[.agg ca.toArray] w (RetA w a) := by
  obtain ⟨a1, a2⟩ := a
  obtain ⟨ac1, at1, rfl, ar1, ar2⟩ := ha
  obtain ⟨rfl, ar1⟩ := ar1
  obtain ⟨rfl, ar2⟩ := ar2
  dsimp only [List.cons_append, List.nil_append] at *
  replace hsz : (GoD.size a1 + GoD.size a2) ≤ 1048576 := hsz
  have AR1H := Lib.hid ar1; clear ar1
  have AR2H := Lib.hid ar2; clear ar2
  go_enter Try.func84, Try.ntmps84
  go_wp2_with (first | ((with_reducible show bodyPost _ _ _ _ _ _); refine bodyPost_ret (v := .agg #[.string a1, .int .i64 a2]) (by simp [results, Try.results84, go_sem]) rfl ⟨[.string a1, .int .i64 a2], ([] ++ []), rfl, by go_grown, ?_, ?_⟩; (exact (own_pair (own_s _ AR1H.out) (own_i _ AR2H.out) (by simp))); simp))
set_option maxRecDepth 100000 in
set_option maxHeartbeats 1000000 in
theorem toFieldS_c (w : World) (v : Value) (l : List FieldD) (ha : rd w [v] l) (hsz : GoD.size l ≤ 1048576) : Calls Try.prog 46 #[v] w (RetS w l) := by
  obtain ⟨oa, cap, e1, hl, hm, hel⟩ := ha
  obtain rfl : v = _ := by simpa using e1
  clear e1
  have HE := Lib.hid hel; clear hel
  have hn : l.length ≤ 1048576 := by have := size_list_len l; omega
  have HS := Lib.hid (fun i a (h : l[i]? = some a) => size_list_get h)
  have hlm : l.length ≤ maxLen := by omega
  go_enter Try.func46, Try.ntmps46
  go_wp2_with (at_make; refine wp_make w (.tmp 6) (.tmp 6) 24 128 2 l.length rfl rfl Try.underlying24 (by kernel_rfl) rfl rfl (by omega) (by go_grown) ?_; intro w1 cur hcur hcs hB1 hb1 hlt1)
  go_loopw [4] (fun i wr => ∃ k : Nat, k ≤ l.length ∧ i = .int .i64 k ∧ Below w.heap.size w wr ∧ w.heap.size < wr.heap.size ∧ Hid (Part wr w.heap.size l.length 128 l k)) (fun i _ => l.length - (intOf i).toNat)
  case atStart => exact ⟨0, Nat.zero_le _, rfl, hB1, hlt1, Part.start hcur hcs l⟩
  case round =>
    obtain ⟨k, hk, rfl, hB, hlt, hP⟩ := hrel
    clear hB1 hb1 hlt1 hcur hcs
    by_cases hkl : k < l.length
    · have hx := List.getElem?_eq_getElem hkl
      obtain ⟨eb, eo, ee, rfl, hcl, hcc, hxr⟩ := HE.out k _ hx
      have hxs := HS.out k _ hx
      have HX := Lib.hid hx; clear hx
      generalize l[k] = x at *
      obtain ⟨cur2, hg, hgs⟩ := hP.out.block
      have hgs2 : cur2.size = l.length * 2 := hgs
      have hroom := Nat.mul_le_mul_right 2 (show k + 1 ≤ l.length by omega)
      obtain ⟨x0, x1, rfl⟩ := len2 (show _ = 2 from hcl)
      have p0 : wr.cell? ⟨eb, eo + k * 2, none⟩ = some x0 := (hB.cell (World.block_lt_of_cell? w _ (hcc 0 _ rfl))).trans (hcc 0 _ rfl)
      have p1 : wr.cell? ⟨eb, eo + k * 2 + 1, none⟩ = some x1 := (hB.cell (World.block_lt_of_cell? w _ (hcc 1 _ rfl))).trans (hcc 1 _ rfl)
      have HXR := Lib.hid hxr; clear hxr hcc hcl
      have HG := Lib.hid hg; clear hg
      go_wp2_with (go_at_call 84; refine call_retA (w := w) (toField_c _ [x0, x1] x (rd_below HXR.out hB) (by omega)) (by go_grown) ?_; intro w2 cs L hB2 hb2 hz2 _ ho hL; obtain rfl := cells_Field (GoD.own_rd ho); have hg2 := (hb2.block _ hlt).trans HG.out; obtain ⟨z0, q0⟩ : ∃ y, w2.cell? ⟨w.heap.size, k * 2, none⟩ = some y := ⟨_, cells_of_heap hg2 _ (by omega)⟩; obtain ⟨z1, q1⟩ : ∃ y, w2.cell? ⟨w.heap.size, k * 2 + 1, none⟩ = some y := ⟨_, cells_of_heap hg2 _ (by omega)⟩; have fz := free_of_heap hg2; clear hg2; have HO := Lib.hid ho; clear ho; have HL := Lib.hid hL; clear hL; have HB2 := Lib.hid hb2; clear hb2)
      go_roundw
      case rel => exact ⟨k + 1, by omega, by go_num, by go_grown, by simp only [World.size_setCell]; omega, by
        have h := hP.out.step HB2.out hkl hk HX.out HO.out HL.out
        rw [show GoD.n FieldD = 2 from rfl] at h
        simp only [World.setCells, Nat.add_assoc, Nat.reduceAdd] at h
        exact h⟩
      case measure => simp [intOf]; omega
    · obtain rfl : k = l.length := by omega
      go_wp2
      go_ret
      obtain ⟨L, hL, hLB⟩ := hP.out.done hlm
      exact ⟨_, L, rfl, hB, hL, hLB⟩
set_option maxHeartbeats 1000000 in
theorem toValue_c (w : World) (ca : List Value) (a : ValueD) (ha : rd w ca a) (hsz : GoD.size a ≤ 1048576) : Calls Try.prog 86 #[.agg ca.toArray] w (RetA w a) := by
  obtain ⟨a1, a2, a3⟩ := a
  obtain ⟨ac1, at1, rfl, ar1, ac2, at2, rfl, ar2, ar3⟩ := ha
  obtain ⟨rfl, ar1⟩ := ar1
  obtain ⟨rfl, ar2⟩ := ar2
  obtain ⟨rfl, ar3⟩ := ar3
  dsimp only [List.cons_append, List.nil_append] at *
  replace hsz : (GoD.size a1 + (GoD.size a2 + GoD.size a3)) ≤ 1048576 := hsz
  have AR1H := Lib.hid ar1; clear ar1
  have AR2H := Lib.hid ar2; clear ar2
  have AR3H := Lib.hid ar3; clear ar3
  go_enter Try.func86, Try.ntmps86
  go_wp2_with (first | ((with_reducible show bodyPost _ _ _ _ _ _); refine bodyPost_ret (v := .agg #[.int .i64 a1, .int .i64 a2, .string a3]) (by simp [results, Try.results86, go_sem]) rfl ⟨[.int .i64 a1, .int .i64 a2, .string a3], ([] ++ ([] ++ [])), rfl, by go_grown, ?_, ?_⟩; (exact (own_pair (own_i _ AR1H.out) (own_pair (own_i _ AR2H.out) (own_s _ AR3H.out) (by simp)) (by simp))); simp))
set_option maxHeartbeats 1000000 in
theorem toAttr_c (w : World) (ca : List Value) (a : AttrD) (ha : rd w ca a) (hsz : GoD.size a ≤ 1048576) : Calls Try.prog 116 #[.agg ca.toArray] w (RetA w a) := by
  obtain ⟨a1, a2⟩ := a
  obtain ⟨ac1, at1, rfl, ar1, ar2⟩ := ha
  obtain ⟨rfl, ar1⟩ := ar1
  obtain ⟨ax2_0, ax2_1, ax2_2, rfl⟩ := len3 (show _ = 3 from GoD.rd_len ar2)
  dsimp only [List.cons_append, List.nil_append] at *
  replace hsz : (GoD.size a1 + GoD.size a2) ≤ 1048576 := hsz
  have AR1H := Lib.hid ar1; clear ar1
  have AR2H := Lib.hid ar2; clear ar2
  have tok1 : True := trivial
  go_enter Try.func116, Try.ntmps116
  go_wp2_with (first | (go_at_call 86; have tk := tok1; clear tok1; refine call_retA (w := w) (toValue_c _ [ax2_0, ax2_1, ax2_2] a2 (rd_below AR2H.out (by go_grown)) (by omega)) (by go_grown) ?_; intro w1 cs1 L1 hB hb hz _ ho1 hL1; obtain rfl := cells_Value (GoD.own_rd ho1); have hz2 := hb.size; (repeat (first | rewrite [World.size_alloc] at hz2 | rewrite [World.size_setCell] at hz2 | rewrite [World.size_drew] at hz2)); (repeat (first | rewrite [World.size_alloc] at hL1 | rewrite [World.size_setCell] at hL1 | rewrite [World.size_drew] at hL1)); have hlt1 := GoD.own_lt ho1; have c1_0 := fun o => bcell hb (w.heap.size) o (by go_size); have f1_0 := fun o => bfroz hb (w.heap.size) o (by go_size); have c1_1 := fun o => bcell hb (w.heap.size + 1) o (by go_size); have f1_1 := fun o => bfroz hb (w.heap.size + 1) o (by go_size); have c1_2 := fun o => bcell hb (w.heap.size + 1 + 1) o (by go_size); have f1_2 := fun o => bfroz hb (w.heap.size + 1 + 1) o (by go_size); have HO1 := Lib.hid ho1; clear ho1; have HL1 := Lib.hid hL1; clear hL1; have HT1 := Lib.hid hlt1; clear hlt1; have HB1 := Lib.hid hb; clear hb) | ((with_reducible show bodyPost _ _ _ _ _ _); refine bodyPost_ret (v := .agg #[.string a1, .int .i64 a2.1, .int .i64 a2.2.1, .string a2.2.2]) (by simp [results, Try.results116, go_sem, c1_1]) rfl ⟨[.string a1, .int .i64 a2.1, .int .i64 a2.2.1, .string a2.2.2], ([] ++ L1), rfl, by go_grown, ?_, ?_⟩; (exact (own_pair (own_s _ AR1H.out) (show own L1 _ [.int .i64 a2.1, .int .i64 a2.2.1, .string a2.2.2] a2 by (repeat (first | (with_reducible exact HO1.out) | ((with_reducible refine own_setCell ?_ ?_); rotate_left; exact (fun hm => by have := HL1.out _ hm; omega)) | (with_reducible refine own_alloc ?_) | (with_reducible refine own_drew ?_)))) (by simp))); intro x hx; (try simp only [List.mem_append, List.not_mem_nil, List.append_nil, List.nil_append, false_or, or_false] at hx); rcases hx with hx <;> first | (have := HL1.out x hx; omega)))
set_option maxRecDepth 100000 in
set_option maxHeartbeats 1000000 in
theorem toAttrS_c (w : World) (v : Value) (l : List AttrD) (ha : rd w [v] l) (hsz : GoD.size l ≤ 1048576) : Calls Try.prog 107 #[v] w (RetS w l) := by
  obtain ⟨oa, cap, e1, hl, hm, hel⟩ := ha
  obtain rfl : v = _ := by simpa using e1
  clear e1
  have HE := Lib.hid hel; clear hel
  have hn : l.length ≤ 1048576 := by have := size_list_len l; omega
  have HS := Lib.hid (fun i a (h : l[i]? = some a) => size_list_get h)
  have hlm : l.length ≤ maxLen := by omega
  go_enter Try.func107, Try.ntmps107
  go_wp2_with (at_make; refine wp_make w (.tmp 6) (.tmp 6) 41 72 4 l.length rfl rfl Try.underlying41 (by kernel_rfl) rfl rfl (by omega) (by go_grown) ?_; intro w1 cur hcur hcs hB1 hb1 hlt1)
  go_loopw [4] (fun i wr => ∃ k : Nat, k ≤ l.length ∧ i = .int .i64 k ∧ Below w.heap.size w wr ∧ w.heap.size < wr.heap.size ∧ Hid (Part wr w.heap.size l.length 72 l k)) (fun i _ => l.length - (intOf i).toNat)
  case atStart => exact ⟨0, Nat.zero_le _, rfl, hB1, hlt1, Part.start hcur hcs l⟩
  case round =>
    obtain ⟨k, hk, rfl, hB, hlt, hP⟩ := hrel
    clear hB1 hb1 hlt1 hcur hcs
    by_cases hkl : k < l.length
    · have hx := List.getElem?_eq_getElem hkl
      obtain ⟨eb, eo, ee, rfl, hcl, hcc, hxr⟩ := HE.out k _ hx
      have hxs := HS.out k _ hx
      have HX := Lib.hid hx; clear hx
      generalize l[k] = x at *
      obtain ⟨cur2, hg, hgs⟩ := hP.out.block
      have hgs2 : cur2.size = l.length * 4 := hgs
      have hroom := Nat.mul_le_mul_right 4 (show k + 1 ≤ l.length by omega)
      obtain ⟨x0, x1, x2, x3, rfl⟩ := len4 (show _ = 4 from hcl)
      have p0 : wr.cell? ⟨eb, eo + k * 4, none⟩ = some x0 := (hB.cell (World.block_lt_of_cell? w _ (hcc 0 _ rfl))).trans (hcc 0 _ rfl)
      have p1 : wr.cell? ⟨eb, eo + k * 4 + 1, none⟩ = some x1 := (hB.cell (World.block_lt_of_cell? w _ (hcc 1 _ rfl))).trans (hcc 1 _ rfl)
      have p2 : wr.cell? ⟨eb, eo + k * 4 + 2, none⟩ = some x2 := (hB.cell (World.block_lt_of_cell? w _ (hcc 2 _ rfl))).trans (hcc 2 _ rfl)
      have p3 : wr.cell? ⟨eb, eo + k * 4 + 3, none⟩ = some x3 := (hB.cell (World.block_lt_of_cell? w _ (hcc 3 _ rfl))).trans (hcc 3 _ rfl)
      have HXR := Lib.hid hxr; clear hxr hcc hcl
      have HG := Lib.hid hg; clear hg
      go_wp2_with (go_at_call 116; refine call_retA (w := w) (toAttr_c _ [x0, x1, x2, x3] x (rd_below HXR.out hB) (by omega)) (by go_grown) ?_; intro w2 cs L hB2 hb2 hz2 _ ho hL; obtain rfl := cells_Attr (GoD.own_rd ho); have hg2 := (hb2.block _ hlt).trans HG.out; obtain ⟨z0, q0⟩ : ∃ y, w2.cell? ⟨w.heap.size, k * 4, none⟩ = some y := ⟨_, cells_of_heap hg2 _ (by omega)⟩; obtain ⟨z1, q1⟩ : ∃ y, w2.cell? ⟨w.heap.size, k * 4 + 1, none⟩ = some y := ⟨_, cells_of_heap hg2 _ (by omega)⟩; obtain ⟨z2, q2⟩ : ∃ y, w2.cell? ⟨w.heap.size, k * 4 + 2, none⟩ = some y := ⟨_, cells_of_heap hg2 _ (by omega)⟩; obtain ⟨z3, q3⟩ : ∃ y, w2.cell? ⟨w.heap.size, k * 4 + 3, none⟩ = some y := ⟨_, cells_of_heap hg2 _ (by omega)⟩; have fz := free_of_heap hg2; clear hg2; have HO := Lib.hid ho; clear ho; have HL := Lib.hid hL; clear hL; have HB2 := Lib.hid hb2; clear hb2)
      go_roundw
      case rel => exact ⟨k + 1, by omega, by go_num, by go_grown, by simp only [World.size_setCell]; omega, by
        have h := hP.out.step HB2.out hkl hk HX.out HO.out HL.out
        rw [show GoD.n AttrD = 4 from rfl] at h
        simp only [World.setCells, Nat.add_assoc, Nat.reduceAdd] at h
        exact h⟩
      case measure => simp [intOf]; omega
    · obtain rfl : k = l.length := by omega
      go_wp2
      go_ret
      obtain ⟨L, hL, hLB⟩ := hP.out.done hlm
      exact ⟨_, L, rfl, hB, hL, hLB⟩
set_option maxHeartbeats 1000000 in
theorem toFile_c (w : World) (ca : List Value) (a : FileD) (ha : rd w ca a) (hsz : GoD.size a ≤ 1048576) : Calls Try.prog 85 #[.agg ca.toArray] w (RetA w a) := by
  obtain ⟨a1, a2, a3, a4, a5⟩ := a
  obtain ⟨ac1, at1, rfl, ar1, ac2, at2, rfl, ar2, ac3, at3, rfl, ar3, ac4, at4, rfl, ar4, ar5⟩ := ha
  obtain ⟨rfl, ar1⟩ := ar1
  obtain ⟨rfl, ar2⟩ := ar2
  obtain rfl := ar3
  obtain ⟨rfl, ar4⟩ := ar4
  obtain ⟨ax5_0, rfl⟩ := len1 (show _ = 1 from GoD.rd_len ar5)
  dsimp only [List.cons_append, List.nil_append] at *
  replace hsz : (GoD.size a1 + (GoD.size a2 + (GoD.size a3 + (GoD.size a4 + GoD.size a5)))) ≤ 1048576 := hsz
  have AR1H := Lib.hid ar1; clear ar1
  have AR2H := Lib.hid ar2; clear ar2
  have AR4H := Lib.hid ar4; clear ar4
  have AR5H := Lib.hid ar5; clear ar5
  have tok1 : True := trivial
  go_enter Try.func85, Try.ntmps85
  go_wp2_with (first | (go_at_call 107; have tk := tok1; clear tok1; refine call_retS (w := w) (toAttrS_c _ ax5_0 a5 (rd_below AR5H.out (by go_grown)) (by omega)) (by go_grown) ?_; intro w1 v1 L1 hB hb hz _ ho1 hL1; obtain ⟨oa1, cp1, rfl⟩ := slice_of_own ho1; have hz2 := hb.size; (repeat (first | rewrite [World.size_alloc] at hz2 | rewrite [World.size_setCell] at hz2 | rewrite [World.size_drew] at hz2)); (repeat (first | rewrite [World.size_alloc] at hL1 | rewrite [World.size_setCell] at hL1 | rewrite [World.size_drew] at hL1)); have hlt1 := GoD.own_lt ho1; have c1_0 := fun o => bcell hb (w.heap.size) o (by go_size); have f1_0 := fun o => bfroz hb (w.heap.size) o (by go_size); have c1_1 := fun o => bcell hb (w.heap.size + 1) o (by go_size); have f1_1 := fun o => bfroz hb (w.heap.size + 1) o (by go_size); have c1_2 := fun o => bcell hb (w.heap.size + 1 + 1) o (by go_size); have f1_2 := fun o => bfroz hb (w.heap.size + 1 + 1) o (by go_size); have HO1 := Lib.hid ho1; clear ho1; have HL1 := Lib.hid hL1; clear hL1; have HT1 := Lib.hid hlt1; clear hlt1; have HB1 := Lib.hid hb; clear hb) | ((with_reducible show bodyPost _ _ _ _ _ _); refine bodyPost_ret (v := .agg #[.int .i64 a1, .int .i64 a2, .bool a3, .int .i64 a4, .slice oa1 a5.length cp1]) (by simp [results, Try.results85, go_sem, c1_1]) rfl ⟨[.int .i64 a1, .int .i64 a2, .bool a3, .int .i64 a4, .slice oa1 a5.length cp1], ([] ++ ([] ++ ([] ++ ([] ++ L1)))), rfl, by go_grown, ?_, ?_⟩; (exact (own_pair (own_i _ AR1H.out) (own_pair (own_i _ AR2H.out) (own_pair (own_b _ _) (own_pair (own_i _ AR4H.out) (show own L1 _ [.slice oa1 a5.length cp1] a5 by (repeat (first | (with_reducible exact HO1.out) | ((with_reducible refine own_setCell ?_ ?_); rotate_left; exact (fun hm => by have := HL1.out _ hm; omega)) | (with_reducible refine own_alloc ?_) | (with_reducible refine own_drew ?_)))) (by simp)) (by simp)) (by simp)) (by simp))); intro x hx; (try simp only [List.mem_append, List.not_mem_nil, List.append_nil, List.nil_append, false_or, or_false] at hx); rcases hx with hx <;> first | (have := HL1.out x hx; omega)))
set_option maxRecDepth 100000 in
set_option maxHeartbeats 1000000 in
theorem toFileS_c (w : World) (v : Value) (l : List FileD) (ha : rd w [v] l) (hsz : GoD.size l ≤ 1048576) : Calls Try.prog 47 #[v] w (RetS w l) := by
  obtain ⟨oa, cap, e1, hl, hm, hel⟩ := ha
  obtain rfl : v = _ := by simpa using e1
  clear e1
  have HE := Lib.hid hel; clear hel
  have hn : l.length ≤ 1048576 := by have := size_list_len l; omega
  have HS := Lib.hid (fun i a (h : l[i]? = some a) => size_list_get h)
  have hlm : l.length ≤ maxLen := by omega
  go_enter Try.func47, Try.ntmps47
  go_wp2_with (at_make; refine wp_make w (.tmp 6) (.tmp 6) 25 43 5 l.length rfl rfl Try.underlying25 (by kernel_rfl) rfl rfl (by omega) (by go_grown) ?_; intro w1 cur hcur hcs hB1 hb1 hlt1)
  go_loopw [4] (fun i wr => ∃ k : Nat, k ≤ l.length ∧ i = .int .i64 k ∧ Below w.heap.size w wr ∧ w.heap.size < wr.heap.size ∧ Hid (Part wr w.heap.size l.length 43 l k)) (fun i _ => l.length - (intOf i).toNat)
  case atStart => exact ⟨0, Nat.zero_le _, rfl, hB1, hlt1, Part.start hcur hcs l⟩
  case round =>
    obtain ⟨k, hk, rfl, hB, hlt, hP⟩ := hrel
    clear hB1 hb1 hlt1 hcur hcs
    by_cases hkl : k < l.length
    · have hx := List.getElem?_eq_getElem hkl
      obtain ⟨eb, eo, ee, rfl, hcl, hcc, hxr⟩ := HE.out k _ hx
      have hxs := HS.out k _ hx
      have HX := Lib.hid hx; clear hx
      generalize l[k] = x at *
      obtain ⟨cur2, hg, hgs⟩ := hP.out.block
      have hgs2 : cur2.size = l.length * 5 := hgs
      have hroom := Nat.mul_le_mul_right 5 (show k + 1 ≤ l.length by omega)
      obtain ⟨x0, x1, x2, x3, x4, rfl⟩ := len5 (show _ = 5 from hcl)
      have p0 : wr.cell? ⟨eb, eo + k * 5, none⟩ = some x0 := (hB.cell (World.block_lt_of_cell? w _ (hcc 0 _ rfl))).trans (hcc 0 _ rfl)
      have p1 : wr.cell? ⟨eb, eo + k * 5 + 1, none⟩ = some x1 := (hB.cell (World.block_lt_of_cell? w _ (hcc 1 _ rfl))).trans (hcc 1 _ rfl)
      have p2 : wr.cell? ⟨eb, eo + k * 5 + 2, none⟩ = some x2 := (hB.cell (World.block_lt_of_cell? w _ (hcc 2 _ rfl))).trans (hcc 2 _ rfl)
      have p3 : wr.cell? ⟨eb, eo + k * 5 + 3, none⟩ = some x3 := (hB.cell (World.block_lt_of_cell? w _ (hcc 3 _ rfl))).trans (hcc 3 _ rfl)
      have p4 : wr.cell? ⟨eb, eo + k * 5 + 4, none⟩ = some x4 := (hB.cell (World.block_lt_of_cell? w _ (hcc 4 _ rfl))).trans (hcc 4 _ rfl)
      have HXR := Lib.hid hxr; clear hxr hcc hcl
      have HG := Lib.hid hg; clear hg
      go_wp2_with (go_at_call 85; refine call_retA (w := w) (toFile_c _ [x0, x1, x2, x3, x4] x (rd_below HXR.out hB) (by omega)) (by go_grown) ?_; intro w2 cs L hB2 hb2 hz2 _ ho hL; obtain ⟨eoa1, ecp1, rfl⟩ := cells_File (GoD.own_rd ho); have hg2 := (hb2.block _ hlt).trans HG.out; obtain ⟨z0, q0⟩ : ∃ y, w2.cell? ⟨w.heap.size, k * 5, none⟩ = some y := ⟨_, cells_of_heap hg2 _ (by omega)⟩; obtain ⟨z1, q1⟩ : ∃ y, w2.cell? ⟨w.heap.size, k * 5 + 1, none⟩ = some y := ⟨_, cells_of_heap hg2 _ (by omega)⟩; obtain ⟨z2, q2⟩ : ∃ y, w2.cell? ⟨w.heap.size, k * 5 + 2, none⟩ = some y := ⟨_, cells_of_heap hg2 _ (by omega)⟩; obtain ⟨z3, q3⟩ : ∃ y, w2.cell? ⟨w.heap.size, k * 5 + 3, none⟩ = some y := ⟨_, cells_of_heap hg2 _ (by omega)⟩; obtain ⟨z4, q4⟩ : ∃ y, w2.cell? ⟨w.heap.size, k * 5 + 4, none⟩ = some y := ⟨_, cells_of_heap hg2 _ (by omega)⟩; have fz := free_of_heap hg2; clear hg2; have HO := Lib.hid ho; clear ho; have HL := Lib.hid hL; clear hL; have HB2 := Lib.hid hb2; clear hb2)
      go_roundw
      case rel => exact ⟨k + 1, by omega, by go_num, by go_grown, by simp only [World.size_setCell]; omega, by
        have h := hP.out.step HB2.out hkl hk HX.out HO.out HL.out
        rw [show GoD.n FileD = 5 from rfl] at h
        simp only [World.setCells, Nat.add_assoc, Nat.reduceAdd] at h
        exact h⟩
      case measure => simp [intOf]; omega
    · obtain rfl : k = l.length := by omega
      go_wp2
      go_ret
      obtain ⟨L, hL, hLB⟩ := hP.out.done hlm
      exact ⟨_, L, rfl, hB, hL, hLB⟩
set_option maxHeartbeats 1000000 in
theorem toStore_c (w : World) (ca : List Value) (a : StoreD) (ha : rd w ca a) (hsz : GoD.size a ≤ 1048576) : Calls Try.prog 22 #[.agg ca.toArray] w (RetA w a) := by
  obtain ⟨a1, a2, a3⟩ := a
  obtain ⟨ac1, at1, rfl, ar1, ac2, at2, rfl, ar2, ar3⟩ := ha
  obtain ⟨ax1_0, rfl⟩ := len1 (show _ = 1 from GoD.rd_len ar1)
  obtain ⟨ax2_0, rfl⟩ := len1 (show _ = 1 from GoD.rd_len ar2)
  obtain ⟨rfl, ar3⟩ := ar3
  dsimp only [List.cons_append, List.nil_append] at *
  replace hsz : (GoD.size a1 + (GoD.size a2 + GoD.size a3)) ≤ 1048576 := hsz
  have AR1H := Lib.hid ar1; clear ar1
  have AR2H := Lib.hid ar2; clear ar2
  have AR3H := Lib.hid ar3; clear ar3
  have tok1 : True := trivial
  have tok2 : True := trivial
  go_enter Try.func22, Try.ntmps22
  go_wp2_with (first | (go_at_call 46; have tk := tok1; clear tok1; refine call_retS (w := w) (toFieldS_c _ ax1_0 a1 (rd_below AR1H.out (by go_grown)) (by omega)) (by go_grown) ?_; intro w1 v1 L1 hB hb hz _ ho1 hL1; obtain ⟨oa1, cp1, rfl⟩ := slice_of_own ho1; have hz2 := hb.size; (repeat (first | rewrite [World.size_alloc] at hz2 | rewrite [World.size_setCell] at hz2 | rewrite [World.size_drew] at hz2)); (repeat (first | rewrite [World.size_alloc] at hL1 | rewrite [World.size_setCell] at hL1 | rewrite [World.size_drew] at hL1)); have hlt1 := GoD.own_lt ho1; have c1_0 := fun o => bcell hb (w.heap.size) o (by go_size); have f1_0 := fun o => bfroz hb (w.heap.size) o (by go_size); have c1_1 := fun o => bcell hb (w.heap.size + 1) o (by go_size); have f1_1 := fun o => bfroz hb (w.heap.size + 1) o (by go_size); have c1_2 := fun o => bcell hb (w.heap.size + 1 + 1) o (by go_size); have f1_2 := fun o => bfroz hb (w.heap.size + 1 + 1) o (by go_size); have HO1 := Lib.hid ho1; clear ho1; have HL1 := Lib.hid hL1; clear hL1; have HT1 := Lib.hid hlt1; clear hlt1; have HB1 := Lib.hid hb; clear hb) | (go_at_call 47; have tk := tok2; clear tok2; refine call_retS (w := w) (toFileS_c _ ax2_0 a2 (rd_below AR2H.out (by go_grown)) (by omega)) (by go_grown) ?_; intro w2 v2 L2 hB hb hz _ ho2 hL2; obtain ⟨oa2, cp2, rfl⟩ := slice_of_own ho2; have hz2 := hb.size; (repeat (first | rewrite [World.size_alloc] at hz2 | rewrite [World.size_setCell] at hz2 | rewrite [World.size_drew] at hz2)); (repeat (first | rewrite [World.size_alloc] at hL2 | rewrite [World.size_setCell] at hL2 | rewrite [World.size_drew] at hL2)); have hlt2 := GoD.own_lt ho2; have c2_0 := fun o => bcell hb (w.heap.size) o (by go_size); have f2_0 := fun o => bfroz hb (w.heap.size) o (by go_size); have c2_1 := fun o => bcell hb (w.heap.size + 1) o (by go_size); have f2_1 := fun o => bfroz hb (w.heap.size + 1) o (by go_size); have c2_2 := fun o => bcell hb (w.heap.size + 1 + 1) o (by go_size); have f2_2 := fun o => bfroz hb (w.heap.size + 1 + 1) o (by go_size); have HO2 := Lib.hid ho2; clear ho2; have HL2 := Lib.hid hL2; clear hL2; have HT2 := Lib.hid hlt2; clear hlt2; have HB2 := Lib.hid hb; clear hb) | ((with_reducible show bodyPost _ _ _ _ _ _); refine bodyPost_ret (v := .agg #[.slice oa1 a1.length cp1, .slice oa2 a2.length cp2, .int .i64 a3]) (by simp [results, Try.results22, go_sem, c1_1, c2_1]) rfl ⟨[.slice oa1 a1.length cp1, .slice oa2 a2.length cp2, .int .i64 a3], (L1 ++ (L2 ++ [])), rfl, by go_grown, ?_, ?_⟩; (exact (own_pair (show own L1 _ [.slice oa1 a1.length cp1] a1 by (repeat (first | (with_reducible exact HO1.out) | ((with_reducible refine own_setCell ?_ ?_); rotate_left; exact (fun hm => by have := HL1.out _ hm; omega)) | (with_reducible refine own_alloc ?_) | (with_reducible refine own_drew ?_) | (with_reducible refine own_below ?_ HB2.out)))) (own_pair (show own L2 _ [.slice oa2 a2.length cp2] a2 by (repeat (first | (with_reducible exact HO2.out) | ((with_reducible refine own_setCell ?_ ?_); rotate_left; exact (fun hm => by have := HL2.out _ hm; omega)) | (with_reducible refine own_alloc ?_) | (with_reducible refine own_drew ?_)))) (own_i _ AR3H.out) (by simp)) (fun x hx hy => by (try simp only [List.mem_append, List.not_mem_nil, List.append_nil, List.nil_append, false_or, or_false] at hy); have := HT1.out x hx; rcases hy with hy <;> (first | (have := HL2.out x hy; omega))))); intro x hx; (try simp only [List.mem_append, List.not_mem_nil, List.append_nil, List.nil_append, false_or, or_false] at hx); rcases hx with hx | hx <;> first | (have := HL1.out x hx; omega) | (have := HL2.out x hx; omega)))
set_option maxRecDepth 100000 in
set_option maxHeartbeats 1000000 in
theorem toIntS_c (w : World) (v : Value) (l : List Int) (ha : rd w [v] l) (hsz : GoD.size l ≤ 1048576) : Calls Try.prog 87 #[v] w (RetS w l) := by
  obtain ⟨oa, cap, e1, hl, hm, hel⟩ := ha
  obtain rfl : v = _ := by simpa using e1
  clear e1
  have HE := Lib.hid hel; clear hel
  have hn : l.length ≤ 1048576 := by have := size_list_len l; omega
  have HS := Lib.hid (fun i a (h : l[i]? = some a) => size_list_get h)
  have hlm : l.length ≤ maxLen := by omega
  go_enter Try.func87, Try.ntmps87
  go_wp2_with (at_make; refine wp_make w (.tmp 6) (.tmp 6) 37 3 1 l.length rfl rfl Try.underlying37 (by kernel_rfl) rfl rfl (by omega) (by go_grown) ?_; intro w1 cur hcur hcs hB1 hb1 hlt1)
  go_loopw [4] (fun i wr => ∃ k : Nat, k ≤ l.length ∧ i = .int .i64 k ∧ Below w.heap.size w wr ∧ w.heap.size < wr.heap.size ∧ Hid (Part wr w.heap.size l.length 3 l k)) (fun i _ => l.length - (intOf i).toNat)
  case atStart => exact ⟨0, Nat.zero_le _, rfl, hB1, hlt1, Part.start hcur hcs l⟩
  case round =>
    obtain ⟨k, hk, rfl, hB, hlt, hP⟩ := hrel
    clear hB1 hb1 hlt1 hcur hcs
    by_cases hkl : k < l.length
    · have hx := List.getElem?_eq_getElem hkl
      obtain ⟨eb, eo, ee, rfl, hcl, hcc, hxr⟩ := HE.out k _ hx
      have hxs := HS.out k _ hx
      have HX := Lib.hid hx; clear hx
      generalize l[k] = x at *
      obtain ⟨cur2, hg, hgs⟩ := hP.out.block
      have hgs2 : cur2.size = l.length * 1 := hgs
      have hroom := Nat.mul_le_mul_right 1 (show k + 1 ≤ l.length by omega)
      obtain ⟨e, hxi⟩ := hxr
      obtain rfl := e
      have p0 : wr.cell? ⟨eb, eo + k, none⟩ = some (.int .i64 x) := by have h0 := hcc 0 _ rfl; simp only [GoD.n, Nat.mul_one, Nat.add_zero] at h0; exact (hB.cell (World.block_lt_of_cell? w _ h0)).trans h0
      have HXI := Lib.hid hxi; clear hxi
      obtain ⟨y0, q0⟩ : ∃ y, wr.cell? ⟨w.heap.size, k, none⟩ = some y := ⟨_, cells_of_heap hg k (by omega)⟩
      have fz := free_of_heap hg
      clear hcc hcl hg hgs
      go_wp2
      go_roundw
      case rel => exact ⟨k + 1, by omega, by go_num, by go_grown, by simpa using hlt, by
        have h := hP.out.step (Below.refl _ _) hkl hk HX.out (own_i wr HXI.out) (by simp)
        simp only [GoD.n, Nat.mul_one, World.setCells] at h
        exact h⟩
      case measure => simp [intOf]; omega
    · obtain rfl : k = l.length := by omega
      go_wp2
      go_ret
      obtain ⟨L, hL, hLB⟩ := hP.out.done hlm
      exact ⟨_, L, rfl, hB, hL, hLB⟩
set_option maxHeartbeats 1000000 in
theorem toPosting_c (w : World) (ca : List Value) (a : PostingD) (ha : rd w ca a) (hsz : GoD.size a ≤ 1048576) : Calls Try.prog 48 #[.agg ca.toArray] w (RetA w a) := by
  obtain ⟨a1, a2, a3⟩ := a
  obtain ⟨ac1, at1, rfl, ar1, ac2, at2, rfl, ar2, ar3⟩ := ha
  obtain ⟨rfl, ar1⟩ := ar1
  obtain ⟨ax2_0, ax2_1, ax2_2, rfl⟩ := len3 (show _ = 3 from GoD.rd_len ar2)
  obtain ⟨ax3_0, rfl⟩ := len1 (show _ = 1 from GoD.rd_len ar3)
  dsimp only [List.cons_append, List.nil_append] at *
  replace hsz : (GoD.size a1 + (GoD.size a2 + GoD.size a3)) ≤ 1048576 := hsz
  have AR1H := Lib.hid ar1; clear ar1
  have AR2H := Lib.hid ar2; clear ar2
  have AR3H := Lib.hid ar3; clear ar3
  have tok1 : True := trivial
  have tok2 : True := trivial
  go_enter Try.func48, Try.ntmps48
  go_wp2_with (first | (go_at_call 86; have tk := tok1; clear tok1; refine call_retA (w := w) (toValue_c _ [ax2_0, ax2_1, ax2_2] a2 (rd_below AR2H.out (by go_grown)) (by omega)) (by go_grown) ?_; intro w1 cs1 L1 hB hb hz _ ho1 hL1; obtain rfl := cells_Value (GoD.own_rd ho1); have hz2 := hb.size; (repeat (first | rewrite [World.size_alloc] at hz2 | rewrite [World.size_setCell] at hz2 | rewrite [World.size_drew] at hz2)); (repeat (first | rewrite [World.size_alloc] at hL1 | rewrite [World.size_setCell] at hL1 | rewrite [World.size_drew] at hL1)); have hlt1 := GoD.own_lt ho1; have c1_0 := fun o => bcell hb (w.heap.size) o (by go_size); have f1_0 := fun o => bfroz hb (w.heap.size) o (by go_size); have c1_1 := fun o => bcell hb (w.heap.size + 1) o (by go_size); have f1_1 := fun o => bfroz hb (w.heap.size + 1) o (by go_size); have c1_2 := fun o => bcell hb (w.heap.size + 1 + 1) o (by go_size); have f1_2 := fun o => bfroz hb (w.heap.size + 1 + 1) o (by go_size); have HO1 := Lib.hid ho1; clear ho1; have HL1 := Lib.hid hL1; clear hL1; have HT1 := Lib.hid hlt1; clear hlt1; have HB1 := Lib.hid hb; clear hb) | (go_at_call 87; have tk := tok2; clear tok2; refine call_retS (w := w) (toIntS_c _ ax3_0 a3 (rd_below AR3H.out (by go_grown)) (by omega)) (by go_grown) ?_; intro w2 v2 L2 hB hb hz _ ho2 hL2; obtain ⟨oa2, cp2, rfl⟩ := slice_of_own ho2; have hz2 := hb.size; (repeat (first | rewrite [World.size_alloc] at hz2 | rewrite [World.size_setCell] at hz2 | rewrite [World.size_drew] at hz2)); (repeat (first | rewrite [World.size_alloc] at hL2 | rewrite [World.size_setCell] at hL2 | rewrite [World.size_drew] at hL2)); have hlt2 := GoD.own_lt ho2; have c2_0 := fun o => bcell hb (w.heap.size) o (by go_size); have f2_0 := fun o => bfroz hb (w.heap.size) o (by go_size); have c2_1 := fun o => bcell hb (w.heap.size + 1) o (by go_size); have f2_1 := fun o => bfroz hb (w.heap.size + 1) o (by go_size); have c2_2 := fun o => bcell hb (w.heap.size + 1 + 1) o (by go_size); have f2_2 := fun o => bfroz hb (w.heap.size + 1 + 1) o (by go_size); have HO2 := Lib.hid ho2; clear ho2; have HL2 := Lib.hid hL2; clear hL2; have HT2 := Lib.hid hlt2; clear hlt2; have HB2 := Lib.hid hb; clear hb) | ((with_reducible show bodyPost _ _ _ _ _ _); refine bodyPost_ret (v := .agg #[.string a1, .int .i64 a2.1, .int .i64 a2.2.1, .string a2.2.2, .slice oa2 a3.length cp2]) (by simp [results, Try.results48, go_sem, c1_1, c2_1]) rfl ⟨[.string a1, .int .i64 a2.1, .int .i64 a2.2.1, .string a2.2.2, .slice oa2 a3.length cp2], ([] ++ (L1 ++ L2)), rfl, by go_grown, ?_, ?_⟩; (exact (own_pair (own_s _ AR1H.out) (own_pair (show own L1 _ [.int .i64 a2.1, .int .i64 a2.2.1, .string a2.2.2] a2 by (repeat (first | (with_reducible exact HO1.out) | ((with_reducible refine own_setCell ?_ ?_); rotate_left; exact (fun hm => by have := HL1.out _ hm; omega)) | (with_reducible refine own_alloc ?_) | (with_reducible refine own_drew ?_) | (with_reducible refine own_below ?_ HB2.out)))) (show own L2 _ [.slice oa2 a3.length cp2] a3 by (repeat (first | (with_reducible exact HO2.out) | ((with_reducible refine own_setCell ?_ ?_); rotate_left; exact (fun hm => by have := HL2.out _ hm; omega)) | (with_reducible refine own_alloc ?_) | (with_reducible refine own_drew ?_)))) (fun x hx hy => by (try simp only [List.mem_append, List.not_mem_nil, List.append_nil, List.nil_append, false_or, or_false] at hy); have := HT1.out x hx; rcases hy with hy <;> (first | (have := HL2.out x hy; omega)))) (by simp))); intro x hx; (try simp only [List.mem_append, List.not_mem_nil, List.append_nil, List.nil_append, false_or, or_false] at hx); rcases hx with hx | hx <;> first | (have := HL1.out x hx; omega) | (have := HL2.out x hx; omega)))
set_option maxRecDepth 100000 in
set_option maxHeartbeats 1000000 in
theorem toPostingS_c (w : World) (v : Value) (l : List PostingD) (ha : rd w [v] l) (hsz : GoD.size l ≤ 1048576) : Calls Try.prog 23 #[v] w (RetS w l) := by
  obtain ⟨oa, cap, e1, hl, hm, hel⟩ := ha
  obtain rfl : v = _ := by simpa using e1
  clear e1
  have HE := Lib.hid hel; clear hel
  have hn : l.length ≤ 1048576 := by have := size_list_len l; omega
  have HS := Lib.hid (fun i a (h : l[i]? = some a) => size_list_get h)
  have hlm : l.length ≤ maxLen := by omega
  go_enter Try.func23, Try.ntmps23
  go_wp2_with (at_make; refine wp_make w (.tmp 6) (.tmp 6) 29 66 5 l.length rfl rfl Try.underlying29 (by kernel_rfl) rfl rfl (by omega) (by go_grown) ?_; intro w1 cur hcur hcs hB1 hb1 hlt1)
  go_loopw [4] (fun i wr => ∃ k : Nat, k ≤ l.length ∧ i = .int .i64 k ∧ Below w.heap.size w wr ∧ w.heap.size < wr.heap.size ∧ Hid (Part wr w.heap.size l.length 66 l k)) (fun i _ => l.length - (intOf i).toNat)
  case atStart => exact ⟨0, Nat.zero_le _, rfl, hB1, hlt1, Part.start hcur hcs l⟩
  case round =>
    obtain ⟨k, hk, rfl, hB, hlt, hP⟩ := hrel
    clear hB1 hb1 hlt1 hcur hcs
    by_cases hkl : k < l.length
    · have hx := List.getElem?_eq_getElem hkl
      obtain ⟨eb, eo, ee, rfl, hcl, hcc, hxr⟩ := HE.out k _ hx
      have hxs := HS.out k _ hx
      have HX := Lib.hid hx; clear hx
      generalize l[k] = x at *
      obtain ⟨cur2, hg, hgs⟩ := hP.out.block
      have hgs2 : cur2.size = l.length * 5 := hgs
      have hroom := Nat.mul_le_mul_right 5 (show k + 1 ≤ l.length by omega)
      obtain ⟨x0, x1, x2, x3, x4, rfl⟩ := len5 (show _ = 5 from hcl)
      have p0 : wr.cell? ⟨eb, eo + k * 5, none⟩ = some x0 := (hB.cell (World.block_lt_of_cell? w _ (hcc 0 _ rfl))).trans (hcc 0 _ rfl)
      have p1 : wr.cell? ⟨eb, eo + k * 5 + 1, none⟩ = some x1 := (hB.cell (World.block_lt_of_cell? w _ (hcc 1 _ rfl))).trans (hcc 1 _ rfl)
      have p2 : wr.cell? ⟨eb, eo + k * 5 + 2, none⟩ = some x2 := (hB.cell (World.block_lt_of_cell? w _ (hcc 2 _ rfl))).trans (hcc 2 _ rfl)
      have p3 : wr.cell? ⟨eb, eo + k * 5 + 3, none⟩ = some x3 := (hB.cell (World.block_lt_of_cell? w _ (hcc 3 _ rfl))).trans (hcc 3 _ rfl)
      have p4 : wr.cell? ⟨eb, eo + k * 5 + 4, none⟩ = some x4 := (hB.cell (World.block_lt_of_cell? w _ (hcc 4 _ rfl))).trans (hcc 4 _ rfl)
      have HXR := Lib.hid hxr; clear hxr hcc hcl
      have HG := Lib.hid hg; clear hg
      go_wp2_with (go_at_call 48; refine call_retA (w := w) (toPosting_c _ [x0, x1, x2, x3, x4] x (rd_below HXR.out hB) (by omega)) (by go_grown) ?_; intro w2 cs L hB2 hb2 hz2 _ ho hL; obtain ⟨eoa1, ecp1, rfl⟩ := cells_Posting (GoD.own_rd ho); have hg2 := (hb2.block _ hlt).trans HG.out; obtain ⟨z0, q0⟩ : ∃ y, w2.cell? ⟨w.heap.size, k * 5, none⟩ = some y := ⟨_, cells_of_heap hg2 _ (by omega)⟩; obtain ⟨z1, q1⟩ : ∃ y, w2.cell? ⟨w.heap.size, k * 5 + 1, none⟩ = some y := ⟨_, cells_of_heap hg2 _ (by omega)⟩; obtain ⟨z2, q2⟩ : ∃ y, w2.cell? ⟨w.heap.size, k * 5 + 2, none⟩ = some y := ⟨_, cells_of_heap hg2 _ (by omega)⟩; obtain ⟨z3, q3⟩ : ∃ y, w2.cell? ⟨w.heap.size, k * 5 + 3, none⟩ = some y := ⟨_, cells_of_heap hg2 _ (by omega)⟩; obtain ⟨z4, q4⟩ : ∃ y, w2.cell? ⟨w.heap.size, k * 5 + 4, none⟩ = some y := ⟨_, cells_of_heap hg2 _ (by omega)⟩; have fz := free_of_heap hg2; clear hg2; have HO := Lib.hid ho; clear ho; have HL := Lib.hid hL; clear hL; have HB2 := Lib.hid hb2; clear hb2)
      go_roundw
      case rel => exact ⟨k + 1, by omega, by go_num, by go_grown, by simp only [World.size_setCell]; omega, by
        have h := hP.out.step HB2.out hkl hk HX.out HO.out HL.out
        rw [show GoD.n PostingD = 5 from rfl] at h
        simp only [World.setCells, Nat.add_assoc, Nat.reduceAdd] at h
        exact h⟩
      case measure => simp [intOf]; omega
    · obtain rfl : k = l.length := by omega
      go_wp2
      go_ret
      obtain ⟨L, hL, hLB⟩ := hP.out.done hlm
      exact ⟨_, L, rfl, hB, hL, hLB⟩
end Go.Proofs.Ytiafgmepdgfpbaa
