/- The laws' functions that write marks into memory. -/
import Derived.Test.YtnhmnfmhnepjmaaGreatProg
import Derived.Test.YtnhmnfmhnepjmaaGreatTy
import Derived.Laws.IdiomStrings
set_option linter.unusedVariables false
set_option linter.unusedSimpArgs false
namespace Go.Proofs.YtnhmnfmhnepjmaaGreat
open Go.RowKit
open GoD (rd own)
theorem digs_zero (f : Nat) : digs f 0 = [] := by cases f <;> rfl
theorem digs_fuel : ∀ (f f' k : Nat), k ≤ f → k ≤ f' → digs f k = digs f' k
  | 0, f', k, h, _ => by
    obtain rfl : k = 0 := by omega
    rw [digs_zero, digs_zero]
  | f + 1, 0, k, _, h => by
    obtain rfl : k = 0 := by omega
    rw [digs_zero, digs_zero]
  | f + 1, f' + 1, k, h, h' => by
    unfold digs
    by_cases hk : k = 0
    · rw [if_pos hk, if_pos hk]
    · rw [if_neg hk, if_neg hk, digs_fuel f f' (k / 10) (by omega) (by omega)]
theorem digs_pos {k : Nat} (h : 0 < k) : digs k k = digs (k / 10) (k / 10) ++ [UInt8.ofNat (48 + k % 10)] := by
  obtain ⟨f, rfl⟩ : ∃ f, k = f + 1 := ⟨k - 1, by omega⟩
  rw [digs, if_neg (by omega), digs_fuel f ((f + 1) / 10) _ (by omega) (Nat.le_refl _)]
theorem digs_len : ∀ (n k : Nat), k < 10 ^ n → (digs k k).length ≤ n
  | 0, k, h => by
    obtain rfl : k = 0 := by simpa using h
    simp [digs_zero]
  | n + 1, k, h => by
    by_cases hk : k = 0
    · subst hk; simp [digs_zero]
    · rw [digs_pos (by omega)]
      have := digs_len n (k / 10) (by rw [Nat.pow_succ] at h; omega)
      simp
      omega
theorem digs_len20 {k : Nat} (h : k ≤ 4611686018427387904) : (digs k k).length ≤ 20 := digs_len 20 k (by omega)
theorem markB_size {k : Nat} (h : k ≤ 4611686018427387904) : (markB k).size ≤ maxLen := by
  have h1 := digs_len20 h
  unfold markB maxLen
  show (List.toArray _).size ≤ _
  rw [List.size_toArray]
  split
  · simp
  · simp; omega
set_option maxRecDepth 100000 in
theorem markText_c (w : World) (K : Int) (k : Nat) (hK : K = k) (h1 : 1 ≤ k) (hk : k ≤ 4611686018427387904) : Calls Tryz.prog 50 #[.int .i64 K] w (Ret w (.string (markB k))) := by
  subst hK
  have hk0 : ¬ (k : Int) ≤ 0 := by omega
  have HL := Lib.hid (digs_len20 hk)
  go_enter Tryz.func50, Tryz.ntmps50
  go_wp2
  go_loopw [0, 3] (fun q s wr => ∃ (j : Nat) (out : ByteArray), q = .int .i64 j ∧ s = .string out ∧ j ≤ 4611686018427387904 ∧ Hid (digs j j ++ out.data.toList = digs k k) ∧ Below w.heap.size w wr) (fun q _ _ => (intOf q).toNat)
  case atStart => exact ⟨k, _, rfl, rfl, hk, by show _ = _; simp, Below.refl _ _⟩
  case round =>
    obtain ⟨j, out, rfl, rfl, hj, HD, hB⟩ := hrel
    have hos : out.size ≤ 20 := by
      have h := HL.out
      rw [← HD.out] at h
      simp at h
      have : out.size = out.data.size := rfl
      omega
    have hBs := hB.size
    by_cases hz : 0 < j
    · have hcv : ∀ w0 : World, Sem.run Tryz.prog (convert 159 9 (.slice (some ⟨w0.heap.size, 0, none⟩) 1 1)) (w0.alloc (.cells #[.int .u8 (48 + (j : Int) % 10)] 5)) = .ok (.string ⟨#[UInt8.ofNat (48 + j % 10)]⟩) (w0.alloc (.cells #[.int .u8 (48 + (j : Int) % 10)] 5)) := by
        intro w0
        refine run_convert_bytes_back (P := Tryz.prog) _ 159 9 5 _ 1 [UInt8.ofNat (48 + j % 10)] Tryz.underlying159 Tryz.underlying5 Tryz.underlying9 ?_
        intro i hi
        obtain rfl : i = 0 := by simp at hi; omega
        simp [Addr.add]
        omega
      have hos2 : 1 + out.size ≤ 30 := by omega
      go_wp2
      go_roundw
      case rel => exact ⟨j / 10, _, by go_num, rfl, by omega, by
        show _ = _
        rw [← HD.out, digs_pos hz]
        simp, by go_grown⟩
      case measure => simp [intOf]; omega
    · obtain rfl : j = 0 := by omega
      go_wp2
      go_ret
      refine ⟨?_, hB⟩
      have h := HD.out
      rw [digs_zero] at h
      simp only [List.nil_append] at h
      have e : markB k = ⟨#[109]⟩ ++ out := by
        unfold markB
        rw [if_neg (by omega), ← h]
        apply ByteArray.ext
        simp
      rw [e]
      rfl
set_option maxRecDepth 100000 in
set_option maxHeartbeats 1000000 in
theorem markFieldS_c (w : World) (v : Value) (l : List FieldD) (L : List Nat) (K : Int) (k : Nat) (hK : K = k) (h1 : 1 ≤ k) (hk : (markS l k).2 ≤ 4611686018427387904) (ho : own L w [v] l) : Calls Tryz.prog 48 #[v, .int .i64 K] w (MarkR L w [v] (markS l k)) := by
  subst hK
  obtain ⟨oa, cap, rfl⟩ := slice_of_own ho
  have hlm : l.length ≤ 9223372036854775807 := len_of_own ho
  have HO := Lib.hid ho; clear ho
  go_enter Tryz.func48, Tryz.ntmps48
  go_wp2
  go_loopw [1, 5] (fun q i wr => ∃ j : Nat, j ≤ l.length ∧ i = .int .i64 j ∧ q = .int .i64 ((markS (l.take j) k).2 : Nat) ∧ Hid (own L wr [.slice oa l.length cap] ((markS (l.take j) k).1 ++ l.drop j)) ∧ Hid (Chg L w wr)) (fun _ i _ => l.length - (intOf i).toNat)
  case atStart => exact ⟨0, Nat.zero_le _, rfl, rfl, HO.out, Chg.refl _ _⟩
  case round =>
    obtain ⟨j, hj, rfl, rfl, HW, HC⟩ := hrel
    by_cases hjl : j < l.length
    · have hx := List.getElem?_eq_getElem hjl
      have hsp := mark_split l k j _ hx
      have hle := Nat.le_trans (mark_take_le l k j _ hx) hk
      have hdr : l.drop j = l[j] :: l.drop (j + 1) := List.drop_eq_getElem_cons hjl
      have hxl : (markS (l.take j) k).1.length = j := by rw [markS_length, List.length_take]; omega
      have hkk : k ≤ (markS (l.take j) k).2 := markS_le _ _
      have how := HW.out
      rw [hdr] at how
      clear hx hdr HW
      generalize (markS (l.take j) k).2 = kk at *
      generalize (markS (l.take j) k).1 = xs at *
      generalize l[j] = x at *
      obtain ⟨g, cap', cur, e, Li, hv, hg, hroom, hgLi, hgL, hsub, hoe, hshut⟩ := own_open how
      simp only [Value.slice.injEq] at hv
      obtain ⟨rfl, hq0, rfl⟩ := hv
      clear hq0
      rw [hxl] at hroom hoe hshut
      clear hxl
      rw [show GoD.n FieldD = 2 from rfl] at hroom hoe hshut
      generalize hce : (cur.toList.drop (j * 2)).take 2 = ce at *
      obtain ⟨v0, v1⟩ := x
      obtain ⟨nd1, _, _, _, _, rfl, rfl, ⟨rfl, rfl, h0⟩, ⟨rfl, rfl, h1⟩⟩ := hoe
      have p0 : wr.cell? ⟨g, j * 2, none⟩ = some _ := cells_at hg hce 0 _ rfl
      have p1 : wr.cell? ⟨g, j * 2 + 1, none⟩ = some _ := cells_at hg hce 1 _ rfl
      have fz := free_of_heap hg
      have hglt := block_lt_of_heap hg
      clear hce hg how
      have HSH := Lib.hid hshut; clear hshut
      have HSP := Lib.hid hsp; clear hsp
      have hle : kk + 1 + 1 ≤ 4611686018427387904 := hle
      have HSUB := Lib.hid hsub; clear hsub
      have HU0 : Hid (Upd g (j * 2) 2 ([] ++ []) wr wr) := Upd.refl _ _ _ _ _
      have tok1 : True := trivial
      go_wp2_with (first | (go_at_call 50; have tk := tok1; clear tok1; refine (markText_c _ _ (kk) (by omega) (by omega) (by omega)).mono ?_; rintro e w1 ⟨rfl, hb⟩; have hz := hb.size; have c1 := fun o => bcell hb g o (by go_size); have f1 := fun o => bfroz hb g o (by go_size); have HU1 : Hid (Upd g (j * 2) 2 ([] ++ []) wr w1) := Upd.below (by repeat (first | (with_reducible exact HU0.out) | (with_reducible refine Upd.setCell ?_ _ (by omega) _))) hb (by go_size); (repeat (first | rewrite [World.size_alloc] at hz | rewrite [World.size_setCell] at hz | rewrite [World.size_drew] at hz)); have HB1 := Lib.hid hb; clear hb))
      go_roundw
      case measure => simp [intOf]; omega
      case rel =>
        refine ⟨j + 1, by omega, by go_num, ?_, ?_, ?_⟩
        · show Value.int _ _ = _
          rw [HSP.out]
          show Value.int .i64 _ = .int .i64 ((kk + 1 + 1 : Nat) : Int)
          first | go_num | (congr 1 <;> omega)
        · show own _ _ _ _
          rw [HSP.out]
          simp only [List.append_assoc, List.singleton_append]
          refine HSH.out _ [.string (markB (kk)), .int .i64 ((kk + 1 : Nat) : Int)] _ (by repeat (first | (with_reducible exact HU1.out) | (with_reducible refine Upd.setCell ?_ _ (by omega) _))) (own_pair (own_s _ (markB_size (by omega))) (own_i _ (i64_of (kk + 1) (by omega))) (fun x hx hy => (List.nodup_append.1 nd1).2.2 x hx x hy rfl)) ?_
          intro q u hq
          match q, hq with
          | 0, hq => obtain rfl := (Option.some.inj hq); simp [go_sem, *]
          | 1, hq => obtain rfl := (Option.some.inj hq); simp [go_sem, *]
          | q + 2, hq => simp at hq
        · exact HC.out.trans (((by repeat (first | (with_reducible exact HU1.out) | (with_reducible refine Upd.setCell ?_ _ (by omega) _))) : Upd g (j * 2) 2 ([] ++ []) wr _).chg.mono (fun b hb => (List.mem_cons.1 hb).elim (fun e => e ▸ hgL) (HSUB.out b)))
    · obtain rfl : j = l.length := by omega
      have how := HW.out; have hch := HC.out
      rw [List.take_length, List.drop_length, List.append_nil] at how
      rw [List.take_length] at *
      have HW2 := Lib.hid how; have HC2 := Lib.hid hch; clear how hch
      go_wp2
      go_ret
      exact ⟨rfl, HW2.out, HC2.out⟩
set_option maxRecDepth 100000 in
set_option maxHeartbeats 1000000 in
theorem markAttrS_c (w : World) (v : Value) (l : List AttrD) (L : List Nat) (K : Int) (k : Nat) (hK : K = k) (h1 : 1 ≤ k) (hk : (markS l k).2 ≤ 4611686018427387904) (ho : own L w [v] l) : Calls Tryz.prog 102 #[v, .int .i64 K] w (MarkR L w [v] (markS l k)) := by
  subst hK
  obtain ⟨oa, cap, rfl⟩ := slice_of_own ho
  have hlm : l.length ≤ 9223372036854775807 := len_of_own ho
  have HO := Lib.hid ho; clear ho
  go_enter Tryz.func102, Tryz.ntmps102
  go_wp2
  go_loopw [1, 5] (fun q i wr => ∃ j : Nat, j ≤ l.length ∧ i = .int .i64 j ∧ q = .int .i64 ((markS (l.take j) k).2 : Nat) ∧ Hid (own L wr [.slice oa l.length cap] ((markS (l.take j) k).1 ++ l.drop j)) ∧ Hid (Chg L w wr)) (fun _ i _ => l.length - (intOf i).toNat)
  case atStart => exact ⟨0, Nat.zero_le _, rfl, rfl, HO.out, Chg.refl _ _⟩
  case round =>
    obtain ⟨j, hj, rfl, rfl, HW, HC⟩ := hrel
    by_cases hjl : j < l.length
    · have hx := List.getElem?_eq_getElem hjl
      have hsp := mark_split l k j _ hx
      have hle := Nat.le_trans (mark_take_le l k j _ hx) hk
      have hdr : l.drop j = l[j] :: l.drop (j + 1) := List.drop_eq_getElem_cons hjl
      have hxl : (markS (l.take j) k).1.length = j := by rw [markS_length, List.length_take]; omega
      have hkk : k ≤ (markS (l.take j) k).2 := markS_le _ _
      have how := HW.out
      rw [hdr] at how
      clear hx hdr HW
      generalize (markS (l.take j) k).2 = kk at *
      generalize (markS (l.take j) k).1 = xs at *
      generalize l[j] = x at *
      obtain ⟨g, cap', cur, e, Li, hv, hg, hroom, hgLi, hgL, hsub, hoe, hshut⟩ := own_open how
      simp only [Value.slice.injEq] at hv
      obtain ⟨rfl, hq0, rfl⟩ := hv
      clear hq0
      rw [hxl] at hroom hoe hshut
      clear hxl
      rw [show GoD.n AttrD = 4 from rfl] at hroom hoe hshut
      generalize hce : (cur.toList.drop (j * 4)).take 4 = ce at *
      obtain ⟨v0, ⟨v1, v2, v3⟩⟩ := x
      obtain ⟨nd3, _, _, _, _, rfl, rfl, ⟨rfl, rfl, h0⟩, ⟨nd2, _, _, _, _, rfl, rfl, ⟨rfl, rfl, h1⟩, ⟨nd1, _, _, _, _, rfl, rfl, ⟨rfl, rfl, h2⟩, ⟨rfl, rfl, h3⟩⟩⟩⟩ := hoe
      have p0 : wr.cell? ⟨g, j * 4, none⟩ = some _ := cells_at hg hce 0 _ rfl
      have p1 : wr.cell? ⟨g, j * 4 + 1, none⟩ = some _ := cells_at hg hce 1 _ rfl
      have p2 : wr.cell? ⟨g, j * 4 + 2, none⟩ = some _ := cells_at hg hce 2 _ rfl
      have p3 : wr.cell? ⟨g, j * 4 + 3, none⟩ = some _ := cells_at hg hce 3 _ rfl
      have fz := free_of_heap hg
      have hglt := block_lt_of_heap hg
      clear hce hg how
      have HSH := Lib.hid hshut; clear hshut
      have HSP := Lib.hid hsp; clear hsp
      have hle : kk + 1 + 1 + 1 + 1 ≤ 4611686018427387904 := hle
      have HSUB := Lib.hid hsub; clear hsub
      have HU0 : Hid (Upd g (j * 4) 4 ([] ++ ([] ++ ([] ++ []))) wr wr) := Upd.refl _ _ _ _ _
      have tok1 : True := trivial
      have tok2 : True := trivial
      go_wp2_with (first | (go_at_call 50; have tk := tok1; clear tok1; refine (markText_c _ _ (kk) (by omega) (by omega) (by omega)).mono ?_; rintro e w1 ⟨rfl, hb⟩; have hz := hb.size; have c1 := fun o => bcell hb g o (by go_size); have f1 := fun o => bfroz hb g o (by go_size); have HU1 : Hid (Upd g (j * 4) 4 ([] ++ ([] ++ ([] ++ []))) wr w1) := Upd.below (by repeat (first | (with_reducible exact HU0.out) | (with_reducible refine Upd.setCell ?_ _ (by omega) _))) hb (by go_size); (repeat (first | rewrite [World.size_alloc] at hz | rewrite [World.size_setCell] at hz | rewrite [World.size_drew] at hz)); have HB1 := Lib.hid hb; clear hb) | (go_at_call 50; have tk := tok2; clear tok2; refine (markText_c _ _ (kk + 1 + 1 + 1) (by omega) (by omega) (by omega)).mono ?_; rintro e w2 ⟨rfl, hb⟩; have hz := hb.size; have c2 := fun o => bcell hb g o (by go_size); have f2 := fun o => bfroz hb g o (by go_size); have HU2 : Hid (Upd g (j * 4) 4 ([] ++ ([] ++ ([] ++ []))) wr w2) := Upd.below (by repeat (first | (with_reducible exact HU1.out) | (with_reducible refine Upd.setCell ?_ _ (by omega) _))) hb (by go_size); (repeat (first | rewrite [World.size_alloc] at hz | rewrite [World.size_setCell] at hz | rewrite [World.size_drew] at hz)); have HB2 := Lib.hid hb; clear hb))
      go_roundw
      case measure => simp [intOf]; omega
      case rel =>
        refine ⟨j + 1, by omega, by go_num, ?_, ?_, ?_⟩
        · show Value.int _ _ = _
          rw [HSP.out]
          show Value.int .i64 _ = .int .i64 ((kk + 1 + 1 + 1 + 1 : Nat) : Int)
          first | go_num | (congr 1 <;> omega)
        · show own _ _ _ _
          rw [HSP.out]
          simp only [List.append_assoc, List.singleton_append]
          refine HSH.out _ [.string (markB (kk)), .int .i64 ((kk + 1 : Nat) : Int), .int .i64 ((kk + 1 + 1 : Nat) : Int), .string (markB (kk + 1 + 1 + 1))] _ (by repeat (first | (with_reducible exact HU2.out) | (with_reducible refine Upd.setCell ?_ _ (by omega) _))) (own_pair (own_s _ (markB_size (by omega))) (own_pair (own_i _ (i64_of (kk + 1) (by omega))) (own_pair (own_i _ (i64_of (kk + 1 + 1) (by omega))) (own_s _ (markB_size (by omega))) (fun x hx hy => (List.nodup_append.1 nd1).2.2 x hx x hy rfl)) (fun x hx hy => (List.nodup_append.1 nd2).2.2 x hx x hy rfl)) (fun x hx hy => (List.nodup_append.1 nd3).2.2 x hx x hy rfl)) ?_
          intro q u hq
          match q, hq with
          | 0, hq => obtain rfl := (Option.some.inj hq); simp [go_sem, *]
          | 1, hq => obtain rfl := (Option.some.inj hq); simp [go_sem, *]
          | 2, hq => obtain rfl := (Option.some.inj hq); simp [go_sem, *]
          | 3, hq => obtain rfl := (Option.some.inj hq); simp [go_sem, *]
          | q + 4, hq => simp at hq
        · exact HC.out.trans (((by repeat (first | (with_reducible exact HU2.out) | (with_reducible refine Upd.setCell ?_ _ (by omega) _))) : Upd g (j * 4) 4 ([] ++ ([] ++ ([] ++ []))) wr _).chg.mono (fun b hb => (List.mem_cons.1 hb).elim (fun e => e ▸ hgL) (HSUB.out b)))
    · obtain rfl : j = l.length := by omega
      have how := HW.out; have hch := HC.out
      rw [List.take_length, List.drop_length, List.append_nil] at how
      rw [List.take_length] at *
      have HW2 := Lib.hid how; have HC2 := Lib.hid hch; clear how hch
      go_wp2
      go_ret
      exact ⟨rfl, HW2.out, HC2.out⟩
set_option maxRecDepth 100000 in
set_option maxHeartbeats 1000000 in
theorem markFileS_c (w : World) (v : Value) (l : List FileD) (L : List Nat) (K : Int) (k : Nat) (hK : K = k) (h1 : 1 ≤ k) (hk : (markS l k).2 ≤ 4611686018427387904) (ho : own L w [v] l) : Calls Tryz.prog 49 #[v, .int .i64 K] w (MarkR L w [v] (markS l k)) := by
  subst hK
  obtain ⟨oa, cap, rfl⟩ := slice_of_own ho
  have hlm : l.length ≤ 9223372036854775807 := len_of_own ho
  have HO := Lib.hid ho; clear ho
  go_enter Tryz.func49, Tryz.ntmps49
  go_wp2
  go_loopw [1, 5] (fun q i wr => ∃ j : Nat, j ≤ l.length ∧ i = .int .i64 j ∧ q = .int .i64 ((markS (l.take j) k).2 : Nat) ∧ Hid (own L wr [.slice oa l.length cap] ((markS (l.take j) k).1 ++ l.drop j)) ∧ Hid (Chg L w wr)) (fun _ i _ => l.length - (intOf i).toNat)
  case atStart => exact ⟨0, Nat.zero_le _, rfl, rfl, HO.out, Chg.refl _ _⟩
  case round =>
    obtain ⟨j, hj, rfl, rfl, HW, HC⟩ := hrel
    by_cases hjl : j < l.length
    · have hx := List.getElem?_eq_getElem hjl
      have hsp := mark_split l k j _ hx
      have hle := Nat.le_trans (mark_take_le l k j _ hx) hk
      have hdr : l.drop j = l[j] :: l.drop (j + 1) := List.drop_eq_getElem_cons hjl
      have hxl : (markS (l.take j) k).1.length = j := by rw [markS_length, List.length_take]; omega
      have hkk : k ≤ (markS (l.take j) k).2 := markS_le _ _
      have how := HW.out
      rw [hdr] at how
      clear hx hdr HW
      generalize (markS (l.take j) k).2 = kk at *
      generalize (markS (l.take j) k).1 = xs at *
      generalize l[j] = x at *
      obtain ⟨g, cap', cur, e, Li, hv, hg, hroom, hgLi, hgL, hsub, hoe, hshut⟩ := own_open how
      simp only [Value.slice.injEq] at hv
      obtain ⟨rfl, hq0, rfl⟩ := hv
      clear hq0
      rw [hxl] at hroom hoe hshut
      clear hxl
      rw [show GoD.n FileD = 5 from rfl] at hroom hoe hshut
      generalize hce : (cur.toList.drop (j * 5)).take 5 = ce at *
      obtain ⟨v0, v1, v2, v3, v4⟩ := x
      obtain ⟨nd4, _, _, _, _, rfl, rfl, ⟨rfl, rfl, h0⟩, ⟨nd3, _, _, _, _, rfl, rfl, ⟨rfl, rfl, h1⟩, ⟨nd2, _, _, _, _, rfl, rfl, ⟨rfl, rfl⟩, ⟨nd1, _, _, _, SL4, rfl, rfl, ⟨rfl, rfl, h3⟩, so4⟩⟩⟩⟩ := hoe
      obtain ⟨sv4, rfl⟩ := len1 (show _ = 1 from GoD.rd_len (GoD.own_rd so4))
      obtain ⟨oa4, cp4, rfl⟩ := slice_of_own so4
      have p0 : wr.cell? ⟨g, j * 5, none⟩ = some _ := cells_at hg hce 0 _ rfl
      have p1 : wr.cell? ⟨g, j * 5 + 1, none⟩ = some _ := cells_at hg hce 1 _ rfl
      have p2 : wr.cell? ⟨g, j * 5 + 2, none⟩ = some _ := cells_at hg hce 2 _ rfl
      have p3 : wr.cell? ⟨g, j * 5 + 3, none⟩ = some _ := cells_at hg hce 3 _ rfl
      have p4 : wr.cell? ⟨g, j * 5 + 4, none⟩ = some _ := cells_at hg hce 4 _ rfl
      have fz := free_of_heap hg
      have hglt := block_lt_of_heap hg
      clear hce hg how
      have HSH := Lib.hid hshut; clear hshut
      have HSP := Lib.hid hsp; clear hsp
      have hle : (markS v4 (kk + 1 + 1 + 1 + 1)).2 ≤ 4611686018427387904 := hle
      have hb2 := mod3_eq (kk + 1 + 1) _ (show ((kk : Int) + 1 + 1 : Int) = ((kk + 1 + 1 : Nat) : Int) by omega)
      have hm4 : kk + 1 + 1 + 1 + 1 ≤ (markS v4 (kk + 1 + 1 + 1 + 1)).2 := markS_le _ _
      have HSO4 := Lib.hid so4; clear so4
      have HSUB := Lib.hid hsub; clear hsub
      have HU0 : Hid (Upd g (j * 5) 5 ([] ++ ([] ++ ([] ++ ([] ++ SL4)))) wr wr) := Upd.refl _ _ _ _ _
      have tok1 : True := trivial
      go_wp2_with (first | (go_at_call 102; have tk := tok1; clear tok1; refine call_mark (markAttrS_c _ _ v4 SL4 _ (kk + 1 + 1 + 1 + 1) (by omega) (by omega) (by omega) (by repeat (first | (with_reducible exact HSO4.out) | (refine own_setCell ?_ (fun hm => hgLi (List.mem_append.2 (.inr (List.mem_append.2 (.inr (List.mem_append.2 (.inr (List.mem_append.2 (.inr hm)))))))))) ))) ?_; intro w1 ho1 hch hz; have c1 := fun o => hch.cell (b := g) (by go_size) (fun hm => hgLi (List.mem_append.2 (.inr (List.mem_append.2 (.inr (List.mem_append.2 (.inr (List.mem_append.2 (.inr hm))))))))) o; have f1 := fun o => hch.frozen (b := g) (by go_size) (fun hm => hgLi (List.mem_append.2 (.inr (List.mem_append.2 (.inr (List.mem_append.2 (.inr (List.mem_append.2 (.inr hm))))))))) o; have HU1 : Hid (Upd g (j * 5) 5 ([] ++ ([] ++ ([] ++ ([] ++ SL4)))) wr w1) := Upd.mark (by repeat (first | (with_reducible exact HU0.out) | (with_reducible refine Upd.setCell ?_ _ (by omega) _))) hch (fun b hm => (List.mem_append.2 (.inr (List.mem_append.2 (.inr (List.mem_append.2 (.inr (List.mem_append.2 (.inr hm))))))))) (fun hm => hgLi (List.mem_append.2 (.inr (List.mem_append.2 (.inr (List.mem_append.2 (.inr (List.mem_append.2 (.inr hm))))))))) (by go_size); (repeat (first | rewrite [World.size_alloc] at hz | rewrite [World.size_setCell] at hz | rewrite [World.size_drew] at hz)); have HB1 := Lib.hid hch; clear hch; have HM1 := Lib.hid ho1; clear ho1))
      go_roundw
      case measure => simp [intOf]; omega
      case rel =>
        refine ⟨j + 1, by omega, by go_num, ?_, ?_, ?_⟩
        · show Value.int _ _ = _
          rw [HSP.out]
          show Value.int .i64 _ = .int .i64 (((markS v4 (kk + 1 + 1 + 1 + 1)).2 : Nat) : Int)
          first | go_num | (congr 1 <;> omega)
        · show own _ _ _ _
          rw [HSP.out]
          simp only [List.append_assoc, List.singleton_append]
          refine HSH.out _ [.int .i64 ((kk : Nat) : Int), .int .i64 ((kk + 1 : Nat) : Int), .bool ((kk + 1 + 1) % 3 == 0), .int .i64 ((kk + 1 + 1 + 1 : Nat) : Int), .slice oa4 v4.length cp4] _ (by repeat (first | (with_reducible exact HU1.out) | (with_reducible refine Upd.setCell ?_ _ (by omega) _))) (own_pair (own_i _ (i64_of (kk) (by omega))) (own_pair (own_i _ (i64_of (kk + 1) (by omega))) (own_pair (own_b _ _) (own_pair (own_i _ (i64_of (kk + 1 + 1 + 1) (by omega))) (show own SL4 _ [.slice oa4 v4.length cp4] (markS v4 (kk + 1 + 1 + 1 + 1)).1 by repeat (first | (with_reducible exact HM1.out) | (refine own_setCell ?_ (fun hm => hgLi (List.mem_append.2 (.inr (List.mem_append.2 (.inr (List.mem_append.2 (.inr (List.mem_append.2 (.inr hm)))))))))) )) (fun x hx hy => (List.nodup_append.1 nd1).2.2 x hx x hy rfl)) (fun x hx hy => (List.nodup_append.1 nd2).2.2 x hx x hy rfl)) (fun x hx hy => (List.nodup_append.1 nd3).2.2 x hx x hy rfl)) (fun x hx hy => (List.nodup_append.1 nd4).2.2 x hx x hy rfl)) ?_
          intro q u hq
          match q, hq with
          | 0, hq => obtain rfl := (Option.some.inj hq); simp [go_sem, *]
          | 1, hq => obtain rfl := (Option.some.inj hq); simp [go_sem, *]
          | 2, hq => obtain rfl := (Option.some.inj hq); simp [go_sem, *]
          | 3, hq => obtain rfl := (Option.some.inj hq); simp [go_sem, *]
          | 4, hq => obtain rfl := (Option.some.inj hq); simp [go_sem, *]
          | q + 5, hq => simp at hq
        · exact HC.out.trans (((by repeat (first | (with_reducible exact HU1.out) | (with_reducible refine Upd.setCell ?_ _ (by omega) _))) : Upd g (j * 5) 5 ([] ++ ([] ++ ([] ++ ([] ++ SL4)))) wr _).chg.mono (fun b hb => (List.mem_cons.1 hb).elim (fun e => e ▸ hgL) (HSUB.out b)))
    · obtain rfl : j = l.length := by omega
      have how := HW.out; have hch := HC.out
      rw [List.take_length, List.drop_length, List.append_nil] at how
      rw [List.take_length] at *
      have HW2 := Lib.hid how; have HC2 := Lib.hid hch; clear how hch
      go_wp2
      go_ret
      exact ⟨rfl, HW2.out, HC2.out⟩
set_option maxRecDepth 100000 in
set_option maxHeartbeats 1000000 in
theorem markStore_c (w : World) (ca : List Value) (a : StoreD) (L : List Nat) (K : Int) (k : Nat) (hK : K = k) (h1 : 1 ≤ k) (hk : (GoD.markT a k).2 ≤ 4611686018427387904) (ho : own L w ca a) : Calls Tryz.prog 16 #[.agg ca.toArray, .int .i64 K] w (MarkR L w ca (GoD.markT a k)) := by
  subst hK
  obtain ⟨b1, b2, b3⟩ := a
  have hk : (markS b2 ((markS b1 (k)).2)).2 ≤ 4611686018427387904 := hk
  have hlt := GoD.own_lt ho
  obtain ⟨nd0, _, _, SL0, _, rfl, rfl, so0, ⟨nd1, _, _, SL1, _, rfl, rfl, so1, ⟨rfl, rfl, h2⟩⟩⟩ := ho
  obtain ⟨ax0_0, rfl⟩ := len1 (show _ = 1 from GoD.rd_len (GoD.own_rd so0))
  have HSO0 := Lib.hid so0; clear so0
  have hm0 : k ≤ (markS b1 (k)).2 := markS_le _ _
  obtain ⟨ax1_0, rfl⟩ := len1 (show _ = 1 from GoD.rd_len (GoD.own_rd so1))
  have HSO1 := Lib.hid so1; clear so1
  have hm1 : (markS b1 (k)).2 ≤ (markS b2 ((markS b1 (k)).2)).2 := markS_le _ _
  show Calls Tryz.prog 16 #[.agg #[ax0_0, ax1_0, .int .i64 b3], .int .i64 (k : Int)] w (MarkR (SL0 ++ (SL1 ++ [])) w [ax0_0, ax1_0, .int .i64 b3] (GoD.markT ((b1, b2, b3) : StoreD) k))
  have HLT := Lib.hid hlt; clear hlt
  have tok1 : True := trivial
  have tok2 : True := trivial
  go_enter Tryz.func16, Tryz.ntmps16
  go_wp2_with (first | (go_at_call 48; have tk := tok1; clear tok1; refine call_mark (markFieldS_c _ ax0_0 b1 SL0 _ (k) (by omega) (by omega) (show (markS b1 (k)).2 ≤ 4611686018427387904 by omega) (by repeat (first | (with_reducible exact HSO0.out) | (refine own_alloc ?_) ))) ?_; intro w1 ho1 hch hz; have c1 := fun o => hch.cell (b := w.heap.size) (by go_size) (fun hm => by have := HLT.out _ (List.mem_append.2 (.inl hm)); omega) o; (repeat (first | rewrite [World.size_alloc] at hz | rewrite [World.size_setCell] at hz | rewrite [World.size_drew] at hz)); have HB1 := Lib.hid hch; clear hch; have HM1 := Lib.hid ho1; clear ho1) | (go_at_call 49; have tk := tok2; clear tok2; refine call_mark (markFileS_c _ ax1_0 b2 SL1 _ ((markS b1 (k)).2) (by omega) (by omega) (show (markS b2 ((markS b1 (k)).2)).2 ≤ 4611686018427387904 by omega) (by repeat (first | (with_reducible exact HSO1.out) | (refine own_alloc ?_) | (refine own_chg ?_ HB1.out (fun b hb1 hb2 => (List.nodup_append.1 nd0).2.2 _ hb2 _ (List.mem_append.2 (.inl hb1)) rfl))))) ?_; intro w2 ho2 hch hz; have c2 := fun o => hch.cell (b := w.heap.size) (by go_size) (fun hm => by have := HLT.out _ (List.mem_append.2 (.inr (List.mem_append.2 (.inl hm)))); omega) o; (repeat (first | rewrite [World.size_alloc] at hz | rewrite [World.size_setCell] at hz | rewrite [World.size_drew] at hz)); have HB2 := Lib.hid hch; clear hch; have HM2 := Lib.hid ho2; clear ho2))
  go_ret
  refine ⟨rfl, ?_, ?_⟩
  · show own (SL0 ++ (SL1 ++ [])) _ [ax0_0, ax1_0, .int .i64 b3] _
    exact (own_pair (show own SL0 _ [ax0_0] (markS b1 (k)).1 by repeat (first | (with_reducible exact HM1.out) | (refine own_alloc ?_) | (refine own_chg ?_ HB2.out (fun b hb1 hb2 => (List.nodup_append.1 nd0).2.2 _ hb1 _ (List.mem_append.2 (.inl hb2)) rfl)))) (own_pair (show own SL1 _ [ax1_0] (markS b2 ((markS b1 (k)).2)).1 by repeat (first | (with_reducible exact HM2.out) | (refine own_alloc ?_) )) (own_i _ h2) (fun x hx hy => (List.nodup_append.1 nd1).2.2 x hx x hy rfl)) (fun x hx hy => (List.nodup_append.1 nd0).2.2 x hx x hy rfl))
  · show Chg (SL0 ++ (SL1 ++ [])) w _
    exact ((Chg.of_below (show Below w.heap.size w _ by go_grown)).trans (HB1.out.mono (fun b hm => (List.mem_append.2 (.inl hm))))).trans (HB2.out.mono (fun b hm => (List.mem_append.2 (.inr (List.mem_append.2 (.inl hm))))))
set_option maxRecDepth 100000 in
set_option maxHeartbeats 1000000 in
theorem markNodeS_c (w : World) (v : Value) (l : List NodeD) (L : List Nat) (K : Int) (k : Nat) (hK : K = k) (h1 : 1 ≤ k) (hk : (markS l k).2 ≤ 4611686018427387904) (ho : own L w [v] l) : Calls Tryz.prog 51 #[v, .int .i64 K] w (MarkR L w [v] (markS l k)) := by
  subst hK
  obtain ⟨oa, cap, rfl⟩ := slice_of_own ho
  have hlm : l.length ≤ 9223372036854775807 := len_of_own ho
  have HO := Lib.hid ho; clear ho
  go_enter Tryz.func51, Tryz.ntmps51
  go_wp2
  go_loopw [1, 5] (fun q i wr => ∃ j : Nat, j ≤ l.length ∧ i = .int .i64 j ∧ q = .int .i64 ((markS (l.take j) k).2 : Nat) ∧ Hid (own L wr [.slice oa l.length cap] ((markS (l.take j) k).1 ++ l.drop j)) ∧ Hid (Chg L w wr)) (fun _ i _ => l.length - (intOf i).toNat)
  case atStart => exact ⟨0, Nat.zero_le _, rfl, rfl, HO.out, Chg.refl _ _⟩
  case round =>
    obtain ⟨j, hj, rfl, rfl, HW, HC⟩ := hrel
    by_cases hjl : j < l.length
    · have hx := List.getElem?_eq_getElem hjl
      have hsp := mark_split l k j _ hx
      have hle := Nat.le_trans (mark_take_le l k j _ hx) hk
      have hdr : l.drop j = l[j] :: l.drop (j + 1) := List.drop_eq_getElem_cons hjl
      have hxl : (markS (l.take j) k).1.length = j := by rw [markS_length, List.length_take]; omega
      have hkk : k ≤ (markS (l.take j) k).2 := markS_le _ _
      have how := HW.out
      rw [hdr] at how
      clear hx hdr HW
      generalize (markS (l.take j) k).2 = kk at *
      generalize (markS (l.take j) k).1 = xs at *
      generalize l[j] = x at *
      obtain ⟨g, cap', cur, e, Li, hv, hg, hroom, hgLi, hgL, hsub, hoe, hshut⟩ := own_open how
      simp only [Value.slice.injEq] at hv
      obtain ⟨rfl, hq0, rfl⟩ := hv
      clear hq0
      rw [hxl] at hroom hoe hshut
      clear hxl
      rw [show GoD.n NodeD = 7 from rfl] at hroom hoe hshut
      generalize hce : (cur.toList.drop (j * 7)).take 7 = ce at *
      obtain ⟨v0, v1, v2, v3, ⟨v4, v5, v6⟩⟩ := x
      obtain ⟨nd6, _, _, _, _, rfl, rfl, ⟨rfl, rfl, h0⟩, ⟨nd5, _, _, _, _, rfl, rfl, ⟨rfl, rfl, h1⟩, ⟨nd4, _, _, _, _, rfl, rfl, ⟨rfl, rfl, h2⟩, ⟨nd3, _, _, _, _, rfl, rfl, ⟨rfl, rfl, h3⟩, ⟨nd2, _, _, _, _, rfl, rfl, ⟨rfl, rfl, h4⟩, ⟨nd1, _, _, _, _, rfl, rfl, ⟨rfl, rfl, h5⟩, ⟨rfl, rfl, h6⟩⟩⟩⟩⟩⟩⟩ := hoe
      have p0 : wr.cell? ⟨g, j * 7, none⟩ = some _ := cells_at hg hce 0 _ rfl
      have p1 : wr.cell? ⟨g, j * 7 + 1, none⟩ = some _ := cells_at hg hce 1 _ rfl
      have p2 : wr.cell? ⟨g, j * 7 + 2, none⟩ = some _ := cells_at hg hce 2 _ rfl
      have p3 : wr.cell? ⟨g, j * 7 + 3, none⟩ = some _ := cells_at hg hce 3 _ rfl
      have p4 : wr.cell? ⟨g, j * 7 + 4, none⟩ = some _ := cells_at hg hce 4 _ rfl
      have p5 : wr.cell? ⟨g, j * 7 + 5, none⟩ = some _ := cells_at hg hce 5 _ rfl
      have p6 : wr.cell? ⟨g, j * 7 + 6, none⟩ = some _ := cells_at hg hce 6 _ rfl
      have fz := free_of_heap hg
      have hglt := block_lt_of_heap hg
      clear hce hg how
      have HSH := Lib.hid hshut; clear hshut
      have HSP := Lib.hid hsp; clear hsp
      have hle : kk + 1 + 1 + 1 + 1 + 1 + 1 + 1 ≤ 4611686018427387904 := hle
      have HSUB := Lib.hid hsub; clear hsub
      have HU0 : Hid (Upd g (j * 7) 7 ([] ++ ([] ++ ([] ++ ([] ++ ([] ++ ([] ++ [])))))) wr wr) := Upd.refl _ _ _ _ _
      have tok1 : True := trivial
      have tok2 : True := trivial
      go_wp2_with (first | (go_at_call 50; have tk := tok1; clear tok1; refine (markText_c _ _ (kk + 1 + 1 + 1) (by omega) (by omega) (by omega)).mono ?_; rintro e w1 ⟨rfl, hb⟩; have hz := hb.size; have c1 := fun o => bcell hb g o (by go_size); have f1 := fun o => bfroz hb g o (by go_size); have HU1 : Hid (Upd g (j * 7) 7 ([] ++ ([] ++ ([] ++ ([] ++ ([] ++ ([] ++ [])))))) wr w1) := Upd.below (by repeat (first | (with_reducible exact HU0.out) | (with_reducible refine Upd.setCell ?_ _ (by omega) _))) hb (by go_size); (repeat (first | rewrite [World.size_alloc] at hz | rewrite [World.size_setCell] at hz | rewrite [World.size_drew] at hz)); have HB1 := Lib.hid hb; clear hb) | (go_at_call 50; have tk := tok2; clear tok2; refine (markText_c _ _ (kk + 1 + 1 + 1 + 1 + 1 + 1) (by omega) (by omega) (by omega)).mono ?_; rintro e w2 ⟨rfl, hb⟩; have hz := hb.size; have c2 := fun o => bcell hb g o (by go_size); have f2 := fun o => bfroz hb g o (by go_size); have HU2 : Hid (Upd g (j * 7) 7 ([] ++ ([] ++ ([] ++ ([] ++ ([] ++ ([] ++ [])))))) wr w2) := Upd.below (by repeat (first | (with_reducible exact HU1.out) | (with_reducible refine Upd.setCell ?_ _ (by omega) _))) hb (by go_size); (repeat (first | rewrite [World.size_alloc] at hz | rewrite [World.size_setCell] at hz | rewrite [World.size_drew] at hz)); have HB2 := Lib.hid hb; clear hb))
      go_roundw
      case measure => simp [intOf]; omega
      case rel =>
        refine ⟨j + 1, by omega, by go_num, ?_, ?_, ?_⟩
        · show Value.int _ _ = _
          rw [HSP.out]
          show Value.int .i64 _ = .int .i64 ((kk + 1 + 1 + 1 + 1 + 1 + 1 + 1 : Nat) : Int)
          first | go_num | (congr 1 <;> omega)
        · show own _ _ _ _
          rw [HSP.out]
          simp only [List.append_assoc, List.singleton_append]
          refine HSH.out _ [.int .i64 ((kk : Nat) : Int), .int .i64 ((kk + 1 : Nat) : Int), .int .i64 ((kk + 1 + 1 : Nat) : Int), .string (markB (kk + 1 + 1 + 1)), .int .i64 ((kk + 1 + 1 + 1 + 1 : Nat) : Int), .int .i64 ((kk + 1 + 1 + 1 + 1 + 1 : Nat) : Int), .string (markB (kk + 1 + 1 + 1 + 1 + 1 + 1))] _ (by repeat (first | (with_reducible exact HU2.out) | (with_reducible refine Upd.setCell ?_ _ (by omega) _))) (own_pair (own_i _ (i64_of (kk) (by omega))) (own_pair (own_i _ (i64_of (kk + 1) (by omega))) (own_pair (own_i _ (i64_of (kk + 1 + 1) (by omega))) (own_pair (own_s _ (markB_size (by omega))) (own_pair (own_i _ (i64_of (kk + 1 + 1 + 1 + 1) (by omega))) (own_pair (own_i _ (i64_of (kk + 1 + 1 + 1 + 1 + 1) (by omega))) (own_s _ (markB_size (by omega))) (fun x hx hy => (List.nodup_append.1 nd1).2.2 x hx x hy rfl)) (fun x hx hy => (List.nodup_append.1 nd2).2.2 x hx x hy rfl)) (fun x hx hy => (List.nodup_append.1 nd3).2.2 x hx x hy rfl)) (fun x hx hy => (List.nodup_append.1 nd4).2.2 x hx x hy rfl)) (fun x hx hy => (List.nodup_append.1 nd5).2.2 x hx x hy rfl)) (fun x hx hy => (List.nodup_append.1 nd6).2.2 x hx x hy rfl)) ?_
          intro q u hq
          match q, hq with
          | 0, hq => obtain rfl := (Option.some.inj hq); simp [go_sem, *]
          | 1, hq => obtain rfl := (Option.some.inj hq); simp [go_sem, *]
          | 2, hq => obtain rfl := (Option.some.inj hq); simp [go_sem, *]
          | 3, hq => obtain rfl := (Option.some.inj hq); simp [go_sem, *]
          | 4, hq => obtain rfl := (Option.some.inj hq); simp [go_sem, *]
          | 5, hq => obtain rfl := (Option.some.inj hq); simp [go_sem, *]
          | 6, hq => obtain rfl := (Option.some.inj hq); simp [go_sem, *]
          | q + 7, hq => simp at hq
        · exact HC.out.trans (((by repeat (first | (with_reducible exact HU2.out) | (with_reducible refine Upd.setCell ?_ _ (by omega) _))) : Upd g (j * 7) 7 ([] ++ ([] ++ ([] ++ ([] ++ ([] ++ ([] ++ [])))))) wr _).chg.mono (fun b hb => (List.mem_cons.1 hb).elim (fun e => e ▸ hgL) (HSUB.out b)))
    · obtain rfl : j = l.length := by omega
      have how := HW.out; have hch := HC.out
      rw [List.take_length, List.drop_length, List.append_nil] at how
      rw [List.take_length] at *
      have HW2 := Lib.hid how; have HC2 := Lib.hid hch; clear how hch
      go_wp2
      go_ret
      exact ⟨rfl, HW2.out, HC2.out⟩
set_option maxRecDepth 100000 in
set_option maxHeartbeats 1000000 in
theorem markDirS_c (w : World) (v : Value) (l : List DirD) (L : List Nat) (K : Int) (k : Nat) (hK : K = k) (h1 : 1 ≤ k) (hk : (markS l k).2 ≤ 4611686018427387904) (ho : own L w [v] l) : Calls Tryz.prog 17 #[v, .int .i64 K] w (MarkR L w [v] (markS l k)) := by
  subst hK
  obtain ⟨oa, cap, rfl⟩ := slice_of_own ho
  have hlm : l.length ≤ 9223372036854775807 := len_of_own ho
  have HO := Lib.hid ho; clear ho
  go_enter Tryz.func17, Tryz.ntmps17
  go_wp2
  go_loopw [1, 5] (fun q i wr => ∃ j : Nat, j ≤ l.length ∧ i = .int .i64 j ∧ q = .int .i64 ((markS (l.take j) k).2 : Nat) ∧ Hid (own L wr [.slice oa l.length cap] ((markS (l.take j) k).1 ++ l.drop j)) ∧ Hid (Chg L w wr)) (fun _ i _ => l.length - (intOf i).toNat)
  case atStart => exact ⟨0, Nat.zero_le _, rfl, rfl, HO.out, Chg.refl _ _⟩
  case round =>
    obtain ⟨j, hj, rfl, rfl, HW, HC⟩ := hrel
    by_cases hjl : j < l.length
    · have hx := List.getElem?_eq_getElem hjl
      have hsp := mark_split l k j _ hx
      have hle := Nat.le_trans (mark_take_le l k j _ hx) hk
      have hdr : l.drop j = l[j] :: l.drop (j + 1) := List.drop_eq_getElem_cons hjl
      have hxl : (markS (l.take j) k).1.length = j := by rw [markS_length, List.length_take]; omega
      have hkk : k ≤ (markS (l.take j) k).2 := markS_le _ _
      have how := HW.out
      rw [hdr] at how
      clear hx hdr HW
      generalize (markS (l.take j) k).2 = kk at *
      generalize (markS (l.take j) k).1 = xs at *
      generalize l[j] = x at *
      obtain ⟨g, cap', cur, e, Li, hv, hg, hroom, hgLi, hgL, hsub, hoe, hshut⟩ := own_open how
      simp only [Value.slice.injEq] at hv
      obtain ⟨rfl, hq0, rfl⟩ := hv
      clear hq0
      rw [hxl] at hroom hoe hshut
      clear hxl
      rw [show GoD.n DirD = 2 from rfl] at hroom hoe hshut
      generalize hce : (cur.toList.drop (j * 2)).take 2 = ce at *
      obtain ⟨v0, v1⟩ := x
      obtain ⟨nd1, _, _, _, SL1, rfl, rfl, ⟨rfl, rfl, h0⟩, so1⟩ := hoe
      obtain ⟨sv1, rfl⟩ := len1 (show _ = 1 from GoD.rd_len (GoD.own_rd so1))
      obtain ⟨oa1, cp1, rfl⟩ := slice_of_own so1
      have p0 : wr.cell? ⟨g, j * 2, none⟩ = some _ := cells_at hg hce 0 _ rfl
      have p1 : wr.cell? ⟨g, j * 2 + 1, none⟩ = some _ := cells_at hg hce 1 _ rfl
      have fz := free_of_heap hg
      have hglt := block_lt_of_heap hg
      clear hce hg how
      have HSH := Lib.hid hshut; clear hshut
      have HSP := Lib.hid hsp; clear hsp
      have hle : (markS v1 (kk + 1)).2 ≤ 4611686018427387904 := hle
      have hm1 : kk + 1 ≤ (markS v1 (kk + 1)).2 := markS_le _ _
      have HSO1 := Lib.hid so1; clear so1
      have HSUB := Lib.hid hsub; clear hsub
      have HU0 : Hid (Upd g (j * 2) 2 ([] ++ SL1) wr wr) := Upd.refl _ _ _ _ _
      have tok1 : True := trivial
      have tok2 : True := trivial
      go_wp2_with (first | (go_at_call 50; have tk := tok1; clear tok1; refine (markText_c _ _ (kk) (by omega) (by omega) (by omega)).mono ?_; rintro e w1 ⟨rfl, hb⟩; have hz := hb.size; have c1 := fun o => bcell hb g o (by go_size); have f1 := fun o => bfroz hb g o (by go_size); have HU1 : Hid (Upd g (j * 2) 2 ([] ++ SL1) wr w1) := Upd.below (by repeat (first | (with_reducible exact HU0.out) | (with_reducible refine Upd.setCell ?_ _ (by omega) _))) hb (by go_size); (repeat (first | rewrite [World.size_alloc] at hz | rewrite [World.size_setCell] at hz | rewrite [World.size_drew] at hz)); have HB1 := Lib.hid hb; clear hb) | (go_at_call 51; have tk := tok2; clear tok2; refine call_mark (markNodeS_c _ _ v1 SL1 _ (kk + 1) (by omega) (by omega) (by omega) (by repeat (first | (with_reducible exact HSO1.out) | (refine own_setCell ?_ (fun hm => hgLi (List.mem_append.2 (.inr hm)))) | (with_reducible refine own_below ?_ HB1.out)))) ?_; intro w2 ho2 hch hz; have c2 := fun o => hch.cell (b := g) (by go_size) (fun hm => hgLi (List.mem_append.2 (.inr hm))) o; have f2 := fun o => hch.frozen (b := g) (by go_size) (fun hm => hgLi (List.mem_append.2 (.inr hm))) o; have HU2 : Hid (Upd g (j * 2) 2 ([] ++ SL1) wr w2) := Upd.mark (by repeat (first | (with_reducible exact HU1.out) | (with_reducible refine Upd.setCell ?_ _ (by omega) _))) hch (fun b hm => (List.mem_append.2 (.inr hm))) (fun hm => hgLi (List.mem_append.2 (.inr hm))) (by go_size); (repeat (first | rewrite [World.size_alloc] at hz | rewrite [World.size_setCell] at hz | rewrite [World.size_drew] at hz)); have HB2 := Lib.hid hch; clear hch; have HM2 := Lib.hid ho2; clear ho2))
      go_roundw
      case measure => simp [intOf]; omega
      case rel =>
        refine ⟨j + 1, by omega, by go_num, ?_, ?_, ?_⟩
        · show Value.int _ _ = _
          rw [HSP.out]
          show Value.int .i64 _ = .int .i64 (((markS v1 (kk + 1)).2 : Nat) : Int)
          first | go_num | (congr 1 <;> omega)
        · show own _ _ _ _
          rw [HSP.out]
          simp only [List.append_assoc, List.singleton_append]
          refine HSH.out _ [.string (markB (kk)), .slice oa1 v1.length cp1] _ (by repeat (first | (with_reducible exact HU2.out) | (with_reducible refine Upd.setCell ?_ _ (by omega) _))) (own_pair (own_s _ (markB_size (by omega))) (show own SL1 _ [.slice oa1 v1.length cp1] (markS v1 (kk + 1)).1 by repeat (first | (with_reducible exact HM2.out) | (refine own_setCell ?_ (fun hm => hgLi (List.mem_append.2 (.inr hm)))) )) (fun x hx hy => (List.nodup_append.1 nd1).2.2 x hx x hy rfl)) ?_
          intro q u hq
          match q, hq with
          | 0, hq => obtain rfl := (Option.some.inj hq); simp [go_sem, *]
          | 1, hq => obtain rfl := (Option.some.inj hq); simp [go_sem, *]
          | q + 2, hq => simp at hq
        · exact HC.out.trans (((by repeat (first | (with_reducible exact HU2.out) | (with_reducible refine Upd.setCell ?_ _ (by omega) _))) : Upd g (j * 2) 2 ([] ++ SL1) wr _).chg.mono (fun b hb => (List.mem_cons.1 hb).elim (fun e => e ▸ hgL) (HSUB.out b)))
    · obtain rfl : j = l.length := by omega
      have how := HW.out; have hch := HC.out
      rw [List.take_length, List.drop_length, List.append_nil] at how
      rw [List.take_length] at *
      have HW2 := Lib.hid how; have HC2 := Lib.hid hch; clear how hch
      go_wp2
      go_ret
      exact ⟨rfl, HW2.out, HC2.out⟩
set_option maxRecDepth 100000 in
set_option maxHeartbeats 1000000 in
theorem markIntS_c (w : World) (v : Value) (l : List Int) (L : List Nat) (K : Int) (k : Nat) (hK : K = k) (h1 : 1 ≤ k) (hk : (markS l k).2 ≤ 4611686018427387904) (ho : own L w [v] l) : Calls Tryz.prog 18 #[v, .int .i64 K] w (MarkR L w [v] (markS l k)) := by
  subst hK
  obtain ⟨oa, cap, rfl⟩ := slice_of_own ho
  have hlm : l.length ≤ 9223372036854775807 := len_of_own ho
  have HO := Lib.hid ho; clear ho
  go_enter Tryz.func18, Tryz.ntmps18
  go_wp2
  go_loopw [1, 5] (fun q i wr => ∃ j : Nat, j ≤ l.length ∧ i = .int .i64 j ∧ q = .int .i64 ((markS (l.take j) k).2 : Nat) ∧ Hid (own L wr [.slice oa l.length cap] ((markS (l.take j) k).1 ++ l.drop j)) ∧ Hid (Chg L w wr)) (fun _ i _ => l.length - (intOf i).toNat)
  case atStart => exact ⟨0, Nat.zero_le _, rfl, rfl, HO.out, Chg.refl _ _⟩
  case round =>
    obtain ⟨j, hj, rfl, rfl, HW, HC⟩ := hrel
    by_cases hjl : j < l.length
    · have hx := List.getElem?_eq_getElem hjl
      have hsp := mark_split l k j _ hx
      have hle := Nat.le_trans (mark_take_le l k j _ hx) hk
      have hdr : l.drop j = l[j] :: l.drop (j + 1) := List.drop_eq_getElem_cons hjl
      have hxl : (markS (l.take j) k).1.length = j := by rw [markS_length, List.length_take]; omega
      have hkk : k ≤ (markS (l.take j) k).2 := markS_le _ _
      have how := HW.out
      rw [hdr] at how
      clear hx hdr HW
      generalize (markS (l.take j) k).2 = kk at *
      generalize (markS (l.take j) k).1 = xs at *
      generalize l[j] = x at *
      obtain ⟨g, cap', cur, e, Li, hv, hg, hroom, hgLi, hgL, hsub, hoe, hshut⟩ := own_open how
      simp only [Value.slice.injEq] at hv
      obtain ⟨rfl, hq0, rfl⟩ := hv
      clear hq0
      rw [hxl] at hroom hoe hshut
      clear hxl
      rw [show GoD.n Int = 1 from rfl] at hroom hoe hshut
      rw [Nat.mul_one] at hoe hshut
      generalize hce : (cur.toList.drop j).take 1 = ce at *
      obtain ⟨rfl, rfl, hh⟩ := hoe
      have p0 : wr.cell? ⟨g, j, none⟩ = some _ := cells_at hg hce 0 _ rfl
      have fz := free_of_heap hg
      have hglt := block_lt_of_heap hg
      clear hce hg how
      have HSH := Lib.hid hshut; clear hshut
      have HSP := Lib.hid hsp; clear hsp
      have hle : kk + 1 ≤ 4611686018427387904 := hle
      have HU0 : Hid (Upd g j 1 [] wr wr) := Upd.refl _ _ _ _ _
      go_wp2
      go_roundw
      case measure => simp [intOf]; omega
      case rel =>
        refine ⟨j + 1, by omega, by go_num, ?_, ?_, ?_⟩
        · show Value.int _ _ = _
          rw [HSP.out]
          show Value.int .i64 _ = .int .i64 ((kk + 1 : Nat) : Int)
          first | go_num | (congr 1 <;> omega)
        · show own _ _ _ _
          rw [HSP.out]
          simp only [List.append_assoc, List.singleton_append]
          refine HSH.out _ [.int .i64 ((kk : Nat) : Int)] _ (by repeat (first | (with_reducible exact HU0.out) | (with_reducible refine Upd.setCell ?_ _ (by omega) _))) (own_i _ (i64_of (kk) (by omega))) ?_
          intro q u hq
          match q, hq with
          | 0, hq => obtain rfl := (Option.some.inj hq); simp [go_sem, *]
          | q + 1, hq => simp at hq
        · exact HC.out.trans (((by repeat (first | (with_reducible exact HU0.out) | (with_reducible refine Upd.setCell ?_ _ (by omega) _))) : Upd g j 1 [] wr _).chg.mono (fun b hb => (List.mem_cons.1 hb).elim (fun e => e ▸ hgL) (hsub b)))
    · obtain rfl : j = l.length := by omega
      have how := HW.out; have hch := HC.out
      rw [List.take_length, List.drop_length, List.append_nil] at how
      rw [List.take_length] at *
      have HW2 := Lib.hid how; have HC2 := Lib.hid hch; clear how hch
      go_wp2
      go_ret
      exact ⟨rfl, HW2.out, HC2.out⟩
end Go.Proofs.YtnhmnfmhnepjmaaGreat
