/- The laws' functions that write marks into memory. -/
import Derived.Test.YtonniokonadkfaaProg
import Derived.Test.YtonniokonadkfaaTy
import Derived.Laws.IdiomStrings
namespace Go.Proofs.Ytonniokonadkfaa
open Go.RowKit
open GoD (rd own)
set_option maxHeartbeats 1000000 in
theorem markIntS_c (w : World) (v : Value) (l : List Int) (L : List Nat) (K : Int) (k : Nat) (hK : K = k) (h1 : 1 ≤ k) (hk : (markS l k).2 ≤ 4611686018427387904) (ho : own L w [v] l) : Calls Try.prog 14 #[v, .int .i64 K] w (MarkR L w [v] (markS l k)) := by
  subst hK
  obtain ⟨oa, cap, rfl⟩ := slice_of_own ho
  have hlm : l.length ≤ 9223372036854775807 := len_of_own ho
  have HO := Lib.hid ho; clear ho
  go_enter Try.func14, Try.ntmps14
  go_wp2
  go_loopw [1, 5] (fun q i wr => ∃ j : Nat, j ≤ l.length ∧ i = .int .i64 j ∧ q = .int .i64 ((markS (l.take j) k).2 : Nat) ∧ Hid (own L wr [.slice oa l.length cap] ((markS (l.take j) k).1 ++ l.drop j)) ∧ Hid (Chg L w wr)) (fun _ i _ => l.length - (intOf i).toNat)
  case atStart => exact ⟨0, Nat.zero_le _, rfl, rfl, HO.out, Chg.refl _ _⟩
  case round =>
    obtain ⟨j, hj, rfl, rfl, HW, HC⟩ := hrel
    by_cases hjl : j < l.length
    · have hx := List.getElem?_eq_getElem hjl
      have hsp := mark_split l k j _ hx
      have hle := Nat.le_trans (mark_take_le l k j _ hx) hk
      have hdr : l.drop j = l[j] :: l.drop (j + 1) := List.drop_eq_getElem_cons hjl
      have hxl : (markS (l.take j) k).1.length = j := by rw [markS_length, List.length_take]; omega
      have hkk : k ≤ (markS (l.take j) k).2 := markS_le _ _
      have how := HW.out
      rw [hdr] at how
      clear hx hdr HW
      generalize (markS (l.take j) k).2 = kk at *
      generalize (markS (l.take j) k).1 = xs at *
      generalize l[j] = x at *
      obtain ⟨g, cap', cur, e, Li, hv, hg, hroom, hgLi, hgL, hsub, hoe, hshut⟩ := own_open how
      simp only [Value.slice.injEq] at hv
      obtain ⟨rfl, hq0, rfl⟩ := hv
      clear hq0
      rw [hxl] at hroom hoe hshut
      clear hxl
      rw [show GoD.n Int = 1 from rfl] at hroom hoe hshut
      rw [Nat.mul_one] at hoe hshut
      generalize hce : (cur.toList.drop j).take 1 = ce at *
      obtain ⟨rfl, rfl, hh⟩ := hoe
      have p0 : wr.cell? ⟨g, j, none⟩ = some _ := cells_at hg hce 0 _ rfl
      have fz := free_of_heap hg
      have hglt := block_lt_of_heap hg
      clear hce hg how
      have HSH := Lib.hid hshut; clear hshut
      have HSP := Lib.hid hsp; clear hsp
      have hle : kk + 1 ≤ 4611686018427387904 := hle
      have HU0 : Hid (Upd g j 1 [] wr wr) := Upd.refl _ _ _ _ _
      go_wp2
      go_roundw
      case measure => simp [intOf]; omega
      case rel =>
        refine ⟨j + 1, by omega, by go_num, ?_, ?_, ?_⟩
        · show Value.int _ _ = _
          rw [HSP.out]
          show Value.int .i64 _ = .int .i64 ((kk + 1 : Nat) : Int)
          first | go_num | (congr 1 <;> omega)
        · show own _ _ _ _
          rw [HSP.out]
          simp only [List.append_assoc, List.singleton_append]
          refine HSH.out _ [.int .i64 ((kk : Nat) : Int)] _ (by repeat (first | (with_reducible exact HU0.out) | (with_reducible refine Upd.setCell ?_ _ (by omega) _))) (own_i _ (i64_of (kk) (by omega))) ?_
          intro q u hq
          match q, hq with
          | 0, hq => obtain rfl := (Option.some.inj hq); simp [go_sem, *]
          | q + 1, hq => simp at hq
        · exact HC.out.trans (((by repeat (first | (with_reducible exact HU0.out) | (with_reducible refine Upd.setCell ?_ _ (by omega) _))) : Upd g j 1 [] wr _).chg.mono (fun b hb => (List.mem_cons.1 hb).elim (fun e => e ▸ hgL) (hsub b)))
    · obtain rfl : j = l.length := by omega
      have how := HW.out; have hch := HC.out
      rw [List.take_length, List.drop_length, List.append_nil] at how
      rw [List.take_length] at *
      have HW2 := Lib.hid how; have HC2 := Lib.hid hch; clear how hch
      go_wp2
      go_ret
      exact ⟨rfl, HW2.out, HC2.out⟩

set_option maxHeartbeats 1000000 in
theorem markEventS_c (w : World) (v : Value) (l : List EventD) (L : List Nat) (K : Int) (k : Nat) (hK : K = k) (h1 : 1 ≤ k) (hk : (markS l k).2 ≤ 4611686018427387904) (ho : own L w [v] l) : Calls Try.prog 15 #[v, .int .i64 K] w (MarkR L w [v] (markS l k)) := by
  subst hK
  obtain ⟨oa, cap, rfl⟩ := slice_of_own ho
  have hlm : l.length ≤ 9223372036854775807 := len_of_own ho
  have HO := Lib.hid ho; clear ho
  go_enter Try.func15, Try.ntmps15
  go_wp2
  go_loopw [1, 5] (fun q i wr => ∃ j : Nat, j ≤ l.length ∧ i = .int .i64 j ∧ q = .int .i64 ((markS (l.take j) k).2 : Nat) ∧ Hid (own L wr [.slice oa l.length cap] ((markS (l.take j) k).1 ++ l.drop j)) ∧ Hid (Chg L w wr)) (fun _ i _ => l.length - (intOf i).toNat)
  case atStart => exact ⟨0, Nat.zero_le _, rfl, rfl, HO.out, Chg.refl _ _⟩
  case round =>
    obtain ⟨j, hj, rfl, rfl, HW, HC⟩ := hrel
    by_cases hjl : j < l.length
    · have hx := List.getElem?_eq_getElem hjl
      have hsp := mark_split l k j _ hx
      have hle := Nat.le_trans (mark_take_le l k j _ hx) hk
      have hdr : l.drop j = l[j] :: l.drop (j + 1) := List.drop_eq_getElem_cons hjl
      have hxl : (markS (l.take j) k).1.length = j := by rw [markS_length, List.length_take]; omega
      have hkk : k ≤ (markS (l.take j) k).2 := markS_le _ _
      have how := HW.out
      rw [hdr] at how
      clear hx hdr HW
      generalize (markS (l.take j) k).2 = kk at *
      generalize (markS (l.take j) k).1 = xs at *
      generalize l[j] = x at *
      obtain ⟨g, cap', cur, e, Li, hv, hg, hroom, hgLi, hgL, hsub, hoe, hshut⟩ := own_open how
      simp only [Value.slice.injEq] at hv
      obtain ⟨rfl, hq0, rfl⟩ := hv
      clear hq0
      rw [hxl] at hroom hoe hshut
      clear hxl
      rw [show GoD.n EventD = 3 from rfl] at hroom hoe hshut
      generalize hce : (cur.toList.drop (j * 3)).take 3 = ce at *
      obtain ⟨v0, v1, v2⟩ := x
      obtain ⟨nd2, _, _, _, _, rfl, rfl, ⟨rfl, rfl, h0⟩, ⟨nd1, _, _, SL1, SL2, rfl, rfl, so1, so2⟩⟩ := hoe
      obtain ⟨sv1, rfl⟩ := len1 (show _ = 1 from GoD.rd_len (GoD.own_rd so1))
      obtain ⟨oa1, cp1, rfl⟩ := slice_of_own so1
      obtain ⟨sv2, rfl⟩ := len1 (show _ = 1 from GoD.rd_len (GoD.own_rd so2))
      obtain ⟨oa2, cp2, rfl⟩ := slice_of_own so2
      have p0 : wr.cell? ⟨g, j * 3, none⟩ = some _ := cells_at hg hce 0 _ rfl
      have p1 : wr.cell? ⟨g, j * 3 + 1, none⟩ = some _ := cells_at hg hce 1 _ rfl
      have p2 : wr.cell? ⟨g, j * 3 + 2, none⟩ = some _ := cells_at hg hce 2 _ rfl
      have fz := free_of_heap hg
      have hglt := block_lt_of_heap hg
      clear hce hg how
      have HSH := Lib.hid hshut; clear hshut
      have HSP := Lib.hid hsp; clear hsp
      have hle : (markS v2 ((markS v1 (kk + 1)).2)).2 ≤ 4611686018427387904 := hle
      have hm1 : kk + 1 ≤ (markS v1 (kk + 1)).2 := markS_le _ _
      have hm2 : (markS v1 (kk + 1)).2 ≤ (markS v2 ((markS v1 (kk + 1)).2)).2 := markS_le _ _
      have HSO1 := Lib.hid so1; clear so1
      have HSO2 := Lib.hid so2; clear so2
      have HSUB := Lib.hid hsub; clear hsub
      have HU0 : Hid (Upd g (j * 3) 3 ([] ++ (SL1 ++ SL2)) wr wr) := Upd.refl _ _ _ _ _
      have tok1 : True := trivial
      have tok2 : True := trivial
      go_wp2_with (first | (go_at_call 14; have tk := tok1; clear tok1; refine call_mark (markIntS_c _ _ v1 SL1 _ (kk + 1) (by omega) (by omega) (by omega) (by repeat (first | (with_reducible exact HSO1.out) | (refine own_setCell ?_ (fun hm => hgLi (List.mem_append.2 (.inr (List.mem_append.2 (.inl hm)))))) ))) ?_; intro w1 ho1 hch hz; have c1 := fun o => hch.cell (b := g) (by go_size) (fun hm => hgLi (List.mem_append.2 (.inr (List.mem_append.2 (.inl hm))))) o; have f1 := fun o => hch.frozen (b := g) (by go_size) (fun hm => hgLi (List.mem_append.2 (.inr (List.mem_append.2 (.inl hm))))) o; have HU1 : Hid (Upd g (j * 3) 3 ([] ++ (SL1 ++ SL2)) wr w1) := Upd.mark (by repeat (first | (with_reducible exact HU0.out) | (with_reducible refine Upd.setCell ?_ _ (by omega) _))) hch (fun b hm => (List.mem_append.2 (.inr (List.mem_append.2 (.inl hm))))) (fun hm => hgLi (List.mem_append.2 (.inr (List.mem_append.2 (.inl hm))))) (by go_size); (repeat (first | rewrite [World.size_alloc] at hz | rewrite [World.size_setCell] at hz | rewrite [World.size_drew] at hz)); have HB1 := Lib.hid hch; clear hch; have HM1 := Lib.hid ho1; clear ho1) | (go_at_call 14; have tk := tok2; clear tok2; refine call_mark (markIntS_c _ _ v2 SL2 _ ((markS v1 (kk + 1)).2) (by omega) (by omega) (by omega) (by repeat (first | (with_reducible exact HSO2.out) | (refine own_setCell ?_ (fun hm => hgLi (List.mem_append.2 (.inr (List.mem_append.2 (.inr hm)))))) | (refine own_chg ?_ HB1.out (fun b hb1 hb2 => (List.nodup_append.1 nd1).2.2 _ hb2 _ hb1 rfl))))) ?_; intro w2 ho2 hch hz; have c2 := fun o => hch.cell (b := g) (by go_size) (fun hm => hgLi (List.mem_append.2 (.inr (List.mem_append.2 (.inr hm))))) o; have f2 := fun o => hch.frozen (b := g) (by go_size) (fun hm => hgLi (List.mem_append.2 (.inr (List.mem_append.2 (.inr hm))))) o; have HU2 : Hid (Upd g (j * 3) 3 ([] ++ (SL1 ++ SL2)) wr w2) := Upd.mark (by repeat (first | (with_reducible exact HU1.out) | (with_reducible refine Upd.setCell ?_ _ (by omega) _))) hch (fun b hm => (List.mem_append.2 (.inr (List.mem_append.2 (.inr hm))))) (fun hm => hgLi (List.mem_append.2 (.inr (List.mem_append.2 (.inr hm))))) (by go_size); (repeat (first | rewrite [World.size_alloc] at hz | rewrite [World.size_setCell] at hz | rewrite [World.size_drew] at hz)); have HB2 := Lib.hid hch; clear hch; have HM2 := Lib.hid ho2; clear ho2))
      go_roundw
      case measure => simp [intOf]; omega
      case rel =>
        refine ⟨j + 1, by omega, by go_num, ?_, ?_, ?_⟩
        · show Value.int _ _ = _
          rw [HSP.out]
          show Value.int .i64 _ = .int .i64 (((markS v2 ((markS v1 (kk + 1)).2)).2 : Nat) : Int)
          first | go_num | (congr 1 <;> omega)
        · show own _ _ _ _
          rw [HSP.out]
          simp only [List.append_assoc, List.singleton_append]
          refine HSH.out _ [.int .i64 ((kk : Nat) : Int), .slice oa1 v1.length cp1, .slice oa2 v2.length cp2] _ (by repeat (first | (with_reducible exact HU2.out) | (with_reducible refine Upd.setCell ?_ _ (by omega) _))) (own_pair (own_i _ (i64_of (kk) (by omega))) (own_pair (show own SL1 _ [.slice oa1 v1.length cp1] (markS v1 (kk + 1)).1 by repeat (first | (with_reducible exact HM1.out) | (refine own_setCell ?_ (fun hm => hgLi (List.mem_append.2 (.inr (List.mem_append.2 (.inl hm)))))) | (refine own_chg ?_ HB2.out (fun b hb1 hb2 => (List.nodup_append.1 nd1).2.2 _ hb1 _ hb2 rfl)))) (show own SL2 _ [.slice oa2 v2.length cp2] (markS v2 ((markS v1 (kk + 1)).2)).1 by repeat (first | (with_reducible exact HM2.out) | (refine own_setCell ?_ (fun hm => hgLi (List.mem_append.2 (.inr (List.mem_append.2 (.inr hm)))))) )) (fun x hx hy => (List.nodup_append.1 nd1).2.2 x hx x hy rfl)) (fun x hx hy => (List.nodup_append.1 nd2).2.2 x hx x hy rfl)) ?_
          intro q u hq
          match q, hq with
          | 0, hq => obtain rfl := (Option.some.inj hq); simp [go_sem, *]
          | 1, hq => obtain rfl := (Option.some.inj hq); simp [go_sem, *]
          | 2, hq => obtain rfl := (Option.some.inj hq); simp [go_sem, *]
          | q + 3, hq => simp at hq
        · exact HC.out.trans (((by repeat (first | (with_reducible exact HU2.out) | (with_reducible refine Upd.setCell ?_ _ (by omega) _))) : Upd g (j * 3) 3 ([] ++ (SL1 ++ SL2)) wr _).chg.mono (fun b hb => (List.mem_cons.1 hb).elim (fun e => e ▸ hgL) (HSUB.out b)))
    · obtain rfl : j = l.length := by omega
      have how := HW.out; have hch := HC.out
      rw [List.take_length, List.drop_length, List.append_nil] at how
      rw [List.take_length] at *
      have HW2 := Lib.hid how; have HC2 := Lib.hid hch; clear how hch
      go_wp2
      go_ret
      exact ⟨rfl, HW2.out, HC2.out⟩

set_option maxHeartbeats 1000000 in
theorem markWatch_c (w : World) (ca : List Value) (a : WatchD) (L : List Nat) (K : Int) (k : Nat) (hK : K = k) (h1 : 1 ≤ k) (hk : (GoD.markT a k).2 ≤ 4611686018427387904) (ho : own L w ca a) : Calls Try.prog 22 #[.agg ca.toArray, .int .i64 K] w (MarkR L w ca (GoD.markT a k)) := by
  subst hK
  obtain ⟨b1, b2, b3, b4⟩ := a
  have hk : (markS b4 ((markS b3 (k)).2)).2 ≤ 4611686018427387904 := hk
  have hlt := GoD.own_lt ho
  obtain ⟨nd0, _, _, _, _, rfl, rfl, ⟨rfl, rfl, h0⟩, ⟨nd1, _, _, _, _, rfl, rfl, ⟨rfl, rfl, h1⟩, ⟨nd2, _, _, SL2, SL3, rfl, rfl, so2, so3⟩⟩⟩ := ho
  obtain ⟨ax2_0, rfl⟩ := len1 (show _ = 1 from GoD.rd_len (GoD.own_rd so2))
  have HSO2 := Lib.hid so2; clear so2
  have hm2 : k ≤ (markS b3 (k)).2 := markS_le _ _
  obtain ⟨ax3_0, rfl⟩ := len1 (show _ = 1 from GoD.rd_len (GoD.own_rd so3))
  have HSO3 := Lib.hid so3; clear so3
  have hm3 : (markS b3 (k)).2 ≤ (markS b4 ((markS b3 (k)).2)).2 := markS_le _ _
  show Calls Try.prog 22 #[.agg #[.int .i64 b1, .string b2, ax2_0, ax3_0], .int .i64 (k : Int)] w (MarkR ([] ++ ([] ++ (SL2 ++ SL3))) w [.int .i64 b1, .string b2, ax2_0, ax3_0] (GoD.markT ((b1, b2, b3, b4) : WatchD) k))
  have HLT := Lib.hid hlt; clear hlt
  have tok1 : True := trivial
  have tok2 : True := trivial
  go_enter Try.func22, Try.ntmps22
  go_wp2_with (first | (go_at_call 14; have tk := tok1; clear tok1; refine call_mark (markIntS_c _ ax2_0 b3 SL2 _ (k) (by omega) (by omega) (show (markS b3 (k)).2 ≤ 4611686018427387904 by omega) (by repeat (first | (with_reducible exact HSO2.out) | (refine own_alloc ?_) ))) ?_; intro w1 ho1 hch hz; have c1 := fun o => hch.cell (b := w.heap.size) (by go_size) (fun hm => by have := HLT.out _ (List.mem_append.2 (.inr (List.mem_append.2 (.inr (List.mem_append.2 (.inl hm)))))); omega) o; (repeat (first | rewrite [World.size_alloc] at hz | rewrite [World.size_setCell] at hz | rewrite [World.size_drew] at hz)); have HB1 := Lib.hid hch; clear hch; have HM1 := Lib.hid ho1; clear ho1) | (go_at_call 15; have tk := tok2; clear tok2; refine call_mark (markEventS_c _ ax3_0 b4 SL3 _ ((markS b3 (k)).2) (by omega) (by omega) (show (markS b4 ((markS b3 (k)).2)).2 ≤ 4611686018427387904 by omega) (by repeat (first | (with_reducible exact HSO3.out) | (refine own_alloc ?_) | (refine own_chg ?_ HB1.out (fun b hb1 hb2 => (List.nodup_append.1 nd2).2.2 _ hb2 _ hb1 rfl))))) ?_; intro w2 ho2 hch hz; have c2 := fun o => hch.cell (b := w.heap.size) (by go_size) (fun hm => by have := HLT.out _ (List.mem_append.2 (.inr (List.mem_append.2 (.inr (List.mem_append.2 (.inr hm)))))); omega) o; (repeat (first | rewrite [World.size_alloc] at hz | rewrite [World.size_setCell] at hz | rewrite [World.size_drew] at hz)); have HB2 := Lib.hid hch; clear hch; have HM2 := Lib.hid ho2; clear ho2))
  go_ret
  refine ⟨rfl, ?_, ?_⟩
  · show own ([] ++ ([] ++ (SL2 ++ SL3))) _ [.int .i64 b1, .string b2, ax2_0, ax3_0] _
    exact (own_pair (own_i _ h0) (own_pair (own_s _ h1) (own_pair (show own SL2 _ [ax2_0] (markS b3 (k)).1 by repeat (first | (with_reducible exact HM1.out) | (refine own_alloc ?_) | (refine own_chg ?_ HB2.out (fun b hb1 hb2 => (List.nodup_append.1 nd2).2.2 _ hb1 _ hb2 rfl)))) (show own SL3 _ [ax3_0] (markS b4 ((markS b3 (k)).2)).1 by repeat (first | (with_reducible exact HM2.out) | (refine own_alloc ?_) )) (fun x hx hy => (List.nodup_append.1 nd2).2.2 x hx x hy rfl)) (fun x hx hy => (List.nodup_append.1 nd1).2.2 x hx x hy rfl)) (fun x hx hy => (List.nodup_append.1 nd0).2.2 x hx x hy rfl))
  · show Chg ([] ++ ([] ++ (SL2 ++ SL3))) w _
    exact ((Chg.of_below (show Below w.heap.size w _ by go_grown)).trans (HB1.out.mono (fun b hm => (List.mem_append.2 (.inr (List.mem_append.2 (.inr (List.mem_append.2 (.inl hm))))))))).trans (HB2.out.mono (fun b hm => (List.mem_append.2 (.inr (List.mem_append.2 (.inr (List.mem_append.2 (.inr hm))))))))
end Go.Proofs.Ytonniokonadkfaa
