/- The laws' functions that look whether the marks still stand. -/
import Derived.Test.YtnhmnfmhnepjmaaGreatMa
set_option linter.unusedVariables false
set_option linter.unusedSimpArgs false
namespace Go.Proofs.YtnhmnfmhnepjmaaGreat
open Go.RowKit
open GoD (rd own)
set_option maxRecDepth 100000 in
set_option maxHeartbeats 1000000 in
theorem heldIntS_c (w : World) (v : Value) (l l' : List Int) (K : Int) (k : Nat) (hK : K = k) (h1 : 1 ≤ k) (hk : (markS l k).2 ≤ 4611686018427387904) (hl' : l' = (markS l k).1) (ha : rd w [v] l') : Calls Tryz.prog 19 #[v, .int .i64 K] w (Ret w (.int .i64 ((markS l k).2 : Nat))) := by
  subst hK hl'
  obtain ⟨oa, cap, e1, hl, hm, hel⟩ := ha
  obtain rfl : v = _ := by simpa using e1
  clear e1
  have HE := Lib.hid hel; clear hel
  rw [markS_length] at hl ⊢
  unfold maxLen at hm
  have hlm : l.length ≤ 9223372036854775807 := by omega
  generalize hfin : (markS l k).2 = fin at *
  have HF := Lib.hid hfin; clear hfin
  go_enter Tryz.func19, Tryz.ntmps19
  go_wp2
  go_loopw [1, 5] (fun q i wr => ∃ j : Nat, j ≤ l.length ∧ i = .int .i64 j ∧ q = .int .i64 ((markS (l.take j) k).2 : Nat) ∧ Below w.heap.size w wr) (fun _ i _ => l.length - (intOf i).toNat)
  case atStart => exact ⟨0, Nat.zero_le _, rfl, rfl, Below.refl _ _⟩
  case round =>
    obtain ⟨j, hj, rfl, rfl, hB⟩ := hrel
    by_cases hjl : j < l.length
    · have hx := List.getElem?_eq_getElem hjl
      have hsp := mark_split l k j _ hx
      have hle := Nat.le_trans (mark_take_le l k j _ hx) (Nat.le_trans (Nat.le_of_eq HF.out) hk)
      have hkk : k ≤ (markS (l.take j) k).2 := markS_le _ _
      obtain ⟨eb, eo, ee, rfl, hcl, hcc, hxr⟩ := HE.out j _ (markS_get l k j _ hx)
      clear hx
      generalize (markS (l.take j) k).2 = kk at *
      generalize (markS (l.take j) k).1 = xs at *
      generalize l[j] = x at *
      have HSP : Hid (_ = (xs ++ [((((kk : Nat) : Int) : Int))], kk + 1)) := hsp
      clear hsp
      have hle : kk + 1 ≤ 4611686018427387904 := hle
      have hxr : rd w ee (((kk : Nat) : Int) : Int) := hxr
      obtain ⟨rfl, _⟩ := hxr
      have q0 : w.cell? ⟨eb, eo + j, none⟩ = some (.int .i64 ((kk : Nat) : Int)) := by have h0 := hcc 0 _ rfl; simp only [GoD.n, Nat.mul_one, Nat.add_zero] at h0; exact h0
      have HQ := Lib.hid (show True from trivial)
      have Q0 := Lib.hid q0; clear q0
      have p0_0 := (hB.cell (World.block_lt_of_cell? w _ Q0.out)).trans Q0.out
      clear hcc hcl
      have hz0 := hB.size
      go_wp2
      first
      | exact ⟨⟨j + 1, by omega, by go_num, by (show Value.int _ _ = _; rw [HSP.out]; try (show Value.int .i64 _ = .int .i64 ((kk + 1 : Nat) : Int); first | go_num | (congr 1 <;> omega))), hB⟩, by simp [intOf]; omega⟩
      | (go_roundw; (case measure => simp [intOf]; omega); (case rel => exact ⟨j + 1, by omega, by go_num, by (show Value.int _ _ = _; rw [HSP.out]; try (show Value.int .i64 _ = .int .i64 ((kk + 1 : Nat) : Int); first | go_num | (congr 1 <;> omega))), hB⟩))
    · obtain rfl : j = l.length := by omega
      have hf := HF.out
      rw [List.take_length] at *
      rw [hf] at *
      have HF2 := Lib.hid hf; clear hf
      go_wp2
      go_ret
      exact ⟨rfl, hB⟩
set_option maxRecDepth 100000 in
set_option maxHeartbeats 1000000 in
theorem heldEventS_c (w : World) (v : Value) (l l' : List EventD) (K : Int) (k : Nat) (hK : K = k) (h1 : 1 ≤ k) (hk : (markS l k).2 ≤ 4611686018427387904) (hl' : l' = (markS l k).1) (ha : rd w [v] l') : Calls Tryz.prog 56 #[v, .int .i64 K] w (Ret w (.int .i64 ((markS l k).2 : Nat))) := by
  subst hK hl'
  obtain ⟨oa, cap, e1, hl, hm, hel⟩ := ha
  obtain rfl : v = _ := by simpa using e1
  clear e1
  have HE := Lib.hid hel; clear hel
  rw [markS_length] at hl ⊢
  unfold maxLen at hm
  have hlm : l.length ≤ 9223372036854775807 := by omega
  generalize hfin : (markS l k).2 = fin at *
  have HF := Lib.hid hfin; clear hfin
  go_enter Tryz.func56, Tryz.ntmps56
  go_wp2
  go_loopw [1, 5] (fun q i wr => ∃ j : Nat, j ≤ l.length ∧ i = .int .i64 j ∧ q = .int .i64 ((markS (l.take j) k).2 : Nat) ∧ Below w.heap.size w wr) (fun _ i _ => l.length - (intOf i).toNat)
  case atStart => exact ⟨0, Nat.zero_le _, rfl, rfl, Below.refl _ _⟩
  case round =>
    obtain ⟨j, hj, rfl, rfl, hB⟩ := hrel
    by_cases hjl : j < l.length
    · have hx := List.getElem?_eq_getElem hjl
      have hsp := mark_split l k j _ hx
      have hle := Nat.le_trans (mark_take_le l k j _ hx) (Nat.le_trans (Nat.le_of_eq HF.out) hk)
      have hkk : k ≤ (markS (l.take j) k).2 := markS_le _ _
      obtain ⟨eb, eo, ee, rfl, hcl, hcc, hxr⟩ := HE.out j _ (markS_get l k j _ hx)
      clear hx
      generalize (markS (l.take j) k).2 = kk at *
      generalize (markS (l.take j) k).1 = xs at *
      generalize l[j] = x at *
      obtain ⟨v0, v1, v2⟩ := x
      have HSP : Hid (_ = (xs ++ [(((((kk : Nat) : Int), (markS v1 (kk + 1)).1, (markS v2 ((markS v1 (kk + 1)).2)).1) : EventD))], (markS v2 ((markS v1 (kk + 1)).2)).2)) := hsp
      clear hsp
      have hle : (markS v2 ((markS v1 (kk + 1)).2)).2 ≤ 4611686018427387904 := hle
      have hxr : rd w ee ((((kk : Nat) : Int), (markS v1 (kk + 1)).1, (markS v2 ((markS v1 (kk + 1)).2)).1) : EventD) := hxr
      obtain ⟨_, _, rfl, ⟨rfl, _⟩, ⟨_, _, rfl, rh1, rh2⟩⟩ := hxr
      obtain ⟨rv1, rfl⟩ := len1 (show _ = 1 from GoD.rd_len rh1)
      obtain ⟨oa1, cp1, rfl⟩ := slice_of_rd rh1
      obtain ⟨rv2, rfl⟩ := len1 (show _ = 1 from GoD.rd_len rh2)
      obtain ⟨oa2, cp2, rfl⟩ := slice_of_rd rh2
      simp only [markS_length] at hcc rh1 rh2
      have hm1 : kk + 1 ≤ (markS v1 (kk + 1)).2 := markS_le _ _
      have HR1 := Lib.hid rh1; clear rh1
      have hm2 : (markS v1 (kk + 1)).2 ≤ (markS v2 ((markS v1 (kk + 1)).2)).2 := markS_le _ _
      have HR2 := Lib.hid rh2; clear rh2
      have q0 : w.cell? ⟨eb, eo + j * 3, none⟩ = some _ := hcc 0 _ rfl
      have q1 : w.cell? ⟨eb, eo + j * 3 + 1, none⟩ = some _ := hcc 1 _ rfl
      have q2 : w.cell? ⟨eb, eo + j * 3 + 2, none⟩ = some _ := hcc 2 _ rfl
      have HQ := Lib.hid (show True from trivial)
      have Q0 := Lib.hid q0; clear q0
      have Q1 := Lib.hid q1; clear q1
      have Q2 := Lib.hid q2; clear q2
      have p0_0 := (hB.cell (World.block_lt_of_cell? w _ Q0.out)).trans Q0.out
      have p0_1 := (hB.cell (World.block_lt_of_cell? w _ Q1.out)).trans Q1.out
      have p0_2 := (hB.cell (World.block_lt_of_cell? w _ Q2.out)).trans Q2.out
      clear hcc hcl
      have hz0 := hB.size
      have tok1 : True := trivial
      have tok2 : True := trivial
      go_wp2_with (first | (go_at_call 19; have tk := tok1; clear tok1; refine call_ret (w := w) (heldIntS_c _ _ v1 _ _ (kk + 1) (by omega) (by omega) (by omega) rfl (rd_below HR1.out hB)) hB ?_; intro w1 hB1 hbq hz1 hz2; clear hbq hz2; have p1_0 := (hB1.cell (World.block_lt_of_cell? w _ Q0.out)).trans Q0.out; have p1_1 := (hB1.cell (World.block_lt_of_cell? w _ Q1.out)).trans Q1.out; have p1_2 := (hB1.cell (World.block_lt_of_cell? w _ Q2.out)).trans Q2.out) | (go_at_call 19; have tk := tok2; clear tok2; refine call_ret (w := w) (heldIntS_c _ _ v2 _ _ ((markS v1 (kk + 1)).2) (by omega) (by omega) (by omega) rfl (rd_below HR2.out hB1)) hB1 ?_; intro w2 hB2 hbq hz2 hz2; clear hbq hz2; have p2_0 := (hB2.cell (World.block_lt_of_cell? w _ Q0.out)).trans Q0.out; have p2_1 := (hB2.cell (World.block_lt_of_cell? w _ Q1.out)).trans Q1.out; have p2_2 := (hB2.cell (World.block_lt_of_cell? w _ Q2.out)).trans Q2.out))
      first
      | exact ⟨⟨j + 1, by omega, by go_num, by (show Value.int _ _ = _; rw [HSP.out]; try (show Value.int .i64 _ = .int .i64 (((markS v2 ((markS v1 (kk + 1)).2)).2 : Nat) : Int); first | go_num | (congr 1 <;> omega))), hB2⟩, by simp [intOf]; omega⟩
      | (go_roundw; (case measure => simp [intOf]; omega); (case rel => exact ⟨j + 1, by omega, by go_num, by (show Value.int _ _ = _; rw [HSP.out]; try (show Value.int .i64 _ = .int .i64 (((markS v2 ((markS v1 (kk + 1)).2)).2 : Nat) : Int); first | go_num | (congr 1 <;> omega))), hB2⟩))
    · obtain rfl : j = l.length := by omega
      have hf := HF.out
      rw [List.take_length] at *
      rw [hf] at *
      have HF2 := Lib.hid hf; clear hf
      go_wp2
      go_ret
      exact ⟨rfl, hB⟩
set_option maxRecDepth 100000 in
set_option maxHeartbeats 1000000 in
theorem heldWatch_c (w : World) (ca : List Value) (a a' : WatchD) (K : Int) (k : Nat) (hK : K = k) (h1 : 1 ≤ k) (hk : (GoD.markT a k).2 ≤ 4611686018427387904) (ha' : a' = (GoD.markT a k).1) (ha : rd w ca a') : Calls Tryz.prog 24 #[.agg ca.toArray, .int .i64 K] w (Ret w (.int .i64 ((GoD.markT a k).2 : Nat))) := by
  subst hK ha'
  obtain ⟨b1, b2, b3, b4⟩ := a
  have hk : (markS b4 ((markS b3 (k)).2)).2 ≤ 4611686018427387904 := hk
  have ha : rd w ca (b1, b2, (markS b3 (k)).1, (markS b4 ((markS b3 (k)).2)).1) := ha
  generalize hfin : (GoD.markT ((b1, b2, b3, b4) : WatchD) k).2 = fin
  have hfin : (markS b4 ((markS b3 (k)).2)).2 = fin := hfin
  obtain ⟨_, _, rfl, ar1, _, _, rfl, ar2, _, _, rfl, ar3, ar4⟩ := ha
  obtain ⟨rfl, ar1⟩ := ar1
  clear ar1
  obtain ⟨rfl, ar2⟩ := ar2
  clear ar2
  obtain ⟨ax3_0, rfl⟩ := len1 (show _ = 1 from GoD.rd_len ar3)
  have HR3 := Lib.hid ar3; clear ar3
  have hm3 : k ≤ (markS b3 (k)).2 := markS_le _ _
  obtain ⟨ax4_0, rfl⟩ := len1 (show _ = 1 from GoD.rd_len ar4)
  have HR4 := Lib.hid ar4; clear ar4
  have hm4 : (markS b3 (k)).2 ≤ (markS b4 ((markS b3 (k)).2)).2 := markS_le _ _
  dsimp only [List.cons_append, List.nil_append] at *
  have tok1 : True := trivial
  have tok2 : True := trivial
  have HF := Lib.hid hfin; clear hfin
  go_enter Tryz.func24, Tryz.ntmps24
  go_wp2_with (first | (go_at_call 19; have tk := tok1; clear tok1; refine call_ret (w := w) (heldIntS_c _ ax3_0 b3 _ _ (k) (by omega) (by omega) (show (markS b3 (k)).2 ≤ 4611686018427387904 by omega) rfl (rd_below HR3.out (by go_grown))) (by go_grown) ?_; intro w1 hB hb hz hz2; (repeat (first | rewrite [World.size_alloc] at hz2 | rewrite [World.size_setCell] at hz2 | rewrite [World.size_drew] at hz2)); have c0 := fun o => bcell hb (w.heap.size) o (by go_size); clear hb) | (go_at_call 56; have tk := tok2; clear tok2; refine call_ret (w := w) (heldEventS_c _ ax4_0 b4 _ _ ((markS b3 (k)).2) (by omega) (by omega) (show (markS b4 ((markS b3 (k)).2)).2 ≤ 4611686018427387904 by omega) rfl (rd_below HR4.out (by go_grown))) (by go_grown) ?_; intro w2 hB hb hz hz2; (repeat (first | rewrite [World.size_alloc] at hz2 | rewrite [World.size_setCell] at hz2 | rewrite [World.size_drew] at hz2)); have c0 := fun o => bcell hb (w.heap.size) o (by go_size); clear hb))
  go_ret
  refine ⟨?_, by go_grown⟩
  rw [← HF.out]
  rfl
end Go.Proofs.YtnhmnfmhnepjmaaGreat
