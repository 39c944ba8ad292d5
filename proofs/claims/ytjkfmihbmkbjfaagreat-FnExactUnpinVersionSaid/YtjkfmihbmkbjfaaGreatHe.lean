/- The laws' functions that look whether the marks still stand. -/
import Derived.Test.YtjkfmihbmkbjfaaGreatMa
set_option linter.unusedVariables false
set_option linter.unusedSimpArgs false
namespace Go.Proofs.YtjkfmihbmkbjfaaGreat
open Go.RowKit
open GoD (rd own)
set_option maxRecDepth 100000 in
set_option maxHeartbeats 1000000 in
theorem heldNodeS_c (w : World) (v : Value) (l l' : List NodeD) (K : Int) (k : Nat) (hK : K = k) (h1 : 1 ≤ k) (hk : (markS l k).2 ≤ 4611686018427387904) (hl' : l' = (markS l k).1) (ha : rd w [v] l') : Calls Tryz.prog 109 #[v, .int .i64 K] w (Ret w (.int .i64 ((markS l k).2 : Nat))) := by
  subst hK hl'
  obtain ⟨oa, cap, e1, hl, hm, hel⟩ := ha
  obtain rfl : v = _ := by simpa using e1
  clear e1
  have HE := Lib.hid hel; clear hel
  rw [markS_length] at hl ⊢
  unfold maxLen at hm
  have hlm : l.length ≤ 9223372036854775807 := by omega
  generalize hfin : (markS l k).2 = fin at *
  have HF := Lib.hid hfin; clear hfin
  go_enter Tryz.func109, Tryz.ntmps109
  go_wp2
  go_loopw [1, 5] (fun q i wr => ∃ j : Nat, j ≤ l.length ∧ i = .int .i64 j ∧ q = .int .i64 ((markS (l.take j) k).2 : Nat) ∧ Below w.heap.size w wr) (fun _ i _ => l.length - (intOf i).toNat)
  case atStart => exact ⟨0, Nat.zero_le _, rfl, rfl, Below.refl _ _⟩
  case round =>
    obtain ⟨j, hj, rfl, rfl, hB⟩ := hrel
    by_cases hjl : j < l.length
    · have hx := List.getElem?_eq_getElem hjl
      have hsp := mark_split l k j _ hx
      have hle := Nat.le_trans (mark_take_le l k j _ hx) (Nat.le_trans (Nat.le_of_eq HF.out) hk)
      have hkk : k ≤ (markS (l.take j) k).2 := markS_le _ _
      obtain ⟨eb, eo, ee, rfl, hcl, hcc, hxr⟩ := HE.out j _ (markS_get l k j _ hx)
      clear hx
      generalize (markS (l.take j) k).2 = kk at *
      generalize (markS (l.take j) k).1 = xs at *
      generalize l[j] = x at *
      obtain ⟨v0, v1, v2, v3, ⟨v4, v5, v6⟩⟩ := x
      have HSP : Hid (_ = (xs ++ [(((((kk : Nat) : Int), ((kk + 1 : Nat) : Int), ((kk + 1 + 1 : Nat) : Int), markB (kk + 1 + 1 + 1), (((kk + 1 + 1 + 1 + 1 : Nat) : Int), ((kk + 1 + 1 + 1 + 1 + 1 : Nat) : Int), markB (kk + 1 + 1 + 1 + 1 + 1 + 1))) : NodeD))], kk + 1 + 1 + 1 + 1 + 1 + 1 + 1)) := hsp
      clear hsp
      have hle : kk + 1 + 1 + 1 + 1 + 1 + 1 + 1 ≤ 4611686018427387904 := hle
      have hxr : rd w ee ((((kk : Nat) : Int), ((kk + 1 : Nat) : Int), ((kk + 1 + 1 : Nat) : Int), markB (kk + 1 + 1 + 1), (((kk + 1 + 1 + 1 + 1 : Nat) : Int), ((kk + 1 + 1 + 1 + 1 + 1 : Nat) : Int), markB (kk + 1 + 1 + 1 + 1 + 1 + 1))) : NodeD) := hxr
      obtain ⟨_, _, rfl, ⟨rfl, _⟩, ⟨_, _, rfl, ⟨rfl, _⟩, ⟨_, _, rfl, ⟨rfl, _⟩, ⟨_, _, rfl, ⟨rfl, _⟩, ⟨_, _, rfl, ⟨rfl, _⟩, ⟨_, _, rfl, ⟨rfl, _⟩, ⟨rfl, _⟩⟩⟩⟩⟩⟩⟩ := hxr
      have q0 : w.cell? ⟨eb, eo + j * 7, none⟩ = some _ := hcc 0 _ rfl
      have q1 : w.cell? ⟨eb, eo + j * 7 + 1, none⟩ = some _ := hcc 1 _ rfl
      have q2 : w.cell? ⟨eb, eo + j * 7 + 2, none⟩ = some _ := hcc 2 _ rfl
      have q3 : w.cell? ⟨eb, eo + j * 7 + 3, none⟩ = some _ := hcc 3 _ rfl
      have q4 : w.cell? ⟨eb, eo + j * 7 + 4, none⟩ = some _ := hcc 4 _ rfl
      have q5 : w.cell? ⟨eb, eo + j * 7 + 5, none⟩ = some _ := hcc 5 _ rfl
      have q6 : w.cell? ⟨eb, eo + j * 7 + 6, none⟩ = some _ := hcc 6 _ rfl
      have HQ := Lib.hid (show True from trivial)
      have Q0 := Lib.hid q0; clear q0
      have Q1 := Lib.hid q1; clear q1
      have Q2 := Lib.hid q2; clear q2
      have Q3 := Lib.hid q3; clear q3
      have Q4 := Lib.hid q4; clear q4
      have Q5 := Lib.hid q5; clear q5
      have Q6 := Lib.hid q6; clear q6
      have p0_0 := (hB.cell (World.block_lt_of_cell? w _ Q0.out)).trans Q0.out
      have p0_1 := (hB.cell (World.block_lt_of_cell? w _ Q1.out)).trans Q1.out
      have p0_2 := (hB.cell (World.block_lt_of_cell? w _ Q2.out)).trans Q2.out
      have p0_3 := (hB.cell (World.block_lt_of_cell? w _ Q3.out)).trans Q3.out
      have p0_4 := (hB.cell (World.block_lt_of_cell? w _ Q4.out)).trans Q4.out
      have p0_5 := (hB.cell (World.block_lt_of_cell? w _ Q5.out)).trans Q5.out
      have p0_6 := (hB.cell (World.block_lt_of_cell? w _ Q6.out)).trans Q6.out
      have r0_0 := fun d os => cell_regrown p0_0 d os
      have r0_1 := fun d os => cell_regrown p0_1 d os
      have r0_2 := fun d os => cell_regrown p0_2 d os
      have r0_3 := fun d os => cell_regrown p0_3 d os
      have r0_4 := fun d os => cell_regrown p0_4 d os
      have r0_5 := fun d os => cell_regrown p0_5 d os
      have r0_6 := fun d os => cell_regrown p0_6 d os
      clear hcc hcl
      have hz0 := hB.size
      have tok1 : True := trivial
      have tok2 : True := trivial
      go_wp2_with (first | (with_reducible refine wp_region_quiet_below (by kernel_rfl) (by kernel_rfl) ?_; have tk := tok1; clear tok1; (repeat (quiet_step (exact Calls.regrown_of (markText_c _ _ (kk + 1 + 1 + 1) (by omega) (by omega) (by omega))))); refine wpQuiet_nil ?_; intro _ hw'; obtain ⟨⟨dq, osq⟩, hw''⟩ := hw'; subst hw''; have hbq := below_regrown wr dq osq; generalize Go.Sort.grow (redrawn wr dq) osq = w1 at hbq ⊢; have hB1 := below_via hB hbq; have hz1 := hB1.size; clear hbq; have p1_0 := (hB1.cell (World.block_lt_of_cell? w _ Q0.out)).trans Q0.out; have p1_1 := (hB1.cell (World.block_lt_of_cell? w _ Q1.out)).trans Q1.out; have p1_2 := (hB1.cell (World.block_lt_of_cell? w _ Q2.out)).trans Q2.out; have p1_3 := (hB1.cell (World.block_lt_of_cell? w _ Q3.out)).trans Q3.out; have p1_4 := (hB1.cell (World.block_lt_of_cell? w _ Q4.out)).trans Q4.out; have p1_5 := (hB1.cell (World.block_lt_of_cell? w _ Q5.out)).trans Q5.out; have p1_6 := (hB1.cell (World.block_lt_of_cell? w _ Q6.out)).trans Q6.out; have r1_0 := fun d os => cell_regrown p1_0 d os; have r1_1 := fun d os => cell_regrown p1_1 d os; have r1_2 := fun d os => cell_regrown p1_2 d os; have r1_3 := fun d os => cell_regrown p1_3 d os; have r1_4 := fun d os => cell_regrown p1_4 d os; have r1_5 := fun d os => cell_regrown p1_5 d os; have r1_6 := fun d os => cell_regrown p1_6 d os) | (with_reducible refine wp_region_quiet_below (by kernel_rfl) (by kernel_rfl) ?_; have tk := tok2; clear tok2; (repeat (quiet_step (exact Calls.regrown_of (markText_c _ _ (kk + 1 + 1 + 1 + 1 + 1 + 1) (by omega) (by omega) (by omega))))); refine wpQuiet_nil ?_; intro _ hw'; obtain ⟨⟨dq, osq⟩, hw''⟩ := hw'; subst hw''; have hbq := below_regrown w1 dq osq; generalize Go.Sort.grow (redrawn w1 dq) osq = w2 at hbq ⊢; have hB2 := below_via hB1 hbq; have hz2 := hB2.size; clear hbq; have p2_0 := (hB2.cell (World.block_lt_of_cell? w _ Q0.out)).trans Q0.out; have p2_1 := (hB2.cell (World.block_lt_of_cell? w _ Q1.out)).trans Q1.out; have p2_2 := (hB2.cell (World.block_lt_of_cell? w _ Q2.out)).trans Q2.out; have p2_3 := (hB2.cell (World.block_lt_of_cell? w _ Q3.out)).trans Q3.out; have p2_4 := (hB2.cell (World.block_lt_of_cell? w _ Q4.out)).trans Q4.out; have p2_5 := (hB2.cell (World.block_lt_of_cell? w _ Q5.out)).trans Q5.out; have p2_6 := (hB2.cell (World.block_lt_of_cell? w _ Q6.out)).trans Q6.out; have r2_0 := fun d os => cell_regrown p2_0 d os; have r2_1 := fun d os => cell_regrown p2_1 d os; have r2_2 := fun d os => cell_regrown p2_2 d os; have r2_3 := fun d os => cell_regrown p2_3 d os; have r2_4 := fun d os => cell_regrown p2_4 d os; have r2_5 := fun d os => cell_regrown p2_5 d os; have r2_6 := fun d os => cell_regrown p2_6 d os))
      first
      | exact ⟨⟨j + 1, by omega, by go_num, by (show Value.int _ _ = _; rw [HSP.out]; try (show Value.int .i64 _ = .int .i64 ((kk + 1 + 1 + 1 + 1 + 1 + 1 + 1 : Nat) : Int); first | go_num | (congr 1 <;> omega))), hB2⟩, by simp [intOf]; omega⟩
      | (go_roundw; (case measure => simp [intOf]; omega); (case rel => exact ⟨j + 1, by omega, by go_num, by (show Value.int _ _ = _; rw [HSP.out]; try (show Value.int .i64 _ = .int .i64 ((kk + 1 + 1 + 1 + 1 + 1 + 1 + 1 : Nat) : Int); first | go_num | (congr 1 <;> omega))), hB2⟩))
    · obtain rfl : j = l.length := by omega
      have hf := HF.out
      rw [List.take_length] at *
      rw [hf] at *
      have HF2 := Lib.hid hf; clear hf
      go_wp2
      go_ret
      exact ⟨rfl, hB⟩
set_option maxRecDepth 100000 in
set_option maxHeartbeats 1000000 in
theorem heldDirS_c (w : World) (v : Value) (l l' : List DirD) (K : Int) (k : Nat) (hK : K = k) (h1 : 1 ≤ k) (hk : (markS l k).2 ≤ 4611686018427387904) (hl' : l' = (markS l k).1) (ha : rd w [v] l') : Calls Tryz.prog 61 #[v, .int .i64 K] w (Ret w (.int .i64 ((markS l k).2 : Nat))) := by
  subst hK hl'
  obtain ⟨oa, cap, e1, hl, hm, hel⟩ := ha
  obtain rfl : v = _ := by simpa using e1
  clear e1
  have HE := Lib.hid hel; clear hel
  rw [markS_length] at hl ⊢
  unfold maxLen at hm
  have hlm : l.length ≤ 9223372036854775807 := by omega
  generalize hfin : (markS l k).2 = fin at *
  have HF := Lib.hid hfin; clear hfin
  go_enter Tryz.func61, Tryz.ntmps61
  go_wp2
  go_loopw [1, 5] (fun q i wr => ∃ j : Nat, j ≤ l.length ∧ i = .int .i64 j ∧ q = .int .i64 ((markS (l.take j) k).2 : Nat) ∧ Below w.heap.size w wr) (fun _ i _ => l.length - (intOf i).toNat)
  case atStart => exact ⟨0, Nat.zero_le _, rfl, rfl, Below.refl _ _⟩
  case round =>
    obtain ⟨j, hj, rfl, rfl, hB⟩ := hrel
    by_cases hjl : j < l.length
    · have hx := List.getElem?_eq_getElem hjl
      have hsp := mark_split l k j _ hx
      have hle := Nat.le_trans (mark_take_le l k j _ hx) (Nat.le_trans (Nat.le_of_eq HF.out) hk)
      have hkk : k ≤ (markS (l.take j) k).2 := markS_le _ _
      obtain ⟨eb, eo, ee, rfl, hcl, hcc, hxr⟩ := HE.out j _ (markS_get l k j _ hx)
      clear hx
      generalize (markS (l.take j) k).2 = kk at *
      generalize (markS (l.take j) k).1 = xs at *
      generalize l[j] = x at *
      obtain ⟨v0, v1⟩ := x
      have HSP : Hid (_ = (xs ++ [(((markB (kk), (markS v1 (kk + 1)).1) : DirD))], (markS v1 (kk + 1)).2)) := hsp
      clear hsp
      have hle : (markS v1 (kk + 1)).2 ≤ 4611686018427387904 := hle
      have hxr : rd w ee ((markB (kk), (markS v1 (kk + 1)).1) : DirD) := hxr
      obtain ⟨_, _, rfl, ⟨rfl, _⟩, rh1⟩ := hxr
      obtain ⟨rv1, rfl⟩ := len1 (show _ = 1 from GoD.rd_len rh1)
      obtain ⟨oa1, cp1, rfl⟩ := slice_of_rd rh1
      simp only [markS_length] at hcc rh1
      have hm1 : kk + 1 ≤ (markS v1 (kk + 1)).2 := markS_le _ _
      have HR1 := Lib.hid rh1; clear rh1
      have q0 : w.cell? ⟨eb, eo + j * 2, none⟩ = some _ := hcc 0 _ rfl
      have q1 : w.cell? ⟨eb, eo + j * 2 + 1, none⟩ = some _ := hcc 1 _ rfl
      have HQ := Lib.hid (show True from trivial)
      have Q0 := Lib.hid q0; clear q0
      have Q1 := Lib.hid q1; clear q1
      have p0_0 := (hB.cell (World.block_lt_of_cell? w _ Q0.out)).trans Q0.out
      have p0_1 := (hB.cell (World.block_lt_of_cell? w _ Q1.out)).trans Q1.out
      have r0_0 := fun d os => cell_regrown p0_0 d os
      have r0_1 := fun d os => cell_regrown p0_1 d os
      clear hcc hcl
      have hz0 := hB.size
      have tok1 : True := trivial
      have tok2 : True := trivial
      go_wp2_with (first | (with_reducible refine wp_region_quiet_below (by kernel_rfl) (by kernel_rfl) ?_; have tk := tok1; clear tok1; (repeat (quiet_step (exact Calls.regrown_of (markText_c _ _ (kk) (by omega) (by omega) (by omega))))); refine wpQuiet_nil ?_; intro _ hw'; obtain ⟨⟨dq, osq⟩, hw''⟩ := hw'; subst hw''; have hbq := below_regrown wr dq osq; generalize Go.Sort.grow (redrawn wr dq) osq = w1 at hbq ⊢; have hB1 := below_via hB hbq; have hz1 := hB1.size; clear hbq; have p1_0 := (hB1.cell (World.block_lt_of_cell? w _ Q0.out)).trans Q0.out; have p1_1 := (hB1.cell (World.block_lt_of_cell? w _ Q1.out)).trans Q1.out; have r1_0 := fun d os => cell_regrown p1_0 d os; have r1_1 := fun d os => cell_regrown p1_1 d os) | (go_at_call 109; have tk := tok2; clear tok2; refine call_ret (w := w) (heldNodeS_c _ _ v1 _ _ (kk + 1) (by omega) (by omega) (by omega) rfl (rd_below HR1.out hB1)) hB1 ?_; intro w2 hB2 hbq hz2 hz2; clear hbq hz2; have p2_0 := (hB2.cell (World.block_lt_of_cell? w _ Q0.out)).trans Q0.out; have p2_1 := (hB2.cell (World.block_lt_of_cell? w _ Q1.out)).trans Q1.out; have r2_0 := fun d os => cell_regrown p2_0 d os; have r2_1 := fun d os => cell_regrown p2_1 d os))
      first
      | exact ⟨⟨j + 1, by omega, by go_num, by (show Value.int _ _ = _; rw [HSP.out]; try (show Value.int .i64 _ = .int .i64 (((markS v1 (kk + 1)).2 : Nat) : Int); first | go_num | (congr 1 <;> omega))), hB2⟩, by simp [intOf]; omega⟩
      | (go_roundw; (case measure => simp [intOf]; omega); (case rel => exact ⟨j + 1, by omega, by go_num, by (show Value.int _ _ = _; rw [HSP.out]; try (show Value.int .i64 _ = .int .i64 (((markS v1 (kk + 1)).2 : Nat) : Int); first | go_num | (congr 1 <;> omega))), hB2⟩))
    · obtain rfl : j = l.length := by omega
      have hf := HF.out
      rw [List.take_length] at *
      rw [hf] at *
      have HF2 := Lib.hid hf; clear hf
      go_wp2
      go_ret
      exact ⟨rfl, hB⟩
set_option maxRecDepth 100000 in
set_option maxHeartbeats 1000000 in
theorem heldFieldS_c (w : World) (v : Value) (l l' : List FieldD) (K : Int) (k : Nat) (hK : K = k) (h1 : 1 ≤ k) (hk : (markS l k).2 ≤ 4611686018427387904) (hl' : l' = (markS l k).1) (ha : rd w [v] l') : Calls Tryz.prog 88 #[v, .int .i64 K] w (Ret w (.int .i64 ((markS l k).2 : Nat))) := by
  subst hK hl'
  obtain ⟨oa, cap, e1, hl, hm, hel⟩ := ha
  obtain rfl : v = _ := by simpa using e1
  clear e1
  have HE := Lib.hid hel; clear hel
  rw [markS_length] at hl ⊢
  unfold maxLen at hm
  have hlm : l.length ≤ 9223372036854775807 := by omega
  generalize hfin : (markS l k).2 = fin at *
  have HF := Lib.hid hfin; clear hfin
  go_enter Tryz.func88, Tryz.ntmps88
  go_wp2
  go_loopw [1, 5] (fun q i wr => ∃ j : Nat, j ≤ l.length ∧ i = .int .i64 j ∧ q = .int .i64 ((markS (l.take j) k).2 : Nat) ∧ Below w.heap.size w wr) (fun _ i _ => l.length - (intOf i).toNat)
  case atStart => exact ⟨0, Nat.zero_le _, rfl, rfl, Below.refl _ _⟩
  case round =>
    obtain ⟨j, hj, rfl, rfl, hB⟩ := hrel
    by_cases hjl : j < l.length
    · have hx := List.getElem?_eq_getElem hjl
      have hsp := mark_split l k j _ hx
      have hle := Nat.le_trans (mark_take_le l k j _ hx) (Nat.le_trans (Nat.le_of_eq HF.out) hk)
      have hkk : k ≤ (markS (l.take j) k).2 := markS_le _ _
      obtain ⟨eb, eo, ee, rfl, hcl, hcc, hxr⟩ := HE.out j _ (markS_get l k j _ hx)
      clear hx
      generalize (markS (l.take j) k).2 = kk at *
      generalize (markS (l.take j) k).1 = xs at *
      generalize l[j] = x at *
      obtain ⟨v0, v1⟩ := x
      have HSP : Hid (_ = (xs ++ [(((markB (kk), ((kk + 1 : Nat) : Int)) : FieldD))], kk + 1 + 1)) := hsp
      clear hsp
      have hle : kk + 1 + 1 ≤ 4611686018427387904 := hle
      have hxr : rd w ee ((markB (kk), ((kk + 1 : Nat) : Int)) : FieldD) := hxr
      obtain ⟨_, _, rfl, ⟨rfl, _⟩, ⟨rfl, _⟩⟩ := hxr
      have q0 : w.cell? ⟨eb, eo + j * 2, none⟩ = some _ := hcc 0 _ rfl
      have q1 : w.cell? ⟨eb, eo + j * 2 + 1, none⟩ = some _ := hcc 1 _ rfl
      have HQ := Lib.hid (show True from trivial)
      have Q0 := Lib.hid q0; clear q0
      have Q1 := Lib.hid q1; clear q1
      have p0_0 := (hB.cell (World.block_lt_of_cell? w _ Q0.out)).trans Q0.out
      have p0_1 := (hB.cell (World.block_lt_of_cell? w _ Q1.out)).trans Q1.out
      have r0_0 := fun d os => cell_regrown p0_0 d os
      have r0_1 := fun d os => cell_regrown p0_1 d os
      clear hcc hcl
      have hz0 := hB.size
      have tok1 : True := trivial
      go_wp2_with (first | (with_reducible refine wp_region_quiet_below (by kernel_rfl) (by kernel_rfl) ?_; have tk := tok1; clear tok1; (repeat (quiet_step (exact Calls.regrown_of (markText_c _ _ (kk) (by omega) (by omega) (by omega))))); refine wpQuiet_nil ?_; intro _ hw'; obtain ⟨⟨dq, osq⟩, hw''⟩ := hw'; subst hw''; have hbq := below_regrown wr dq osq; generalize Go.Sort.grow (redrawn wr dq) osq = w1 at hbq ⊢; have hB1 := below_via hB hbq; have hz1 := hB1.size; clear hbq; have p1_0 := (hB1.cell (World.block_lt_of_cell? w _ Q0.out)).trans Q0.out; have p1_1 := (hB1.cell (World.block_lt_of_cell? w _ Q1.out)).trans Q1.out; have r1_0 := fun d os => cell_regrown p1_0 d os; have r1_1 := fun d os => cell_regrown p1_1 d os))
      first
      | exact ⟨⟨j + 1, by omega, by go_num, by (show Value.int _ _ = _; rw [HSP.out]; try (show Value.int .i64 _ = .int .i64 ((kk + 1 + 1 : Nat) : Int); first | go_num | (congr 1 <;> omega))), hB1⟩, by simp [intOf]; omega⟩
      | (go_roundw; (case measure => simp [intOf]; omega); (case rel => exact ⟨j + 1, by omega, by go_num, by (show Value.int _ _ = _; rw [HSP.out]; try (show Value.int .i64 _ = .int .i64 ((kk + 1 + 1 : Nat) : Int); first | go_num | (congr 1 <;> omega))), hB1⟩))
    · obtain rfl : j = l.length := by omega
      have hf := HF.out
      rw [List.take_length] at *
      rw [hf] at *
      have HF2 := Lib.hid hf; clear hf
      go_wp2
      go_ret
      exact ⟨rfl, hB⟩
set_option maxRecDepth 100000 in
set_option maxHeartbeats 1000000 in
theorem heldAttrS_c (w : World) (v : Value) (l l' : List AttrD) (K : Int) (k : Nat) (hK : K = k) (h1 : 1 ≤ k) (hk : (markS l k).2 ≤ 4611686018427387904) (hl' : l' = (markS l k).1) (ha : rd w [v] l') : Calls Tryz.prog 132 #[v, .int .i64 K] w (Ret w (.int .i64 ((markS l k).2 : Nat))) := by
  subst hK hl'
  obtain ⟨oa, cap, e1, hl, hm, hel⟩ := ha
  obtain rfl : v = _ := by simpa using e1
  clear e1
  have HE := Lib.hid hel; clear hel
  rw [markS_length] at hl ⊢
  unfold maxLen at hm
  have hlm : l.length ≤ 9223372036854775807 := by omega
  generalize hfin : (markS l k).2 = fin at *
  have HF := Lib.hid hfin; clear hfin
  go_enter Tryz.func132, Tryz.ntmps132
  go_wp2
  go_loopw [1, 5] (fun q i wr => ∃ j : Nat, j ≤ l.length ∧ i = .int .i64 j ∧ q = .int .i64 ((markS (l.take j) k).2 : Nat) ∧ Below w.heap.size w wr) (fun _ i _ => l.length - (intOf i).toNat)
  case atStart => exact ⟨0, Nat.zero_le _, rfl, rfl, Below.refl _ _⟩
  case round =>
    obtain ⟨j, hj, rfl, rfl, hB⟩ := hrel
    by_cases hjl : j < l.length
    · have hx := List.getElem?_eq_getElem hjl
      have hsp := mark_split l k j _ hx
      have hle := Nat.le_trans (mark_take_le l k j _ hx) (Nat.le_trans (Nat.le_of_eq HF.out) hk)
      have hkk : k ≤ (markS (l.take j) k).2 := markS_le _ _
      obtain ⟨eb, eo, ee, rfl, hcl, hcc, hxr⟩ := HE.out j _ (markS_get l k j _ hx)
      clear hx
      generalize (markS (l.take j) k).2 = kk at *
      generalize (markS (l.take j) k).1 = xs at *
      generalize l[j] = x at *
      obtain ⟨v0, ⟨v1, v2, v3⟩⟩ := x
      have HSP : Hid (_ = (xs ++ [(((markB (kk), (((kk + 1 : Nat) : Int), ((kk + 1 + 1 : Nat) : Int), markB (kk + 1 + 1 + 1))) : AttrD))], kk + 1 + 1 + 1 + 1)) := hsp
      clear hsp
      have hle : kk + 1 + 1 + 1 + 1 ≤ 4611686018427387904 := hle
      have hxr : rd w ee ((markB (kk), (((kk + 1 : Nat) : Int), ((kk + 1 + 1 : Nat) : Int), markB (kk + 1 + 1 + 1))) : AttrD) := hxr
      obtain ⟨_, _, rfl, ⟨rfl, _⟩, ⟨_, _, rfl, ⟨rfl, _⟩, ⟨_, _, rfl, ⟨rfl, _⟩, ⟨rfl, _⟩⟩⟩⟩ := hxr
      have q0 : w.cell? ⟨eb, eo + j * 4, none⟩ = some _ := hcc 0 _ rfl
      have q1 : w.cell? ⟨eb, eo + j * 4 + 1, none⟩ = some _ := hcc 1 _ rfl
      have q2 : w.cell? ⟨eb, eo + j * 4 + 2, none⟩ = some _ := hcc 2 _ rfl
      have q3 : w.cell? ⟨eb, eo + j * 4 + 3, none⟩ = some _ := hcc 3 _ rfl
      have HQ := Lib.hid (show True from trivial)
      have Q0 := Lib.hid q0; clear q0
      have Q1 := Lib.hid q1; clear q1
      have Q2 := Lib.hid q2; clear q2
      have Q3 := Lib.hid q3; clear q3
      have p0_0 := (hB.cell (World.block_lt_of_cell? w _ Q0.out)).trans Q0.out
      have p0_1 := (hB.cell (World.block_lt_of_cell? w _ Q1.out)).trans Q1.out
      have p0_2 := (hB.cell (World.block_lt_of_cell? w _ Q2.out)).trans Q2.out
      have p0_3 := (hB.cell (World.block_lt_of_cell? w _ Q3.out)).trans Q3.out
      have r0_0 := fun d os => cell_regrown p0_0 d os
      have r0_1 := fun d os => cell_regrown p0_1 d os
      have r0_2 := fun d os => cell_regrown p0_2 d os
      have r0_3 := fun d os => cell_regrown p0_3 d os
      clear hcc hcl
      have hz0 := hB.size
      have tok1 : True := trivial
      have tok2 : True := trivial
      go_wp2_with (first | (with_reducible refine wp_region_quiet_below (by kernel_rfl) (by kernel_rfl) ?_; have tk := tok1; clear tok1; (repeat (quiet_step (exact Calls.regrown_of (markText_c _ _ (kk) (by omega) (by omega) (by omega))))); refine wpQuiet_nil ?_; intro _ hw'; obtain ⟨⟨dq, osq⟩, hw''⟩ := hw'; subst hw''; have hbq := below_regrown wr dq osq; generalize Go.Sort.grow (redrawn wr dq) osq = w1 at hbq ⊢; have hB1 := below_via hB hbq; have hz1 := hB1.size; clear hbq; have p1_0 := (hB1.cell (World.block_lt_of_cell? w _ Q0.out)).trans Q0.out; have p1_1 := (hB1.cell (World.block_lt_of_cell? w _ Q1.out)).trans Q1.out; have p1_2 := (hB1.cell (World.block_lt_of_cell? w _ Q2.out)).trans Q2.out; have p1_3 := (hB1.cell (World.block_lt_of_cell? w _ Q3.out)).trans Q3.out; have r1_0 := fun d os => cell_regrown p1_0 d os; have r1_1 := fun d os => cell_regrown p1_1 d os; have r1_2 := fun d os => cell_regrown p1_2 d os; have r1_3 := fun d os => cell_regrown p1_3 d os) | (with_reducible refine wp_region_quiet_below (by kernel_rfl) (by kernel_rfl) ?_; have tk := tok2; clear tok2; (repeat (quiet_step (exact Calls.regrown_of (markText_c _ _ (kk + 1 + 1 + 1) (by omega) (by omega) (by omega))))); refine wpQuiet_nil ?_; intro _ hw'; obtain ⟨⟨dq, osq⟩, hw''⟩ := hw'; subst hw''; have hbq := below_regrown w1 dq osq; generalize Go.Sort.grow (redrawn w1 dq) osq = w2 at hbq ⊢; have hB2 := below_via hB1 hbq; have hz2 := hB2.size; clear hbq; have p2_0 := (hB2.cell (World.block_lt_of_cell? w _ Q0.out)).trans Q0.out; have p2_1 := (hB2.cell (World.block_lt_of_cell? w _ Q1.out)).trans Q1.out; have p2_2 := (hB2.cell (World.block_lt_of_cell? w _ Q2.out)).trans Q2.out; have p2_3 := (hB2.cell (World.block_lt_of_cell? w _ Q3.out)).trans Q3.out; have r2_0 := fun d os => cell_regrown p2_0 d os; have r2_1 := fun d os => cell_regrown p2_1 d os; have r2_2 := fun d os => cell_regrown p2_2 d os; have r2_3 := fun d os => cell_regrown p2_3 d os))
      first
      | exact ⟨⟨j + 1, by omega, by go_num, by (show Value.int _ _ = _; rw [HSP.out]; try (show Value.int .i64 _ = .int .i64 ((kk + 1 + 1 + 1 + 1 : Nat) : Int); first | go_num | (congr 1 <;> omega))), hB2⟩, by simp [intOf]; omega⟩
      | (go_roundw; (case measure => simp [intOf]; omega); (case rel => exact ⟨j + 1, by omega, by go_num, by (show Value.int _ _ = _; rw [HSP.out]; try (show Value.int .i64 _ = .int .i64 ((kk + 1 + 1 + 1 + 1 : Nat) : Int); first | go_num | (congr 1 <;> omega))), hB2⟩))
    · obtain rfl : j = l.length := by omega
      have hf := HF.out
      rw [List.take_length] at *
      rw [hf] at *
      have HF2 := Lib.hid hf; clear hf
      go_wp2
      go_ret
      exact ⟨rfl, hB⟩
set_option maxRecDepth 100000 in
set_option maxHeartbeats 1000000 in
theorem heldFileS_c (w : World) (v : Value) (l l' : List FileD) (K : Int) (k : Nat) (hK : K = k) (h1 : 1 ≤ k) (hk : (markS l k).2 ≤ 4611686018427387904) (hl' : l' = (markS l k).1) (ha : rd w [v] l') : Calls Tryz.prog 89 #[v, .int .i64 K] w (Ret w (.int .i64 ((markS l k).2 : Nat))) := by
  subst hK hl'
  obtain ⟨oa, cap, e1, hl, hm, hel⟩ := ha
  obtain rfl : v = _ := by simpa using e1
  clear e1
  have HE := Lib.hid hel; clear hel
  rw [markS_length] at hl ⊢
  unfold maxLen at hm
  have hlm : l.length ≤ 9223372036854775807 := by omega
  generalize hfin : (markS l k).2 = fin at *
  have HF := Lib.hid hfin; clear hfin
  go_enter Tryz.func89, Tryz.ntmps89
  go_wp2
  go_loopw [1, 5] (fun q i wr => ∃ j : Nat, j ≤ l.length ∧ i = .int .i64 j ∧ q = .int .i64 ((markS (l.take j) k).2 : Nat) ∧ Below w.heap.size w wr) (fun _ i _ => l.length - (intOf i).toNat)
  case atStart => exact ⟨0, Nat.zero_le _, rfl, rfl, Below.refl _ _⟩
  case round =>
    obtain ⟨j, hj, rfl, rfl, hB⟩ := hrel
    by_cases hjl : j < l.length
    · have hx := List.getElem?_eq_getElem hjl
      have hsp := mark_split l k j _ hx
      have hle := Nat.le_trans (mark_take_le l k j _ hx) (Nat.le_trans (Nat.le_of_eq HF.out) hk)
      have hkk : k ≤ (markS (l.take j) k).2 := markS_le _ _
      obtain ⟨eb, eo, ee, rfl, hcl, hcc, hxr⟩ := HE.out j _ (markS_get l k j _ hx)
      clear hx
      generalize (markS (l.take j) k).2 = kk at *
      generalize (markS (l.take j) k).1 = xs at *
      generalize l[j] = x at *
      obtain ⟨v0, v1, v2, v3, v4⟩ := x
      have HSP : Hid (_ = (xs ++ [(((((kk : Nat) : Int), ((kk + 1 : Nat) : Int), ((kk + 1 + 1) % 3 == 0), ((kk + 1 + 1 + 1 : Nat) : Int), (markS v4 (kk + 1 + 1 + 1 + 1)).1) : FileD))], (markS v4 (kk + 1 + 1 + 1 + 1)).2)) := hsp
      clear hsp
      have hle : (markS v4 (kk + 1 + 1 + 1 + 1)).2 ≤ 4611686018427387904 := hle
      have hxr : rd w ee ((((kk : Nat) : Int), ((kk + 1 : Nat) : Int), ((kk + 1 + 1) % 3 == 0), ((kk + 1 + 1 + 1 : Nat) : Int), (markS v4 (kk + 1 + 1 + 1 + 1)).1) : FileD) := hxr
      obtain ⟨_, _, rfl, ⟨rfl, _⟩, ⟨_, _, rfl, ⟨rfl, _⟩, ⟨_, _, rfl, rfl, ⟨_, _, rfl, ⟨rfl, _⟩, rh4⟩⟩⟩⟩ := hxr
      obtain ⟨rv4, rfl⟩ := len1 (show _ = 1 from GoD.rd_len rh4)
      obtain ⟨oa4, cp4, rfl⟩ := slice_of_rd rh4
      simp only [markS_length] at hcc rh4
      have hb2 := mod3_eq (kk + 1 + 1) _ (show ((kk : Int) + 1 + 1 : Int) = ((kk + 1 + 1 : Nat) : Int) by omega)
      have hm4 : kk + 1 + 1 + 1 + 1 ≤ (markS v4 (kk + 1 + 1 + 1 + 1)).2 := markS_le _ _
      have HR4 := Lib.hid rh4; clear rh4
      have q0 : w.cell? ⟨eb, eo + j * 5, none⟩ = some _ := hcc 0 _ rfl
      have q1 : w.cell? ⟨eb, eo + j * 5 + 1, none⟩ = some _ := hcc 1 _ rfl
      have q2 : w.cell? ⟨eb, eo + j * 5 + 2, none⟩ = some _ := hcc 2 _ rfl
      have q3 : w.cell? ⟨eb, eo + j * 5 + 3, none⟩ = some _ := hcc 3 _ rfl
      have q4 : w.cell? ⟨eb, eo + j * 5 + 4, none⟩ = some _ := hcc 4 _ rfl
      have HQ := Lib.hid (show True from trivial)
      have Q0 := Lib.hid q0; clear q0
      have Q1 := Lib.hid q1; clear q1
      have Q2 := Lib.hid q2; clear q2
      have Q3 := Lib.hid q3; clear q3
      have Q4 := Lib.hid q4; clear q4
      have p0_0 := (hB.cell (World.block_lt_of_cell? w _ Q0.out)).trans Q0.out
      have p0_1 := (hB.cell (World.block_lt_of_cell? w _ Q1.out)).trans Q1.out
      have p0_2 := (hB.cell (World.block_lt_of_cell? w _ Q2.out)).trans Q2.out
      have p0_3 := (hB.cell (World.block_lt_of_cell? w _ Q3.out)).trans Q3.out
      have p0_4 := (hB.cell (World.block_lt_of_cell? w _ Q4.out)).trans Q4.out
      clear hcc hcl
      have hz0 := hB.size
      have tok1 : True := trivial
      go_wp2_with (first | (go_at_call 132; have tk := tok1; clear tok1; refine call_ret (w := w) (heldAttrS_c _ _ v4 _ _ (kk + 1 + 1 + 1 + 1) (by omega) (by omega) (by omega) rfl (rd_below HR4.out hB)) hB ?_; intro w1 hB1 hbq hz1 hz2; clear hbq hz2; have p1_0 := (hB1.cell (World.block_lt_of_cell? w _ Q0.out)).trans Q0.out; have p1_1 := (hB1.cell (World.block_lt_of_cell? w _ Q1.out)).trans Q1.out; have p1_2 := (hB1.cell (World.block_lt_of_cell? w _ Q2.out)).trans Q2.out; have p1_3 := (hB1.cell (World.block_lt_of_cell? w _ Q3.out)).trans Q3.out; have p1_4 := (hB1.cell (World.block_lt_of_cell? w _ Q4.out)).trans Q4.out))
      first
      | exact ⟨⟨j + 1, by omega, by go_num, by (show Value.int _ _ = _; rw [HSP.out]; try (show Value.int .i64 _ = .int .i64 (((markS v4 (kk + 1 + 1 + 1 + 1)).2 : Nat) : Int); first | go_num | (congr 1 <;> omega))), hB1⟩, by simp [intOf]; omega⟩
      | (go_roundw; (case measure => simp [intOf]; omega); (case rel => exact ⟨j + 1, by omega, by go_num, by (show Value.int _ _ = _; rw [HSP.out]; try (show Value.int .i64 _ = .int .i64 (((markS v4 (kk + 1 + 1 + 1 + 1)).2 : Nat) : Int); first | go_num | (congr 1 <;> omega))), hB1⟩))
    · obtain rfl : j = l.length := by omega
      have hf := HF.out
      rw [List.take_length] at *
      rw [hf] at *
      have HF2 := Lib.hid hf; clear hf
      go_wp2
      go_ret
      exact ⟨rfl, hB⟩
set_option maxRecDepth 100000 in
set_option maxHeartbeats 1000000 in
theorem heldStore_c (w : World) (ca : List Value) (a a' : StoreD) (K : Int) (k : Nat) (hK : K = k) (h1 : 1 ≤ k) (hk : (GoD.markT a k).2 ≤ 4611686018427387904) (ha' : a' = (GoD.markT a k).1) (ha : rd w ca a') : Calls Tryz.prog 60 #[.agg ca.toArray, .int .i64 K] w (Ret w (.int .i64 ((GoD.markT a k).2 : Nat))) := by
  subst hK ha'
  obtain ⟨b1, b2, b3⟩ := a
  have hk : (markS b2 ((markS b1 (k)).2)).2 ≤ 4611686018427387904 := hk
  have ha : rd w ca ((markS b1 (k)).1, (markS b2 ((markS b1 (k)).2)).1, b3) := ha
  generalize hfin : (GoD.markT ((b1, b2, b3) : StoreD) k).2 = fin
  have hfin : (markS b2 ((markS b1 (k)).2)).2 = fin := hfin
  obtain ⟨_, _, rfl, ar1, _, _, rfl, ar2, ar3⟩ := ha
  obtain ⟨ax1_0, rfl⟩ := len1 (show _ = 1 from GoD.rd_len ar1)
  have HR1 := Lib.hid ar1; clear ar1
  have hm1 : k ≤ (markS b1 (k)).2 := markS_le _ _
  obtain ⟨ax2_0, rfl⟩ := len1 (show _ = 1 from GoD.rd_len ar2)
  have HR2 := Lib.hid ar2; clear ar2
  have hm2 : (markS b1 (k)).2 ≤ (markS b2 ((markS b1 (k)).2)).2 := markS_le _ _
  obtain ⟨rfl, ar3⟩ := ar3
  clear ar3
  dsimp only [List.cons_append, List.nil_append] at *
  have tok1 : True := trivial
  have tok2 : True := trivial
  have HF := Lib.hid hfin; clear hfin
  go_enter Tryz.func60, Tryz.ntmps60
  go_wp2_with (first | (go_at_call 88; have tk := tok1; clear tok1; refine call_ret (w := w) (heldFieldS_c _ ax1_0 b1 _ _ (k) (by omega) (by omega) (show (markS b1 (k)).2 ≤ 4611686018427387904 by omega) rfl (rd_below HR1.out (by go_grown))) (by go_grown) ?_; intro w1 hB hb hz hz2; (repeat (first | rewrite [World.size_alloc] at hz2 | rewrite [World.size_setCell] at hz2 | rewrite [World.size_drew] at hz2)); have c0 := fun o => bcell hb (w.heap.size) o (by go_size); clear hb) | (go_at_call 89; have tk := tok2; clear tok2; refine call_ret (w := w) (heldFileS_c _ ax2_0 b2 _ _ ((markS b1 (k)).2) (by omega) (by omega) (show (markS b2 ((markS b1 (k)).2)).2 ≤ 4611686018427387904 by omega) rfl (rd_below HR2.out (by go_grown))) (by go_grown) ?_; intro w2 hB hb hz hz2; (repeat (first | rewrite [World.size_alloc] at hz2 | rewrite [World.size_setCell] at hz2 | rewrite [World.size_drew] at hz2)); have c0 := fun o => bcell hb (w.heap.size) o (by go_size); clear hb))
  go_ret
  refine ⟨?_, by go_grown⟩
  rw [← HF.out]
  rfl
set_option maxRecDepth 100000 in
set_option maxHeartbeats 1000000 in
theorem heldSnapshot_c (w : World) (ca : List Value) (a a' : SnapshotD) (K : Int) (k : Nat) (hK : K = k) (h1 : 1 ≤ k) (hk : (GoD.markT a k).2 ≤ 4611686018427387904) (ha' : a' = (GoD.markT a k).1) (ha : rd w ca a') : Calls Tryz.prog 18 #[.agg ca.toArray, .int .i64 K] w (Ret w (.int .i64 ((GoD.markT a k).2 : Nat))) := by
  subst hK ha'
  obtain ⟨b1, b2⟩ := a
  have hk : (markS b2 ((GoD.markT b1 (k)).2)).2 ≤ 4611686018427387904 := hk
  have ha : rd w ca ((GoD.markT b1 (k)).1, (markS b2 ((GoD.markT b1 (k)).2)).1) := ha
  generalize hfin : (GoD.markT ((b1, b2) : SnapshotD) k).2 = fin
  have hfin : (markS b2 ((GoD.markT b1 (k)).2)).2 = fin := hfin
  obtain ⟨_, _, rfl, ar1, ar2⟩ := ha
  obtain ⟨ax1_0, ax1_1, ax1_2, rfl⟩ := len3 (show _ = 3 from GoD.rd_len ar1)
  have HR1 := Lib.hid ar1; clear ar1
  have hm1 : k ≤ (GoD.markT b1 (k)).2 := GoD.mkT_le _ _
  obtain ⟨ax2_0, rfl⟩ := len1 (show _ = 1 from GoD.rd_len ar2)
  have HR2 := Lib.hid ar2; clear ar2
  have hm2 : (GoD.markT b1 (k)).2 ≤ (markS b2 ((GoD.markT b1 (k)).2)).2 := markS_le _ _
  dsimp only [List.cons_append, List.nil_append] at *
  have tok1 : True := trivial
  have tok2 : True := trivial
  have HF := Lib.hid hfin; clear hfin
  go_enter Tryz.func18, Tryz.ntmps18
  go_wp2_with (first | (go_at_call 60; have tk := tok1; clear tok1; refine call_ret (w := w) (heldStore_c _ [ax1_0, ax1_1, ax1_2] b1 _ _ (k) (by omega) (by omega) (show (GoD.markT b1 (k)).2 ≤ 4611686018427387904 by omega) rfl (rd_below HR1.out (by go_grown))) (by go_grown) ?_; intro w1 hB hb hz hz2; (repeat (first | rewrite [World.size_alloc] at hz2 | rewrite [World.size_setCell] at hz2 | rewrite [World.size_drew] at hz2)); have c0 := fun o => bcell hb (w.heap.size) o (by go_size); clear hb) | (go_at_call 61; have tk := tok2; clear tok2; refine call_ret (w := w) (heldDirS_c _ ax2_0 b2 _ _ ((GoD.markT b1 (k)).2) (by omega) (by omega) (show (markS b2 ((GoD.markT b1 (k)).2)).2 ≤ 4611686018427387904 by omega) rfl (rd_below HR2.out (by go_grown))) (by go_grown) ?_; intro w2 hB hb hz hz2; (repeat (first | rewrite [World.size_alloc] at hz2 | rewrite [World.size_setCell] at hz2 | rewrite [World.size_drew] at hz2)); have c0 := fun o => bcell hb (w.heap.size) o (by go_size); clear hb))
  go_ret
  refine ⟨?_, by go_grown⟩
  rw [← HF.out]
  rfl
set_option maxRecDepth 100000 in
set_option maxHeartbeats 1000000 in
theorem heldVersionS_c (w : World) (v : Value) (l l' : List VersionD) (K : Int) (k : Nat) (hK : K = k) (h1 : 1 ≤ k) (hk : (markS l k).2 ≤ 4611686018427387904) (hl' : l' = (markS l k).1) (ha : rd w [v] l') : Calls Tryz.prog 34 #[v, .int .i64 K] w (Ret w (.int .i64 ((markS l k).2 : Nat))) := by
  subst hK hl'
  obtain ⟨oa, cap, e1, hl, hm, hel⟩ := ha
  obtain rfl : v = _ := by simpa using e1
  clear e1
  have HE := Lib.hid hel; clear hel
  rw [markS_length] at hl ⊢
  unfold maxLen at hm
  have hlm : l.length ≤ 9223372036854775807 := by omega
  generalize hfin : (markS l k).2 = fin at *
  have HF := Lib.hid hfin; clear hfin
  go_enter Tryz.func34, Tryz.ntmps34
  go_wp2
  go_loopw [1, 5] (fun q i wr => ∃ j : Nat, j ≤ l.length ∧ i = .int .i64 j ∧ q = .int .i64 ((markS (l.take j) k).2 : Nat) ∧ Below w.heap.size w wr) (fun _ i _ => l.length - (intOf i).toNat)
  case atStart => exact ⟨0, Nat.zero_le _, rfl, rfl, Below.refl _ _⟩
  case round =>
    obtain ⟨j, hj, rfl, rfl, hB⟩ := hrel
    by_cases hjl : j < l.length
    · have hx := List.getElem?_eq_getElem hjl
      have hsp := mark_split l k j _ hx
      have hle := Nat.le_trans (mark_take_le l k j _ hx) (Nat.le_trans (Nat.le_of_eq HF.out) hk)
      have hkk : k ≤ (markS (l.take j) k).2 := markS_le _ _
      obtain ⟨eb, eo, ee, rfl, hcl, hcc, hxr⟩ := HE.out j _ (markS_get l k j _ hx)
      clear hx
      generalize (markS (l.take j) k).2 = kk at *
      generalize (markS (l.take j) k).1 = xs at *
      generalize l[j] = x at *
      obtain ⟨v0, ⟨⟨v1, v2, v3⟩, v4⟩, v5⟩ := x
      have HSP : Hid (_ = (xs ++ [(((((kk : Nat) : Int), (((markS v1 (kk + 1)).1, (markS v2 ((markS v1 (kk + 1)).2)).1, (((markS v2 ((markS v1 (kk + 1)).2)).2 : Nat) : Int)), (markS v4 ((markS v2 ((markS v1 (kk + 1)).2)).2 + 1)).1), (((markS v4 ((markS v2 ((markS v1 (kk + 1)).2)).2 + 1)).2 : Nat) : Int)) : VersionD))], (markS v4 ((markS v2 ((markS v1 (kk + 1)).2)).2 + 1)).2 + 1)) := hsp
      clear hsp
      have hle : (markS v4 ((markS v2 ((markS v1 (kk + 1)).2)).2 + 1)).2 + 1 ≤ 4611686018427387904 := hle
      have hxr : rd w ee ((((kk : Nat) : Int), (((markS v1 (kk + 1)).1, (markS v2 ((markS v1 (kk + 1)).2)).1, (((markS v2 ((markS v1 (kk + 1)).2)).2 : Nat) : Int)), (markS v4 ((markS v2 ((markS v1 (kk + 1)).2)).2 + 1)).1), (((markS v4 ((markS v2 ((markS v1 (kk + 1)).2)).2 + 1)).2 : Nat) : Int)) : VersionD) := hxr
      obtain ⟨_, _, rfl, ⟨rfl, _⟩, ⟨_, _, rfl, ⟨_, _, rfl, ⟨_, _, rfl, rh1, ⟨_, _, rfl, rh2, ⟨rfl, _⟩⟩⟩, rh4⟩, ⟨rfl, _⟩⟩⟩ := hxr
      obtain ⟨rv1, rfl⟩ := len1 (show _ = 1 from GoD.rd_len rh1)
      obtain ⟨oa1, cp1, rfl⟩ := slice_of_rd rh1
      obtain ⟨rv2, rfl⟩ := len1 (show _ = 1 from GoD.rd_len rh2)
      obtain ⟨oa2, cp2, rfl⟩ := slice_of_rd rh2
      obtain ⟨rv4, rfl⟩ := len1 (show _ = 1 from GoD.rd_len rh4)
      obtain ⟨oa4, cp4, rfl⟩ := slice_of_rd rh4
      simp only [markS_length] at hcc rh1 rh2 rh4
      have hm1 : kk + 1 ≤ (markS v1 (kk + 1)).2 := markS_le _ _
      have HR1 := Lib.hid rh1; clear rh1
      have hm2 : (markS v1 (kk + 1)).2 ≤ (markS v2 ((markS v1 (kk + 1)).2)).2 := markS_le _ _
      have HR2 := Lib.hid rh2; clear rh2
      have hm4 : (markS v2 ((markS v1 (kk + 1)).2)).2 + 1 ≤ (markS v4 ((markS v2 ((markS v1 (kk + 1)).2)).2 + 1)).2 := markS_le _ _
      have HR4 := Lib.hid rh4; clear rh4
      have q0 : w.cell? ⟨eb, eo + j * 6, none⟩ = some _ := hcc 0 _ rfl
      have q1 : w.cell? ⟨eb, eo + j * 6 + 1, none⟩ = some _ := hcc 1 _ rfl
      have q2 : w.cell? ⟨eb, eo + j * 6 + 2, none⟩ = some _ := hcc 2 _ rfl
      have q3 : w.cell? ⟨eb, eo + j * 6 + 3, none⟩ = some _ := hcc 3 _ rfl
      have q4 : w.cell? ⟨eb, eo + j * 6 + 4, none⟩ = some _ := hcc 4 _ rfl
      have q5 : w.cell? ⟨eb, eo + j * 6 + 5, none⟩ = some _ := hcc 5 _ rfl
      have HQ := Lib.hid (show True from trivial)
      have Q0 := Lib.hid q0; clear q0
      have Q1 := Lib.hid q1; clear q1
      have Q2 := Lib.hid q2; clear q2
      have Q3 := Lib.hid q3; clear q3
      have Q4 := Lib.hid q4; clear q4
      have Q5 := Lib.hid q5; clear q5
      have p0_0 := (hB.cell (World.block_lt_of_cell? w _ Q0.out)).trans Q0.out
      have p0_1 := (hB.cell (World.block_lt_of_cell? w _ Q1.out)).trans Q1.out
      have p0_2 := (hB.cell (World.block_lt_of_cell? w _ Q2.out)).trans Q2.out
      have p0_3 := (hB.cell (World.block_lt_of_cell? w _ Q3.out)).trans Q3.out
      have p0_4 := (hB.cell (World.block_lt_of_cell? w _ Q4.out)).trans Q4.out
      have p0_5 := (hB.cell (World.block_lt_of_cell? w _ Q5.out)).trans Q5.out
      clear hcc hcl
      have hz0 := hB.size
      have tok1 : True := trivial
      have tok2 : True := trivial
      have tok3 : True := trivial
      go_wp2_with (first | (go_at_call 88; have tk := tok1; clear tok1; refine call_ret (w := w) (heldFieldS_c _ _ v1 _ _ (kk + 1) (by omega) (by omega) (by omega) rfl (rd_below HR1.out hB)) hB ?_; intro w1 hB1 hbq hz1 hz2; clear hbq hz2; have p1_0 := (hB1.cell (World.block_lt_of_cell? w _ Q0.out)).trans Q0.out; have p1_1 := (hB1.cell (World.block_lt_of_cell? w _ Q1.out)).trans Q1.out; have p1_2 := (hB1.cell (World.block_lt_of_cell? w _ Q2.out)).trans Q2.out; have p1_3 := (hB1.cell (World.block_lt_of_cell? w _ Q3.out)).trans Q3.out; have p1_4 := (hB1.cell (World.block_lt_of_cell? w _ Q4.out)).trans Q4.out; have p1_5 := (hB1.cell (World.block_lt_of_cell? w _ Q5.out)).trans Q5.out) | (go_at_call 89; have tk := tok2; clear tok2; refine call_ret (w := w) (heldFileS_c _ _ v2 _ _ ((markS v1 (kk + 1)).2) (by omega) (by omega) (by omega) rfl (rd_below HR2.out hB1)) hB1 ?_; intro w2 hB2 hbq hz2 hz2; clear hbq hz2; have p2_0 := (hB2.cell (World.block_lt_of_cell? w _ Q0.out)).trans Q0.out; have p2_1 := (hB2.cell (World.block_lt_of_cell? w _ Q1.out)).trans Q1.out; have p2_2 := (hB2.cell (World.block_lt_of_cell? w _ Q2.out)).trans Q2.out; have p2_3 := (hB2.cell (World.block_lt_of_cell? w _ Q3.out)).trans Q3.out; have p2_4 := (hB2.cell (World.block_lt_of_cell? w _ Q4.out)).trans Q4.out; have p2_5 := (hB2.cell (World.block_lt_of_cell? w _ Q5.out)).trans Q5.out) | (go_at_call 61; have tk := tok3; clear tok3; refine call_ret (w := w) (heldDirS_c _ _ v4 _ _ ((markS v2 ((markS v1 (kk + 1)).2)).2 + 1) (by omega) (by omega) (by omega) rfl (rd_below HR4.out hB2)) hB2 ?_; intro w3 hB3 hbq hz3 hz2; clear hbq hz2; have p3_0 := (hB3.cell (World.block_lt_of_cell? w _ Q0.out)).trans Q0.out; have p3_1 := (hB3.cell (World.block_lt_of_cell? w _ Q1.out)).trans Q1.out; have p3_2 := (hB3.cell (World.block_lt_of_cell? w _ Q2.out)).trans Q2.out; have p3_3 := (hB3.cell (World.block_lt_of_cell? w _ Q3.out)).trans Q3.out; have p3_4 := (hB3.cell (World.block_lt_of_cell? w _ Q4.out)).trans Q4.out; have p3_5 := (hB3.cell (World.block_lt_of_cell? w _ Q5.out)).trans Q5.out))
      first
      | exact ⟨⟨j + 1, by omega, by go_num, by (show Value.int _ _ = _; rw [HSP.out]; try (show Value.int .i64 _ = .int .i64 (((markS v4 ((markS v2 ((markS v1 (kk + 1)).2)).2 + 1)).2 + 1 : Nat) : Int); first | go_num | (congr 1 <;> omega))), hB3⟩, by simp [intOf]; omega⟩
      | (go_roundw; (case measure => simp [intOf]; omega); (case rel => exact ⟨j + 1, by omega, by go_num, by (show Value.int _ _ = _; rw [HSP.out]; try (show Value.int .i64 _ = .int .i64 (((markS v4 ((markS v2 ((markS v1 (kk + 1)).2)).2 + 1)).2 + 1 : Nat) : Int); first | go_num | (congr 1 <;> omega))), hB3⟩))
    · obtain rfl : j = l.length := by omega
      have hf := HF.out
      rw [List.take_length] at *
      rw [hf] at *
      have HF2 := Lib.hid hf; clear hf
      go_wp2
      go_ret
      exact ⟨rfl, hB⟩
end Go.Proofs.YtjkfmihbmkbjfaaGreat
