/- What functions compute, and that they do (printed by am2.py): each function as a Lean function, then its contract. -/
import Derived.Test.YtiafgmepdgfpbaaIxa
import Derived.Test.YtiafgmepdgfpbaaDrs
import Derived.Test.YtiafgmepdgfpbaaProg
import Derived.Test.YtiafgmepdgfpbaaReg
import Derived.Test.YtiafgmepdgfpbaaKn
import Derived.Test.YtiafgmepdgfpbaaZc
import Derived.Test.YtiafgmepdgfpbaaDrl
import Derived.KernelRfl
set_option linter.unusedVariables false
set_option linter.unusedSimpArgs false
namespace Go.Proofs.Ytiafgmepdgfpbaa
open Go.RowKit
open GoE (enc wide)
set_option maxRecDepth 100000 in
set_option maxHeartbeats 4000000 in
theorem insPosting_run (w : World) (oa : Option Addr) (m cap : Nat) (olds : List Value) (i vb voff vc : Nat) (vs : List Value) (hR : RowAt w 5 oa m cap olds) (hO : OneAt w 5 oa cap vb voff vs) (hi : i ≤ m) : Calls Try.prog 64 #[.slice oa m cap, .int .i64 (i : Int), .slice (some ⟨vb, voff, none⟩) 1 vc] w (InsTo w 5 i oa m cap olds vs) := by
  have hei := ttOk_get tt_ok (t := 66) rfl
  have hu := (ttOk_get tt_ok (t := 29) rfl).sli
  have hui := run_underlying (P := Try.prog) hu
  have hsz : ∀ w, (Go.sizeOf 66).run Try.prog w = .ok 5 w := fun w => sizeOf_run (ttOk_get tt_ok (t := 66) rfl) w
  have hlim := hR.lim
  have hle := hR.le
  have hcm : cap ≤ 9223372036854775807 := by have := hR.cap; unfold maxLen at this; omega
  have mixed := tt_mx
  have hz1 : ¬ ((1 : Int) = 0) := by omega
  by_cases him : i = m
  · subst him
    obtain ⟨u, w', hrun, u', h1, hT⟩ := road_end (vc := vc) hu hei (by decide) hR hO
    cases h1
    have hc : Calls Try.prog 64 #[.slice oa i cap, .int .i64 (i : Int), .slice (some ⟨vb, voff, none⟩) 1 vc] w (fun e w2 => e = .returned u ∧ w2 = w') := by
      clear hT hR hO hei
      go_enter Try.func64, Try.ntmps64
      cases oa with
      | none =>
        go_wp2_with (at_builtin; refine Lib.wpList_append_run _ rfl _ _ _ _ rfl _ _ rfl rfl _ _ (hrun _) ?_)
        all_goals (go_ret; exact ⟨rfl, rfl⟩)
      | some a =>
        obtain ⟨ab, ao, asp⟩ := a
        go_wp2_with (at_builtin; refine Lib.wpList_append_run _ rfl _ _ _ _ rfl _ _ rfl rfl _ _ (hrun _) ?_)
        all_goals (go_ret; exact ⟨rfl, rfl⟩)
    exact hc.mono (by rintro e w2 ⟨rfl, rfl⟩; exact ⟨_, rfl, hT⟩)
  · rcases hR.row with ⟨_, h0, _⟩ | ⟨g, cur, e0, rfl, hg, hcs, htk⟩
    · omega
    have him2 : i < m := by omega
    have hz2 : ¬ ((i : Int) = (m : Int)) := by omega
    have hw1 : IntKind.i64.wrap ((m : Int) + 1) = (m : Int) + 1 := by rw [IntKind.wrap_i64]; omega
    have hw2 : IntKind.i64.wrap ((i : Int) + 1) = (i : Int) + 1 := by rw [IntKind.wrap_i64]; omega
    have htn : ((i : Int) + 1).toNat = i + 1 := by omega
    have htm : ((m : Int) + 1).toNat = m + 1 := by omega
    have hb1 : (0 : Int) ≤ (i : Int) + 1 := by omega
    have hb3 : (i : Int) ≤ (m : Int) + 1 := by omega
    have hbm : (0 : Int) ≤ (m : Int) + 1 := by omega
    have hin : i ≤ m := hi
    obtain ⟨hvw, arrA, tA, frA, hA, hposA⟩ := hO.block (by decide)
    have hcp : 0 < cap := by omega
    have hvg : vb ≠ g := hO.ne g rfl hcp
    have hov : ∀ o lb cb, (callFunc 98 #[.slice (some ⟨vb, voff, none⟩) 1 vc, .slice (some ⟨g, o, none⟩) lb cb]).run Try.prog w = .ok (.value (.bool false)) w := fun o lb cb => by
      rw [run_callFunc_extern Try.func98 (by kernel_rfl) (by kernel_rfl) (by kernel_rfl) (e := Extern.SlicesOverlaps.overlaps #[29, 29] #[4]) (by kernel_rfl), overlaps_run w 29 4 66 hu 5 hsz ⟨vb, voff, none⟩ ⟨g, o, none⟩ 1 vc lb cb hvg hA hg (by omega) hposA]
      rfl
    by_cases hroom : m + 1 ≤ cap
    · obtain ⟨q1, q2, q3⟩ := road_room (vc := vc) (w := w) hu hei (by decide) hg hcs htk hR hO him2 hroom
      have hb2 : ¬ (cap = i + 1) := by omega
      have hb4 : ¬ (cap = i) := by omega
      have hng : ¬ ((cap : Int) < (m : Int) + 1) := by omega
      have hmc : ((m : Int) + 1) ≤ (cap : Int) := by omega
      have hc : Calls Try.prog 64 #[.slice (some ⟨g, 0, none⟩) m cap, .int .i64 (i : Int), .slice (some ⟨vb, voff, none⟩) 1 vc] w (fun e w2 => e = .returned (.slice (some ⟨g, 0, none⟩) (m + 1) cap) ∧ w2 = (w.drew.setCells g ((i + 1) * 5) (olds.drop (i * 5))).setCells g (i * 5) vs) := by
        obtain ⟨q4, q5, q6⟩ := road_room (vc := vc) (w := w.drew) hu hei (by decide) hg hcs htk ⟨hR.len, hR.row, hR.le, hR.cap, hR.lim, hR.ones⟩ ⟨hO.len, hO.cells, hO.ones, hO.ne⟩ him2 hroom
        clear hR hO hei q1 q2 q3 q6 hg hA hcs htk
        go_enter Try.func64, Try.ntmps64
        go_wp2_with (simp only [hov])
        go_region_law (refine step_copy_rn rfl _ _ 29 29 rfl (.slice (some ⟨g, (i + 1) * 5, none⟩) (m + 1 - (i + 1)) (cap - (i + 1))) (.slice (some ⟨g, i * 5, none⟩) (m + 1 - i) (cap - i)) (by simp [Act.eval, Act.put]) (by simp [Act.eval, Act.put]) (q4 _ _ _) ?_)
        go_wp2_with (at_builtin; refine wpList_copy_rn rfl _ _ 29 29 rfl (.slice (some ⟨g, i * 5, none⟩) (m + 1 - i) (cap - i)) _ (by simp [Act.eval, Act.put]) rfl (q5 _ rfl _ _) ?_)
        go_ret
        exact ⟨rfl, rfl⟩
      refine hc.mono ?_
      rintro e w2 ⟨rfl, rfl⟩
      obtain ⟨p1, p2, p3⟩ := heap_os_setCells g (olds.drop (i * 5)) ((i + 1) * 5) w.drew
      exact q3 _ (heap_drew_setCells g _ _ w) p1 p2 p3
    · obtain ⟨G, W1, hG1, hG2, qa, qb, qc, qd, o1, o2, o3⟩ := road_grow (vc := vc) (tn := 3) hu (by kernel_rfl) hei (by decide) hg hcs htk hR hO hvw him2 (by omega)
      have hG63 : G ≤ 9223372036854775807 := by unfold maxLen at hG2; omega
      have hGi : ¬ (G = i) := by omega
      have hGim : ¬ (G = i + 1) := by omega
      have hci : ¬ (cap = i) := by omega
      have hlt : (cap : Int) < (m : Int) + 1 := by omega
      have hw3 : IntKind.i64.wrap ((m : Int) + 1 - (i : Int)) = (m : Int) + 1 - (i : Int) := by rw [IntKind.wrap_i64]; omega
      have hii : (i : Int) ≤ (m : Int) := by omega
      have hqa : ∀ ty, (Builtin.append_ #[29, 3] ty #[.slice (some ⟨g, 0, none⟩) i cap, .int .i64 ((m : Int) + 1 - (i : Int))]).run Try.prog w = .ok (.slice (some ⟨w.heap.size, 0, none⟩) (m + 1) G) W1 := fun ty => qa ty _ (by omega)
      have hqb := qb W1 rfl
      have hqc := qc (W1.setCells w.heap.size (i * 5) vs).drew rfl
      have hc : Calls Try.prog 64 #[.slice (some ⟨g, 0, none⟩) m cap, .int .i64 (i : Int), .slice (some ⟨vb, voff, none⟩) 1 vc] w (fun e w2 => e = .returned (.slice (some ⟨w.heap.size, 0, none⟩) (m + 1) G) ∧ w2 = (W1.setCells w.heap.size (i * 5) vs).drew.setCells w.heap.size ((i + 1) * 5) (olds.drop (i * 5))) := by
        clear hR hO hei qa qb qc qd hg hA hcs htk hov hG1 hG2
        go_enter Try.func64, Try.ntmps64
        go_wp2_with (first
          | (at_builtin; refine Lib.wpList_append_run _ rfl _ _ _ _ rfl _ _ rfl rfl _ _ (hqa _) ?_)
          | (at_builtin; refine wpList_copy_rn rfl _ _ 29 29 rfl (.slice (some ⟨w.heap.size, i * 5, none⟩) (m + 1 - i) (G - i)) _ (by simp [Act.eval, Act.put]) rfl (hqb _ _) ?_))
        go_region_law (refine step_copy_rn rfl _ _ 29 29 rfl (.slice (some ⟨w.heap.size, (i + 1) * 5, none⟩) (m + 1 - (i + 1)) (G - (i + 1))) (.slice (some ⟨g, i * 5, none⟩) (m - i) (cap - i)) (by simp [Act.eval, Act.put]) (by simp [Act.eval, Act.put]) (hqc _ _ _) ?_)
        go_wp2
        go_ret
        exact ⟨rfl, rfl⟩
      refine hc.mono ?_
      rintro e w2 ⟨rfl, rfl⟩
      obtain ⟨p1, p2, p3⟩ := heap_os_setCells w.heap.size vs (i * 5) W1
      exact qd _ rfl (p1.trans o1) (p2.trans o2) (p3.trans o3)
theorem insPosting_i : AIns Try.prog 64 5 := ⟨by unfold FnOk; kernel_rfl, by decide, fun w oa m cap olds i vb voff vc vs => insPosting_run w oa m cap olds i vb voff vc vs⟩
theorem insPosting_a (l : List PostingD) (y : PostingD) {i : Int} (hi : 0 ≤ i) (hj : i ≤ l.length) (hl : l.length < 1073741824) : ATake Try.prog 64 5 (eL l) [.one (.int .i64 i), .one (.slc .sh 5 (eL [y]))] true false (eL (insAt l i.toNat y)) :=
  atake_insT (by unfold FnOk; kernel_rfl) (by decide) (fun w oa m cap olds i vb voff vc vs => insPosting_run w oa m cap olds i vb voff vc vs) l y hi hj hl
set_option maxRecDepth 100000 in
set_option maxHeartbeats 4000000 in
theorem insInt_run (w : World) (oa : Option Addr) (m cap : Nat) (olds : List Value) (i vb voff vc : Nat) (vs : List Value) (hR : RowAt w 1 oa m cap olds) (hO : OneAt w 1 oa cap vb voff vs) (hi : i ≤ m) : Calls Try.prog 67 #[.slice oa m cap, .int .i64 (i : Int), .slice (some ⟨vb, voff, none⟩) 1 vc] w (InsTo w 1 i oa m cap olds vs) := by
  have hei := ttOk_get tt_ok (t := 3) rfl
  have hu := (ttOk_get tt_ok (t := 37) rfl).sli
  have hui := run_underlying (P := Try.prog) hu
  have hsz : ∀ w, (Go.sizeOf 3).run Try.prog w = .ok 1 w := fun w => sizeOf_run (ttOk_get tt_ok (t := 3) rfl) w
  have hlim := hR.lim
  have hle := hR.le
  have hcm : cap ≤ 9223372036854775807 := by have := hR.cap; unfold maxLen at this; omega
  have mixed := tt_mx
  have hz1 : ¬ ((1 : Int) = 0) := by omega
  by_cases him : i = m
  · subst him
    obtain ⟨u, w', hrun, u', h1, hT⟩ := road_end (vc := vc) hu hei (by decide) hR hO
    cases h1
    have hc : Calls Try.prog 67 #[.slice oa i cap, .int .i64 (i : Int), .slice (some ⟨vb, voff, none⟩) 1 vc] w (fun e w2 => e = .returned u ∧ w2 = w') := by
      clear hT hR hO hei
      go_enter Try.func67, Try.ntmps67
      cases oa with
      | none =>
        go_wp2_with (at_builtin; refine Lib.wpList_append_run _ rfl _ _ _ _ rfl _ _ rfl rfl _ _ (hrun _) ?_)
        all_goals (go_ret; exact ⟨rfl, rfl⟩)
      | some a =>
        obtain ⟨ab, ao, asp⟩ := a
        go_wp2_with (at_builtin; refine Lib.wpList_append_run _ rfl _ _ _ _ rfl _ _ rfl rfl _ _ (hrun _) ?_)
        all_goals (go_ret; exact ⟨rfl, rfl⟩)
    exact hc.mono (by rintro e w2 ⟨rfl, rfl⟩; exact ⟨_, rfl, hT⟩)
  · rcases hR.row with ⟨_, h0, _⟩ | ⟨g, cur, e0, rfl, hg, hcs, htk⟩
    · omega
    have him2 : i < m := by omega
    have hz2 : ¬ ((i : Int) = (m : Int)) := by omega
    have hw1 : IntKind.i64.wrap ((m : Int) + 1) = (m : Int) + 1 := by rw [IntKind.wrap_i64]; omega
    have hw2 : IntKind.i64.wrap ((i : Int) + 1) = (i : Int) + 1 := by rw [IntKind.wrap_i64]; omega
    have htn : ((i : Int) + 1).toNat = i + 1 := by omega
    have htm : ((m : Int) + 1).toNat = m + 1 := by omega
    have hb1 : (0 : Int) ≤ (i : Int) + 1 := by omega
    have hb3 : (i : Int) ≤ (m : Int) + 1 := by omega
    have hbm : (0 : Int) ≤ (m : Int) + 1 := by omega
    have hin : i ≤ m := hi
    obtain ⟨hvw, arrA, tA, frA, hA, hposA⟩ := hO.block (by decide)
    have hcp : 0 < cap := by omega
    have hvg : vb ≠ g := hO.ne g rfl hcp
    have hov : ∀ o lb cb, (callFunc 100 #[.slice (some ⟨vb, voff, none⟩) 1 vc, .slice (some ⟨g, o, none⟩) lb cb]).run Try.prog w = .ok (.value (.bool false)) w := fun o lb cb => by
      rw [run_callFunc_extern Try.func100 (by kernel_rfl) (by kernel_rfl) (by kernel_rfl) (e := Extern.SlicesOverlaps.overlaps #[37, 37] #[4]) (by kernel_rfl), overlaps_run w 37 4 3 hu 1 hsz ⟨vb, voff, none⟩ ⟨g, o, none⟩ 1 vc lb cb hvg hA hg (by omega) hposA]
      rfl
    by_cases hroom : m + 1 ≤ cap
    · obtain ⟨q1, q2, q3⟩ := road_room (vc := vc) (w := w) hu hei (by decide) hg hcs htk hR hO him2 hroom
      simp only [Nat.mul_one] at q3
      have hb2 : ¬ (cap = i + 1) := by omega
      have hb4 : ¬ (cap = i) := by omega
      have hng : ¬ ((cap : Int) < (m : Int) + 1) := by omega
      have hmc : ((m : Int) + 1) ≤ (cap : Int) := by omega
      have hc : Calls Try.prog 67 #[.slice (some ⟨g, 0, none⟩) m cap, .int .i64 (i : Int), .slice (some ⟨vb, voff, none⟩) 1 vc] w (fun e w2 => e = .returned (.slice (some ⟨g, 0, none⟩) (m + 1) cap) ∧ w2 = (w.drew.setCells g (i + 1) (olds.drop i)).setCells g i vs) := by
        obtain ⟨q4, q5, q6⟩ := road_room (vc := vc) (w := w.drew) hu hei (by decide) hg hcs htk ⟨hR.len, hR.row, hR.le, hR.cap, hR.lim, hR.ones⟩ ⟨hO.len, hO.cells, hO.ones, hO.ne⟩ him2 hroom
        simp only [Nat.mul_one] at q4 q5
        clear hR hO hei q1 q2 q3 q6 hg hA hcs htk
        go_enter Try.func67, Try.ntmps67
        go_wp2_with (simp only [hov])
        go_region_law (refine step_copy_rn rfl _ _ 37 37 rfl (.slice (some ⟨g, i + 1, none⟩) (m + 1 - (i + 1)) (cap - (i + 1))) (.slice (some ⟨g, i, none⟩) (m + 1 - i) (cap - i)) (by simp [Act.eval, Act.put]) (by simp [Act.eval, Act.put]) (q4 _ _ _) ?_)
        go_wp2_with (at_builtin; refine wpList_copy_rn rfl _ _ 37 37 rfl (.slice (some ⟨g, i, none⟩) (m + 1 - i) (cap - i)) _ (by simp [Act.eval, Act.put]) rfl (q5 _ rfl _ _) ?_)
        go_ret
        exact ⟨rfl, rfl⟩
      refine hc.mono ?_
      rintro e w2 ⟨rfl, rfl⟩
      obtain ⟨p1, p2, p3⟩ := heap_os_setCells g (olds.drop i) (i + 1) w.drew
      exact q3 _ (heap_drew_setCells g _ _ w) p1 p2 p3
    · obtain ⟨G, W1, hG1, hG2, qa, qb, qc, qd, o1, o2, o3⟩ := road_grow (vc := vc) (tn := 3) hu (by kernel_rfl) hei (by decide) hg hcs htk hR hO hvw him2 (by omega)
      have hG63 : G ≤ 9223372036854775807 := by unfold maxLen at hG2; omega
      have hGi : ¬ (G = i) := by omega
      have hGim : ¬ (G = i + 1) := by omega
      have hci : ¬ (cap = i) := by omega
      have hlt : (cap : Int) < (m : Int) + 1 := by omega
      have hw3 : IntKind.i64.wrap ((m : Int) + 1 - (i : Int)) = (m : Int) + 1 - (i : Int) := by rw [IntKind.wrap_i64]; omega
      have hii : (i : Int) ≤ (m : Int) := by omega
      have hqa : ∀ ty, (Builtin.append_ #[37, 3] ty #[.slice (some ⟨g, 0, none⟩) i cap, .int .i64 ((m : Int) + 1 - (i : Int))]).run Try.prog w = .ok (.slice (some ⟨w.heap.size, 0, none⟩) (m + 1) G) W1 := fun ty => qa ty _ (by omega)
      have hqb := qb W1 rfl
      simp only [Nat.mul_one] at hqb
      have hqc := qc (W1.setCells w.heap.size i vs).drew (by simp only [Nat.mul_one]; rfl)
      simp only [Nat.mul_one] at hqc qd
      have hc : Calls Try.prog 67 #[.slice (some ⟨g, 0, none⟩) m cap, .int .i64 (i : Int), .slice (some ⟨vb, voff, none⟩) 1 vc] w (fun e w2 => e = .returned (.slice (some ⟨w.heap.size, 0, none⟩) (m + 1) G) ∧ w2 = (W1.setCells w.heap.size i vs).drew.setCells w.heap.size (i + 1) (olds.drop i)) := by
        clear hR hO hei qa qb qc qd hg hA hcs htk hov hG1 hG2
        go_enter Try.func67, Try.ntmps67
        go_wp2_with (first
          | (at_builtin; refine Lib.wpList_append_run _ rfl _ _ _ _ rfl _ _ rfl rfl _ _ (hqa _) ?_)
          | (at_builtin; refine wpList_copy_rn rfl _ _ 37 37 rfl (.slice (some ⟨w.heap.size, i, none⟩) (m + 1 - i) (G - i)) _ (by simp [Act.eval, Act.put]) rfl (hqb _ _) ?_))
        go_region_law (refine step_copy_rn rfl _ _ 37 37 rfl (.slice (some ⟨w.heap.size, i + 1, none⟩) (m + 1 - (i + 1)) (G - (i + 1))) (.slice (some ⟨g, i, none⟩) (m - i) (cap - i)) (by simp [Act.eval, Act.put]) (by simp [Act.eval, Act.put]) (hqc _ _ _) ?_)
        go_wp2
        go_ret
        exact ⟨rfl, rfl⟩
      refine hc.mono ?_
      rintro e w2 ⟨rfl, rfl⟩
      obtain ⟨p1, p2, p3⟩ := heap_os_setCells w.heap.size vs i W1
      exact qd _ rfl (p1.trans o1) (p2.trans o2) (p3.trans o3)
theorem insInt_i : AIns Try.prog 67 1 := ⟨by unfold FnOk; kernel_rfl, by decide, fun w oa m cap olds i vb voff vc vs => insInt_run w oa m cap olds i vb voff vc vs⟩
theorem insInt_a (l : List Int) (y : Int) {i : Int} (hi : 0 ≤ i) (hj : i ≤ l.length) (hl : l.length < 1073741824) : ATake Try.prog 67 1 (eL l) [.one (.int .i64 i), .one (.slc .sh 1 (eL [y]))] true false (eL (insAt l i.toNat y)) :=
  atake_insT (by unfold FnOk; kernel_rfl) (by decide) (fun w oa m cap olds i vb voff vc vs => insInt_run w oa m cap olds i vb voff vc vs) l y hi hj hl
def implcopyIndex_f0 (_ : Nat) (a0 : PostingD) (s0 : (List PostingD)) : Rd ((List PostingD)) ((List PostingD)) ((List PostingD)) := (.next (s0 ++ [a0]))
def implcopyIndex_e0 (_ : Nat) (s0 : (List PostingD)) : (List PostingD) := s0
def implcopyIndex (ix : (List PostingD)) : (List PostingD) := (Out.on (forL implcopyIndex_f0 implcopyIndex_e0 ix 0 []) (fun y0 => y0))
theorem copyIx_id (ix : List PostingD) : implcopyIndex ix = ix := by
  unfold implcopyIndex
  rw [forL_map (f := implcopyIndex_f0) (e := implcopyIndex_e0) (g := fun a : PostingD => a) (fun _ _ _ => rfl)]
  simp [Out.on, implcopyIndex_e0]
theorem implcopyIndex_a (ix : (List PostingD)) : ACalls Try.prog 58 [.h ix] (.o 0 (implcopyIndex ix)) := by
  refine en tt_ok Try.func58 fun w0 F0 hG => ?_
  refine sn tt_ok [0, 2] [] (p0) ?_
  refine tn tt_ok [0, 2, 3] [] (p0) ?_
  refine awp_seq ?_
  refine tu tt_ok [(2, .e 0), (3, .one (.slc (.own true 384) 5 [])), (7, .h ix), (8, .i (ix.length : Int)), (9, .i 0)] [0] [] [] (pl 1 ix p0) ?_
  refine wT 7 0 .sh ix (fun hw1 hl2 => ?_)
  refine blL1 implcopyIndex_f0 implcopyIndex_e0 ix [] (fun k0 s0 => [(3, .o 147201 s0), (9, .i ((k0 : Nat) : Int))]) [3, 9] (fun y0 => [(3, .o 147351 y0)]) [3, 7, 8, 9] (fun k0 s0 => List.length s0 ≤ k0) (weak_sf [(384, 147201)] (by kernel_rfl)) (by simp) (fun k0 s0 hk0 hI0 => ?_) (fun k0 s0 hk0 hI0 => ?_) (fun y0 hD0 => ?_)
  ·
    have hA0_0 := hI0.2
    obtain ⟨a0, hx0⟩ := get_some (l := ix) (i := k0) hk0
    refine sn tt_ok [2, 3, 7, 8, 9, 10] [] (pe 0 (av_bool (decide_eq_true (p := ((k0 : Nat) : Int) < (ix.length : Int)) (by omega))) p0) ?_
    refine awp_seq ?_
    refine ckT ?_
    refine awp_skip ?_
    refine awp_seq ?_
    refine awp_block ?_
    refine tn tt_ok [2, 3, 5, 7, 8, 9] [5] (pn 0 hx0 p0) ?_
    refine tu tt_ok [(5, .p 5 0)] [] [(5, [.s a0.1, .i a0.2.1.1, .i a0.2.1.2.1, .s a0.2.1.2.2, .o 960 a0.2.2])] [] (pc 2 (cloneInt_a a0.2.2) p0) ?_
    refine wT 3 0 (.own true 147201) s0 (fun hw3 hl4 => ?_)
    refine ru tt_ok [(3, .one (.slc (.own true 1280) 5 ((eL s0) ++ [[.s a0.1, .i a0.2.1.1, .i a0.2.1.2.1, .s a0.2.1.2.2, .h a0.2.2]])))] [3, 5] [] [5] (pa s0 [a0] p0) ?_
    refine eqn [(3, .o 1280 (s0 ++ [a0]))] [3] [] [] (by rw [show ((eL s0) ++ [[.s a0.1, .i a0.2.1.1, .i a0.2.1.2.1, .s a0.2.1.2.2, .h a0.2.2]]) = (eL (s0 ++ [a0])) from app_eL (rfl) (rfl)]; first | done | kernel_rfl) ?_
    refine rn tt_ok [2, 3, 7, 8, 9] [] (pe 0 (av_i (wrap_succ k0 (by omega))) p0) ?_
    exact Exists.intro (s0 ++ [a0]) (And.intro (weak_sf [(1280, 147201)] (by kernel_rfl)) ⟨forL_next hx0 (rfl) hI0.1, by first | omega | (simp; omega) | simp⟩)
  ·
    have hA0_0 := hI0.2
    refine sn tt_ok [2, 3, 7, 8, 9, 10] [] (pe 0 (av_bool (decide_eq_false (p := ((k0 : Nat) : Int) < (ix.length : Int)) (by omega))) p0) ?_
    refine awp_seq ?_
    refine ckF ?_
    refine awp_exit ?_
    exact Exists.intro _ (And.intro (weak_sf [(147201, 147351)] (by kernel_rfl)) (forL_end hk0 (rfl) hI0.1))
  ·
    refine sn tt_ok [2] [] (p0) ?_
    refine awp_ret ?_
    exact po0 [] (on_b hD0 (rfl))
def implpostingAt_1 (p : PostingD) (q0 : ByteArray) (q1 : ValueD) : Bool := ((p.1.toList == q0.toList) && ((p.2.1.1 == q1.1) && ((p.2.1.2.1 == q1.2.1) && ((p.2.1.2.2.toList == q1.2.2.toList) && true))))
theorem implpostingAt_1_a (p : PostingD) (q0 : ByteArray) (q1 : ValueD) : ACalls Try.prog 73 [.a [.s p.1, .i p.2.1.1, .i p.2.1.2.1, .s p.2.1.2.2, .h p.2.2], .one (.rptr .sh [.s q0]), .one (.rptr .sh [.i q1.1, .i q1.2.1, .s q1.2.2])] (.b (implpostingAt_1 p q0 q1)) := by
  refine en tt_ok Try.func73 fun w0 F0 hG => ?_
  refine sn tt_ok [1, 2, 3, 4] [3] (p0) ?_
  refine awp_seq ?_
  refine mz [(3, .p 3 0), (4, .b false)] [0] [(3, [.s p.1, .i p.2.1.1, .i p.2.1.2.1, .s p.2.1.2.2, .h p.2.2])] [] ?_
  refine jn [(4, .b ((p.1.toList == q0.toList) && ((p.2.1.1 == q1.1) && ((p.2.1.2.1 == q1.2.1) && ((p.2.1.2.2.toList == q1.2.2.toList) && true)))))] [1, 2, 3, 4] [] [3] (p.1.toList == q0.toList) (fun h1 => ?_) (fun h1 => ?_) ?_
  ·
    refine rn tt_ok [4] [] (pt 3 h1 p0) ?_
    exact ⟨rfl, weak_fit (by rw [h1]; first | done | kernel_rfl)⟩
  ·
    refine rn tt_ok [4] [] (pf 3 h1 p0) ?_
    exact ⟨rfl, weak_fit (by rw [h1]; first | done | kernel_rfl)⟩
  refine awp_ret ?_
  exact pb [] (show implpostingAt_1 p q0 q1 = ((p.1.toList == q0.toList) && ((p.2.1.1 == q1.1) && ((p.2.1.2.1 == q1.2.1) && ((p.2.1.2.2.toList == q1.2.2.toList) && true)))) from rfl)
def slicesIndexFunc_Posting_implpostingAt_1_f0 (c0 : ByteArray) (c1 : ValueD) (k0 : Nat) (a0 : PostingD) (_ : Unit) : Rd (Int) (Unit) (Unit) := (bif (implpostingAt_1 a0 c0 c1) then (.ret ((k0 : Nat) : Int)) else (.next ()))
def slicesIndexFunc_Posting_implpostingAt_1_e0 (_ : Nat) (_ : Unit) : Unit := ()
def slicesIndexFunc_Posting_implpostingAt_1 (s_ : (List PostingD)) (c0 : ByteArray) (c1 : ValueD) : Int := (Out.on (forL (slicesIndexFunc_Posting_implpostingAt_1_f0 c0 c1) slicesIndexFunc_Posting_implpostingAt_1_e0 s_ 0 ()) (fun _ => -1))
theorem slicesIndexFunc_Posting_implpostingAt_1_ix (s_ : (List PostingD)) (c0 : ByteArray) (c1 : ValueD) : slicesIndexFunc_Posting_implpostingAt_1 s_ c0 c1 = ixF (fun a => implpostingAt_1 a c0 c1) s_ := idx_eq (fun _ _ _ => rfl) s_
theorem slicesIndexFunc_Posting_implpostingAt_1_bd (s_ : (List PostingD)) (c0 : ByteArray) (c1 : ValueD) : -1 ≤ slicesIndexFunc_Posting_implpostingAt_1 s_ c0 c1 ∧ slicesIndexFunc_Posting_implpostingAt_1 s_ c0 c1 < (List.length s_ : Int) := by rw [slicesIndexFunc_Posting_implpostingAt_1_ix]; exact ixF_bd _ _
theorem slicesIndexFunc_Posting_implpostingAt_1_a (s_ : (List PostingD)) (c0 : ByteArray) (c1 : ValueD) : ACalls Try.prog 59 [.h s_, .one (.fnr 73 [[.s c0], [.i c1.1, .i c1.2.1, .s c1.2.2]])] (.i (slicesIndexFunc_Posting_implpostingAt_1 s_ c0 c1)) := by
  refine en tt_ok Try.func59 fun w0 F0 hG => ?_
  refine sn tt_ok [0, 1, 4] [] (p0) ?_
  refine awp_seq ?_
  refine tn tt_ok [0, 1, 4, 7, 8] [] (pl 1 s_ p0) ?_
  refine mz [(4, .i 0), (7, .i (s_.length : Int)), (8, .i 0)] [] [] [] ?_
  refine wT 0 0 .sh s_ (fun hw1 hl2 => ?_)
  refine blL0 (slicesIndexFunc_Posting_implpostingAt_1_f0 c0 c1) slicesIndexFunc_Posting_implpostingAt_1_e0 s_ () (fun k0 _ => [(8, .i ((k0 : Nat) : Int))]) [8] (fun _ => []) [0, 1, 7, 8] (weak_fit (by kernel_rfl)) (fun k0 s0 hk0 hI0 => ?_) (fun k0 s0 hk0 hI0 => ?_) (fun y0 hD0 => ?_)
  ·
    obtain ⟨a0, hx0⟩ := get_some (l := s_) (i := k0) hk0
    refine sn tt_ok [0, 1, 4, 7, 8, 9] [] (pe 0 (av_bool (decide_eq_true (p := ((k0 : Nat) : Int) < (s_.length : Int)) (by omega))) p0) ?_
    refine awp_seq ?_
    refine ckT ?_
    refine awp_skip ?_
    refine awp_seq ?_
    refine awp_block ?_
    refine tn tt_ok [0, 1, 4, 5, 7, 8] [] (p0) ?_
    refine tu tt_ok [(5, .i ((k0 : Nat) : Int)), (16, .b (implpostingAt_1 a0 c0 c1))] [] [] [] (pn 3 hx0 (pc 5 (implpostingAt_1_a a0 c0 c1) p0)) ?_
    refine ck (implpostingAt_1 a0 c0 c1) (fun h3 => ?_) (fun h3 => ?_)
    ·
      refine sn tt_ok [0, 1, 4, 7, 8] [] (p0) ?_
      refine awp_ret ?_
      have hr4 : (forL (slicesIndexFunc_Posting_implpostingAt_1_f0 c0 c1) slicesIndexFunc_Posting_implpostingAt_1_e0 s_ 0 ()) = .ret ((k0 : Nat) : Int) := forL_ret hx0 (bif_t h3 (rfl)) hI0
      exact pi [] (on_r hr4)
    ·
      refine awp_skip ?_
      refine rn tt_ok [0, 1, 4, 7, 8] [] (pe 0 (av_i (wrap_succ k0 (by omega))) p0) ?_
      exact Exists.intro _ (And.intro (weak_fit (by kernel_rfl)) (forL_next hx0 (bif_f h3 (rfl)) hI0))
  ·
    refine sn tt_ok [0, 1, 4, 7, 8, 9] [] (pe 0 (av_bool (decide_eq_false (p := ((k0 : Nat) : Int) < (s_.length : Int)) (by omega))) p0) ?_
    refine awp_seq ?_
    refine ckF ?_
    refine awp_exit ?_
    exact Exists.intro _ (And.intro (weak_fit (by kernel_rfl)) (forL_end hk0 (rfl) hI0))
  ·
    refine sn tt_ok [4] [] (p0) ?_
    refine awp_ret ?_
    exact pi [] (on_b hD0 (rfl))
def implpostingAt (ix : (List PostingD)) (name : ByteArray) (v : ValueD) : Int := (slicesIndexFunc_Posting_implpostingAt_1 ix name v)
theorem implpostingAt_a (ix : (List PostingD)) (name : ByteArray) (v : ValueD) : ACalls Try.prog 34 [.h ix, .s name, .a [.i v.1, .i v.2.1, .s v.2.2]] (.i (implpostingAt ix name v)) := by
  refine en tt_ok Try.func34 fun w0 F0 hG => ?_
  refine sn tt_ok [0, 4, 5, 6] [4, 5] (p0) ?_
  refine tn tt_ok [6] [] (pc 2 (slicesIndexFunc_Posting_implpostingAt_1_a ix name v) p0) ?_
  refine awp_ret ?_
  exact pi [] (show implpostingAt ix name v = (slicesIndexFunc_Posting_implpostingAt_1 ix name v) from rfl)
def cmpisNaN_string (x : ByteArray) : Bool := (!(x.toList == x.toList))
theorem cmpisNaN_string_a (x : ByteArray) : ACalls Try.prog 96 [.s x] (.b (cmpisNaN_string x)) := by
  refine en tt_ok Try.func96 fun w0 F0 hG => ?_
  refine sn tt_ok [0, 2] [] (p0) ?_
  refine tn tt_ok [2] [] (p0) ?_
  refine awp_ret ?_
  exact pb [] (show cmpisNaN_string x = (!(x.toList == x.toList)) from rfl)
def cmpCompare_string (x : ByteArray) (y_ : ByteArray) : Int := (bif (cmpisNaN_string x) then (bif (cmpisNaN_string y_) then 0 else -1) else (bif (cmpisNaN_string y_) then 1 else (bif (Op.bytesLess x.toList y_.toList) then -1 else (bif (!(Op.bytesLess x.toList y_.toList || x.toList == y_.toList)) then 1 else 0))))
theorem cmpCompare_string_a (x : ByteArray) (y_ : ByteArray) : ACalls Try.prog 62 [.s x, .s y_] (.i (cmpCompare_string x y_)) := by
  refine en tt_ok Try.func62 fun w0 F0 hG => ?_
  refine sn tt_ok [0, 1, 4] [] (p0) ?_
  refine tn tt_ok [0, 1, 4, 5] [] (pc 1 (cmpisNaN_string_a x) p0) ?_
  refine tu tt_ok [(4, .i 0), (5, .b (cmpisNaN_string x)), (6, .b (cmpisNaN_string y_))] [] [] [] (pc 1 (cmpisNaN_string_a y_) p0) ?_
  refine awp_seq ?_
  refine sn tt_ok [0, 1, 4, 6, 11] [] (p0) ?_
  refine ck (cmpisNaN_string x) (fun h1 => ?_) (fun h1 => ?_)
  ·
    refine awp_seq ?_
    refine tn tt_ok [0, 1, 4, 6, 12] [] (p0) ?_
    refine ck (cmpisNaN_string y_) (fun h2 => ?_) (fun h2 => ?_)
    ·
      refine tu tt_ok [] [5] [] [] (p0) ?_
      refine awp_ret ?_
      exact pi [] (bif_t h1 (bif_t h2 (rfl)))
    ·
      refine awp_skip ?_
      refine tu tt_ok [(4, .i (-1))] [4, 5] [] [] (p0) ?_
      refine awp_ret ?_
      exact pi [] (bif_t h1 (bif_f h2 (rfl)))
  ·
    refine awp_skip ?_
    refine awp_seq ?_
    refine tn tt_ok [0, 1, 4, 13] [] (p0) ?_
    refine ck (cmpisNaN_string y_) (fun h3 => ?_) (fun h3 => ?_)
    ·
      refine tu tt_ok [(4, .i 1)] [4, 5, 6] [] [] (p0) ?_
      refine awp_ret ?_
      exact pi [] (bif_f h1 (bif_t h3 (rfl)))
    ·
      refine awp_skip ?_
      refine awp_seq ?_
      refine tu tt_ok [(16, .b (Op.bytesLess x.toList y_.toList))] [5, 6] [] [] (p0) ?_
      refine ck (Op.bytesLess x.toList y_.toList) (fun h4 => ?_) (fun h4 => ?_)
      ·
        refine sn tt_ok [0, 1, 4] [] (p0) ?_
        refine awp_ret ?_
        exact pi [] (bif_f h1 (bif_f h3 (bif_t h4 (rfl))))
      ·
        refine awp_skip ?_
        refine awp_seq ?_
        refine sn tt_ok [4, 19] [] (p0) ?_
        refine ck (!(Op.bytesLess x.toList y_.toList || x.toList == y_.toList)) (fun h5 => ?_) (fun h5 => ?_)
        ·
          have h5n : (Op.bytesLess x.toList y_.toList || x.toList == y_.toList) = false := bnot_t h5
          have h5nl : (Op.bytesLess x.toList y_.toList) = false := or_l h5n
          have h5nr : (x.toList == y_.toList) = false := or_r h5n
          refine tn tt_ok [4] [] (p0) ?_
          refine awp_ret ?_
          exact pi [] (bif_f h1 (bif_f h3 (bif_f h4 (bif_t h5 (rfl)))))
        ·
          have h5n : (Op.bytesLess x.toList y_.toList || x.toList == y_.toList) = true := bnot_f h5
          refine awp_skip ?_
          refine tn tt_ok [4] [] (p0) ?_
          refine awp_ret ?_
          exact pi [] (bif_f h1 (bif_f h3 (bif_f h4 (bif_f h5 (rfl)))))
def cmpisNaN_int (x : Int) : Bool := (x != x)
theorem cmpisNaN_int_a (x : Int) : ACalls Try.prog 109 [.i x] (.b (cmpisNaN_int x)) := by
  refine en tt_ok Try.func109 fun w0 F0 hG => ?_
  refine sn tt_ok [0, 2] [] (p0) ?_
  refine tn tt_ok [2] [] (p0) ?_
  refine awp_ret ?_
  exact pb [] (show cmpisNaN_int x = (x != x) from rfl)
def cmpCompare_int (x : Int) (y_ : Int) : Int := (bif (cmpisNaN_int x) then (bif (cmpisNaN_int y_) then 0 else -1) else (bif (cmpisNaN_int y_) then 1 else (bif decide (x < y_) then -1 else (bif decide (x > y_) then 1 else 0))))
theorem cmpCompare_int_a (x : Int) (y_ : Int) : ACalls Try.prog 97 [.i x, .i y_] (.i (cmpCompare_int x y_)) := by
  refine en tt_ok Try.func97 fun w0 F0 hG => ?_
  refine sn tt_ok [0, 1, 4] [] (p0) ?_
  refine tn tt_ok [0, 1, 4, 5] [] (pc 1 (cmpisNaN_int_a x) p0) ?_
  refine tu tt_ok [(4, .i 0), (5, .b (cmpisNaN_int x)), (6, .b (cmpisNaN_int y_))] [] [] [] (pc 1 (cmpisNaN_int_a y_) p0) ?_
  refine awp_seq ?_
  refine sn tt_ok [0, 1, 4, 6, 11] [] (p0) ?_
  refine ck (cmpisNaN_int x) (fun h1 => ?_) (fun h1 => ?_)
  ·
    refine awp_seq ?_
    refine tn tt_ok [0, 1, 4, 6, 12] [] (p0) ?_
    refine ck (cmpisNaN_int y_) (fun h2 => ?_) (fun h2 => ?_)
    ·
      refine tu tt_ok [] [5] [] [] (p0) ?_
      refine awp_ret ?_
      exact pi [] (bif_t h1 (bif_t h2 (rfl)))
    ·
      refine awp_skip ?_
      refine tu tt_ok [(4, .i (-1))] [4, 5] [] [] (p0) ?_
      refine awp_ret ?_
      exact pi [] (bif_t h1 (bif_f h2 (rfl)))
  ·
    refine awp_skip ?_
    refine awp_seq ?_
    refine tn tt_ok [0, 1, 4, 13] [] (p0) ?_
    refine ck (cmpisNaN_int y_) (fun h3 => ?_) (fun h3 => ?_)
    ·
      refine tu tt_ok [(4, .i 1)] [4, 5, 6] [] [] (p0) ?_
      refine awp_ret ?_
      exact pi [] (bif_f h1 (bif_t h3 (rfl)))
    ·
      refine awp_skip ?_
      refine awp_seq ?_
      refine tu tt_ok [(16, .b (decide (x < y_)))] [5, 6] [] [] (p0) ?_
      refine ck (decide (x < y_)) (fun h4 => ?_) (fun h4 => ?_)
      ·
        have h4d := of_decide_eq_true h4
        refine sn tt_ok [0, 1, 4] [] (p0) ?_
        refine awp_ret ?_
        exact pi [] (bif_f h1 (bif_f h3 (bif_t h4 (rfl))))
      ·
        have h4d := of_decide_eq_false h4
        refine awp_skip ?_
        refine awp_seq ?_
        refine sn tt_ok [4, 19] [] (p0) ?_
        refine ck (decide (x > y_)) (fun h5 => ?_) (fun h5 => ?_)
        ·
          have h5d := of_decide_eq_true h5
          refine tn tt_ok [4] [] (p0) ?_
          refine awp_ret ?_
          exact pi [] (bif_f h1 (bif_f h3 (bif_f h4 (bif_t h5 (rfl)))))
        ·
          have h5d := of_decide_eq_false h5
          refine awp_skip ?_
          refine tn tt_ok [4] [] (p0) ?_
          refine awp_ret ?_
          exact pi [] (bif_f h1 (bif_f h3 (bif_f h4 (bif_f h5 (rfl)))))
def cmpOr_int_f0 (_ : Nat) (a0 : Int) (_ : Unit) : Rd (Int) (Unit) (Unit) := (bif (a0 != (0 : Int)) then (.ret a0) else (.next ()))
def cmpOr_int_e0 (_ : Nat) (_ : Unit) : Unit := ()
def cmpOr_int (vals : (List Int)) : Int := (Out.on (forL cmpOr_int_f0 cmpOr_int_e0 vals 0 ()) (fun _ => 0))
theorem cmpOr_int_a (vals : (List Int)) : ACalls Try.prog 61 [.h vals] (.i (cmpOr_int vals)) := by
  refine en tt_ok Try.func61 fun w0 F0 hG => ?_
  refine sn tt_ok [0, 2] [] (p0) ?_
  refine tn tt_ok [0, 2, 3] [] (p0) ?_
  refine awp_seq ?_
  refine tu tt_ok [(2, .i 0), (3, .i 0), (6, .h vals), (7, .i (vals.length : Int)), (8, .i 0)] [0] [] [] (pl 1 vals p0) ?_
  refine wT 6 0 .sh vals (fun hw1 hl2 => ?_)
  refine blL0 cmpOr_int_f0 cmpOr_int_e0 vals () (fun k0 _ => [(8, .i ((k0 : Nat) : Int))]) [8] (fun _ => []) [6, 7, 8] (weak_fit (by kernel_rfl)) (fun k0 s0 hk0 hI0 => ?_) (fun k0 s0 hk0 hI0 => ?_) (fun y0 hD0 => ?_)
  ·
    obtain ⟨a0, hx0⟩ := get_some (l := vals) (i := k0) hk0
    refine sn tt_ok [2, 3, 6, 7, 8, 9] [] (pe 0 (av_bool (decide_eq_true (p := ((k0 : Nat) : Int) < (vals.length : Int)) (by omega))) p0) ?_
    refine awp_seq ?_
    refine ckT ?_
    refine awp_skip ?_
    refine awp_seq ?_
    refine awp_block ?_
    refine tu tt_ok [(5, .i a0)] [] [] [] (pn 0 hx0 p0) ?_
    refine sn tt_ok [2, 3, 5, 6, 7, 8, 14] [] (p0) ?_
    refine ck (a0 != (0 : Int)) (fun h3 => ?_) (fun h3 => ?_)
    ·
      have h3d := ne_of_bne h3
      refine tn tt_ok [2, 3, 6, 7, 8] [] (p0) ?_
      refine awp_ret ?_
      have hr4 : (forL cmpOr_int_f0 cmpOr_int_e0 vals 0 ()) = .ret a0 := forL_ret hx0 (bif_t h3 (rfl)) hI0
      exact pi [] (on_r hr4)
    ·
      have h3d := eq_of_bne h3
      refine awp_skip ?_
      refine qn tt_ok [2, 3, 6, 7, 8] [] (pe 0 (av_i (wrap_succ k0 (by omega))) p0) ?_
      exact Exists.intro _ (And.intro (weak_fit (by kernel_rfl)) (forL_next hx0 (bif_f h3 (rfl)) hI0))
  ·
    refine sn tt_ok [2, 3, 6, 7, 8, 9] [] (pe 0 (av_bool (decide_eq_false (p := ((k0 : Nat) : Int) < (vals.length : Int)) (by omega))) p0) ?_
    refine awp_seq ?_
    refine ckF ?_
    refine awp_exit ?_
    exact Exists.intro _ (And.intro (weak_fit (by kernel_rfl)) (forL_end hk0 (rfl) hI0))
  ·
    refine sn tt_ok [2] [] (p0) ?_
    refine awp_ret ?_
    exact pi [] (on_b hD0 (rfl))
def implCompareValues (a_ : ValueD) (b : ValueD) : Int := (cmpOr_int [(cmpCompare_int a_.1 b.1), (cmpCompare_int a_.2.1 b.2.1), (cmpCompare_string a_.2.2 b.2.2)])
theorem implCompareValues_a (a_ : ValueD) (b : ValueD) : ACalls Try.prog 63 [.a [.i a_.1, .i a_.2.1, .s a_.2.2], .a [.i b.1, .i b.2.1, .s b.2.2]] (.i (implCompareValues a_ b)) := by
  refine en tt_ok Try.func63 fun w0 F0 hG => ?_
  refine sn tt_ok [2, 3, 4] [2, 3] (p0) ?_
  refine tN tt_ok tt_mx [4] [] (pc 4 (cmpCompare_int_a a_.1 b.1) (pc 9 (cmpCompare_int_a a_.2.1 b.2.1) (pc 14 (cmpCompare_string_a a_.2.2 b.2.2) (pc 16 (cmpOr_int_a [(cmpCompare_int a_.1 b.1), (cmpCompare_int a_.2.1 b.2.1), (cmpCompare_string a_.2.2 b.2.2)]) p0)))) ?_
  refine awp_ret ?_
  exact pi [] (show implCompareValues a_ b = (cmpOr_int [(cmpCompare_int a_.1 b.1), (cmpCompare_int a_.2.1 b.2.1), (cmpCompare_string a_.2.2 b.2.2)]) from rfl)
def implAddToIndex_1 (p : PostingD) (q0 : AttrD) : Bool := decide ((cmpOr_int [(cmpCompare_string p.1 q0.1), (implCompareValues p.2.1 q0.2)]) > (0 : Int))
theorem implAddToIndex_1_a (p : PostingD) (q0 : AttrD) : ACalls Try.prog 60 [.a [.s p.1, .i p.2.1.1, .i p.2.1.2.1, .s p.2.1.2.2, .h p.2.2], .one (.rptr .sh [.s q0.1, .i q0.2.1, .i q0.2.2.1, .s q0.2.2.2])] (.b (implAddToIndex_1 p q0)) := by
  refine en tt_ok Try.func60 fun w0 F0 hG => ?_
  refine sn tt_ok [1, 2, 3] [2] (p0) ?_
  refine tN tt_ok tt_mx [3] [] (pc 4 (cmpCompare_string_a p.1 q0.1) (pc 9 (implCompareValues_a p.2.1 q0.2) (pc 11 (cmpOr_int_a [(cmpCompare_string p.1 q0.1), (implCompareValues p.2.1 q0.2)]) p0))) ?_
  refine awp_ret ?_
  exact pb [] (show implAddToIndex_1 p q0 = decide ((cmpOr_int [(cmpCompare_string p.1 q0.1), (implCompareValues p.2.1 q0.2)]) > (0 : Int)) from rfl)
def slicesIndexFunc_Posting_implAddToIndex_1_f0 (c0 : AttrD) (k0 : Nat) (a0 : PostingD) (_ : Unit) : Rd (Int) (Unit) (Unit) := (bif (implAddToIndex_1 a0 c0) then (.ret ((k0 : Nat) : Int)) else (.next ()))
def slicesIndexFunc_Posting_implAddToIndex_1_e0 (_ : Nat) (_ : Unit) : Unit := ()
def slicesIndexFunc_Posting_implAddToIndex_1 (s_ : (List PostingD)) (c0 : AttrD) : Int := (Out.on (forL (slicesIndexFunc_Posting_implAddToIndex_1_f0 c0) slicesIndexFunc_Posting_implAddToIndex_1_e0 s_ 0 ()) (fun _ => -1))
theorem slicesIndexFunc_Posting_implAddToIndex_1_ix (s_ : (List PostingD)) (c0 : AttrD) : slicesIndexFunc_Posting_implAddToIndex_1 s_ c0 = ixF (fun a => implAddToIndex_1 a c0) s_ := idx_eq (fun _ _ _ => rfl) s_
theorem slicesIndexFunc_Posting_implAddToIndex_1_bd (s_ : (List PostingD)) (c0 : AttrD) : -1 ≤ slicesIndexFunc_Posting_implAddToIndex_1 s_ c0 ∧ slicesIndexFunc_Posting_implAddToIndex_1 s_ c0 < (List.length s_ : Int) := by rw [slicesIndexFunc_Posting_implAddToIndex_1_ix]; exact ixF_bd _ _
theorem slicesIndexFunc_Posting_implAddToIndex_1_a (s_ : (List PostingD)) (c0 : AttrD) : ACalls Try.prog 59 [.h s_, .one (.fnr 60 [[.s c0.1, .i c0.2.1, .i c0.2.2.1, .s c0.2.2.2]])] (.i (slicesIndexFunc_Posting_implAddToIndex_1 s_ c0)) := by
  refine en tt_ok Try.func59 fun w0 F0 hG => ?_
  refine sn tt_ok [0, 1, 4] [] (p0) ?_
  refine awp_seq ?_
  refine tn tt_ok [0, 1, 4, 7, 8] [] (pl 1 s_ p0) ?_
  refine mz [(4, .i 0), (7, .i (s_.length : Int)), (8, .i 0)] [] [] [] ?_
  refine wT 0 0 .sh s_ (fun hw1 hl2 => ?_)
  refine blL0 (slicesIndexFunc_Posting_implAddToIndex_1_f0 c0) slicesIndexFunc_Posting_implAddToIndex_1_e0 s_ () (fun k0 _ => [(8, .i ((k0 : Nat) : Int))]) [8] (fun _ => []) [0, 1, 7, 8] (weak_fit (by kernel_rfl)) (fun k0 s0 hk0 hI0 => ?_) (fun k0 s0 hk0 hI0 => ?_) (fun y0 hD0 => ?_)
  ·
    obtain ⟨a0, hx0⟩ := get_some (l := s_) (i := k0) hk0
    refine sn tt_ok [0, 1, 4, 7, 8, 9] [] (pe 0 (av_bool (decide_eq_true (p := ((k0 : Nat) : Int) < (s_.length : Int)) (by omega))) p0) ?_
    refine awp_seq ?_
    refine ckT ?_
    refine awp_skip ?_
    refine awp_seq ?_
    refine awp_block ?_
    refine tn tt_ok [0, 1, 4, 5, 7, 8] [] (p0) ?_
    refine tu tt_ok [(5, .i ((k0 : Nat) : Int)), (16, .b (implAddToIndex_1 a0 c0))] [] [] [] (pn 3 hx0 (pc 5 (implAddToIndex_1_a a0 c0) p0)) ?_
    refine ck (implAddToIndex_1 a0 c0) (fun h3 => ?_) (fun h3 => ?_)
    ·
      refine sn tt_ok [0, 1, 4, 7, 8] [] (p0) ?_
      refine awp_ret ?_
      have hr4 : (forL (slicesIndexFunc_Posting_implAddToIndex_1_f0 c0) slicesIndexFunc_Posting_implAddToIndex_1_e0 s_ 0 ()) = .ret ((k0 : Nat) : Int) := forL_ret hx0 (bif_t h3 (rfl)) hI0
      exact pi [] (on_r hr4)
    ·
      refine awp_skip ?_
      refine rn tt_ok [0, 1, 4, 7, 8] [] (pe 0 (av_i (wrap_succ k0 (by omega))) p0) ?_
      exact Exists.intro _ (And.intro (weak_fit (by kernel_rfl)) (forL_next hx0 (bif_f h3 (rfl)) hI0))
  ·
    refine sn tt_ok [0, 1, 4, 7, 8, 9] [] (pe 0 (av_bool (decide_eq_false (p := ((k0 : Nat) : Int) < (s_.length : Int)) (by omega))) p0) ?_
    refine awp_seq ?_
    refine ckF ?_
    refine awp_exit ?_
    exact Exists.intro _ (And.intro (weak_fit (by kernel_rfl)) (forL_end hk0 (rfl) hI0))
  ·
    refine sn tt_ok [4] [] (p0) ?_
    refine awp_ret ?_
    exact pi [] (on_b hD0 (rfl))
def implAddToIndex_2 (id : Int) (q0 : FileD) : Bool := decide (id ≥ q0.1)
theorem implAddToIndex_2_a (id : Int) (q0 : FileD) : ACalls Try.prog 66 [.i id, .one (.rptr .sh [.i q0.1, .i q0.2.1, .b q0.2.2.1, .i q0.2.2.2.1, .h q0.2.2.2.2])] (.b (implAddToIndex_2 id q0)) := by
  refine en tt_ok Try.func66 fun w0 F0 hG => ?_
  refine sn tt_ok [0, 1, 3] [] (p0) ?_
  refine tn tt_ok [3] [] (p0) ?_
  refine awp_ret ?_
  exact pb [] (show implAddToIndex_2 id q0 = decide (id ≥ q0.1) from rfl)
def slicesIndexFunc_int_implAddToIndex_2_f0 (c0 : FileD) (k0 : Nat) (a0 : Int) (_ : Unit) : Rd (Int) (Unit) (Unit) := (bif (implAddToIndex_2 a0 c0) then (.ret ((k0 : Nat) : Int)) else (.next ()))
def slicesIndexFunc_int_implAddToIndex_2_e0 (_ : Nat) (_ : Unit) : Unit := ()
def slicesIndexFunc_int_implAddToIndex_2 (s_ : (List Int)) (c0 : FileD) : Int := (Out.on (forL (slicesIndexFunc_int_implAddToIndex_2_f0 c0) slicesIndexFunc_int_implAddToIndex_2_e0 s_ 0 ()) (fun _ => -1))
theorem slicesIndexFunc_int_implAddToIndex_2_ix (s_ : (List Int)) (c0 : FileD) : slicesIndexFunc_int_implAddToIndex_2 s_ c0 = ixF (fun a => implAddToIndex_2 a c0) s_ := idx_eq (fun _ _ _ => rfl) s_
theorem slicesIndexFunc_int_implAddToIndex_2_bd (s_ : (List Int)) (c0 : FileD) : -1 ≤ slicesIndexFunc_int_implAddToIndex_2 s_ c0 ∧ slicesIndexFunc_int_implAddToIndex_2 s_ c0 < (List.length s_ : Int) := by rw [slicesIndexFunc_int_implAddToIndex_2_ix]; exact ixF_bd _ _
theorem slicesIndexFunc_int_implAddToIndex_2_a (s_ : (List Int)) (c0 : FileD) : ACalls Try.prog 65 [.h s_, .one (.fnr 66 [[.i c0.1, .i c0.2.1, .b c0.2.2.1, .i c0.2.2.2.1, .h c0.2.2.2.2]])] (.i (slicesIndexFunc_int_implAddToIndex_2 s_ c0)) := by
  refine en tt_ok Try.func65 fun w0 F0 hG => ?_
  refine sn tt_ok [0, 1, 4] [] (p0) ?_
  refine awp_seq ?_
  refine tn tt_ok [0, 1, 4, 7, 8] [] (pl 1 s_ p0) ?_
  refine mz [(4, .i 0), (7, .i (s_.length : Int)), (8, .i 0)] [] [] [] ?_
  refine wT 0 0 .sh s_ (fun hw1 hl2 => ?_)
  refine blL0 (slicesIndexFunc_int_implAddToIndex_2_f0 c0) slicesIndexFunc_int_implAddToIndex_2_e0 s_ () (fun k0 _ => [(8, .i ((k0 : Nat) : Int))]) [8] (fun _ => []) [0, 1, 7, 8] (weak_fit (by kernel_rfl)) (fun k0 s0 hk0 hI0 => ?_) (fun k0 s0 hk0 hI0 => ?_) (fun y0 hD0 => ?_)
  ·
    obtain ⟨a0, hx0⟩ := get_some (l := s_) (i := k0) hk0
    refine sn tt_ok [0, 1, 4, 7, 8, 9] [] (pe 0 (av_bool (decide_eq_true (p := ((k0 : Nat) : Int) < (s_.length : Int)) (by omega))) p0) ?_
    refine awp_seq ?_
    refine ckT ?_
    refine awp_skip ?_
    refine awp_seq ?_
    refine awp_block ?_
    refine tn tt_ok [0, 1, 4, 5, 7, 8] [] (p0) ?_
    refine tu tt_ok [(5, .i ((k0 : Nat) : Int)), (16, .b (implAddToIndex_2 a0 c0))] [] [] [] (pn 3 hx0 (pc 5 (implAddToIndex_2_a a0 c0) p0)) ?_
    refine ck (implAddToIndex_2 a0 c0) (fun h3 => ?_) (fun h3 => ?_)
    ·
      refine sn tt_ok [0, 1, 4, 7, 8] [] (p0) ?_
      refine awp_ret ?_
      have hr4 : (forL (slicesIndexFunc_int_implAddToIndex_2_f0 c0) slicesIndexFunc_int_implAddToIndex_2_e0 s_ 0 ()) = .ret ((k0 : Nat) : Int) := forL_ret hx0 (bif_t h3 (rfl)) hI0
      exact pi [] (on_r hr4)
    ·
      refine awp_skip ?_
      refine rn tt_ok [0, 1, 4, 7, 8] [] (pe 0 (av_i (wrap_succ k0 (by omega))) p0) ?_
      exact Exists.intro _ (And.intro (weak_fit (by kernel_rfl)) (forL_next hx0 (bif_f h3 (rfl)) hI0))
  ·
    refine sn tt_ok [0, 1, 4, 7, 8, 9] [] (pe 0 (av_bool (decide_eq_false (p := ((k0 : Nat) : Int) < (s_.length : Int)) (by omega))) p0) ?_
    refine awp_seq ?_
    refine ckF ?_
    refine awp_exit ?_
    exact Exists.intro _ (And.intro (weak_fit (by kernel_rfl)) (forL_end hk0 (rfl) hI0))
  ·
    refine sn tt_ok [4] [] (p0) ?_
    refine awp_ret ?_
    exact pi [] (on_b hD0 (rfl))
def implAddToIndex_f0 (f : FileD) (_ : Nat) (a0 : AttrD) (s0 : (List PostingD)) : Rd ((List PostingD)) ((List PostingD)) ((List PostingD)) := (lt (α := (List PostingD) × Int) (bif decide ((implpostingAt s0 a0.1 a0.2) < (0 : Int)) then (bif decide ((slicesIndexFunc_Posting_implAddToIndex_1 s0 a0) < (0 : Int)) then (insAt s0 (Int.toNat (s0.length : Int)) ((a0.1, a0.2, []) : PostingD), (s0.length : Int)) else (insAt s0 (Int.toNat (slicesIndexFunc_Posting_implAddToIndex_1 s0 a0)) ((a0.1, a0.2, []) : PostingD), (slicesIndexFunc_Posting_implAddToIndex_1 s0 a0))) else (s0, (implpostingAt s0 a0.1 a0.2))) (fun x3 => (bif decide ((slicesIndexFunc_int_implAddToIndex_2 ((nth x3.1 (Int.toNat x3.2)).2.2) f) < (0 : Int)) then (.next (List.set x3.1 (Int.toNat x3.2) ((nth x3.1 (Int.toNat x3.2)).1, ((nth x3.1 (Int.toNat x3.2)).2.1.1, (nth x3.1 (Int.toNat x3.2)).2.1.2.1, (nth x3.1 (Int.toNat x3.2)).2.1.2.2), (nth x3.1 (Int.toNat x3.2)).2.2 ++ [f.1]))) else (bif ((nth ((nth x3.1 (Int.toNat x3.2)).2.2) (Int.toNat (slicesIndexFunc_int_implAddToIndex_2 ((nth x3.1 (Int.toNat x3.2)).2.2) f))) != f.1) then (.next (List.set x3.1 (Int.toNat x3.2) ((nth x3.1 (Int.toNat x3.2)).1, ((nth x3.1 (Int.toNat x3.2)).2.1.1, (nth x3.1 (Int.toNat x3.2)).2.1.2.1, (nth x3.1 (Int.toNat x3.2)).2.1.2.2), insAt ((nth x3.1 (Int.toNat x3.2)).2.2) (Int.toNat (slicesIndexFunc_int_implAddToIndex_2 ((nth x3.1 (Int.toNat x3.2)).2.2) f)) f.1))) else (.next x3.1)))))
def implAddToIndex_e0 (_ : Nat) (s0 : (List PostingD)) : (List PostingD) := s0
def implAddToIndex (ix : (List PostingD)) (f : FileD) : (List PostingD) := (Out.on (forL (implAddToIndex_f0 f) implAddToIndex_e0 f.2.2.2.2 0 (implcopyIndex ix)) (fun y0 => y0))
theorem join_ix {K : Nat} {s0 : List PostingD} {a0 : AttrD} (h : IxB K s0) : JB K (bif decide ((implpostingAt s0 a0.1 a0.2) < (0 : Int)) then (bif decide ((slicesIndexFunc_Posting_implAddToIndex_1 s0 a0) < (0 : Int)) then (insAt s0 (Int.toNat (s0.length : Int)) ((a0.1, a0.2, []) : PostingD), (s0.length : Int)) else (insAt s0 (Int.toNat (slicesIndexFunc_Posting_implAddToIndex_1 s0 a0)) ((a0.1, a0.2, []) : PostingD), (slicesIndexFunc_Posting_implAddToIndex_1 s0 a0))) else (s0, (implpostingAt s0 a0.1 a0.2))) := by
  have h1 : -1 ≤ implpostingAt s0 a0.1 a0.2 ∧ implpostingAt s0 a0.1 a0.2 < (s0.length : Int) := slicesIndexFunc_Posting_implpostingAt_1_bd s0 a0.1 a0.2
  have h2 := slicesIndexFunc_Posting_implAddToIndex_1_bd s0 a0
  have hl := h.1
  have ins : ∀ z : Int, 0 ≤ z → z ≤ (s0.length : Int) → JB K (insAt s0 (Int.toNat z) ((a0.1, a0.2, []) : PostingD), z) := fun z z0 z1 => by
    obtain ⟨g1, g2⟩ := ixb_insAt (j := Int.toNat z) (a := a0.1) (b := a0.2) (ids := []) h (Nat.zero_le _)
    refine ⟨z0, ?_, g1, g2⟩
    show z < ((insAt s0 (Int.toNat z) ((a0.1, a0.2, []) : PostingD)).length : Int)
    rw [insAt_len (by omega)]
    omega
  cases hc : decide ((implpostingAt s0 a0.1 a0.2) < (0 : Int)) with
  | true =>
    rw [cond_true]
    cases hd : decide ((slicesIndexFunc_Posting_implAddToIndex_1 s0 a0) < (0 : Int)) with
    | true => exact ins _ (by omega) (by omega)
    | false => exact ins _ (by have := of_decide_eq_false hd; omega) (by omega)
  | false =>
    have := of_decide_eq_false hc
    exact ⟨by show 0 ≤ implpostingAt s0 a0.1 a0.2; omega, h1.2, Nat.le_succ_of_le hl, h.2⟩
theorem implAddToIndex_a (ix : (List PostingD)) (f : FileD) {K : Nat} (hb : IxB K ix) (hp : K + List.length f.2.2.2.2 ≤ 1000000000) : ACalls Try.prog 29 [.h ix, .a [.i f.1, .i f.2.1, .b f.2.2.1, .i f.2.2.2.1, .h f.2.2.2.2]] (.o 0 (implAddToIndex ix f)) := by
  refine en tt_ok Try.func29 fun w0 F0 hG => ?_
  refine sn tt_ok [0, 3, 4] [3] (p0) ?_
  refine tn tt_ok [3, 4, 5] [3] (pc 1 (implcopyIndex_a ix) p0) ?_
  refine awp_seq ?_
  refine tu tt_ok [(3, .p 3 0), (4, .e 0), (5, .o 768 (implcopyIndex ix)), (14, .h f.2.2.2.2), (15, .i (f.2.2.2.2.length : Int)), (16, .i 0)] [0, 1] [(3, [.i f.1, .i f.2.1, .b f.2.2.1, .i f.2.2.2.1, .h f.2.2.2.2])] [] (pl 2 f.2.2.2.2 p0) ?_
  refine wT 14 0 .sh f.2.2.2.2 (fun hw1 hl2 => ?_)
  refine blL1b (implAddToIndex_f0 f) implAddToIndex_e0 f.2.2.2.2 (implcopyIndex ix) (fun k0 s0 => [(5, .o 147202 s0), (16, .i ((k0 : Nat) : Int))]) [5, 16] (fun _ _ => []) [] (fun y0 => [(5, .o 147352 y0)]) [3, 5, 14, 15, 16] (fun _ => []) [3] (fun k0 s0 => IxB (K + k0) s0) (weak_sf [(768, 147202)] (by kernel_rfl)) (by rw [copyIx_id]; exact hb) (fun k0 s0 hk0 hI0 => ?_) (fun k0 s0 hk0 hI0 => ?_) (fun y0 hD0 => ?_)
  ·
    have hA0_0 := hI0.2
    obtain ⟨a0, hx0⟩ := get_some (l := f.2.2.2.2) (i := k0) hk0
    have hb0 := slicesIndexFunc_Posting_implAddToIndex_1_bd s0 a0
    have hp1 := hA0_0.1
    refine su tt_ok [(17, .b true)] [] [] [] (pe 0 (av_bool (decide_eq_true (p := ((k0 : Nat) : Int) < (f.2.2.2.2.length : Int)) (by omega))) p0) ?_
    refine awp_seq ?_
    refine ckT ?_
    refine awp_skip ?_
    refine awp_seq ?_
    refine awp_block ?_
    refine sn tt_ok [3, 4, 5, 7, 14, 15, 16] [3, 7] (pn 0 hx0 p0) ?_
    refine tn tt_ok [3, 4, 5, 7, 8, 14, 15, 16] [3, 7] (pc 5 (implpostingAt_a s0 a0.1 a0.2) p0) ?_
    refine awp_seq ?_
    refine tu tt_ok [(7, .p 7 0), (8, .i (implpostingAt s0 a0.1 a0.2)), (27, .b (decide ((implpostingAt s0 a0.1 a0.2) < (0 : Int))))] [17] [(7, [.s a0.1, .i a0.2.1, .i a0.2.2.1, .s a0.2.2.2])] [] (p0) ?_
    obtain ⟨x3, hx3⟩ : ∃ z : (List PostingD) × Int, (bif decide ((implpostingAt s0 a0.1 a0.2) < (0 : Int)) then (bif decide ((slicesIndexFunc_Posting_implAddToIndex_1 s0 a0) < (0 : Int)) then (insAt s0 (Int.toNat (s0.length : Int)) ((a0.1, a0.2, []) : PostingD), (s0.length : Int)) else (insAt s0 (Int.toNat (slicesIndexFunc_Posting_implAddToIndex_1 s0 a0)) ((a0.1, a0.2, []) : PostingD), (slicesIndexFunc_Posting_implAddToIndex_1 s0 a0))) else (s0, (implpostingAt s0 a0.1 a0.2))) = z := ⟨_, rfl⟩
    obtain ⟨hj1, hj2, hj3, hj4⟩ := hx3 ▸ join_ix (a0 := a0) hA0_0
    refine jn [(5, .o 448128 x3.1), (8, .i x3.2)] [5, 7, 8, 27] [] [7] (decide ((implpostingAt s0 a0.1 a0.2) < (0 : Int))) (fun h4 => ?_) (fun h4 => ?_) ?_
    ·
      have h4d := of_decide_eq_true h4
      refine ckt h4 ?_
      refine sn tt_ok [3, 4, 5, 7, 8, 14, 15, 16] [3, 7] (pc 2 (slicesIndexFunc_Posting_implAddToIndex_1_a s0 a0) p0) ?_
      refine awp_seq ?_
      refine tn tt_ok [3, 4, 5, 7, 8, 14, 15, 16, 32] [3, 7] (p0) ?_
      refine ck (decide ((slicesIndexFunc_Posting_implAddToIndex_1 s0 a0) < (0 : Int))) (fun h5 => ?_) (fun h5 => ?_)
      ·
        have h5d := of_decide_eq_true h5
        refine qu tt_ok [(8, .i (s0.length : Int))] [8, 27] [] [] (pl 1 s0 p0) ?_
        refine wT 5 0 (.own true 147202) s0 (fun hw6 hl7 => ?_)
        refine rn tt_ok [3, 4, 5, 8, 14, 15, 16] [3] (po 8 (.ins (eL (insAt s0 (Int.toNat (s0.length : Int)) ((a0.1, a0.2, []) : PostingD)))) (px (ob_ins (f := 64) (n := 5) insPosting_i) (px (ob_rng (lo := 0) (hi := (s0.length : Int)) (n := (List.length (eL s0))) (rng_len (by omega) (by omega))) (px (ob_len (n := (List.length (eL s0) + 1)) (len1_of (by omega))) (px (ob_eq (show .h (insAt s0 (Int.toNat (s0.length : Int)) ((a0.1, a0.2, []) : PostingD)) = .one (.slc .sh 5 (List.take (Int.toNat (s0.length : Int)) (eL s0) ++ [[.s a0.1, .i a0.2.1, .i a0.2.2.1, .s a0.2.2.2, .slc 1 []]] ++ List.drop (Int.toNat (s0.length : Int)) (eL s0))) from av_ins s0 (Int.toNat (s0.length : Int)) ((a0.1, a0.2, []) : PostingD))) p0))))) ?_
        obtain rfl : x3 = (insAt s0 (Int.toNat (s0.length : Int)) ((a0.1, a0.2, []) : PostingD), (s0.length : Int)) := hx3.symm.trans (show (bif decide ((implpostingAt s0 a0.1 a0.2) < (0 : Int)) then (bif decide ((slicesIndexFunc_Posting_implAddToIndex_1 s0 a0) < (0 : Int)) then (insAt s0 (Int.toNat (s0.length : Int)) ((a0.1, a0.2, []) : PostingD), (s0.length : Int)) else (insAt s0 (Int.toNat (slicesIndexFunc_Posting_implAddToIndex_1 s0 a0)) ((a0.1, a0.2, []) : PostingD), (slicesIndexFunc_Posting_implAddToIndex_1 s0 a0))) else (s0, (implpostingAt s0 a0.1 a0.2))) = (insAt s0 (Int.toNat (s0.length : Int)) ((a0.1, a0.2, []) : PostingD), (s0.length : Int)) from bif_t h4 (bif_t h5 (rfl)))
        exact ⟨rfl, weak_sf [(2752, 448128)] (by kernel_rfl)⟩
      ·
        have h5d := of_decide_eq_false h5
        refine awp_skip ?_
        refine wT 5 0 (.own true 147202) s0 (fun hw8 hl9 => ?_)
        refine qu tt_ok [(5, .o 2752 (insAt s0 (Int.toNat (slicesIndexFunc_Posting_implAddToIndex_1 s0 a0)) ((a0.1, a0.2, []) : PostingD))), (8, .i (slicesIndexFunc_Posting_implAddToIndex_1 s0 a0))] [5, 7, 8, 27] [] [7] (po 8 (.ins (eL (insAt s0 (Int.toNat (slicesIndexFunc_Posting_implAddToIndex_1 s0 a0)) ((a0.1, a0.2, []) : PostingD)))) (px (ob_ins (f := 64) (n := 5) insPosting_i) (px (ob_rng (lo := 0) (hi := (slicesIndexFunc_Posting_implAddToIndex_1 s0 a0)) (n := (List.length (eL s0))) (rng_len (by omega) (by omega))) (px (ob_len (n := (List.length (eL s0) + 1)) (len1_of (by omega))) (px (ob_eq (show .h (insAt s0 (Int.toNat (slicesIndexFunc_Posting_implAddToIndex_1 s0 a0)) ((a0.1, a0.2, []) : PostingD)) = .one (.slc .sh 5 (List.take (Int.toNat (slicesIndexFunc_Posting_implAddToIndex_1 s0 a0)) (eL s0) ++ [[.s a0.1, .i a0.2.1, .i a0.2.2.1, .s a0.2.2.2, .slc 1 []]] ++ List.drop (Int.toNat (slicesIndexFunc_Posting_implAddToIndex_1 s0 a0)) (eL s0))) from av_ins s0 (Int.toNat (slicesIndexFunc_Posting_implAddToIndex_1 s0 a0)) ((a0.1, a0.2, []) : PostingD))) p0))))) ?_
        obtain rfl : x3 = (insAt s0 (Int.toNat (slicesIndexFunc_Posting_implAddToIndex_1 s0 a0)) ((a0.1, a0.2, []) : PostingD), (slicesIndexFunc_Posting_implAddToIndex_1 s0 a0)) := hx3.symm.trans (show (bif decide ((implpostingAt s0 a0.1 a0.2) < (0 : Int)) then (bif decide ((slicesIndexFunc_Posting_implAddToIndex_1 s0 a0) < (0 : Int)) then (insAt s0 (Int.toNat (s0.length : Int)) ((a0.1, a0.2, []) : PostingD), (s0.length : Int)) else (insAt s0 (Int.toNat (slicesIndexFunc_Posting_implAddToIndex_1 s0 a0)) ((a0.1, a0.2, []) : PostingD), (slicesIndexFunc_Posting_implAddToIndex_1 s0 a0))) else (s0, (implpostingAt s0 a0.1 a0.2))) = (insAt s0 (Int.toNat (slicesIndexFunc_Posting_implAddToIndex_1 s0 a0)) ((a0.1, a0.2, []) : PostingD), (slicesIndexFunc_Posting_implAddToIndex_1 s0 a0)) from bif_t h4 (bif_f h5 (rfl)))
        exact ⟨rfl, weak_sf [(2752, 448128)] (by kernel_rfl)⟩
    ·
      have h4d := of_decide_eq_false h4
      refine ckf h4 ?_
      refine awp_skip ?_
      obtain rfl : x3 = (s0, (implpostingAt s0 a0.1 a0.2)) := hx3.symm.trans (show (bif decide ((implpostingAt s0 a0.1 a0.2) < (0 : Int)) then (bif decide ((slicesIndexFunc_Posting_implAddToIndex_1 s0 a0) < (0 : Int)) then (insAt s0 (Int.toNat (s0.length : Int)) ((a0.1, a0.2, []) : PostingD), (s0.length : Int)) else (insAt s0 (Int.toNat (slicesIndexFunc_Posting_implAddToIndex_1 s0 a0)) ((a0.1, a0.2, []) : PostingD), (slicesIndexFunc_Posting_implAddToIndex_1 s0 a0))) else (s0, (implpostingAt s0 a0.1 a0.2))) = (s0, (implpostingAt s0 a0.1 a0.2)) from bif_f h4 (rfl))
      exact ⟨rfl, weak_sf [(147202, 448128)] (by kernel_rfl)⟩
    refine wT 5 0 (.own true 448128) x3.1 (fun hw11 hl12 => ?_)
    have hx10 := ng x3.1 (Int.toNat x3.2)
    have hx10j := hj4 _ (List.mem_of_getElem? hx10); have hx10b := slicesIndexFunc_int_implAddToIndex_2_bd ((nth x3.1 (Int.toNat x3.2)).2.2) f
    refine sn tt_ok [3, 4, 5, 9, 14, 15, 16] [3] (pG 2 x3.2 hx10 p0) ?_
    refine tn tt_ok [3, 4, 5, 9, 10, 14, 15, 16] [3] (pc 5 (slicesIndexFunc_int_implAddToIndex_2_a ((nth x3.1 (Int.toNat x3.2)).2.2) f) p0) ?_
    refine awp_block ?_
    refine tu tt_ok [(9, .one (.ept true 448128 5 (Int.toNat x3.2) 0 [.s ((nth x3.1 (Int.toNat x3.2)).1), .i ((nth x3.1 (Int.toNat x3.2)).2.1.1), .i ((nth x3.1 (Int.toNat x3.2)).2.1.2.1), .s ((nth x3.1 (Int.toNat x3.2)).2.1.2.2), .h ((nth x3.1 (Int.toNat x3.2)).2.2)])), (10, .i (slicesIndexFunc_int_implAddToIndex_2 ((nth x3.1 (Int.toNat x3.2)).2.2) f)), (53, .b (decide ((slicesIndexFunc_int_implAddToIndex_2 ((nth x3.1 (Int.toNat x3.2)).2.2) f) < (0 : Int))))] [8] [] [] (p0) ?_
    refine ck (decide ((slicesIndexFunc_int_implAddToIndex_2 ((nth x3.1 (Int.toNat x3.2)).2.2) f) < (0 : Int))) (fun h13 => ?_) (fun h13 => ?_)
    ·
      have h13d := of_decide_eq_true h13
      refine awp_raw 9 4 rfl rfl (fun v14 => ?_)
      have hl15 : List.length ((nth x3.1 (Int.toNat x3.2)).2.2) ≤ 1073741824 := wide_len (wide_snd (wide_snd (wide_get hx10 (hw11))))
      refine rU tt_ok tt_mx [(5, .one (.slc (.own true 448128) 5 (setRow (setRow (eL x3.1) (Int.toNat x3.2) 4 [.any]) (Int.toNat x3.2) 4 [.slc 1 ((eL ((nth x3.1 (Int.toNat x3.2)).2.2)) ++ [[.i f.1]])])))] [5, 9, 10, 53] [] [] (po 8 (.gh 60 59 5 [.s ((nth x3.1 (Int.toNat x3.2)).1), .i ((nth x3.1 (Int.toNat x3.2)).2.1.1), .i ((nth x3.1 (Int.toNat x3.2)).2.1.2.1), .s ((nth x3.1 (Int.toNat x3.2)).2.1.2.2), .h ((nth x3.1 (Int.toNat x3.2)).2.2)] (.no)) (px (ob_elem (el_of (i := (((Int.toNat x3.2) : Nat) : Int)) (by omega) rfl hx10)) (px (ob_eq (show .one (.raw v14) = .one (.raw v14) from rfl)) (pa ((nth x3.1 (Int.toNat x3.2)).2.2) [f.1] p0)))) ?_
      refine eqn [(5, .o 448128 (List.set x3.1 (Int.toNat x3.2) ((nth x3.1 (Int.toNat x3.2)).1, ((nth x3.1 (Int.toNat x3.2)).2.1.1, (nth x3.1 (Int.toNat x3.2)).2.1.2.1, (nth x3.1 (Int.toNat x3.2)).2.1.2.2), (nth x3.1 (Int.toNat x3.2)).2.2 ++ [f.1])))] [5] [] [] (by rw [show (PV.slc 1 ((eL ((nth x3.1 (Int.toNat x3.2)).2.2)) ++ [[.i f.1]])) = (PV.h ((nth x3.1 (Int.toNat x3.2)).2.2 ++ [f.1])) from congrArg (PV.slc 1) (app_eL (rfl) (rfl)), setRow_eL2 (o := 4) (ps := [.h ((nth x3.1 (Int.toNat x3.2)).2.2 ++ [f.1])]) (y := ((nth x3.1 (Int.toNat x3.2)).1, ((nth x3.1 (Int.toNat x3.2)).2.1.1, (nth x3.1 (Int.toNat x3.2)).2.1.2.1, (nth x3.1 (Int.toNat x3.2)).2.1.2.2), (nth x3.1 (Int.toNat x3.2)).2.2 ++ [f.1])) hx10 (Nat.le_of_ble_eq_true rfl) rfl rfl]; first | done | kernel_rfl) ?_
      refine rn tt_ok [3, 4, 5, 14, 15, 16] [3] (pe 0 (av_i (wrap_succ k0 (by omega))) p0) ?_
      exact Exists.intro (List.set x3.1 (Int.toNat x3.2) ((nth x3.1 (Int.toNat x3.2)).1, ((nth x3.1 (Int.toNat x3.2)).2.1.1, (nth x3.1 (Int.toNat x3.2)).2.1.2.1, (nth x3.1 (Int.toNat x3.2)).2.1.2.2), (nth x3.1 (Int.toNat x3.2)).2.2 ++ [f.1])) (And.intro (weak_sf [(448128, 147202)] (by kernel_rfl)) ⟨forL_next hx0 (lt_b hx3 (bif_t h13 (rfl))) hI0.1, (by first | exact ixb_set (K := K + k0) hj3 hj4 (by first | omega | (simp; omega) | (rw [insAt_lenU]; omega)) | exact ixb_keep (K := K + k0) hj3 hj4)⟩)
    ·
      have h13d := of_decide_eq_false h13
      have hl17 : List.length ((nth x3.1 (Int.toNat x3.2)).2.2) ≤ 1073741824 := wide_len (wide_snd (wide_snd (wide_get hx10 (hw11))))
      have hx16 := ng ((nth x3.1 (Int.toNat x3.2)).2.2) (Int.toNat (slicesIndexFunc_int_implAddToIndex_2 ((nth x3.1 (Int.toNat x3.2)).2.2) f))
      refine sN tt_ok tt_mx [3, 4, 5, 9, 10, 14, 15, 16, 67] [3] (pg 5 (slicesIndexFunc_int_implAddToIndex_2 ((nth x3.1 (Int.toNat x3.2)).2.2) f) hx16 p0) ?_
      refine ck ((nth ((nth x3.1 (Int.toNat x3.2)).2.2) (Int.toNat (slicesIndexFunc_int_implAddToIndex_2 ((nth x3.1 (Int.toNat x3.2)).2.2) f))) != f.1) (fun h18 => ?_) (fun h18 => ?_)
      ·
        have h18d := ne_of_bne h18
        refine mz [(67, .b ((nth ((nth x3.1 (Int.toNat x3.2)).2.2) (Int.toNat (slicesIndexFunc_int_implAddToIndex_2 ((nth x3.1 (Int.toNat x3.2)).2.2) f))) != f.1))] [53] [] [] ?_
        refine awp_raw 9 4 rfl rfl (fun v19 => ?_)
        refine rU tt_ok tt_mx [(5, .one (.slc (.own true 448128) 5 (setRow (setRow (eL x3.1) (Int.toNat x3.2) 4 [.any]) (Int.toNat x3.2) 4 [.h (insAt ((nth x3.1 (Int.toNat x3.2)).2.2) (Int.toNat (slicesIndexFunc_int_implAddToIndex_2 ((nth x3.1 (Int.toNat x3.2)).2.2) f)) f.1)])))] [5, 9, 10, 67] [] [] (po 9 (.gh 82 81 5 [.s ((nth x3.1 (Int.toNat x3.2)).1), .i ((nth x3.1 (Int.toNat x3.2)).2.1.1), .i ((nth x3.1 (Int.toNat x3.2)).2.1.2.1), .s ((nth x3.1 (Int.toNat x3.2)).2.1.2.2), .h ((nth x3.1 (Int.toNat x3.2)).2.2)] (.take true false (eL (insAt ((nth x3.1 (Int.toNat x3.2)).2.2) (Int.toNat (slicesIndexFunc_int_implAddToIndex_2 ((nth x3.1 (Int.toNat x3.2)).2.2) f)) f.1)))) (px (ob_elem (el_of (i := (((Int.toNat x3.2) : Nat) : Int)) (by omega) rfl hx10)) (px (ob_eq (show .one (.raw v19) = .one (.raw v19) from rfl)) (px (ob_take (insInt_a ((nth x3.1 (Int.toNat x3.2)).2.2) f.1 (i := (slicesIndexFunc_int_implAddToIndex_2 ((nth x3.1 (Int.toNat x3.2)).2.2) f)) (by omega) (by omega) (by omega))) (px (ob_flat (flat_eL ((nth x3.1 (Int.toNat x3.2)).2.2))) (px (ob_flat (flat_eL (insAt ((nth x3.1 (Int.toNat x3.2)).2.2) (Int.toNat (slicesIndexFunc_int_implAddToIndex_2 ((nth x3.1 (Int.toNat x3.2)).2.2) f)) f.1))) p0)))))) ?_
        refine eqn [(5, .o 448128 (List.set x3.1 (Int.toNat x3.2) ((nth x3.1 (Int.toNat x3.2)).1, ((nth x3.1 (Int.toNat x3.2)).2.1.1, (nth x3.1 (Int.toNat x3.2)).2.1.2.1, (nth x3.1 (Int.toNat x3.2)).2.1.2.2), insAt ((nth x3.1 (Int.toNat x3.2)).2.2) (Int.toNat (slicesIndexFunc_int_implAddToIndex_2 ((nth x3.1 (Int.toNat x3.2)).2.2) f)) f.1)))] [5] [] [] (by rw [setRow_eL2 (o := 4) (ps := [.h (insAt ((nth x3.1 (Int.toNat x3.2)).2.2) (Int.toNat (slicesIndexFunc_int_implAddToIndex_2 ((nth x3.1 (Int.toNat x3.2)).2.2) f)) f.1)]) (y := ((nth x3.1 (Int.toNat x3.2)).1, ((nth x3.1 (Int.toNat x3.2)).2.1.1, (nth x3.1 (Int.toNat x3.2)).2.1.2.1, (nth x3.1 (Int.toNat x3.2)).2.1.2.2), insAt ((nth x3.1 (Int.toNat x3.2)).2.2) (Int.toNat (slicesIndexFunc_int_implAddToIndex_2 ((nth x3.1 (Int.toNat x3.2)).2.2) f)) f.1)) hx10 (Nat.le_of_ble_eq_true rfl) rfl rfl]; first | done | kernel_rfl) ?_
        refine rn tt_ok [3, 4, 5, 14, 15, 16] [3] (pe 0 (av_i (wrap_succ k0 (by omega))) p0) ?_
        exact Exists.intro (List.set x3.1 (Int.toNat x3.2) ((nth x3.1 (Int.toNat x3.2)).1, ((nth x3.1 (Int.toNat x3.2)).2.1.1, (nth x3.1 (Int.toNat x3.2)).2.1.2.1, (nth x3.1 (Int.toNat x3.2)).2.1.2.2), insAt ((nth x3.1 (Int.toNat x3.2)).2.2) (Int.toNat (slicesIndexFunc_int_implAddToIndex_2 ((nth x3.1 (Int.toNat x3.2)).2.2) f)) f.1)) (And.intro (weak_sf [(448128, 147202)] (by kernel_rfl)) ⟨forL_next hx0 (lt_b hx3 (bif_f h13 (bif_t h18 (rfl)))) hI0.1, (by first | exact ixb_set (K := K + k0) hj3 hj4 (by first | omega | (simp; omega) | (rw [insAt_lenU]; omega)) | exact ixb_keep (K := K + k0) hj3 hj4)⟩)
      ·
        have h18d := eq_of_bne h18
        refine awp_skip ?_
        refine qn tt_ok [3, 4, 5, 14, 15, 16] [3] (pe 0 (av_i (wrap_succ k0 (by omega))) p0) ?_
        exact Exists.intro x3.1 (And.intro (weak_sf [(448128, 147202)] (by kernel_rfl)) ⟨forL_next hx0 (lt_b hx3 (bif_f h13 (bif_f h18 (rfl)))) hI0.1, (by first | exact ixb_set (K := K + k0) hj3 hj4 (by first | omega | (simp; omega) | (rw [insAt_lenU]; omega)) | exact ixb_keep (K := K + k0) hj3 hj4)⟩)
  ·
    have hA0_0 := hI0.2
    refine su tt_ok [(17, .b false)] [] [] [] (pe 0 (av_bool (decide_eq_false (p := ((k0 : Nat) : Int) < (f.2.2.2.2.length : Int)) (by omega))) p0) ?_
    refine awp_seq ?_
    refine ckF ?_
    refine awp_exit ?_
    exact Exists.intro _ (And.intro (weak_sf [(147202, 147352)] (by kernel_rfl)) (forL_end hk0 (rfl) hI0.1))
  ·
    refine sn tt_ok [4] [] (p0) ?_
    refine awp_ret ?_
    exact po0 [] (on_b hD0 (rfl))
def specCompareValues (a_ : ValueD) (b : ValueD) : Int := (bif decide (a_.1 < b.1) then -1 else (bif decide (a_.1 > b.1) then 1 else (bif decide (a_.2.1 < b.2.1) then -1 else (bif decide (a_.2.1 > b.2.1) then 1 else (bif (Op.bytesLess a_.2.2.toList b.2.2.toList) then -1 else (bif (!(Op.bytesLess a_.2.2.toList b.2.2.toList || a_.2.2.toList == b.2.2.toList)) then 1 else 0))))))
theorem specCompareValues_a (a_ : ValueD) (b : ValueD) : ACalls Try.prog 102 [.a [.i a_.1, .i a_.2.1, .s a_.2.2], .a [.i b.1, .i b.2.1, .s b.2.2]] (.i (specCompareValues a_ b)) := by
  refine en tt_ok Try.func102 fun w0 F0 hG => ?_
  refine sn tt_ok [2, 3, 4] [2, 3] (p0) ?_
  refine awp_seq ?_
  refine awp_block ?_
  refine tn tt_ok [2, 3, 4, 5] [2, 3] (p0) ?_
  refine ck (decide (a_.1 < b.1)) (fun h1 => ?_) (fun h1 => ?_)
  ·
    have h1d := of_decide_eq_true h1
    refine tu tt_ok [(4, .i (-1))] [0, 1] [] [] (p0) ?_
    refine awp_ret ?_
    exact pi [] (bif_t h1 (rfl))
  ·
    have h1d := of_decide_eq_false h1
    refine tu tt_ok [(2, .p 2 0), (3, .p 3 0), (4, .i 0), (11, .b (decide (a_.1 > b.1)))] [0, 1] [(2, [.i a_.1, .i a_.2.1, .s a_.2.2]), (3, [.i b.1, .i b.2.1, .s b.2.2])] [] (p0) ?_
    refine ck (decide (a_.1 > b.1)) (fun h2 => ?_) (fun h2 => ?_)
    ·
      have h2d := of_decide_eq_true h2
      refine sn tt_ok [4] [] (p0) ?_
      refine awp_ret ?_
      exact pi [] (bif_f h1 (bif_t h2 (rfl)))
    ·
      have h2d := of_decide_eq_false h2
      refine sn tt_ok [2, 3, 4, 17] [2, 3] (p0) ?_
      refine ck (decide (a_.2.1 < b.2.1)) (fun h3 => ?_) (fun h3 => ?_)
      ·
        have h3d := of_decide_eq_true h3
        refine tn tt_ok [4] [] (p0) ?_
        refine awp_ret ?_
        exact pi [] (bif_f h1 (bif_f h2 (bif_t h3 (rfl))))
      ·
        have h3d := of_decide_eq_false h3
        refine tn tt_ok [2, 3, 4, 23] [2, 3] (p0) ?_
        refine ck (decide (a_.2.1 > b.2.1)) (fun h4 => ?_) (fun h4 => ?_)
        ·
          have h4d := of_decide_eq_true h4
          refine tu tt_ok [(4, .i 1)] [2, 3, 4, 11] [] [2, 3] (p0) ?_
          refine awp_ret ?_
          exact pi [] (bif_f h1 (bif_f h2 (bif_f h3 (bif_t h4 (rfl)))))
        ·
          have h4d := of_decide_eq_false h4
          refine tu tt_ok [(29, .b (Op.bytesLess a_.2.2.toList b.2.2.toList))] [11] [] [] (p0) ?_
          refine ck (Op.bytesLess a_.2.2.toList b.2.2.toList) (fun h5 => ?_) (fun h5 => ?_)
          ·
            refine sn tt_ok [4] [] (p0) ?_
            refine awp_ret ?_
            exact pi [] (bif_f h1 (bif_f h2 (bif_f h3 (bif_f h4 (bif_t h5 (rfl))))))
          ·
            refine sn tt_ok [4, 35] [] (p0) ?_
            refine ck (!(Op.bytesLess a_.2.2.toList b.2.2.toList || a_.2.2.toList == b.2.2.toList)) (fun h6 => ?_) (fun h6 => ?_)
            ·
              have h6n : (Op.bytesLess a_.2.2.toList b.2.2.toList || a_.2.2.toList == b.2.2.toList) = false := bnot_t h6
              have h6nl : (Op.bytesLess a_.2.2.toList b.2.2.toList) = false := or_l h6n
              have h6nr : (a_.2.2.toList == b.2.2.toList) = false := or_r h6n
              refine tn tt_ok [4] [] (p0) ?_
              refine awp_ret ?_
              exact pi [] (bif_f h1 (bif_f h2 (bif_f h3 (bif_f h4 (bif_f h5 (bif_t h6 (rfl)))))))
            ·
              have h6n : (Op.bytesLess a_.2.2.toList b.2.2.toList || a_.2.2.toList == b.2.2.toList) = true := bnot_f h6
              refine awp_skip ?_
              refine tn tt_ok [4] [] (p0) ?_
              refine awp_ret ?_
              exact pi [] (bif_f h1 (bif_f h2 (bif_f h3 (bif_f h4 (bif_f h5 (bif_f h6 (rfl)))))))
def specl07Copy_f0 (_ : Nat) (a0 : PostingD) (s0 : (List PostingD)) : Rd ((List PostingD)) ((List PostingD)) ((List PostingD)) := (.next (s0 ++ [a0]))
def specl07Copy_e0 (_ : Nat) (s0 : (List PostingD)) : (List PostingD) := s0
def specl07Copy (ix : (List PostingD)) : (List PostingD) := (Out.on (forL specl07Copy_f0 specl07Copy_e0 ix 0 []) (fun y0 => y0))
theorem copyIxS_id (ix : List PostingD) : specl07Copy ix = ix := by
  unfold specl07Copy
  rw [forL_map (f := specl07Copy_f0) (e := specl07Copy_e0) (g := fun a : PostingD => a) (fun _ _ _ => rfl)]
  simp [Out.on, specl07Copy_e0]
theorem specl07Copy_a (ix : (List PostingD)) : ACalls Try.prog 68 [.h ix] (.o 0 (specl07Copy ix)) := by
  refine en tt_ok Try.func68 fun w0 F0 hG => ?_
  refine sn tt_ok [0, 2] [] (p0) ?_
  refine tn tt_ok [0, 2, 3] [] (p0) ?_
  refine awp_seq ?_
  refine tu tt_ok [(2, .e 0), (3, .one (.slc (.own true 320) 5 [])), (4, .i 0)] [] [] [] (p0) ?_
  refine wT 0 0 .sh ix (fun hw1 hl2 => ?_)
  refine blL1 specl07Copy_f0 specl07Copy_e0 ix [] (fun k0 s0 => [(3, .o 147202 s0), (4, .i ((k0 : Nat) : Int))]) [3, 4] (fun y0 => [(3, .o 147352 y0)]) [0, 3, 4] (fun k0 s0 => List.length s0 ≤ k0) (weak_sf [(320, 147202)] (by kernel_rfl)) (by simp) (fun k0 s0 hk0 hI0 => ?_) (fun k0 s0 hk0 hI0 => ?_) (fun y0 hD0 => ?_)
  ·
    have hA0_0 := hI0.2
    obtain ⟨a0, hx0⟩ := get_some (l := ix) (i := k0) hk0
    refine awp_seq ?_
    refine sn tt_ok [0, 2, 3, 4, 9] [] (pl 2 ix (pe 3 (av_bool (decide_eq_true (p := ((k0 : Nat) : Int) < (ix.length : Int)) (by omega))) p0)) ?_
    refine ckT ?_
    refine awp_skip ?_
    refine awp_seq ?_
    refine awp_block ?_
    have hl3 : List.length a0.2.2 ≤ 1073741824 := wide_len (wide_snd (wide_snd (wide_get hx0 (hw1))))
    refine wT 3 0 (.own true 147202) s0 (fun hw4 hl5 => ?_)
    refine qU tt_ok tt_mx [(3, .one (.slc (.own true 2048) 5 ((eL s0) ++ [[.s a0.1, .i a0.2.1.1, .i a0.2.1.2.1, .s a0.2.1.2.2, .slc 1 ([] ++ (eL a0.2.2))]])))] [3] [] [] (pn 3 hx0 (pn 8 hx0 (pn 14 hx0 (po 17 (.flat) (px (ob_len (n := (([] : List (List PV)).length + ((eL a0.2.2) : List (List PV)).length)) (len_of (rfl) (eL_length a0.2.2) (by first | omega | (simp only [List.length_cons, List.length_nil]; omega) | (simp; omega) | simp))) (px (ob_flat (flat_eL a0.2.2)) (px (ob_len (n := (((eL s0) : List (List PV)).length + ([[.s a0.1, .i a0.2.1.1, .i a0.2.1.2.1, .s a0.2.1.2.2, .slc 1 ([] ++ (eL a0.2.2))]] : List (List PV)).length)) (len_of (eL_length s0) (rfl) (by first | omega | (simp only [List.length_cons, List.length_nil]; omega) | (simp; omega) | simp))) p0))))))) ?_
    refine eqn [(3, .o 2048 (s0 ++ [a0]))] [3] [] [] (by rw [show ((eL s0) ++ [[.s a0.1, .i a0.2.1.1, .i a0.2.1.2.1, .s a0.2.1.2.2, .slc 1 ([] ++ (eL a0.2.2))]]) = (eL (s0 ++ [a0])) from app_eL (rfl) (rfl)]; first | done | kernel_rfl) ?_
    refine rn tt_ok [0, 2, 3, 4] [] (pe 1 (av_i (wrap_succ k0 (by omega))) p0) ?_
    exact Exists.intro (s0 ++ [a0]) (And.intro (weak_sf [(2048, 147202)] (by kernel_rfl)) ⟨forL_next hx0 (rfl) hI0.1, by first | omega | (simp; omega) | simp⟩)
  ·
    have hA0_0 := hI0.2
    refine awp_seq ?_
    refine sn tt_ok [0, 2, 3, 4, 9] [] (pl 2 ix (pe 3 (av_bool (decide_eq_false (p := ((k0 : Nat) : Int) < (ix.length : Int)) (by omega))) p0)) ?_
    refine ckF ?_
    refine awp_exit ?_
    exact Exists.intro _ (And.intro (weak_sf [(147202, 147352)] (by kernel_rfl)) (forL_end hk0 (rfl) hI0.1))
  ·
    refine sn tt_ok [2] [] (p0) ?_
    refine awp_ret ?_
    exact po0 [] (on_b hD0 (rfl))
def specl07PutId_f0 (n : Int) (k0 : Nat) (a0 : Int) (_ : Unit) : Rd ((List Int)) (Unit) (Int) := (bif decide (a0 < n) then (.next ()) else (.brk ((k0 : Nat) : Int)))
def specl07PutId_e0 (k0 : Nat) (_ : Unit) : Int := ((k0 : Nat) : Int)
def specl07PutId (list : (List Int)) (n : Int) : (List Int) := (Out.on (forL (specl07PutId_f0 n) specl07PutId_e0 list 0 ()) (fun y0 => (bif (decide (y0 < (list.length : Int)) && ((nth list (Int.toNat y0)) == n)) then list else List.take (Int.toNat y0) list ++ [n] ++ (List.drop (Int.toNat y0) list))))
theorem putI_len (l : List Int) (n : Int) : List.length (specl07PutId l n) ≤ List.length l + 1 := by
  unfold specl07PutId
  rw [brk_ix (p := fun a : Int => !(decide (a < n))) (f := specl07PutId_f0 n) (e := specl07PutId_e0) (fun k a s => by unfold specl07PutId_f0; cases decide (a < n) <;> rfl) (fun _ _ => rfl)]
  simp only [Out.on]
  generalize (_ && _) = c
  cases c with
  | true => exact Nat.le_succ _
  | false => simp; omega
theorem specl07PutId_a (list : (List Int)) (n : Int) (hp : list.length < 1073741824) : ACalls Try.prog 69 [.h list, .i n] (.h (specl07PutId list n)) := by
  refine en tt_ok Try.func69 fun w0 F0 hG => ?_
  refine sn tt_ok [0, 1, 4] [] (p0) ?_
  refine tn tt_ok [0, 1, 4, 5] [] (p0) ?_
  refine awp_seq ?_
  refine mz [(4, .e 0), (5, .i 0)] [] [] [] ?_
  refine wT 0 0 .sh list (fun hw1 hl2 => ?_)
  refine blL2 (specl07PutId_f0 n) specl07PutId_e0 list () (fun k0 _ => [(5, .i ((k0 : Nat) : Int))]) [5] (fun y0 => [(5, .i y0)]) [5] (fun y0 => 0 ≤ y0 ∧ y0 ≤ (list.length : Int)) (weak_fit (by kernel_rfl)) (fun k0 s0 hk0 hI0 => ?_) (fun k0 s0 hk0 hI0 => ?_) (fun y0 hD0 => ?_)
  ·
    obtain ⟨a0, hx0⟩ := get_some (l := list) (i := k0) hk0
    refine awp_seq ?_
    refine sn tt_ok [0, 1, 4, 5, 18] [] (pl 2 list (pe 3 (av_bool (decide_eq_true (p := ((k0 : Nat) : Int) < (list.length : Int)) (by omega))) (pn 7 hx0 p0))) ?_
    refine ck (decide (a0 < n)) (fun h3 => ?_) (fun h3 => ?_)
    ·
      have h3d := of_decide_eq_true h3
      refine awp_skip ?_
      refine awp_block ?_
      refine qn tt_ok [0, 1, 4, 5] [] (pe 1 (av_i (wrap_succ k0 (by omega))) p0) ?_
      exact Exists.intro _ (And.intro (weak_fit (by kernel_rfl)) (forL_next hx0 (bif_t h3 (rfl)) hI0))
    ·
      have h3d := of_decide_eq_false h3
      refine awp_exit ?_
      exact Exists.intro ((k0 : Nat) : Int) (And.intro (weak_fit (by kernel_rfl)) ⟨forL_brk hx0 (bif_f h3 (rfl)) hI0, by first | omega | (simp only [List.length_set]; omega)⟩)
  ·
    refine awp_seq ?_
    refine sn tt_ok [0, 1, 4, 5, 18] [] (pl 2 list (pe 3 (av_bool (decide_eq_false (p := ((k0 : Nat) : Int) < (list.length : Int)) (by omega))) p0)) ?_
    refine ckF ?_
    refine awp_exit ?_
    exact Exists.intro ((k0 : Nat) : Int) (And.intro (weak_fit (by kernel_rfl)) ⟨forL_end hk0 (rfl) hI0, by first | omega | (simp only [List.length_set]; omega)⟩)
  ·
    have hD0_0 := hD0.2
    refine awp_seq ?_
    refine awp_seq ?_
    refine jn [(32, .b (decide (y0 < (list.length : Int)) && ((nth list (Int.toNat y0)) == n)))] [] [] [] (decide (y0 < (list.length : Int))) (fun h4 => ?_) (fun h4 => ?_) ?_
    ·
      have h4d := of_decide_eq_true h4
      have hx5 := ng list (Int.toNat y0)
      refine rn tt_ok [0, 1, 4, 5, 32] [] (pl 2 list (pt 3 h4 (pg 7 y0 hx5 p0))) ?_
      exact ⟨rfl, weak_fit (by rw [h4]; first | done | kernel_rfl)⟩
    ·
      have h4d := of_decide_eq_false h4
      refine rn tt_ok [0, 1, 4, 5, 32] [] (pl 2 list (pf 3 h4 p0)) ?_
      exact ⟨rfl, weak_fit (by rw [h4]; first | done | kernel_rfl)⟩
    refine ck (decide (y0 < (list.length : Int)) && ((nth list (Int.toNat y0)) == n)) (fun h6 => ?_) (fun h6 => ?_)
    ·
      have h6l : (decide (y0 < (list.length : Int))) = true := and_l h6
      have h6ld := of_decide_eq_true h6l
      have h6r : (((nth list (Int.toNat y0)) == n)) = true := and_r h6
      have h6rd := eq_of_beq h6r
      refine sn tt_ok [0, 1, 4, 5] [] (p0) ?_
      refine awp_ret ?_
      exact ph0 [] (on_b hD0.1 (bif_t h6 (rfl)))
    ·
      refine awp_skip ?_
      have hl7 : List.length (List.take (Int.toNat y0) list) ≤ 1073741824 := wide_len (wide_take (Int.toNat y0) (hw1))
      refine su tt_ok [(6, .one (.slc (.own true 2624) 1 (([] ++ (eL (List.take (Int.toNat y0) list))) ++ [[.i n]])))] [1, 32] [] [] (pe 3 (av_take .sh 1 (Int.toNat y0) y0 list rfl) (px (ob_rng (lo := 0) (hi := y0) (n := (List.length (eL list))) (rng_of (by omega) (by omega) (by omega))) (po 4 (.flat) (px (ob_len (n := (([] : List (List PV)).length + ((eL (List.take (Int.toNat y0) list)) : List (List PV)).length)) (len_of (rfl) (eL_length (List.take (Int.toNat y0) list)) (by first | omega | (simp only [List.length_cons, List.length_nil]; omega) | (simp; omega) | simp))) (px (ob_flat (flat_eL (List.take (Int.toNat y0) list))) (px (ob_len (n := ((([] ++ (eL (List.take (Int.toNat y0) list))) : List (List PV)).length + ([[.i n]] : List (List PV)).length)) (by simp [eL_length]; omega)) p0)))))) ?_
      refine eqn [(6, .o 2624 (List.take (Int.toNat y0) list ++ [n]))] [6] [] [] (by rw [show (([] ++ (eL (List.take (Int.toNat y0) list))) ++ [[.i n]]) = (eL (List.take (Int.toNat y0) list ++ [n])) from app_eL (rfl) (rfl)]; first | done | kernel_rfl) ?_
      refine wT 6 0 (.own true 2624) (List.take (Int.toNat y0) list ++ [n]) (fun hw8 hl9 => ?_)
      have hl10 : List.length (List.drop (Int.toNat y0) list) ≤ 1073741824 := wide_len (wide_drop (Int.toNat y0) (hw1))
      refine su tt_ok [(4, .one (.slc (.own true 2944) 1 ((eL (List.take (Int.toNat y0) list ++ [n])) ++ (eL (List.drop (Int.toNat y0) list)))))] [0, 4, 5, 6] [] [] (pe 3 (av_drop .sh 1 (Int.toNat y0) y0 list rfl) (px (ob_rng (lo := y0) (hi := (((eL list) : List (List PV)).length : Int)) (n := (List.length (eL list))) (rng_all (by omega) (by omega))) (po 4 (.flat) (pa (List.take (Int.toNat y0) list ++ [n]) (List.drop (Int.toNat y0) list) (px (ob_flat (flat_eL (List.drop (Int.toNat y0) list))) p0))))) ?_
      refine eqn [(4, .o 2944 (List.take (Int.toNat y0) list ++ [n] ++ (List.drop (Int.toNat y0) list)))] [4] [] [] (by rw [show ((eL (List.take (Int.toNat y0) list ++ [n])) ++ (eL (List.drop (Int.toNat y0) list))) = (eL (List.take (Int.toNat y0) list ++ [n] ++ (List.drop (Int.toNat y0) list))) from app_eL (rfl) (rfl)]; first | done | kernel_rfl) ?_
      refine awp_ret ?_
      exact ph0 [2944] (on_b hD0.1 (bif_f h6 (rfl)))
def specl07Behind (p : PostingD) (name : ByteArray) (v : ValueD) : Bool := ((!(Op.bytesLess p.1.toList name.toList || p.1.toList == name.toList)) || ((p.1.toList == name.toList) && decide ((specCompareValues p.2.1 v) > (0 : Int))))
theorem specl07Behind_a (p : PostingD) (name : ByteArray) (v : ValueD) : ACalls Try.prog 70 [.a [.s p.1, .i p.2.1.1, .i p.2.1.2.1, .s p.2.1.2.2, .h p.2.2], .s name, .a [.i v.1, .i v.2.1, .s v.2.2]] (.b (specl07Behind p name v)) := by
  refine en tt_ok Try.func70 fun w0 F0 hG => ?_
  refine sn tt_ok [1, 3, 5, 6] [3, 5] (p0) ?_
  refine awp_seq ?_
  refine mz [(3, .p 3 0), (5, .p 5 0), (6, .b false)] [0, 2] [(3, [.s p.1, .i p.2.1.1, .i p.2.1.2.1, .s p.2.1.2.2, .h p.2.2]), (5, [.i v.1, .i v.2.1, .s v.2.2])] [] ?_
  refine jn [(6, .b ((!(Op.bytesLess p.1.toList name.toList || p.1.toList == name.toList)) || ((p.1.toList == name.toList) && decide ((specCompareValues p.2.1 v) > (0 : Int)))))] [1, 3, 5, 6] [] [3, 5] (!(Op.bytesLess p.1.toList name.toList || p.1.toList == name.toList)) (fun h1 => ?_) (fun h1 => ?_) ?_
  ·
    have h1n : (Op.bytesLess p.1.toList name.toList || p.1.toList == name.toList) = false := bnot_t h1
    have h1nl : (Op.bytesLess p.1.toList name.toList) = false := or_l h1n
    have h1nr : (p.1.toList == name.toList) = false := or_r h1n
    refine rn tt_ok [6] [] (pt 3 h1 p0) ?_
    exact ⟨rfl, weak_fit (by rw [h1]; first | done | kernel_rfl)⟩
  ·
    have h1n : (Op.bytesLess p.1.toList name.toList || p.1.toList == name.toList) = true := bnot_f h1
    refine awp_split (p.1.toList == name.toList) (fun h2 => ?_) (fun h2 => ?_)
    ·
      refine rn tt_ok [6] [] (pf 3 h1 (pt 8 h2 (pc 13 (specCompareValues_a p.2.1 v) p0))) ?_
      exact ⟨rfl, weak_fit (by rw [h1, h2]; first | done | kernel_rfl)⟩
    ·
      refine rn tt_ok [6] [] (pf 3 h1 (pf 8 h2 p0)) ?_
      exact ⟨rfl, weak_fit (by rw [h1, h2]; first | done | kernel_rfl)⟩
  refine awp_ret ?_
  exact pb [] (show specl07Behind p name v = ((!(Op.bytesLess p.1.toList name.toList || p.1.toList == name.toList)) || ((p.1.toList == name.toList) && decide ((specCompareValues p.2.1 v) > (0 : Int)))) from rfl)
def specAddToIndex_f1 (a0 : AttrD) (k1 : Nat) (a1 : PostingD) (_ : Unit) : Rd (Rd ((List PostingD)) ((List PostingD)) ((List PostingD))) (Unit) (Int) := (bif ((!(a1.1.toList == a0.1.toList)) || (!((a1.2.1.1 == a0.2.1) && ((a1.2.1.2.1 == a0.2.2.1) && ((a1.2.1.2.2.toList == a0.2.2.2.toList) && true))))) then (.next ()) else (.brk ((k1 : Nat) : Int)))
def specAddToIndex_e1 (k1 : Nat) (_ : Unit) : Int := ((k1 : Nat) : Int)
def specAddToIndex_f2 (a0 : AttrD) (k2 : Nat) (a2 : PostingD) (_ : Unit) : Rd (Rd ((List PostingD)) ((List PostingD)) ((List PostingD))) (Unit) (Int) := (bif (!(specl07Behind a2 a0.1 a0.2)) then (.next ()) else (.brk ((k2 : Nat) : Int)))
def specAddToIndex_e2 (k2 : Nat) (_ : Unit) : Int := ((k2 : Nat) : Int)
def specAddToIndex_f0 (f : FileD) (_ : Nat) (a0 : AttrD) (s0 : (List PostingD)) : Rd ((List PostingD)) ((List PostingD)) ((List PostingD)) := (Out.on (forL (specAddToIndex_f1 a0) specAddToIndex_e1 s0 0 ()) (fun y1 => (bif decide (y1 < (s0.length : Int)) then (.next (List.set s0 (Int.toNat y1) ((nth s0 (Int.toNat y1)).1, ((nth s0 (Int.toNat y1)).2.1.1, (nth s0 (Int.toNat y1)).2.1.2.1, (nth s0 (Int.toNat y1)).2.1.2.2), (specl07PutId ((nth s0 (Int.toNat y1)).2.2) f.1)))) else (Out.on (forL (specAddToIndex_f2 a0) specAddToIndex_e2 s0 0 ()) (fun y2 => (.next (List.take (Int.toNat y2) s0 ++ [(a0.1, a0.2, [f.1])] ++ (List.drop (Int.toNat y2) s0))))))))
def specAddToIndex_e0 (_ : Nat) (s0 : (List PostingD)) : (List PostingD) := s0
def specAddToIndex (ix : (List PostingD)) (f : FileD) : (List PostingD) := (Out.on (forL (specAddToIndex_f0 f) specAddToIndex_e0 f.2.2.2.2 0 (specl07Copy ix)) (fun y0 => y0))
theorem specAddToIndex_a (ix : (List PostingD)) (f : FileD) {K : Nat} (hb : IxB K ix) (hp : K + List.length f.2.2.2.2 ≤ 1000000000) : ACalls Try.prog 31 [.h ix, .a [.i f.1, .i f.2.1, .b f.2.2.1, .i f.2.2.2.1, .h f.2.2.2.2]] (.q 0 (specAddToIndex ix f)) := by
  refine en tt_ok Try.func31 fun w0 F0 hG => ?_
  refine sn tt_ok [0, 3, 4] [3] (p0) ?_
  refine tn tt_ok [0, 3, 4] [3] (pc 1 (specl07Copy_a ix) p0) ?_
  refine awp_seq ?_
  refine tu tt_ok [(0, .o 640 (specl07Copy ix)), (3, .p 3 0), (4, .e 0), (5, .i 0)] [0, 1] [(3, [.i f.1, .i f.2.1, .b f.2.2.1, .i f.2.2.2.1, .h f.2.2.2.2])] [] (p0) ?_
  refine wB 3 4 .sh f.2.2.2.2 (fun hw1 hl2 => ?_)
  refine blL1b (specAddToIndex_f0 f) specAddToIndex_e0 f.2.2.2.2 (specl07Copy ix) (fun k0 s0 => [(0, .q 147200 s0), (5, .i ((k0 : Nat) : Int))]) [0, 5] (fun _ _ => []) [] (fun y0 => [(0, .q 147350 y0)]) [0, 3, 5] (fun _ => []) [3] (fun k0 s0 => IxB (K + k0) s0) (weak_gf [] [] [640] [(640, 147200)] (by kernel_rfl)) (by rw [copyIxS_id]; exact hb) (fun k0 s0 hk0 hI0 => ?_) (fun k0 s0 hk0 hI0 => ?_) (fun y0 hD0 => ?_)
  ·
    have hA0_0 := hI0.2
    obtain ⟨a0, hx0⟩ := get_some (l := f.2.2.2.2) (i := k0) hk0
    have hp1 := hA0_0.1
    refine awp_seq ?_
    refine sn tt_ok [0, 3, 4, 5, 15] [3] (pl 3 f.2.2.2.2 (pe 4 (av_bool (decide_eq_true (p := ((k0 : Nat) : Int) < (f.2.2.2.2.length : Int)) (by omega))) p0)) ?_
    refine ckT ?_
    refine awp_skip ?_
    refine awp_seq ?_
    refine awp_block ?_
    refine tn tt_ok [0, 3, 4, 5, 6] [3, 6] (pn 3 hx0 p0) ?_
    refine tu tt_ok [(6, .p 6 0), (7, .i 0)] [] [(6, [.s a0.1, .i a0.2.1, .i a0.2.2.1, .s a0.2.2.2])] [] (p0) ?_
    refine awp_seq ?_
    refine wT 0 0 (.own false 147200) s0 (fun hw3 hl4 => ?_)
    refine blL2 (specAddToIndex_f1 a0) specAddToIndex_e1 s0 () (fun k1 _ => [(7, .i ((k1 : Nat) : Int))]) [7] (fun y1 => [(7, .i y1)]) [7] (fun y1 => 0 ≤ y1 ∧ y1 ≤ (s0.length : Int)) (weak_fit (by kernel_rfl)) (fun k1 s1 hk1 hI1 => ?_) (fun k1 s1 hk1 hI1 => ?_) (fun y1 hD1 => ?_)
    ·
      obtain ⟨a1, hx1⟩ := get_some (l := s0) (i := k1) hk1
      refine awp_seq ?_
      refine awp_seq ?_
      refine jn [(46, .b ((!(a1.1.toList == a0.1.toList)) || (!((a1.2.1.1 == a0.2.1) && ((a1.2.1.2.1 == a0.2.2.1) && ((a1.2.1.2.2.toList == a0.2.2.2.toList) && true))))))] [] [] [] (!(a1.1.toList == a0.1.toList)) (fun h5 => ?_) (fun h5 => ?_) ?_
      ·
        have h5n : (a1.1.toList == a0.1.toList) = false := bnot_t h5
        refine rU tt_ok tt_mx [(46, .b true)] [] [] [] (pl 2 s0 (pe 3 (av_bool (decide_eq_true (p := ((k1 : Nat) : Int) < (s0.length : Int)) (by omega))) (pN 7 hx1 (pt 12 h5 p0)))) ?_
        exact ⟨rfl, weak_fit (by rw [h5]; first | done | kernel_rfl)⟩
      ·
        have h5n : (a1.1.toList == a0.1.toList) = true := bnot_f h5
        refine rN tt_ok tt_mx [0, 3, 4, 5, 6, 7, 46] [3, 6] (pl 2 s0 (pe 3 (av_bool (decide_eq_true (p := ((k1 : Nat) : Int) < (s0.length : Int)) (by omega))) (pN 7 hx1 (pf 12 h5 (pN 16 hx1 p0))))) ?_
        exact ⟨rfl, weak_fit (by rw [h5]; first | done | kernel_rfl)⟩
      refine ck ((!(a1.1.toList == a0.1.toList)) || (!((a1.2.1.1 == a0.2.1) && ((a1.2.1.2.1 == a0.2.2.1) && ((a1.2.1.2.2.toList == a0.2.2.2.toList) && true))))) (fun h6 => ?_) (fun h6 => ?_)
      ·
        refine awp_skip ?_
        refine awp_block ?_
        refine rn tt_ok [0, 3, 4, 5, 6, 7] [3, 6] (pe 1 (av_i (wrap_succ k1 (by omega))) p0) ?_
        exact Exists.intro _ (And.intro (weak_fit (by kernel_rfl)) (forL_next hx1 (bif_t h6 (rfl)) hI1))
      ·
        have h6l : ((!(a1.1.toList == a0.1.toList))) = false := or_l h6
        have h6ln : (a1.1.toList == a0.1.toList) = true := bnot_f h6l
        have h6r : ((!((a1.2.1.1 == a0.2.1) && ((a1.2.1.2.1 == a0.2.2.1) && ((a1.2.1.2.2.toList == a0.2.2.2.toList) && true))))) = false := or_r h6
        have h6rn : ((a1.2.1.1 == a0.2.1) && ((a1.2.1.2.1 == a0.2.2.1) && ((a1.2.1.2.2.toList == a0.2.2.2.toList) && true))) = true := bnot_f h6r
        have h6rnl : ((a1.2.1.1 == a0.2.1)) = true := and_l h6rn
        have h6rnld := eq_of_beq h6rnl
        have h6rnr : (((a1.2.1.2.1 == a0.2.2.1) && ((a1.2.1.2.2.toList == a0.2.2.2.toList) && true))) = true := and_r h6rn
        have h6rnrl : ((a1.2.1.2.1 == a0.2.2.1)) = true := and_l h6rnr
        have h6rnrld := eq_of_beq h6rnrl
        have h6rnrr : (((a1.2.1.2.2.toList == a0.2.2.2.toList) && true)) = true := and_r h6rnr
        have h6rnrrl : ((a1.2.1.2.2.toList == a0.2.2.2.toList)) = true := and_l h6rnrr
        have h6rnrrr : (true) = true := and_r h6rnrr
        refine awp_exit ?_
        exact Exists.intro ((k1 : Nat) : Int) (And.intro (weak_fit (by kernel_rfl)) ⟨forL_brk hx1 (bif_f h6 (rfl)) hI1, by first | omega | (simp only [List.length_set]; omega)⟩)
    ·
      refine awp_seq ?_
      refine sU tt_ok tt_mx [(46, .b false)] [] [] [] (pl 2 s0 (pe 3 (av_bool (decide_eq_false (p := ((k1 : Nat) : Int) < (s0.length : Int)) (by omega))) p0)) ?_
      refine ckF ?_
      refine awp_exit ?_
      exact Exists.intro ((k1 : Nat) : Int) (And.intro (weak_fit (by kernel_rfl)) ⟨forL_end hk1 (rfl) hI1, by first | omega | (simp only [List.length_set]; omega)⟩)
    ·
      have hD1_0 := hD1.2
      refine awp_seq ?_
      refine sn tt_ok [0, 3, 4, 5, 6, 7, 52] [3, 6] (pl 2 s0 p0) ?_
      refine ck (decide (y1 < (s0.length : Int))) (fun h7 => ?_) (fun h7 => ?_)
      ·
        have h7d := of_decide_eq_true h7
        have hx8 := ng s0 (Int.toNat y1)
        have hx8j := hA0_0.2 _ (List.mem_of_getElem? hx8)
        refine tU tt_ok tt_mx [(0, .one (.slc (.own false 147200) 5 (setRow (eL s0) (Int.toNat y1) 4 [.h (specl07PutId ((nth s0 (Int.toNat y1)).2.2) f.1)])))] [0] [] [] (pG 4 y1 hx8 (pc 9 (specl07PutId_a ((nth s0 (Int.toNat y1)).2.2) f.1 (by omega)) (pG 10 y1 hx8 p0))) ?_
        refine eqn [(0, .q 147200 (List.set s0 (Int.toNat y1) ((nth s0 (Int.toNat y1)).1, ((nth s0 (Int.toNat y1)).2.1.1, (nth s0 (Int.toNat y1)).2.1.2.1, (nth s0 (Int.toNat y1)).2.1.2.2), (specl07PutId ((nth s0 (Int.toNat y1)).2.2) f.1))))] [0] [] [] (by rw [setRow_eL (y := ((nth s0 (Int.toNat y1)).1, ((nth s0 (Int.toNat y1)).2.1.1, (nth s0 (Int.toNat y1)).2.1.2.1, (nth s0 (Int.toNat y1)).2.1.2.2), (specl07PutId ((nth s0 (Int.toNat y1)).2.2) f.1))) hx8 rfl]; first | done | kernel_rfl) ?_
        refine awp_exit ?_
        refine rn tt_ok [0, 3, 4, 5] [3] (pe 1 (av_i (wrap_succ k0 (by omega))) p0) ?_
        exact Exists.intro (List.set s0 (Int.toNat y1) ((nth s0 (Int.toNat y1)).1, ((nth s0 (Int.toNat y1)).2.1.1, (nth s0 (Int.toNat y1)).2.1.2.1, (nth s0 (Int.toNat y1)).2.1.2.2), (specl07PutId ((nth s0 (Int.toNat y1)).2.2) f.1))) (And.intro (weak_fit (by kernel_rfl)) ⟨forL_next hx0 (on_b hD1.1 (bif_t h7 (rfl))) hI0.1, (by first | exact ixb_set (K := K + k0) (Nat.le_succ_of_le hA0_0.1) hA0_0.2 (by have hz := putI_len ((nth s0 (Int.toNat y1)).2.2) f.1; omega) | exact ixb_put (K := K + k0) hA0_0 (by simp))⟩)
      ·
        have h7d := of_decide_eq_false h7
        refine awp_skip ?_
        refine tu tt_ok [(7, .i 0)] [7] [] [] (p0) ?_
        refine awp_seq ?_
        refine blL2 (specAddToIndex_f2 a0) specAddToIndex_e2 s0 () (fun k2 _ => [(7, .i ((k2 : Nat) : Int))]) [7] (fun y2 => [(7, .i y2)]) [7] (fun y2 => 0 ≤ y2 ∧ y2 ≤ (s0.length : Int)) (weak_fit (by kernel_rfl)) (fun k2 s2 hk2 hI2 => ?_) (fun k2 s2 hk2 hI2 => ?_) (fun y2 hD2 => ?_)
        ·
          obtain ⟨a2, hx2⟩ := get_some (l := s0) (i := k2) hk2
          refine awp_seq ?_
          refine sN tt_ok tt_mx [0, 3, 4, 5, 6, 7, 80] [3, 6] (pl 2 s0 (pe 3 (av_bool (decide_eq_true (p := ((k2 : Nat) : Int) < (s0.length : Int)) (by omega))) (pN 7 hx2 (pc 13 (specl07Behind_a a2 a0.1 a0.2) p0)))) ?_
          refine ck (!(specl07Behind a2 a0.1 a0.2)) (fun h9 => ?_) (fun h9 => ?_)
          ·
            have h9n : (specl07Behind a2 a0.1 a0.2) = false := bnot_t h9
            refine awp_skip ?_
            refine awp_block ?_
            refine qn tt_ok [0, 3, 4, 5, 6, 7] [3, 6] (pe 1 (av_i (wrap_succ k2 (by omega))) p0) ?_
            exact Exists.intro _ (And.intro (weak_fit (by kernel_rfl)) (forL_next hx2 (bif_t h9 (rfl)) hI2))
          ·
            have h9n : (specl07Behind a2 a0.1 a0.2) = true := bnot_f h9
            refine awp_exit ?_
            exact Exists.intro ((k2 : Nat) : Int) (And.intro (weak_fit (by kernel_rfl)) ⟨forL_brk hx2 (bif_f h9 (rfl)) hI2, by first | omega | (simp only [List.length_set]; omega)⟩)
        ·
          refine awp_seq ?_
          refine sU tt_ok tt_mx [(80, .b false)] [] [] [] (pl 2 s0 (pe 3 (av_bool (decide_eq_false (p := ((k2 : Nat) : Int) < (s0.length : Int)) (by omega))) p0)) ?_
          refine ckF ?_
          refine awp_exit ?_
          exact Exists.intro ((k2 : Nat) : Int) (And.intro (weak_fit (by kernel_rfl)) ⟨forL_end hk2 (rfl) hI2, by first | omega | (simp only [List.length_set]; omega)⟩)
        ·
          have hD2_0 := hD2.2
          have hl10 : List.length (List.take (Int.toNat y2) s0) ≤ 1073741824 := wide_len (wide_take (Int.toNat y2) (hw3))
          refine awp_weak (weak_freeze [147200] rfl) ?_
          refine sU tt_ok tt_mx [(8, .one (.slc (.own false 6208) 5 (([] ++ (eL (List.take (Int.toNat y2) s0))) ++ [[.s a0.1, .i a0.2.1, .i a0.2.2.1, .s a0.2.2.2, .slc 1 [[.i f.1]]]])))] [6] [] [6] (pe 3 (av_take .sh 5 (Int.toNat y2) y2 s0 rfl) (px (ob_rng (lo := 0) (hi := y2) (n := (List.length (eL s0))) (rng_of (by omega) (by omega) (by omega))) (px (ob_len (n := (([] : List (List PV)).length + ((eL (List.take (Int.toNat y2) s0)) : List (List PV)).length)) (len_of (rfl) (eL_length (List.take (Int.toNat y2) s0)) (by first | omega | (simp only [List.length_cons, List.length_nil]; omega) | (simp; omega) | simp))) (px (ob_len (n := ((([] ++ (eL (List.take (Int.toNat y2) s0))) : List (List PV)).length + ([[.s a0.1, .i a0.2.1, .i a0.2.2.1, .s a0.2.2.2, .slc 1 [[.i f.1]]]] : List (List PV)).length)) (by simp [eL_length]; omega)) p0)))) ?_
          refine eqn [(8, .q 6208 (List.take (Int.toNat y2) s0 ++ [(a0.1, a0.2, [f.1])]))] [8] [] [] (by rw [show (([] ++ (eL (List.take (Int.toNat y2) s0))) ++ [[.s a0.1, .i a0.2.1, .i a0.2.2.1, .s a0.2.2.2, .slc 1 [[.i f.1]]]]) = (eL (List.take (Int.toNat y2) s0 ++ [(a0.1, a0.2, [f.1])])) from app_eL (rfl) (rfl)]; first | done | kernel_rfl) ?_
          refine wT 8 0 (.own false 6208) (List.take (Int.toNat y2) s0 ++ [(a0.1, a0.2, [f.1])]) (fun hw11 hl12 => ?_)
          have hl13 : List.length (List.drop (Int.toNat y2) s0) ≤ 1073741824 := wide_len (wide_drop (Int.toNat y2) (hw3))
          refine ru tt_ok [(0, .one (.slc (.own false 6528) 5 ((eL (List.take (Int.toNat y2) s0 ++ [(a0.1, a0.2, [f.1])])) ++ (eL (List.drop (Int.toNat y2) s0)))))] [0, 7, 8] [] [] (pe 3 (av_drop .sh 5 (Int.toNat y2) y2 s0 rfl) (px (ob_rng (lo := y2) (hi := (((eL s0) : List (List PV)).length : Int)) (n := (List.length (eL s0))) (rng_all (by omega) (by omega))) (pa (List.take (Int.toNat y2) s0 ++ [(a0.1, a0.2, [f.1])]) (List.drop (Int.toNat y2) s0) p0))) ?_
          refine eqn [(0, .q 6528 (List.take (Int.toNat y2) s0 ++ [(a0.1, a0.2, [f.1])] ++ (List.drop (Int.toNat y2) s0)))] [0] [] [] (by rw [show ((eL (List.take (Int.toNat y2) s0 ++ [(a0.1, a0.2, [f.1])])) ++ (eL (List.drop (Int.toNat y2) s0))) = (eL (List.take (Int.toNat y2) s0 ++ [(a0.1, a0.2, [f.1])] ++ (List.drop (Int.toNat y2) s0))) from app_eL (rfl) (rfl)]; first | done | kernel_rfl) ?_
          refine rn tt_ok [0, 3, 4, 5] [3] (pe 1 (av_i (wrap_succ k0 (by omega))) p0) ?_
          exact Exists.intro (List.take (Int.toNat y2) s0 ++ [(a0.1, a0.2, [f.1])] ++ (List.drop (Int.toNat y2) s0)) (And.intro (weak_sf [(6528, 147200)] (by kernel_rfl)) ⟨forL_next hx0 (on_b hD1.1 (bif_f h7 (on_b hD2.1 (rfl)))) hI0.1, (by first | exact ixb_set (K := K + k0) (Nat.le_succ_of_le hA0_0.1) hA0_0.2 (by have hz := putI_len ((nth s0 (Int.toNat y1)).2.2) f.1; omega) | exact ixb_put (K := K + k0) hA0_0 (by simp))⟩)
  ·
    have hA0_0 := hI0.2
    refine awp_seq ?_
    refine sn tt_ok [0, 3, 4, 5, 15] [3] (pl 3 f.2.2.2.2 (pe 4 (av_bool (decide_eq_false (p := ((k0 : Nat) : Int) < (f.2.2.2.2.length : Int)) (by omega))) p0)) ?_
    refine ckF ?_
    refine awp_exit ?_
    exact Exists.intro _ (And.intro (weak_sf [(147200, 147350)] (by kernel_rfl)) (forL_end hk0 (rfl) hI0.1))
  ·
    refine sn tt_ok [4] [] (p0) ?_
    refine awp_ret ?_
    exact pz [] (show specAddToIndex ix f = _ from on_b hD0 (rfl)) (fun z => .q 0 z)
end Go.Proofs.Ytiafgmepdgfpbaa
