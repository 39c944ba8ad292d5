/- Texts of this proof, put together by a program: Aia, Ixb, Aib, Ixc, Drd, Cha, Ckh, Enp, Vf, Su, Cfx, Cks, Chb, Ica, Inc, Chc, Chd, LCk, Chl, MCk. -/
import Derived.Test.YtiafgmepdgfpbaaGreatP5
import Derived.Test.YtiafgmepdgfpbaaGreatProg
import Derived.KernelRfl
import Derived.Outline
set_option linter.unusedVariables false
set_option linter.unusedSimpArgs false
namespace Go.Proofs.YtiafgmepdgfpbaaGreat
section
open Go.RowKit
open GoE (enc wide)
set_option maxRecDepth 100000 in
set_option maxHeartbeats 4000000 in
theorem QF (w : World) (oa : Option Addr) (m cap : Nat) (olds : List Value) (i vb voff vc : Nat) (vs : List Value) (hR : RowAt w 5 oa m cap olds) (hO : OneAt w 5 oa cap vb voff vs) (hi : i ≤ m) : Calls Tryz.prog 102 #[.slice oa m cap, .int .i64 (i : Int), .slice (some ⟨vb, voff, none⟩) 1 vc] w (JU w 5 i oa m cap olds vs) := by
  have hei := Yz Qa (t := 96) rfl
  have hu := (Yz Qa (t := 39) rfl).sli
  have hui := run_underlying (P := Tryz.prog) hu
  have hsz : ∀ w, (Go.sizeOf 96).run Tryz.prog w = .ok 5 w := fun w => Ai (Yz Qa (t := 96) rfl) w
  have hlim := hR.lim
  have hle := hR.le
  have hcm : cap ≤ 9223372036854775807 := by have := hR.cap; unfold maxLen at this; omega
  have mixed := Yc
  have hz1 : ¬ ((1 : Int) = 0) := by omega
  by_cases him : i = m
  · subst him
    obtain ⟨u, w', hrun, u', h1, hT⟩ := AW (vc := vc) hu hei (by decide) hR hO
    cases h1
    have hc : Calls Tryz.prog 102 #[.slice oa i cap, .int .i64 (i : Int), .slice (some ⟨vb, voff, none⟩) 1 vc] w (fun e w2 => e = .returned u ∧ w2 = w') := by
      clear hT hR hO hei
      go_enter Tryz.func102, Tryz.ntmps102
      cases oa with
      | none =>
        go_wp2_with (at_builtin; refine Lib.wpList_append_run _ rfl _ _ _ _ rfl _ _ rfl rfl _ _ (hrun _) ?_)
        all_goals (go_ret; exact ⟨rfl, rfl⟩)
      | some a =>
        obtain ⟨ab, ao, asp⟩ := a
        go_wp2_with (at_builtin; refine Lib.wpList_append_run _ rfl _ _ _ _ rfl _ _ rfl rfl _ _ (hrun _) ?_)
        all_goals (go_ret; exact ⟨rfl, rfl⟩)
    exact hc.mono (by rintro e w2 ⟨rfl, rfl⟩; exact ⟨_, rfl, hT⟩)
  rcases hR.row with ⟨_, h0, _⟩ | ⟨g, cur, e0, rfl, hg, hcs, htk⟩
  · omega
  have him2 : i < m := by omega
  have hz2 : ¬ ((i : Int) = (m : Int)) := by omega
  have hw1 : IntKind.i64.wrap ((m : Int) + 1) = (m : Int) + 1 := by rw [IntKind.wrap_i64]; omega
  have hw2 : IntKind.i64.wrap ((i : Int) + 1) = (i : Int) + 1 := by rw [IntKind.wrap_i64]; omega
  have htn : ((i : Int) + 1).toNat = i + 1 := by omega
  have htm : ((m : Int) + 1).toNat = m + 1 := by omega
  have hb1 : (0 : Int) ≤ (i : Int) + 1 := by omega
  have hb3 : (i : Int) ≤ (m : Int) + 1 := by omega
  have hbm : (0 : Int) ≤ (m : Int) + 1 := by omega
  have hin : i ≤ m := hi
  obtain ⟨hvw, arrA, tA, frA, hA, hposA⟩ := hO.block (by decide)
  have hcp : 0 < cap := by omega
  have hvg : vb ≠ g := hO.ne g rfl hcp
  have hov : ∀ o lb cb, (callFunc 136 #[.slice (some ⟨vb, voff, none⟩) 1 vc, .slice (some ⟨g, o, none⟩) lb cb]).run Tryz.prog w = .ok (.value (.bool false)) w := fun o lb cb => by
    rw [run_callFunc_extern Tryz.func136 (by kernel_rfl) (by kernel_rfl) (by kernel_rfl) (e := Extern.SlicesOverlaps.overlaps #[39, 39] #[4]) (by kernel_rfl), Rk w 39 4 96 hu 5 hsz ⟨vb, voff, none⟩ ⟨g, o, none⟩ 1 vc lb cb hvg hA hg (by omega) hposA]
    rfl
  by_cases hroom : m + 1 ≤ cap
  · obtain ⟨q1, q2, q3⟩ := Ov (vc := vc) (w := w) hu hei (by decide) hg hcs htk hR hO him2 hroom
    have hb2 : ¬ (cap = i + 1) := by omega
    have hb4 : ¬ (cap = i) := by omega
    have hng : ¬ ((cap : Int) < (m : Int) + 1) := by omega
    have hmc : ((m : Int) + 1) ≤ (cap : Int) := by omega
    have hc : Calls Tryz.prog 102 #[.slice (some ⟨g, 0, none⟩) m cap, .int .i64 (i : Int), .slice (some ⟨vb, voff, none⟩) 1 vc] w (fun e w2 => e = .returned (.slice (some ⟨g, 0, none⟩) (m + 1) cap) ∧ w2 = (w.drew.setCells g ((i + 1) * 5) (olds.drop (i * 5))).setCells g (i * 5) vs) := by
      obtain ⟨q4, q5, q6⟩ := Ov (vc := vc) (w := w.drew) hu hei (by decide) hg hcs htk ⟨hR.len, hR.row, hR.le, hR.cap, hR.lim, hR.ones⟩ ⟨hO.len, hO.cells, hO.ones, hO.ne⟩ him2 hroom
      clear hR hO hei q1 q2 q3 q6 hg hA hcs htk
      go_enter Tryz.func102, Tryz.ntmps102
      go_wp2_with (simp only [hov])
      go_region_law (refine Fb rfl _ _ 39 39 rfl (.slice (some ⟨g, (i + 1) * 5, none⟩) (m + 1 - (i + 1)) (cap - (i + 1))) (.slice (some ⟨g, i * 5, none⟩) (m + 1 - i) (cap - i)) (by simp [Act.eval, Act.put]) (by simp [Act.eval, Act.put]) (q4 _ _ _) ?_)
      go_wp2_with (at_builtin; refine Dd rfl _ _ 39 39 rfl (.slice (some ⟨g, i * 5, none⟩) (m + 1 - i) (cap - i)) _ (by simp [Act.eval, Act.put]) rfl (q5 _ rfl _ _) ?_)
      go_ret
      exact ⟨rfl, rfl⟩
    refine hc.mono ?_
    rintro e w2 ⟨rfl, rfl⟩
    obtain ⟨p1, p2, p3⟩ := V0 g (olds.drop (i * 5)) ((i + 1) * 5) w.drew
    exact q3 _ (Ch g _ _ w) p1 p2 p3
  obtain ⟨G, W1, hG1, hG2, qa, qb, qc, qd, o1, o2, o3⟩ := VH (vc := vc) (tn := 3) hu (by kernel_rfl) hei (by decide) hg hcs htk hR hO hvw him2 (by omega)
  have hG63 : G ≤ 9223372036854775807 := by unfold maxLen at hG2; omega
  have hGi : ¬ (G = i) := by omega
  have hGim : ¬ (G = i + 1) := by omega
  have hci : ¬ (cap = i) := by omega
  have hlt : (cap : Int) < (m : Int) + 1 := by omega
  have hw3 : IntKind.i64.wrap ((m : Int) + 1 - (i : Int)) = (m : Int) + 1 - (i : Int) := by rw [IntKind.wrap_i64]; omega
  have hii : (i : Int) ≤ (m : Int) := by omega
  have hqa : ∀ ty, (Builtin.append_ #[39, 3] ty #[.slice (some ⟨g, 0, none⟩) i cap, .int .i64 ((m : Int) + 1 - (i : Int))]).run Tryz.prog w = .ok (.slice (some ⟨w.heap.size, 0, none⟩) (m + 1) G) W1 := fun ty => qa ty _ (by omega)
  have hqb := qb W1 rfl
  have hqc := qc (W1.setCells w.heap.size (i * 5) vs).drew rfl
  have hc : Calls Tryz.prog 102 #[.slice (some ⟨g, 0, none⟩) m cap, .int .i64 (i : Int), .slice (some ⟨vb, voff, none⟩) 1 vc] w (fun e w2 => e = .returned (.slice (some ⟨w.heap.size, 0, none⟩) (m + 1) G) ∧ w2 = (W1.setCells w.heap.size (i * 5) vs).drew.setCells w.heap.size ((i + 1) * 5) (olds.drop (i * 5))) := by
    clear hR hO hei qa qb qc qd hg hA hcs htk hov hG1 hG2
    go_enter Tryz.func102, Tryz.ntmps102
    go_wp2_with (first
      | (at_builtin; refine Lib.wpList_append_run _ rfl _ _ _ _ rfl _ _ rfl rfl _ _ (hqa _) ?_)
      | (at_builtin; refine Dd rfl _ _ 39 39 rfl (.slice (some ⟨w.heap.size, i * 5, none⟩) (m + 1 - i) (G - i)) _ (by simp [Act.eval, Act.put]) rfl (hqb _ _) ?_))
    go_region_law (refine Fb rfl _ _ 39 39 rfl (.slice (some ⟨w.heap.size, (i + 1) * 5, none⟩) (m + 1 - (i + 1)) (G - (i + 1))) (.slice (some ⟨g, i * 5, none⟩) (m - i) (cap - i)) (by simp [Act.eval, Act.put]) (by simp [Act.eval, Act.put]) (hqc _ _ _) ?_)
    go_wp2
    go_ret
    exact ⟨rfl, rfl⟩
  refine hc.mono ?_
  rintro e w2 ⟨rfl, rfl⟩
  obtain ⟨p1, p2, p3⟩ := V0 w.heap.size vs (i * 5) W1
  exact qd _ rfl (p1.trans o1) (p2.trans o2) (p3.trans o3)
theorem Rl : AIns Tryz.prog 102 5 := ⟨by unfold Dt; kernel_rfl, by decide, fun w oa m cap olds i vb voff vc vs => QF w oa m cap olds i vb voff vc vs⟩
set_option maxRecDepth 100000 in
set_option maxHeartbeats 4000000 in
theorem CS (w : World) (oa : Option Addr) (m cap : Nat) (olds : List Value) (i vb voff vc : Nat) (vs : List Value) (hR : RowAt w 1 oa m cap olds) (hO : OneAt w 1 oa cap vb voff vs) (hi : i ≤ m) : Calls Tryz.prog 105 #[.slice oa m cap, .int .i64 (i : Int), .slice (some ⟨vb, voff, none⟩) 1 vc] w (JU w 1 i oa m cap olds vs) := by
  have hei := Yz Qa (t := 3) rfl
  have hu := (Yz Qa (t := 53) rfl).sli
  have hui := run_underlying (P := Tryz.prog) hu
  have hsz : ∀ w, (Go.sizeOf 3).run Tryz.prog w = .ok 1 w := fun w => Ai (Yz Qa (t := 3) rfl) w
  have hlim := hR.lim
  have hle := hR.le
  have hcm : cap ≤ 9223372036854775807 := by have := hR.cap; unfold maxLen at this; omega
  have mixed := Yc
  have hz1 : ¬ ((1 : Int) = 0) := by omega
  by_cases him : i = m
  · subst him
    obtain ⟨u, w', hrun, u', h1, hT⟩ := AW (vc := vc) hu hei (by decide) hR hO
    cases h1
    have hc : Calls Tryz.prog 105 #[.slice oa i cap, .int .i64 (i : Int), .slice (some ⟨vb, voff, none⟩) 1 vc] w (fun e w2 => e = .returned u ∧ w2 = w') := by
      clear hT hR hO hei
      go_enter Tryz.func105, Tryz.ntmps105
      cases oa with
      | none =>
        go_wp2_with (at_builtin; refine Lib.wpList_append_run _ rfl _ _ _ _ rfl _ _ rfl rfl _ _ (hrun _) ?_)
        all_goals (go_ret; exact ⟨rfl, rfl⟩)
      | some a =>
        obtain ⟨ab, ao, asp⟩ := a
        go_wp2_with (at_builtin; refine Lib.wpList_append_run _ rfl _ _ _ _ rfl _ _ rfl rfl _ _ (hrun _) ?_)
        all_goals (go_ret; exact ⟨rfl, rfl⟩)
    exact hc.mono (by rintro e w2 ⟨rfl, rfl⟩; exact ⟨_, rfl, hT⟩)
  rcases hR.row with ⟨_, h0, _⟩ | ⟨g, cur, e0, rfl, hg, hcs, htk⟩
  · omega
  have him2 : i < m := by omega
  have hz2 : ¬ ((i : Int) = (m : Int)) := by omega
  have hw1 : IntKind.i64.wrap ((m : Int) + 1) = (m : Int) + 1 := by rw [IntKind.wrap_i64]; omega
  have hw2 : IntKind.i64.wrap ((i : Int) + 1) = (i : Int) + 1 := by rw [IntKind.wrap_i64]; omega
  have htn : ((i : Int) + 1).toNat = i + 1 := by omega
  have htm : ((m : Int) + 1).toNat = m + 1 := by omega
  have hb1 : (0 : Int) ≤ (i : Int) + 1 := by omega
  have hb3 : (i : Int) ≤ (m : Int) + 1 := by omega
  have hbm : (0 : Int) ≤ (m : Int) + 1 := by omega
  have hin : i ≤ m := hi
  obtain ⟨hvw, arrA, tA, frA, hA, hposA⟩ := hO.block (by decide)
  have hcp : 0 < cap := by omega
  have hvg : vb ≠ g := hO.ne g rfl hcp
  have hov : ∀ o lb cb, (callFunc 138 #[.slice (some ⟨vb, voff, none⟩) 1 vc, .slice (some ⟨g, o, none⟩) lb cb]).run Tryz.prog w = .ok (.value (.bool false)) w := fun o lb cb => by
    rw [run_callFunc_extern Tryz.func138 (by kernel_rfl) (by kernel_rfl) (by kernel_rfl) (e := Extern.SlicesOverlaps.overlaps #[53, 53] #[4]) (by kernel_rfl), Rk w 53 4 3 hu 1 hsz ⟨vb, voff, none⟩ ⟨g, o, none⟩ 1 vc lb cb hvg hA hg (by omega) hposA]
    rfl
  by_cases hroom : m + 1 ≤ cap
  · obtain ⟨q1, q2, q3⟩ := Ov (vc := vc) (w := w) hu hei (by decide) hg hcs htk hR hO him2 hroom
    simp only [Nat.mul_one] at q3
    have hb2 : ¬ (cap = i + 1) := by omega
    have hb4 : ¬ (cap = i) := by omega
    have hng : ¬ ((cap : Int) < (m : Int) + 1) := by omega
    have hmc : ((m : Int) + 1) ≤ (cap : Int) := by omega
    have hc : Calls Tryz.prog 105 #[.slice (some ⟨g, 0, none⟩) m cap, .int .i64 (i : Int), .slice (some ⟨vb, voff, none⟩) 1 vc] w (fun e w2 => e = .returned (.slice (some ⟨g, 0, none⟩) (m + 1) cap) ∧ w2 = (w.drew.setCells g (i + 1) (olds.drop i)).setCells g i vs) := by
      obtain ⟨q4, q5, q6⟩ := Ov (vc := vc) (w := w.drew) hu hei (by decide) hg hcs htk ⟨hR.len, hR.row, hR.le, hR.cap, hR.lim, hR.ones⟩ ⟨hO.len, hO.cells, hO.ones, hO.ne⟩ him2 hroom
      simp only [Nat.mul_one] at q4 q5
      clear hR hO hei q1 q2 q3 q6 hg hA hcs htk
      go_enter Tryz.func105, Tryz.ntmps105
      go_wp2_with (simp only [hov])
      go_region_law (refine Fb rfl _ _ 53 53 rfl (.slice (some ⟨g, i + 1, none⟩) (m + 1 - (i + 1)) (cap - (i + 1))) (.slice (some ⟨g, i, none⟩) (m + 1 - i) (cap - i)) (by simp [Act.eval, Act.put]) (by simp [Act.eval, Act.put]) (q4 _ _ _) ?_)
      go_wp2_with (at_builtin; refine Dd rfl _ _ 53 53 rfl (.slice (some ⟨g, i, none⟩) (m + 1 - i) (cap - i)) _ (by simp [Act.eval, Act.put]) rfl (q5 _ rfl _ _) ?_)
      go_ret
      exact ⟨rfl, rfl⟩
    refine hc.mono ?_
    rintro e w2 ⟨rfl, rfl⟩
    obtain ⟨p1, p2, p3⟩ := V0 g (olds.drop i) (i + 1) w.drew
    exact q3 _ (Ch g _ _ w) p1 p2 p3
  obtain ⟨G, W1, hG1, hG2, qa, qb, qc, qd, o1, o2, o3⟩ := VH (vc := vc) (tn := 3) hu (by kernel_rfl) hei (by decide) hg hcs htk hR hO hvw him2 (by omega)
  have hG63 : G ≤ 9223372036854775807 := by unfold maxLen at hG2; omega
  have hGi : ¬ (G = i) := by omega
  have hGim : ¬ (G = i + 1) := by omega
  have hci : ¬ (cap = i) := by omega
  have hlt : (cap : Int) < (m : Int) + 1 := by omega
  have hw3 : IntKind.i64.wrap ((m : Int) + 1 - (i : Int)) = (m : Int) + 1 - (i : Int) := by rw [IntKind.wrap_i64]; omega
  have hii : (i : Int) ≤ (m : Int) := by omega
  have hqa : ∀ ty, (Builtin.append_ #[53, 3] ty #[.slice (some ⟨g, 0, none⟩) i cap, .int .i64 ((m : Int) + 1 - (i : Int))]).run Tryz.prog w = .ok (.slice (some ⟨w.heap.size, 0, none⟩) (m + 1) G) W1 := fun ty => qa ty _ (by omega)
  have hqb := qb W1 rfl
  simp only [Nat.mul_one] at hqb
  have hqc := qc (W1.setCells w.heap.size i vs).drew (by simp only [Nat.mul_one]; rfl)
  simp only [Nat.mul_one] at hqc qd
  have hc : Calls Tryz.prog 105 #[.slice (some ⟨g, 0, none⟩) m cap, .int .i64 (i : Int), .slice (some ⟨vb, voff, none⟩) 1 vc] w (fun e w2 => e = .returned (.slice (some ⟨w.heap.size, 0, none⟩) (m + 1) G) ∧ w2 = (W1.setCells w.heap.size i vs).drew.setCells w.heap.size (i + 1) (olds.drop i)) := by
    clear hR hO hei qa qb qc qd hg hA hcs htk hov hG1 hG2
    go_enter Tryz.func105, Tryz.ntmps105
    go_wp2_with (first
      | (at_builtin; refine Lib.wpList_append_run _ rfl _ _ _ _ rfl _ _ rfl rfl _ _ (hqa _) ?_)
      | (at_builtin; refine Dd rfl _ _ 53 53 rfl (.slice (some ⟨w.heap.size, i, none⟩) (m + 1 - i) (G - i)) _ (by simp [Act.eval, Act.put]) rfl (hqb _ _) ?_))
    go_region_law (refine Fb rfl _ _ 53 53 rfl (.slice (some ⟨w.heap.size, i + 1, none⟩) (m + 1 - (i + 1)) (G - (i + 1))) (.slice (some ⟨g, i, none⟩) (m - i) (cap - i)) (by simp [Act.eval, Act.put]) (by simp [Act.eval, Act.put]) (hqc _ _ _) ?_)
    go_wp2
    go_ret
    exact ⟨rfl, rfl⟩
  refine hc.mono ?_
  rintro e w2 ⟨rfl, rfl⟩
  obtain ⟨p1, p2, p3⟩ := V0 w.heap.size vs i W1
  exact qd _ rfl (p1.trans o1) (p2.trans o2) (p3.trans o3)
theorem insInt_a (l : List Int) (y : Int) {i : Int} (hi : 0 ≤ i) (hj : i ≤ l.length) (hl : l.length < 1073741824) : ATake Tryz.prog 105 1 (eL l) [.one (.int .i64 i), .one (.slc .sh 1 (eL [y]))] true false (eL (K9 l i.toNat y)) :=
 CO (by unfold Dt; kernel_rfl) (by decide) (fun w oa m cap olds i vb voff vc vs => CS w oa m cap olds i vb voff vc vs) l y hi hj hl
def Dz (_ : Nat) (a0 : Qn) (s0 : (List Qn)) : Rd ((List Qn)) ((List Qn)) ((List Qn)) := (.next (s0 ++ [a0]))
def Bl (_ : Nat) (s0 : (List Qn)) : (List Qn) := s0
def Aq (ix : (List Qn)) : (List Qn) := (Out.on (Xp Dz Bl ix 0 []) (fun y0 => y0))
theorem T0 (ix : List Qn) : Aq ix = ix := by
 unfold Aq
 rw [Gn (f := Dz) (e := Bl) (g := fun a : Qn => a) (fun _ _ _ => rfl)]
 simp [Out.on, Bl]
theorem T1 (ix : (List Qn)) : ACalls Tryz.prog 95 [.h ix] (.o 0 (Aq ix)) := by
 refine en Qa Tryz.func95 fun w0 F0 hG => ?_
 refine sn Qa [0, 2] [] (p0) ?_
 refine tn Qa [0, 2, 3] [] (p0) ?_
 refine Qc ?_
 refine tu Qa [(2, .e 0), (3, .one (.slc (.own true 384) 5 [])), (7, .h ix), (8, .i (ix.length : Int)), (9, .i 0)] [0] [] [] (pl 1 ix p0) ?_
 refine wT 7 0 .sh ix (fun hw1 hl2 => ?_)
 refine blL1 Dz Bl ix [] (fun k0 s0 => [(3, .o 147201 s0), (9, .i ((k0 : Nat) : Int))]) [3, 9] (fun y0 => [(3, .o 147351 y0)]) [3, 7, 8, 9] (fun k0 s0 => List.length s0 ≤ k0) (X3 [(384, 147201)] (by kernel_rfl)) (by simp) (fun k0 s0 hk0 hI0 => ?_) (fun k0 s0 hk0 hI0 => ?_) (fun y0 hD0 => ?_)
 ·
  have hA0_0 := hI0.2
  obtain ⟨a0, hx0⟩ := Xr (l := ix) (i := k0) hk0
  refine sn Qa [2, 3, 7, 8, 9, 10] [] (pe 0 (Qw (decide_eq_true (p := ((k0 : Nat) : Int) < (ix.length : Int)) (by omega))) p0) ?_
  refine Qc ?_
  refine ckT ?_
  refine Qh ?_
  refine Qc ?_
  refine Qt ?_
  refine tn Qa [2, 3, 5, 7, 8, 9] [5] (pn 0 hx0 p0) ?_
  refine tu Qa [(5, .p 5 0)] [] [(5, [.s a0.1, .i a0.2.1.1, .i a0.2.1.2.1, .s a0.2.1.2.2, .o 960 a0.2.2])] [] (pc 2 (XP a0.2.2) p0) ?_
  refine wT 3 0 (.own true 147201) s0 (fun hw3 hl4 => ?_)
  refine ru Qa [(3, .one (.slc (.own true 1280) 5 ((eL s0) ++ [[.s a0.1, .i a0.2.1.1, .i a0.2.1.2.1, .s a0.2.1.2.2, .h a0.2.2]])))] [3, 5] [] [5] (pa s0 [a0] p0) ?_
  refine eqn [(3, .o 1280 (s0 ++ [a0]))] [3] [] [] (by rw [show ((eL s0) ++ [[.s a0.1, .i a0.2.1.1, .i a0.2.1.2.1, .s a0.2.1.2.2, .h a0.2.2]]) = (eL (s0 ++ [a0])) from Vn (rfl) (rfl)]; first | done | kernel_rfl) ?_
  refine rn Qa [2, 3, 7, 8, 9] [] (pe 0 (Jw (Qy k0 (by omega))) p0) ?_
  exact Exists.intro (s0 ++ [a0]) (And.intro (X3 [(1280, 147201)] (by kernel_rfl)) ⟨Q0 hx0 (rfl) hI0.1, by first | omega | (simp; omega) | simp⟩)
 ·
  have hA0_0 := hI0.2
  refine sn Qa [2, 3, 7, 8, 9, 10] [] (pe 0 (Qw (decide_eq_false (p := ((k0 : Nat) : Int) < (ix.length : Int)) (by omega))) p0) ?_
  refine Qc ?_
  refine ckF ?_
  refine Q2 ?_
  exact Exists.intro _ (And.intro (X3 [(147201, 147351)] (by kernel_rfl)) (Xs hk0 (rfl) hI0.1))
 refine sn Qa [2] [] (p0) ?_
 refine Qe ?_
 exact po0 [] (Un hD0 (rfl))
def Z3 (p : Qn) (q0 : ByteArray) (q1 : Jc) : Bool := ((p.1.toList == q0.toList) && ((p.2.1.1 == q1.1) && ((p.2.1.2.1 == q1.2.1) && ((p.2.1.2.2.toList == q1.2.2.toList) && true))))
theorem P6 (p : Qn) (q0 : ByteArray) (q1 : Jc) : ACalls Tryz.prog 133 [.a [.s p.1, .i p.2.1.1, .i p.2.1.2.1, .s p.2.1.2.2, .h p.2.2], .one (.rptr .sh [.s q0]), .one (.rptr .sh [.i q1.1, .i q1.2.1, .s q1.2.2])] (.b (Z3 p q0 q1)) := by
 refine en Qa Tryz.func133 fun w0 F0 hG => ?_
 refine sn Qa [1, 2, 3, 4] [3] (p0) ?_
 refine Qc ?_
 refine mz [(3, .p 3 0), (4, .b false)] [0] [(3, [.s p.1, .i p.2.1.1, .i p.2.1.2.1, .s p.2.1.2.2, .h p.2.2])] [] ?_
 refine jn [(4, .b ((p.1.toList == q0.toList) && ((p.2.1.1 == q1.1) && ((p.2.1.2.1 == q1.2.1) && ((p.2.1.2.2.toList == q1.2.2.toList) && true)))))] [1, 2, 3, 4] [] [3] (p.1.toList == q0.toList) (fun h1 => ?_) (fun h1 => ?_) ?_
 ·
  refine rn Qa [4] [] (pt 3 h1 p0) ?_
  exact ⟨rfl, Qf (by rw [h1] <;> kernel_rfl)⟩
 ·
  refine rn Qa [4] [] (pf 3 h1 p0) ?_
  exact ⟨rfl, Qf (by rw [h1] <;> kernel_rfl)⟩
 refine Qe ?_
 exact pb [] (show Z3 p q0 q1 = ((p.1.toList == q0.toList) && ((p.2.1.1 == q1.1) && ((p.2.1.2.1 == q1.2.1) && ((p.2.1.2.2.toList == q1.2.2.toList) && true)))) from rfl)
def Jd (c0 : ByteArray) (c1 : Jc) (k0 : Nat) (a0 : Qn) (_ : Unit) : Rd (Int) (Unit) (Unit) := (bif (Z3 a0 c0 c1) then (.ret ((k0 : Nat) : Int)) else (.next ()))
def Je (_ : Nat) (_ : Unit) : Unit := ()
def Yh (s_ : (List Qn)) (c0 : ByteArray) (c1 : Jc) : Int := (Out.on (Xp (Jd c0 c1) Je s_ 0 ()) (fun _ => -1))
theorem K5 (s_ : (List Qn)) (c0 : ByteArray) (c1 : Jc) : Yh s_ c0 c1 = ixF (fun a => Z3 a c0 c1) s_ := AX (fun _ _ _ => rfl) s_
theorem Hg (s_ : (List Qn)) (c0 : ByteArray) (c1 : Jc) : -1 ≤ Yh s_ c0 c1 ∧ Yh s_ c0 c1 < (List.length s_ : Int) := by rw [K5]; exact Me _ _
theorem Hs (s_ : (List Qn)) (c0 : ByteArray) (c1 : Jc) : ACalls Tryz.prog 97 [.h s_, .one (.fnr 133 [[.s c0], [.i c1.1, .i c1.2.1, .s c1.2.2]])] (.i (Yh s_ c0 c1)) := by
 refine en Qa Tryz.func97 fun w0 F0 hG => ?_
 refine sn Qa [0, 1, 4] [] (p0) ?_
 refine Qc ?_
 refine tn Qa [0, 1, 4, 7, 8] [] (pl 1 s_ p0) ?_
 refine mz [(4, .i 0), (7, .i (s_.length : Int)), (8, .i 0)] [] [] [] ?_
 refine wT 0 0 .sh s_ (fun hw1 hl2 => ?_)
 refine Ii (Jd c0 c1) Je s_ () (fun k0 _ => [(8, .i ((k0 : Nat) : Int))]) [8] (fun _ => []) [0, 1, 7, 8] wf0 (fun k0 s0 hk0 hI0 => ?_) (fun k0 s0 hk0 hI0 => ?_) (fun y0 hD0 => ?_)
 ·
  obtain ⟨a0, hx0⟩ := Xr (l := s_) (i := k0) hk0
  refine sn Qa [0, 1, 4, 7, 8, 9] [] (pe 0 (Qw (decide_eq_true (p := ((k0 : Nat) : Int) < (s_.length : Int)) (by omega))) p0) ?_
  refine Qc ?_
  refine ckT ?_
  refine Qh ?_
  refine Qc ?_
  refine Qt ?_
  refine tn Qa [0, 1, 4, 5, 7, 8] [] (p0) ?_
  refine tu Qa [(5, .i ((k0 : Nat) : Int)), (16, .b (Z3 a0 c0 c1))] [] [] [] (pn 3 hx0 (pc 5 (P6 a0 c0 c1) p0)) ?_
  refine ck (Z3 a0 c0 c1) (fun h3 => ?_) (fun h3 => ?_)
  ·
   refine sn Qa [0, 1, 4, 7, 8] [] (p0) ?_
   refine Qe ?_
   have hr4 : (Xp (Jd c0 c1) Je s_ 0 ()) = .ret ((k0 : Nat) : Int) := Zt hx0 (Q1 h3 (rfl)) hI0
   exact pi [] (Ie hr4)
  refine Qh ?_
  refine rn Qa [0, 1, 4, 7, 8] [] (pe 0 (Jw (Qy k0 (by omega))) p0) ?_
  exact xw _ (Q0 hx0 (Ql h3 (rfl)) hI0)
 ·
  refine sn Qa [0, 1, 4, 7, 8, 9] [] (pe 0 (Qw (decide_eq_false (p := ((k0 : Nat) : Int) < (s_.length : Int)) (by omega))) p0) ?_
  refine Qc ?_
  refine ckF ?_
  refine Q2 ?_
  exact xw _ (Xs hk0 (rfl) hI0)
 refine sn Qa [4] [] (p0) ?_
 refine Qe ?_
 exact pi [] (Un hD0 (rfl))
def X6 (ix : (List Qn)) (name : ByteArray) (v : Jc) : Int := (Yh ix name v)
theorem T2 (ix : (List Qn)) (name : ByteArray) (v : Jc) : ACalls Tryz.prog 96 [.h ix, .s name, .a [.i v.1, .i v.2.1, .s v.2.2]] (.i (X6 ix name v)) := by
 refine en Qa Tryz.func96 fun w0 F0 hG => ?_
 refine sn Qa [0, 4, 5, 6] [4, 5] (p0) ?_
 refine tn Qa [6] [] (pc 2 (Hs ix name v) p0) ?_
 refine Qe ?_
 exact pi [] (show X6 ix name v = (Yh ix name v) from rfl)
def Jq (x : ByteArray) : Bool := (!(x.toList == x.toList))
theorem F7 (x : ByteArray) : ACalls Tryz.prog 134 [.s x] (.b (Jq x)) := by
 refine en Qa Tryz.func134 fun w0 F0 hG => ?_
 refine sn Qa [0, 2] [] (p0) ?_
 refine tn Qa [2] [] (p0) ?_
 refine Qe ?_
 exact pb [] (show Jq x = (!(x.toList == x.toList)) from rfl)
def J0 (x : ByteArray) (y_ : ByteArray) : Int := (bif (Jq x) then (bif (Jq y_) then 0 else -1) else (bif (Jq y_) then 1 else (bif (Op.bytesLess x.toList y_.toList) then -1 else (bif (!(Op.bytesLess x.toList y_.toList || x.toList == y_.toList)) then 1 else 0))))
theorem Eu (x : ByteArray) (y_ : ByteArray) : ACalls Tryz.prog 100 [.s x, .s y_] (.i (J0 x y_)) := by
 refine en Qa Tryz.func100 fun w0 F0 hG => ?_
 refine sn Qa [0, 1, 4] [] (p0) ?_
 refine tn Qa [0, 1, 4, 5] [] (pc 1 (F7 x) p0) ?_
 refine tu Qa [(4, .i 0), (5, .b (Jq x)), (6, .b (Jq y_))] [] [] [] (pc 1 (F7 y_) p0) ?_
 refine Qc ?_
 refine sn Qa [0, 1, 4, 6, 11] [] (p0) ?_
 refine ck (Jq x) (fun h1 => ?_) (fun h1 => ?_)
 ·
  refine Qc ?_
  refine tn Qa [0, 1, 4, 6, 12] [] (p0) ?_
  refine ck (Jq y_) (fun h2 => ?_) (fun h2 => ?_)
  ·
   refine tu Qa [] [5] [] [] (p0) ?_
   refine Qe ?_
   exact pi [] (Q1 h1 (Q1 h2 (rfl)))
  refine Qh ?_
  refine tu Qa [(4, .i (-1))] [4, 5] [] [] (p0) ?_
  refine Qe ?_
  exact pi [] (Q1 h1 (Ql h2 (rfl)))
 refine Qh ?_
 refine Qc ?_
 refine tn Qa [0, 1, 4, 13] [] (p0) ?_
 refine ck (Jq y_) (fun h3 => ?_) (fun h3 => ?_)
 ·
  refine tu Qa [(4, .i 1)] [4, 5, 6] [] [] (p0) ?_
  refine Qe ?_
  exact pi [] (Ql h1 (Q1 h3 (rfl)))
 refine Qh ?_
 refine Qc ?_
 refine tu Qa [(16, .b (Op.bytesLess x.toList y_.toList))] [5, 6] [] [] (p0) ?_
 refine ck (Op.bytesLess x.toList y_.toList) (fun h4 => ?_) (fun h4 => ?_)
 ·
  refine sn Qa [0, 1, 4] [] (p0) ?_
  refine Qe ?_
  exact pi [] (Ql h1 (Ql h3 (Q1 h4 (rfl))))
 refine Qh ?_
 refine Qc ?_
 refine sn Qa [4, 19] [] (p0) ?_
 refine ck (!(Op.bytesLess x.toList y_.toList || x.toList == y_.toList)) (fun h5 => ?_) (fun h5 => ?_)
 ·
  refine tn Qa [4] [] (p0) ?_
  refine Qe ?_
  exact pi [] (Ql h1 (Ql h3 (Ql h4 (Q1 h5 (rfl)))))
 refine Qh ?_
 refine tn Qa [4] [] (p0) ?_
 refine Qe ?_
 exact pi [] (Ql h1 (Ql h3 (Ql h4 (Ql h5 (rfl)))))
def Vq (x : Int) : Bool := (x != x)
theorem Mh (x : Int) : ACalls Tryz.prog 155 [.i x] (.b (Vq x)) := by
 refine en Qa Tryz.func155 fun w0 F0 hG => ?_
 refine sn Qa [0, 2] [] (p0) ?_
 refine tn Qa [2] [] (p0) ?_
 refine Qe ?_
 exact pb [] (show Vq x = (x != x) from rfl)
def Vk (x : Int) (y_ : Int) : Int := (bif (Vq x) then (bif (Vq y_) then 0 else -1) else (bif (Vq y_) then 1 else (bif decide (x < y_) then -1 else (bif decide (x > y_) then 1 else 0))))
theorem Ib (x : Int) (y_ : Int) : ACalls Tryz.prog 135 [.i x, .i y_] (.i (Vk x y_)) := by
 refine en Qa Tryz.func135 fun w0 F0 hG => ?_
 refine sn Qa [0, 1, 4] [] (p0) ?_
 refine tn Qa [0, 1, 4, 5] [] (pc 1 (Mh x) p0) ?_
 refine tu Qa [(4, .i 0), (5, .b (Vq x)), (6, .b (Vq y_))] [] [] [] (pc 1 (Mh y_) p0) ?_
 refine Qc ?_
 refine sn Qa [0, 1, 4, 6, 11] [] (p0) ?_
 refine ck (Vq x) (fun h1 => ?_) (fun h1 => ?_)
 ·
  refine Qc ?_
  refine tn Qa [0, 1, 4, 6, 12] [] (p0) ?_
  refine ck (Vq y_) (fun h2 => ?_) (fun h2 => ?_)
  ·
   refine tu Qa [] [5] [] [] (p0) ?_
   refine Qe ?_
   exact pi [] (Q1 h1 (Q1 h2 (rfl)))
  refine Qh ?_
  refine tu Qa [(4, .i (-1))] [4, 5] [] [] (p0) ?_
  refine Qe ?_
  exact pi [] (Q1 h1 (Ql h2 (rfl)))
 refine Qh ?_
 refine Qc ?_
 refine tn Qa [0, 1, 4, 13] [] (p0) ?_
 refine ck (Vq y_) (fun h3 => ?_) (fun h3 => ?_)
 ·
  refine tu Qa [(4, .i 1)] [4, 5, 6] [] [] (p0) ?_
  refine Qe ?_
  exact pi [] (Ql h1 (Q1 h3 (rfl)))
 refine Qh ?_
 refine Qc ?_
 refine tu Qa [(16, .b (decide (x < y_)))] [5, 6] [] [] (p0) ?_
 refine ck (decide (x < y_)) (fun h4 => ?_) (fun h4 => ?_)
 ·
  refine sn Qa [0, 1, 4] [] (p0) ?_
  refine Qe ?_
  exact pi [] (Ql h1 (Ql h3 (Q1 h4 (rfl))))
 refine Qh ?_
 refine Qc ?_
 refine sn Qa [4, 19] [] (p0) ?_
 refine ck (decide (x > y_)) (fun h5 => ?_) (fun h5 => ?_)
 ·
  refine tn Qa [4] [] (p0) ?_
  refine Qe ?_
  exact pi [] (Ql h1 (Ql h3 (Ql h4 (Q1 h5 (rfl)))))
 refine Qh ?_
 refine tn Qa [4] [] (p0) ?_
 refine Qe ?_
 exact pi [] (Ql h1 (Ql h3 (Ql h4 (Ql h5 (rfl)))))
def Wd (_ : Nat) (a0 : Int) (_ : Unit) : Rd (Int) (Unit) (Unit) := (bif (a0 != (0 : Int)) then (.ret a0) else (.next ()))
def La (_ : Nat) (_ : Unit) : Unit := ()
def Co (vals : (List Int)) : Int := (Out.on (Xp Wd La vals 0 ()) (fun _ => 0))
theorem T3 (vals : (List Int)) : ACalls Tryz.prog 99 [.h vals] (.i (Co vals)) := by
 refine en Qa Tryz.func99 fun w0 F0 hG => ?_
 refine sn Qa [0, 2] [] (p0) ?_
 refine tn Qa [0, 2, 3] [] (p0) ?_
 refine Qc ?_
 refine tu Qa [(2, .i 0), (3, .i 0), (6, .h vals), (7, .i (vals.length : Int)), (8, .i 0)] [0] [] [] (pl 1 vals p0) ?_
 refine wT 6 0 .sh vals (fun hw1 hl2 => ?_)
 refine Ii Wd La vals () (fun k0 _ => [(8, .i ((k0 : Nat) : Int))]) [8] (fun _ => []) [6, 7, 8] wf0 (fun k0 s0 hk0 hI0 => ?_) (fun k0 s0 hk0 hI0 => ?_) (fun y0 hD0 => ?_)
 ·
  obtain ⟨a0, hx0⟩ := Xr (l := vals) (i := k0) hk0
  refine sn Qa [2, 3, 6, 7, 8, 9] [] (pe 0 (Qw (decide_eq_true (p := ((k0 : Nat) : Int) < (vals.length : Int)) (by omega))) p0) ?_
  refine Qc ?_
  refine ckT ?_
  refine Qh ?_
  refine Qc ?_
  refine Qt ?_
  refine tu Qa [(5, .i a0)] [] [] [] (pn 0 hx0 p0) ?_
  refine sn Qa [2, 3, 5, 6, 7, 8, 14] [] (p0) ?_
  refine ck (a0 != (0 : Int)) (fun h3 => ?_) (fun h3 => ?_)
  ·
   refine tn Qa [2, 3, 6, 7, 8] [] (p0) ?_
   refine Qe ?_
   have hr4 : (Xp Wd La vals 0 ()) = .ret a0 := Zt hx0 (Q1 h3 (rfl)) hI0
   exact pi [] (Ie hr4)
  have h3d := V6 h3
  refine Qh ?_
  refine qn Qa [2, 3, 6, 7, 8] [] (pe 0 (Jw (Qy k0 (by omega))) p0) ?_
  exact xw _ (Q0 hx0 (Ql h3 (rfl)) hI0)
 ·
  refine sn Qa [2, 3, 6, 7, 8, 9] [] (pe 0 (Qw (decide_eq_false (p := ((k0 : Nat) : Int) < (vals.length : Int)) (by omega))) p0) ?_
  refine Qc ?_
  refine ckF ?_
  refine Q2 ?_
  exact xw _ (Xs hk0 (rfl) hI0)
 refine sn Qa [2] [] (p0) ?_
 refine Qe ?_
 exact pi [] (Un hD0 (rfl))
def Vb (a_ : Jc) (b : Jc) : Int := (Co [(Vk a_.1 b.1), (Vk a_.2.1 b.2.1), (J0 a_.2.2 b.2.2)])
theorem Ni (a_ : Jc) (b : Jc) : ACalls Tryz.prog 101 [.a [.i a_.1, .i a_.2.1, .s a_.2.2], .a [.i b.1, .i b.2.1, .s b.2.2]] (.i (Vb a_ b)) := by
 refine en Qa Tryz.func101 fun w0 F0 hG => ?_
 refine sn Qa [2, 3, 4] [2, 3] (p0) ?_
 refine tN Qa Yc [4] [] (pc 4 (Ib a_.1 b.1) (pc 9 (Ib a_.2.1 b.2.1) (pc 14 (Eu a_.2.2 b.2.2) (pc 16 (T3 [(Vk a_.1 b.1), (Vk a_.2.1 b.2.1), (J0 a_.2.2 b.2.2)]) p0)))) ?_
 refine Qe ?_
 exact pi [] (show Vb a_ b = (Co [(Vk a_.1 b.1), (Vk a_.2.1 b.2.1), (J0 a_.2.2 b.2.2)]) from rfl)
def Zw (p : Qn) (q0 : Wp) : Bool := decide ((Co [(J0 p.1 q0.1), (Vb p.2.1 q0.2)]) > (0 : Int))
theorem O5 (p : Qn) (q0 : Wp) : ACalls Tryz.prog 98 [.a [.s p.1, .i p.2.1.1, .i p.2.1.2.1, .s p.2.1.2.2, .h p.2.2], .one (.rptr .sh [.s q0.1, .i q0.2.1, .i q0.2.2.1, .s q0.2.2.2])] (.b (Zw p q0)) := by
 refine en Qa Tryz.func98 fun w0 F0 hG => ?_
 refine sn Qa [1, 2, 3] [2] (p0) ?_
 refine tN Qa Yc [3] [] (pc 4 (Eu p.1 q0.1) (pc 9 (Ni p.2.1 q0.2) (pc 11 (T3 [(J0 p.1 q0.1), (Vb p.2.1 q0.2)]) p0))) ?_
 refine Qe ?_
 exact pb [] (show Zw p q0 = decide ((Co [(J0 p.1 q0.1), (Vb p.2.1 q0.2)]) > (0 : Int)) from rfl)
def Ja (c0 : Wp) (k0 : Nat) (a0 : Qn) (_ : Unit) : Rd (Int) (Unit) (Unit) := (bif (Zw a0 c0) then (.ret ((k0 : Nat) : Int)) else (.next ()))
def Jb (_ : Nat) (_ : Unit) : Unit := ()
def Qd (s_ : (List Qn)) (c0 : Wp) : Int := (Out.on (Xp (Ja c0) Jb s_ 0 ()) (fun _ => -1))
theorem Kz (s_ : (List Qn)) (c0 : Wp) : Qd s_ c0 = ixF (fun a => Zw a c0) s_ := AX (fun _ _ _ => rfl) s_
theorem K0 (s_ : (List Qn)) (c0 : Wp) : -1 ≤ Qd s_ c0 ∧ Qd s_ c0 < (List.length s_ : Int) := by rw [Kz]; exact Me _ _
theorem Hh (s_ : (List Qn)) (c0 : Wp) : ACalls Tryz.prog 97 [.h s_, .one (.fnr 98 [[.s c0.1, .i c0.2.1, .i c0.2.2.1, .s c0.2.2.2]])] (.i (Qd s_ c0)) := by
 refine en Qa Tryz.func97 fun w0 F0 hG => ?_
 refine sn Qa [0, 1, 4] [] (p0) ?_
 refine Qc ?_
 refine tn Qa [0, 1, 4, 7, 8] [] (pl 1 s_ p0) ?_
 refine mz [(4, .i 0), (7, .i (s_.length : Int)), (8, .i 0)] [] [] [] ?_
 refine wT 0 0 .sh s_ (fun hw1 hl2 => ?_)
 refine Ii (Ja c0) Jb s_ () (fun k0 _ => [(8, .i ((k0 : Nat) : Int))]) [8] (fun _ => []) [0, 1, 7, 8] wf0 (fun k0 s0 hk0 hI0 => ?_) (fun k0 s0 hk0 hI0 => ?_) (fun y0 hD0 => ?_)
 ·
  obtain ⟨a0, hx0⟩ := Xr (l := s_) (i := k0) hk0
  refine sn Qa [0, 1, 4, 7, 8, 9] [] (pe 0 (Qw (decide_eq_true (p := ((k0 : Nat) : Int) < (s_.length : Int)) (by omega))) p0) ?_
  refine Qc ?_
  refine ckT ?_
  refine Qh ?_
  refine Qc ?_
  refine Qt ?_
  refine tn Qa [0, 1, 4, 5, 7, 8] [] (p0) ?_
  refine tu Qa [(5, .i ((k0 : Nat) : Int)), (16, .b (Zw a0 c0))] [] [] [] (pn 3 hx0 (pc 5 (O5 a0 c0) p0)) ?_
  refine ck (Zw a0 c0) (fun h3 => ?_) (fun h3 => ?_)
  ·
   refine sn Qa [0, 1, 4, 7, 8] [] (p0) ?_
   refine Qe ?_
   have hr4 : (Xp (Ja c0) Jb s_ 0 ()) = .ret ((k0 : Nat) : Int) := Zt hx0 (Q1 h3 (rfl)) hI0
   exact pi [] (Ie hr4)
  refine Qh ?_
  refine rn Qa [0, 1, 4, 7, 8] [] (pe 0 (Jw (Qy k0 (by omega))) p0) ?_
  exact xw _ (Q0 hx0 (Ql h3 (rfl)) hI0)
 ·
  refine sn Qa [0, 1, 4, 7, 8, 9] [] (pe 0 (Qw (decide_eq_false (p := ((k0 : Nat) : Int) < (s_.length : Int)) (by omega))) p0) ?_
  refine Qc ?_
  refine ckF ?_
  refine Q2 ?_
  exact xw _ (Xs hk0 (rfl) hI0)
 refine sn Qa [4] [] (p0) ?_
 refine Qe ?_
 exact pi [] (Un hD0 (rfl))
def Ju (id : Int) (q0 : X9) : Bool := decide (id ≥ q0.1)
theorem O6 (id : Int) (q0 : X9) : ACalls Tryz.prog 104 [.i id, .one (.rptr .sh [.i q0.1, .i q0.2.1, .b q0.2.2.1, .i q0.2.2.2.1, .h q0.2.2.2.2])] (.b (Ju id q0)) := by
 refine en Qa Tryz.func104 fun w0 F0 hG => ?_
 refine sn Qa [0, 1, 3] [] (p0) ?_
 refine tn Qa [3] [] (p0) ?_
 refine Qe ?_
 exact pb [] (show Ju id q0 = decide (id ≥ q0.1) from rfl)
def Jr (c0 : X9) (k0 : Nat) (a0 : Int) (_ : Unit) : Rd (Int) (Unit) (Unit) := (bif (Ju a0 c0) then (.ret ((k0 : Nat) : Int)) else (.next ()))
def Js (_ : Nat) (_ : Unit) : Unit := ()
def Qg (s_ : (List Int)) (c0 : X9) : Int := (Out.on (Xp (Jr c0) Js s_ 0 ()) (fun _ => -1))
theorem Vr (s_ : (List Int)) (c0 : X9) : Qg s_ c0 = ixF (fun a => Ju a c0) s_ := AX (fun _ _ _ => rfl) s_
theorem Ad (s_ : (List Int)) (c0 : X9) : -1 ≤ Qg s_ c0 ∧ Qg s_ c0 < (List.length s_ : Int) := by rw [Vr]; exact Me _ _
theorem Ar (s_ : (List Int)) (c0 : X9) : ACalls Tryz.prog 103 [.h s_, .one (.fnr 104 [[.i c0.1, .i c0.2.1, .b c0.2.2.1, .i c0.2.2.2.1, .h c0.2.2.2.2]])] (.i (Qg s_ c0)) := by
 refine en Qa Tryz.func103 fun w0 F0 hG => ?_
 refine sn Qa [0, 1, 4] [] (p0) ?_
 refine Qc ?_
 refine tn Qa [0, 1, 4, 7, 8] [] (pl 1 s_ p0) ?_
 refine mz [(4, .i 0), (7, .i (s_.length : Int)), (8, .i 0)] [] [] [] ?_
 refine wT 0 0 .sh s_ (fun hw1 hl2 => ?_)
 refine Ii (Jr c0) Js s_ () (fun k0 _ => [(8, .i ((k0 : Nat) : Int))]) [8] (fun _ => []) [0, 1, 7, 8] wf0 (fun k0 s0 hk0 hI0 => ?_) (fun k0 s0 hk0 hI0 => ?_) (fun y0 hD0 => ?_)
 ·
  obtain ⟨a0, hx0⟩ := Xr (l := s_) (i := k0) hk0
  refine sn Qa [0, 1, 4, 7, 8, 9] [] (pe 0 (Qw (decide_eq_true (p := ((k0 : Nat) : Int) < (s_.length : Int)) (by omega))) p0) ?_
  refine Qc ?_
  refine ckT ?_
  refine Qh ?_
  refine Qc ?_
  refine Qt ?_
  refine tn Qa [0, 1, 4, 5, 7, 8] [] (p0) ?_
  refine tu Qa [(5, .i ((k0 : Nat) : Int)), (16, .b (Ju a0 c0))] [] [] [] (pn 3 hx0 (pc 5 (O6 a0 c0) p0)) ?_
  refine ck (Ju a0 c0) (fun h3 => ?_) (fun h3 => ?_)
  ·
   refine sn Qa [0, 1, 4, 7, 8] [] (p0) ?_
   refine Qe ?_
   have hr4 : (Xp (Jr c0) Js s_ 0 ()) = .ret ((k0 : Nat) : Int) := Zt hx0 (Q1 h3 (rfl)) hI0
   exact pi [] (Ie hr4)
  refine Qh ?_
  refine rn Qa [0, 1, 4, 7, 8] [] (pe 0 (Jw (Qy k0 (by omega))) p0) ?_
  exact xw _ (Q0 hx0 (Ql h3 (rfl)) hI0)
 ·
  refine sn Qa [0, 1, 4, 7, 8, 9] [] (pe 0 (Qw (decide_eq_false (p := ((k0 : Nat) : Int) < (s_.length : Int)) (by omega))) p0) ?_
  refine Qc ?_
  refine ckF ?_
  refine Q2 ?_
  exact xw _ (Xs hk0 (rfl) hI0)
 refine sn Qa [4] [] (p0) ?_
 refine Qe ?_
 exact pi [] (Un hD0 (rfl))
def Km (f : X9) (_ : Nat) (a0 : Wp) (s0 : (List Qn)) : Rd ((List Qn)) ((List Qn)) ((List Qn)) := (lt (α := (List Qn) × Int) (bif decide ((X6 s0 a0.1 a0.2) < (0 : Int)) then (bif decide ((Qd s0 a0) < (0 : Int)) then (K9 s0 (Int.toNat (s0.length : Int)) ((a0.1, a0.2, []) : Qn), (s0.length : Int)) else (K9 s0 (Int.toNat (Qd s0 a0)) ((a0.1, a0.2, []) : Qn), (Qd s0 a0))) else (s0, (X6 s0 a0.1 a0.2))) (fun x3 => (bif decide ((Qg ((nth x3.1 (Int.toNat x3.2)).2.2) f) < (0 : Int)) then (.next (List.set x3.1 (Int.toNat x3.2) ((nth x3.1 (Int.toNat x3.2)).1, ((nth x3.1 (Int.toNat x3.2)).2.1.1, (nth x3.1 (Int.toNat x3.2)).2.1.2.1, (nth x3.1 (Int.toNat x3.2)).2.1.2.2), (nth x3.1 (Int.toNat x3.2)).2.2 ++ [f.1]))) else (bif ((nth ((nth x3.1 (Int.toNat x3.2)).2.2) (Int.toNat (Qg ((nth x3.1 (Int.toNat x3.2)).2.2) f))) != f.1) then (.next (List.set x3.1 (Int.toNat x3.2) ((nth x3.1 (Int.toNat x3.2)).1, ((nth x3.1 (Int.toNat x3.2)).2.1.1, (nth x3.1 (Int.toNat x3.2)).2.1.2.1, (nth x3.1 (Int.toNat x3.2)).2.1.2.2), K9 ((nth x3.1 (Int.toNat x3.2)).2.2) (Int.toNat (Qg ((nth x3.1 (Int.toNat x3.2)).2.2) f)) f.1))) else (.next x3.1)))))
def Au (_ : Nat) (s0 : (List Qn)) : (List Qn) := s0
def We (ix : (List Qn)) (f : X9) : (List Qn) := (Out.on (Xp (Km f) Au f.2.2.2.2 0 (Aq ix)) (fun y0 => y0))
theorem join_ix {K : Nat} {s0 : List Qn} {a0 : Wp} (h : IxB K s0) : JB K (bif decide ((X6 s0 a0.1 a0.2) < (0 : Int)) then (bif decide ((Qd s0 a0) < (0 : Int)) then (K9 s0 (Int.toNat (s0.length : Int)) ((a0.1, a0.2, []) : Qn), (s0.length : Int)) else (K9 s0 (Int.toNat (Qd s0 a0)) ((a0.1, a0.2, []) : Qn), (Qd s0 a0))) else (s0, (X6 s0 a0.1 a0.2))) := by
 have h1 : -1 ≤ X6 s0 a0.1 a0.2 ∧ X6 s0 a0.1 a0.2 < (s0.length : Int) := Hg s0 a0.1 a0.2
 have h2 := K0 s0 a0
 have hl := h.1
 have ins : ∀ z : Int, 0 ≤ z → z ≤ (s0.length : Int) → JB K (K9 s0 (Int.toNat z) ((a0.1, a0.2, []) : Qn), z) := fun z z0 z1 => by
  obtain ⟨g1, g2⟩ := ixb_insAt (j := Int.toNat z) (a := a0.1) (b := a0.2) (ids := []) h (Nat.zero_le _)
  refine ⟨z0, ?_, g1, g2⟩
  show z < ((K9 s0 (Int.toNat z) ((a0.1, a0.2, []) : Qn)).length : Int)
  rw [GU (by omega)]
  omega
 cases hc : decide ((X6 s0 a0.1 a0.2) < (0 : Int)) with
 | true =>
  rw [cond_true]
  cases hd : decide ((Qd s0 a0) < (0 : Int)) with
  | true => exact ins _ (by omega) (by omega)
  | false => exact ins _ (by have := of_decide_eq_false hd; omega) (by omega)
 | false =>
  have := of_decide_eq_false hc
  exact ⟨by show 0 ≤ X6 s0 a0.1 a0.2; omega, h1.2, Nat.le_succ_of_le hl, h.2⟩
theorem Rq (ix : (List Qn)) (f : X9) {K : Nat} (hb : IxB K ix) (hp : K + List.length f.2.2.2.2 ≤ 1000000000) : ACalls Tryz.prog 63 [.h ix, .a [.i f.1, .i f.2.1, .b f.2.2.1, .i f.2.2.2.1, .h f.2.2.2.2]] (.o 0 (We ix f)) := by
 refine en Qa Tryz.func63 fun w0 F0 hG => ?_
 refine sn Qa [0, 3, 4] [3] (p0) ?_
 refine tn Qa [3, 4, 5] [3] (pc 1 (T1 ix) p0) ?_
 refine Qc ?_
 refine tu Qa [(3, .p 3 0), (4, .e 0), (5, .o 768 (Aq ix)), (14, .h f.2.2.2.2), (15, .i (f.2.2.2.2.length : Int)), (16, .i 0)] [0, 1] [(3, [.i f.1, .i f.2.1, .b f.2.2.1, .i f.2.2.2.1, .h f.2.2.2.2])] [] (pl 2 f.2.2.2.2 p0) ?_
 refine wT 14 0 .sh f.2.2.2.2 (fun hw1 hl2 => ?_)
 refine FF (Km f) Au f.2.2.2.2 (Aq ix) (fun k0 s0 => [(5, .o 147202 s0), (16, .i ((k0 : Nat) : Int))]) [5, 16] (fun _ _ => []) [] (fun y0 => [(5, .o 147352 y0)]) [3, 5, 14, 15, 16] (fun _ => []) [3] (fun k0 s0 => IxB (K + k0) s0) (X3 [(768, 147202)] (by kernel_rfl)) (by rw [T0]; exact hb) (fun k0 s0 hk0 hI0 => ?_) (fun k0 s0 hk0 hI0 => ?_) (fun y0 hD0 => ?_)
 ·
  have hA0_0 := hI0.2
  obtain ⟨a0, hx0⟩ := Xr (l := f.2.2.2.2) (i := k0) hk0
  have hb0 := K0 s0 a0
  have hp1 := hA0_0.1
  refine su Qa [(17, .b true)] [] [] [] (pe 0 (Qw (decide_eq_true (p := ((k0 : Nat) : Int) < (f.2.2.2.2.length : Int)) (by omega))) p0) ?_
  refine Qc ?_
  refine ckT ?_
  refine Qh ?_
  refine Qc ?_
  refine Qt ?_
  refine sn Qa [3, 4, 5, 7, 14, 15, 16] [3, 7] (pn 0 hx0 p0) ?_
  refine tn Qa [3, 4, 5, 7, 8, 14, 15, 16] [3, 7] (pc 5 (T2 s0 a0.1 a0.2) p0) ?_
  refine Qc ?_
  refine tu Qa [(7, .p 7 0), (8, .i (X6 s0 a0.1 a0.2)), (27, .b (decide ((X6 s0 a0.1 a0.2) < (0 : Int))))] [17] [(7, [.s a0.1, .i a0.2.1, .i a0.2.2.1, .s a0.2.2.2])] [] (p0) ?_
  obtain ⟨x3, hx3⟩ := nm ((bif decide ((X6 s0 a0.1 a0.2) < (0 : Int)) then (bif decide ((Qd s0 a0) < (0 : Int)) then (K9 s0 (Int.toNat (s0.length : Int)) ((a0.1, a0.2, []) : Qn), (s0.length : Int)) else (K9 s0 (Int.toNat (Qd s0 a0)) ((a0.1, a0.2, []) : Qn), (Qd s0 a0))) else (s0, (X6 s0 a0.1 a0.2))))
  obtain ⟨hj1, hj2, hj3, hj4⟩ := hx3 ▸ join_ix (a0 := a0) hA0_0
  refine jn [(5, .o 448128 x3.1), (8, .i x3.2)] [5, 7, 8, 27] [] [7] (decide ((X6 s0 a0.1 a0.2) < (0 : Int))) (fun h4 => ?_) (fun h4 => ?_) ?_
  ·
   have h4d := of_decide_eq_true h4
   refine ckt h4 ?_
   refine sn Qa [3, 4, 5, 7, 8, 14, 15, 16] [3, 7] (pc 2 (Hh s0 a0) p0) ?_
   refine Qc ?_
   refine tn Qa [3, 4, 5, 7, 8, 14, 15, 16, 32] [3, 7] (p0) ?_
   refine ck (decide ((Qd s0 a0) < (0 : Int))) (fun h5 => ?_) (fun h5 => ?_)
   ·
    have h5d := of_decide_eq_true h5
    refine qu Qa [(8, .i (s0.length : Int))] [8, 27] [] [] (pl 1 s0 p0) ?_
    refine wT 5 0 (.own true 147202) s0 (fun hw6 hl7 => ?_)
    refine rn Qa [3, 4, 5, 8, 14, 15, 16] [3] (po 8 (.ins (eL (K9 s0 (Int.toNat (s0.length : Int)) ((a0.1, a0.2, []) : Qn)))) (px (ob_ins (f := 102) (n := 5) Rl) (px (Cs (lo := 0) (hi := (s0.length : Int)) (n := (List.length (eL s0))) (FA (by omega) (by omega))) (px (Hu (n := (List.length (eL s0) + 1)) (FB (by omega))) (px (ob_eq (show .h (K9 s0 (Int.toNat (s0.length : Int)) ((a0.1, a0.2, []) : Qn)) = .one (.slc .sh 5 (List.take (Int.toNat (s0.length : Int)) (eL s0) ++ [[.s a0.1, .i a0.2.1, .i a0.2.2.1, .s a0.2.2.2, .slc 1 []]] ++ List.drop (Int.toNat (s0.length : Int)) (eL s0))) from av_ins s0 (Int.toNat (s0.length : Int)) ((a0.1, a0.2, []) : Qn))) p0))))) ?_
    obtain rfl : x3 = (K9 s0 (Int.toNat (s0.length : Int)) ((a0.1, a0.2, []) : Qn), (s0.length : Int)) := hx3.symm.trans (show (bif decide ((X6 s0 a0.1 a0.2) < (0 : Int)) then (bif decide ((Qd s0 a0) < (0 : Int)) then (K9 s0 (Int.toNat (s0.length : Int)) ((a0.1, a0.2, []) : Qn), (s0.length : Int)) else (K9 s0 (Int.toNat (Qd s0 a0)) ((a0.1, a0.2, []) : Qn), (Qd s0 a0))) else (s0, (X6 s0 a0.1 a0.2))) = (K9 s0 (Int.toNat (s0.length : Int)) ((a0.1, a0.2, []) : Qn), (s0.length : Int)) from Q1 h4 (Q1 h5 (rfl)))
    exact ⟨rfl, X3 [(2752, 448128)] (by kernel_rfl)⟩
   have h5d := of_decide_eq_false h5
   refine Qh ?_
   refine wT 5 0 (.own true 147202) s0 (fun hw8 hl9 => ?_)
   refine qu Qa [(5, .o 2752 (K9 s0 (Int.toNat (Qd s0 a0)) ((a0.1, a0.2, []) : Qn))), (8, .i (Qd s0 a0))] [5, 7, 8, 27] [] [7] (po 8 (.ins (eL (K9 s0 (Int.toNat (Qd s0 a0)) ((a0.1, a0.2, []) : Qn)))) (px (ob_ins (f := 102) (n := 5) Rl) (px (Cs (lo := 0) (hi := (Qd s0 a0)) (n := (List.length (eL s0))) (FA (by omega) (by omega))) (px (Hu (n := (List.length (eL s0) + 1)) (FB (by omega))) (px (ob_eq (show .h (K9 s0 (Int.toNat (Qd s0 a0)) ((a0.1, a0.2, []) : Qn)) = .one (.slc .sh 5 (List.take (Int.toNat (Qd s0 a0)) (eL s0) ++ [[.s a0.1, .i a0.2.1, .i a0.2.2.1, .s a0.2.2.2, .slc 1 []]] ++ List.drop (Int.toNat (Qd s0 a0)) (eL s0))) from av_ins s0 (Int.toNat (Qd s0 a0)) ((a0.1, a0.2, []) : Qn))) p0))))) ?_
   obtain rfl : x3 = (K9 s0 (Int.toNat (Qd s0 a0)) ((a0.1, a0.2, []) : Qn), (Qd s0 a0)) := hx3.symm.trans (show (bif decide ((X6 s0 a0.1 a0.2) < (0 : Int)) then (bif decide ((Qd s0 a0) < (0 : Int)) then (K9 s0 (Int.toNat (s0.length : Int)) ((a0.1, a0.2, []) : Qn), (s0.length : Int)) else (K9 s0 (Int.toNat (Qd s0 a0)) ((a0.1, a0.2, []) : Qn), (Qd s0 a0))) else (s0, (X6 s0 a0.1 a0.2))) = (K9 s0 (Int.toNat (Qd s0 a0)) ((a0.1, a0.2, []) : Qn), (Qd s0 a0)) from Q1 h4 (Ql h5 (rfl)))
   exact ⟨rfl, X3 [(2752, 448128)] (by kernel_rfl)⟩
  ·
   refine ckf h4 ?_
   refine Qh ?_
   obtain rfl : x3 = (s0, (X6 s0 a0.1 a0.2)) := hx3.symm.trans (show (bif decide ((X6 s0 a0.1 a0.2) < (0 : Int)) then (bif decide ((Qd s0 a0) < (0 : Int)) then (K9 s0 (Int.toNat (s0.length : Int)) ((a0.1, a0.2, []) : Qn), (s0.length : Int)) else (K9 s0 (Int.toNat (Qd s0 a0)) ((a0.1, a0.2, []) : Qn), (Qd s0 a0))) else (s0, (X6 s0 a0.1 a0.2))) = (s0, (X6 s0 a0.1 a0.2)) from Ql h4 (rfl))
   exact ⟨rfl, X3 [(147202, 448128)] (by kernel_rfl)⟩
  refine wT 5 0 (.own true 448128) x3.1 (fun hw11 hl12 => ?_)
  have hx10 := ng x3.1 (Int.toNat x3.2)
  have hx10j := hj4 _ (List.mem_of_getElem? hx10); have hx10b := Ad ((nth x3.1 (Int.toNat x3.2)).2.2) f
  refine sn Qa [3, 4, 5, 9, 14, 15, 16] [3] (pG 2 x3.2 hx10 p0) ?_
  refine tn Qa [3, 4, 5, 9, 10, 14, 15, 16] [3] (pc 5 (Ar ((nth x3.1 (Int.toNat x3.2)).2.2) f) p0) ?_
  refine Qt ?_
  refine tu Qa [(9, .one (.ept true 448128 5 (Int.toNat x3.2) 0 [.s ((nth x3.1 (Int.toNat x3.2)).1), .i ((nth x3.1 (Int.toNat x3.2)).2.1.1), .i ((nth x3.1 (Int.toNat x3.2)).2.1.2.1), .s ((nth x3.1 (Int.toNat x3.2)).2.1.2.2), .h ((nth x3.1 (Int.toNat x3.2)).2.2)])), (10, .i (Qg ((nth x3.1 (Int.toNat x3.2)).2.2) f)), (53, .b (decide ((Qg ((nth x3.1 (Int.toNat x3.2)).2.2) f) < (0 : Int))))] [8] [] [] (p0) ?_
  refine ck (decide ((Qg ((nth x3.1 (Int.toNat x3.2)).2.2) f) < (0 : Int))) (fun h13 => ?_) (fun h13 => ?_)
  ·
   have h13d := of_decide_eq_true h13
   refine EN 9 4 rfl rfl (fun v14 => ?_)
   have hl15 : List.length ((nth x3.1 (Int.toNat x3.2)).2.2) ≤ 1073741824 := W7 (E5 (E5 (N2 hx10 (hw11))))
   refine rU Qa Yc [(5, .one (.slc (.own true 448128) 5 (setRow (setRow (eL x3.1) (Int.toNat x3.2) 4 [.any]) (Int.toNat x3.2) 4 [.slc 1 ((eL ((nth x3.1 (Int.toNat x3.2)).2.2)) ++ [[.i f.1]])])))] [5, 9, 10, 53] [] [] (po 8 (.gh 60 59 5 [.s ((nth x3.1 (Int.toNat x3.2)).1), .i ((nth x3.1 (Int.toNat x3.2)).2.1.1), .i ((nth x3.1 (Int.toNat x3.2)).2.1.2.1), .s ((nth x3.1 (Int.toNat x3.2)).2.1.2.2), .h ((nth x3.1 (Int.toNat x3.2)).2.2)] (.no)) (px (EM (KJ (i := (((Int.toNat x3.2) : Nat) : Int)) (by omega) rfl hx10)) (px (ob_eq (show .one (.raw v14) = .one (.raw v14) from rfl)) (pa ((nth x3.1 (Int.toNat x3.2)).2.2) [f.1] p0)))) ?_
   refine eqn [(5, .o 448128 (List.set x3.1 (Int.toNat x3.2) ((nth x3.1 (Int.toNat x3.2)).1, ((nth x3.1 (Int.toNat x3.2)).2.1.1, (nth x3.1 (Int.toNat x3.2)).2.1.2.1, (nth x3.1 (Int.toNat x3.2)).2.1.2.2), (nth x3.1 (Int.toNat x3.2)).2.2 ++ [f.1])))] [5] [] [] (by rw [show (PV.slc 1 ((eL ((nth x3.1 (Int.toNat x3.2)).2.2)) ++ [[.i f.1]])) = (PV.h ((nth x3.1 (Int.toNat x3.2)).2.2 ++ [f.1])) from congrArg (PV.slc 1) (Vn (rfl) (rfl)), Pp (o := 4) (ps := [.h ((nth x3.1 (Int.toNat x3.2)).2.2 ++ [f.1])]) (y := ((nth x3.1 (Int.toNat x3.2)).1, ((nth x3.1 (Int.toNat x3.2)).2.1.1, (nth x3.1 (Int.toNat x3.2)).2.1.2.1, (nth x3.1 (Int.toNat x3.2)).2.1.2.2), (nth x3.1 (Int.toNat x3.2)).2.2 ++ [f.1])) hx10 (Nat.le_of_ble_eq_true rfl) rfl rfl]; first | done | kernel_rfl) ?_
   refine rn Qa [3, 4, 5, 14, 15, 16] [3] (pe 0 (Jw (Qy k0 (by omega))) p0) ?_
   exact Exists.intro (List.set x3.1 (Int.toNat x3.2) ((nth x3.1 (Int.toNat x3.2)).1, ((nth x3.1 (Int.toNat x3.2)).2.1.1, (nth x3.1 (Int.toNat x3.2)).2.1.2.1, (nth x3.1 (Int.toNat x3.2)).2.1.2.2), (nth x3.1 (Int.toNat x3.2)).2.2 ++ [f.1])) (And.intro (X3 [(448128, 147202)] (by kernel_rfl)) ⟨Q0 hx0 (Yo hx3 (Q1 h13 (rfl))) hI0.1, (by first | exact Nh (K := K + k0) hj3 hj4 (by first | omega | (simp; omega) | (rw [Lu]; omega)) | exact Sd (K := K + k0) hj3 hj4)⟩)
  have h13d := of_decide_eq_false h13
  have hl17 : List.length ((nth x3.1 (Int.toNat x3.2)).2.2) ≤ 1073741824 := W7 (E5 (E5 (N2 hx10 (hw11))))
  have hx16 := ng ((nth x3.1 (Int.toNat x3.2)).2.2) (Int.toNat (Qg ((nth x3.1 (Int.toNat x3.2)).2.2) f))
  refine sN Qa Yc [3, 4, 5, 9, 10, 14, 15, 16, 67] [3] (pg 5 (Qg ((nth x3.1 (Int.toNat x3.2)).2.2) f) hx16 p0) ?_
  refine ck ((nth ((nth x3.1 (Int.toNat x3.2)).2.2) (Int.toNat (Qg ((nth x3.1 (Int.toNat x3.2)).2.2) f))) != f.1) (fun h18 => ?_) (fun h18 => ?_)
  ·
   have h18d := N3 h18
   refine mz [(67, .b ((nth ((nth x3.1 (Int.toNat x3.2)).2.2) (Int.toNat (Qg ((nth x3.1 (Int.toNat x3.2)).2.2) f))) != f.1))] [53] [] [] ?_
   refine EN 9 4 rfl rfl (fun v19 => ?_)
   refine rU Qa Yc [(5, .one (.slc (.own true 448128) 5 (setRow (setRow (eL x3.1) (Int.toNat x3.2) 4 [.any]) (Int.toNat x3.2) 4 [.h (K9 ((nth x3.1 (Int.toNat x3.2)).2.2) (Int.toNat (Qg ((nth x3.1 (Int.toNat x3.2)).2.2) f)) f.1)])))] [5, 9, 10, 67] [] [] (po 9 (.gh 82 81 5 [.s ((nth x3.1 (Int.toNat x3.2)).1), .i ((nth x3.1 (Int.toNat x3.2)).2.1.1), .i ((nth x3.1 (Int.toNat x3.2)).2.1.2.1), .s ((nth x3.1 (Int.toNat x3.2)).2.1.2.2), .h ((nth x3.1 (Int.toNat x3.2)).2.2)] (.take true false (eL (K9 ((nth x3.1 (Int.toNat x3.2)).2.2) (Int.toNat (Qg ((nth x3.1 (Int.toNat x3.2)).2.2) f)) f.1)))) (px (EM (KJ (i := (((Int.toNat x3.2) : Nat) : Int)) (by omega) rfl hx10)) (px (ob_eq (show .one (.raw v19) = .one (.raw v19) from rfl)) (px (UD (insInt_a ((nth x3.1 (Int.toNat x3.2)).2.2) f.1 (i := (Qg ((nth x3.1 (Int.toNat x3.2)).2.2) f)) (by omega) (by omega) (by omega))) (px (H4 (H5 ((nth x3.1 (Int.toNat x3.2)).2.2))) (px (H4 (H5 (K9 ((nth x3.1 (Int.toNat x3.2)).2.2) (Int.toNat (Qg ((nth x3.1 (Int.toNat x3.2)).2.2) f)) f.1))) p0)))))) ?_
   refine eqn [(5, .o 448128 (List.set x3.1 (Int.toNat x3.2) ((nth x3.1 (Int.toNat x3.2)).1, ((nth x3.1 (Int.toNat x3.2)).2.1.1, (nth x3.1 (Int.toNat x3.2)).2.1.2.1, (nth x3.1 (Int.toNat x3.2)).2.1.2.2), K9 ((nth x3.1 (Int.toNat x3.2)).2.2) (Int.toNat (Qg ((nth x3.1 (Int.toNat x3.2)).2.2) f)) f.1)))] [5] [] [] (by rw [Pp (o := 4) (ps := [.h (K9 ((nth x3.1 (Int.toNat x3.2)).2.2) (Int.toNat (Qg ((nth x3.1 (Int.toNat x3.2)).2.2) f)) f.1)]) (y := ((nth x3.1 (Int.toNat x3.2)).1, ((nth x3.1 (Int.toNat x3.2)).2.1.1, (nth x3.1 (Int.toNat x3.2)).2.1.2.1, (nth x3.1 (Int.toNat x3.2)).2.1.2.2), K9 ((nth x3.1 (Int.toNat x3.2)).2.2) (Int.toNat (Qg ((nth x3.1 (Int.toNat x3.2)).2.2) f)) f.1)) hx10 (Nat.le_of_ble_eq_true rfl) rfl rfl]; first | done | kernel_rfl) ?_
   refine rn Qa [3, 4, 5, 14, 15, 16] [3] (pe 0 (Jw (Qy k0 (by omega))) p0) ?_
   exact Exists.intro (List.set x3.1 (Int.toNat x3.2) ((nth x3.1 (Int.toNat x3.2)).1, ((nth x3.1 (Int.toNat x3.2)).2.1.1, (nth x3.1 (Int.toNat x3.2)).2.1.2.1, (nth x3.1 (Int.toNat x3.2)).2.1.2.2), K9 ((nth x3.1 (Int.toNat x3.2)).2.2) (Int.toNat (Qg ((nth x3.1 (Int.toNat x3.2)).2.2) f)) f.1)) (And.intro (X3 [(448128, 147202)] (by kernel_rfl)) ⟨Q0 hx0 (Yo hx3 (Ql h13 (Q1 h18 (rfl)))) hI0.1, (by first | exact Nh (K := K + k0) hj3 hj4 (by first | omega | (simp; omega) | (rw [Lu]; omega)) | exact Sd (K := K + k0) hj3 hj4)⟩)
  have h18d := V6 h18
  refine Qh ?_
  refine qn Qa [3, 4, 5, 14, 15, 16] [3] (pe 0 (Jw (Qy k0 (by omega))) p0) ?_
  exact Exists.intro x3.1 (And.intro (X3 [(448128, 147202)] (by kernel_rfl)) ⟨Q0 hx0 (Yo hx3 (Ql h13 (Ql h18 (rfl)))) hI0.1, (by first | exact Nh (K := K + k0) hj3 hj4 (by first | omega | (simp; omega) | (rw [Lu]; omega)) | exact Sd (K := K + k0) hj3 hj4)⟩)
 ·
  have hA0_0 := hI0.2
  refine su Qa [(17, .b false)] [] [] [] (pe 0 (Qw (decide_eq_false (p := ((k0 : Nat) : Int) < (f.2.2.2.2.length : Int)) (by omega))) p0) ?_
  refine Qc ?_
  refine ckF ?_
  refine Q2 ?_
  exact Exists.intro _ (And.intro (X3 [(147202, 147352)] (by kernel_rfl)) (Xs hk0 (rfl) hI0.1))
 refine sn Qa [4] [] (p0) ?_
 refine Qe ?_
 exact po0 [] (Un hD0 (rfl))
def Wm (a_ : Jc) (b : Jc) : Int := (bif decide (a_.1 < b.1) then -1 else (bif decide (a_.1 > b.1) then 1 else (bif decide (a_.2.1 < b.2.1) then -1 else (bif decide (a_.2.1 > b.2.1) then 1 else (bif (Op.bytesLess a_.2.2.toList b.2.2.toList) then -1 else (bif (!(Op.bytesLess a_.2.2.toList b.2.2.toList || a_.2.2.toList == b.2.2.toList)) then 1 else 0))))))
theorem Nj (a_ : Jc) (b : Jc) : ACalls Tryz.prog 119 [.a [.i a_.1, .i a_.2.1, .s a_.2.2], .a [.i b.1, .i b.2.1, .s b.2.2]] (.i (Wm a_ b)) := by
 refine en Qa Tryz.func119 fun w0 F0 hG => ?_
 refine sn Qa [2, 3, 4] [2, 3] (p0) ?_
 refine Qc ?_
 refine Qt ?_
 refine tn Qa [2, 3, 4, 5] [2, 3] (p0) ?_
 refine ck (decide (a_.1 < b.1)) (fun h1 => ?_) (fun h1 => ?_)
 ·
  refine tu Qa [(4, .i (-1))] [0, 1] [] [] (p0) ?_
  refine Qe ?_
  exact pi [] (Q1 h1 (rfl))
 refine tu Qa [(2, .p 2 0), (3, .p 3 0), (4, .i 0), (11, .b (decide (a_.1 > b.1)))] [0, 1] [(2, [.i a_.1, .i a_.2.1, .s a_.2.2]), (3, [.i b.1, .i b.2.1, .s b.2.2])] [] (p0) ?_
 refine ck (decide (a_.1 > b.1)) (fun h2 => ?_) (fun h2 => ?_)
 ·
  refine sn Qa [4] [] (p0) ?_
  refine Qe ?_
  exact pi [] (Ql h1 (Q1 h2 (rfl)))
 refine sn Qa [2, 3, 4, 17] [2, 3] (p0) ?_
 refine ck (decide (a_.2.1 < b.2.1)) (fun h3 => ?_) (fun h3 => ?_)
 ·
  refine tn Qa [4] [] (p0) ?_
  refine Qe ?_
  exact pi [] (Ql h1 (Ql h2 (Q1 h3 (rfl))))
 refine tn Qa [2, 3, 4, 23] [2, 3] (p0) ?_
 refine ck (decide (a_.2.1 > b.2.1)) (fun h4 => ?_) (fun h4 => ?_)
 ·
  refine tu Qa [(4, .i 1)] [2, 3, 4, 11] [] [2, 3] (p0) ?_
  refine Qe ?_
  exact pi [] (Ql h1 (Ql h2 (Ql h3 (Q1 h4 (rfl)))))
 refine tu Qa [(29, .b (Op.bytesLess a_.2.2.toList b.2.2.toList))] [11] [] [] (p0) ?_
 refine ck (Op.bytesLess a_.2.2.toList b.2.2.toList) (fun h5 => ?_) (fun h5 => ?_)
 ·
  refine sn Qa [4] [] (p0) ?_
  refine Qe ?_
  exact pi [] (Ql h1 (Ql h2 (Ql h3 (Ql h4 (Q1 h5 (rfl))))))
 refine sn Qa [4, 35] [] (p0) ?_
 refine ck (!(Op.bytesLess a_.2.2.toList b.2.2.toList || a_.2.2.toList == b.2.2.toList)) (fun h6 => ?_) (fun h6 => ?_)
 ·
  refine tn Qa [4] [] (p0) ?_
  refine Qe ?_
  exact pi [] (Ql h1 (Ql h2 (Ql h3 (Ql h4 (Ql h5 (Q1 h6 (rfl)))))))
 refine Qh ?_
 refine tn Qa [4] [] (p0) ?_
 refine Qe ?_
 exact pi [] (Ql h1 (Ql h2 (Ql h3 (Ql h4 (Ql h5 (Ql h6 (rfl)))))))
def Fp (_ : Nat) (a0 : Qn) (s0 : (List Qn)) : Rd ((List Qn)) ((List Qn)) ((List Qn)) := (.next (s0 ++ [a0]))
def Dj (_ : Nat) (s0 : (List Qn)) : (List Qn) := s0
def C3 (ix : (List Qn)) : (List Qn) := (Out.on (Xp Fp Dj ix 0 []) (fun y0 => y0))
theorem YD (ix : List Qn) : C3 ix = ix := by
 unfold C3
 rw [Gn (f := Fp) (e := Dj) (g := fun a : Qn => a) (fun _ _ _ => rfl)]
 simp [Out.on, Dj]
theorem JD (ix : (List Qn)) : ACalls Tryz.prog 75 [.h ix] (.o 0 (C3 ix)) := by
 refine en Qa Tryz.func75 fun w0 F0 hG => ?_
 refine sn Qa [0, 2] [] (p0) ?_
 refine tn Qa [0, 2, 3] [] (p0) ?_
 refine Qc ?_
 refine tu Qa [(2, .e 0), (3, .one (.slc (.own true 320) 5 [])), (4, .i 0)] [] [] [] (p0) ?_
 refine wT 0 0 .sh ix (fun hw1 hl2 => ?_)
 refine blL1 Fp Dj ix [] (fun k0 s0 => [(3, .o 147202 s0), (4, .i ((k0 : Nat) : Int))]) [3, 4] (fun y0 => [(3, .o 147352 y0)]) [0, 3, 4] (fun k0 s0 => List.length s0 ≤ k0) (X3 [(320, 147202)] (by kernel_rfl)) (by simp) (fun k0 s0 hk0 hI0 => ?_) (fun k0 s0 hk0 hI0 => ?_) (fun y0 hD0 => ?_)
 ·
  have hA0_0 := hI0.2
  obtain ⟨a0, hx0⟩ := Xr (l := ix) (i := k0) hk0
  refine Qc ?_
  refine sn Qa [0, 2, 3, 4, 9] [] (pl 2 ix (pe 3 (Qw (decide_eq_true (p := ((k0 : Nat) : Int) < (ix.length : Int)) (by omega))) p0)) ?_
  refine ckT ?_
  refine Qh ?_
  refine Qc ?_
  refine Qt ?_
  have hl3 : List.length a0.2.2 ≤ 1073741824 := W7 (E5 (E5 (N2 hx0 (hw1))))
  refine wT 3 0 (.own true 147202) s0 (fun hw4 hl5 => ?_)
  refine qU Qa Yc [(3, .one (.slc (.own true 2048) 5 ((eL s0) ++ [[.s a0.1, .i a0.2.1.1, .i a0.2.1.2.1, .s a0.2.1.2.2, .slc 1 ([] ++ (eL a0.2.2))]])))] [3] [] [] (pn 3 hx0 (pn 8 hx0 (pn 14 hx0 (po 17 (.flat) (px (Hu (n := (([] : List (List PV)).length + ((eL a0.2.2) : List (List PV)).length)) (Dm (rfl) (Yb a0.2.2) (by first | omega | (simp only [List.length_cons, List.length_nil]; omega) | (simp; omega) | simp))) (px (H4 (H5 a0.2.2)) (px (Hu (n := (((eL s0) : List (List PV)).length + ([[.s a0.1, .i a0.2.1.1, .i a0.2.1.2.1, .s a0.2.1.2.2, .slc 1 ([] ++ (eL a0.2.2))]] : List (List PV)).length)) (Dm (Yb s0) (rfl) (by first | omega | (simp only [List.length_cons, List.length_nil]; omega) | (simp; omega) | simp))) p0))))))) ?_
  refine eqn [(3, .o 2048 (s0 ++ [a0]))] [3] [] [] (by rw [show ((eL s0) ++ [[.s a0.1, .i a0.2.1.1, .i a0.2.1.2.1, .s a0.2.1.2.2, .slc 1 ([] ++ (eL a0.2.2))]]) = (eL (s0 ++ [a0])) from Vn (rfl) (rfl)]; first | done | kernel_rfl) ?_
  refine rn Qa [0, 2, 3, 4] [] (pe 1 (Jw (Qy k0 (by omega))) p0) ?_
  exact Exists.intro (s0 ++ [a0]) (And.intro (X3 [(2048, 147202)] (by kernel_rfl)) ⟨Q0 hx0 (rfl) hI0.1, by first | omega | (simp; omega) | simp⟩)
 ·
  have hA0_0 := hI0.2
  refine Qc ?_
  refine sn Qa [0, 2, 3, 4, 9] [] (pl 2 ix (pe 3 (Qw (decide_eq_false (p := ((k0 : Nat) : Int) < (ix.length : Int)) (by omega))) p0)) ?_
  refine ckF ?_
  refine Q2 ?_
  exact Exists.intro _ (And.intro (X3 [(147202, 147352)] (by kernel_rfl)) (Xs hk0 (rfl) hI0.1))
 refine sn Qa [2] [] (p0) ?_
 refine Qe ?_
 exact po0 [] (Un hD0 (rfl))
def Ux (n : Int) (k0 : Nat) (a0 : Int) (_ : Unit) : Rd ((List Int)) (Unit) (Int) := (bif decide (a0 < n) then (.next ()) else (.brk ((k0 : Nat) : Int)))
def Cp (k0 : Nat) (_ : Unit) : Int := ((k0 : Nat) : Int)
def Wf (list : (List Int)) (n : Int) : (List Int) := (Out.on (Xp (Ux n) Cp list 0 ()) (fun y0 => (bif (decide (y0 < (list.length : Int)) && ((nth list (Int.toNat y0)) == n)) then list else List.take (Int.toNat y0) list ++ [n] ++ (List.drop (Int.toNat y0) list))))
theorem BD (l : List Int) (n : Int) : List.length (Wf l n) ≤ List.length l + 1 := by
 unfold Wf
 rw [VM (p := fun a : Int => !(decide (a < n))) (f := Ux n) (e := Cp) (fun k a s => by unfold Ux; cases decide (a < n) <;> rfl) (fun _ _ => rfl)]
 simp only [Out.on]
 generalize (_ && _) = c
 cases c with
 | true => exact Nat.le_succ _
 | false => simp; omega
theorem QG (list : (List Int)) (n : Int) (hp : list.length < 1073741824) : ACalls Tryz.prog 76 [.h list, .i n] (.h (Wf list n)) := by
 refine en Qa Tryz.func76 fun w0 F0 hG => ?_
 refine sn Qa [0, 1, 4] [] (p0) ?_
 refine tn Qa [0, 1, 4, 5] [] (p0) ?_
 refine Qc ?_
 refine mz [(4, .e 0), (5, .i 0)] [] [] [] ?_
 refine wT 0 0 .sh list (fun hw1 hl2 => ?_)
 refine blL2 (Ux n) Cp list () (fun k0 _ => [(5, .i ((k0 : Nat) : Int))]) [5] (fun y0 => [(5, .i y0)]) [5] (fun y0 => 0 ≤ y0 ∧ y0 ≤ (list.length : Int)) wf0 (fun k0 s0 hk0 hI0 => ?_) (fun k0 s0 hk0 hI0 => ?_) (fun y0 hD0 => ?_)
 ·
  obtain ⟨a0, hx0⟩ := Xr (l := list) (i := k0) hk0
  refine Qc ?_
  refine sn Qa [0, 1, 4, 5, 18] [] (pl 2 list (pe 3 (Qw (decide_eq_true (p := ((k0 : Nat) : Int) < (list.length : Int)) (by omega))) (pn 7 hx0 p0))) ?_
  refine ck (decide (a0 < n)) (fun h3 => ?_) (fun h3 => ?_)
  ·
   have h3d := of_decide_eq_true h3
   refine Qh ?_
   refine Qt ?_
   refine qn Qa [0, 1, 4, 5] [] (pe 1 (Jw (Qy k0 (by omega))) p0) ?_
   exact xw _ (Q0 hx0 (Q1 h3 (rfl)) hI0)
  have h3d := of_decide_eq_false h3
  refine Q2 ?_
  exact xw ((k0 : Nat) : Int) ⟨Lm hx0 (Ql h3 (rfl)) hI0, by first | omega | (simp only [List.length_set]; omega)⟩
 ·
  refine Qc ?_
  refine sn Qa [0, 1, 4, 5, 18] [] (pl 2 list (pe 3 (Qw (decide_eq_false (p := ((k0 : Nat) : Int) < (list.length : Int)) (by omega))) p0)) ?_
  refine ckF ?_
  refine Q2 ?_
  exact xw ((k0 : Nat) : Int) ⟨Xs hk0 (rfl) hI0, by first | omega | (simp only [List.length_set]; omega)⟩
 have hD0_0 := hD0.2
 refine Qc ?_
 refine Qc ?_
 refine jn [(32, .b (decide (y0 < (list.length : Int)) && ((nth list (Int.toNat y0)) == n)))] [] [] [] (decide (y0 < (list.length : Int))) (fun h4 => ?_) (fun h4 => ?_) ?_
 ·
  have h4d := of_decide_eq_true h4
  have hx5 := ng list (Int.toNat y0)
  refine rn Qa [0, 1, 4, 5, 32] [] (pl 2 list (pt 3 h4 (pg 7 y0 hx5 p0))) ?_
  exact ⟨rfl, Qf (by rw [h4] <;> kernel_rfl)⟩
 ·
  refine rn Qa [0, 1, 4, 5, 32] [] (pl 2 list (pf 3 h4 p0)) ?_
  exact ⟨rfl, Qf (by rw [h4] <;> kernel_rfl)⟩
 refine ck (decide (y0 < (list.length : Int)) && ((nth list (Int.toNat y0)) == n)) (fun h6 => ?_) (fun h6 => ?_)
 ·
  refine sn Qa [0, 1, 4, 5] [] (p0) ?_
  refine Qe ?_
  exact ph0 [] (Un hD0.1 (Q1 h6 (rfl)))
 refine Qh ?_
 have hl7 : List.length (List.take (Int.toNat y0) list) ≤ 1073741824 := W7 (Ix (Int.toNat y0) (hw1))
 refine su Qa [(6, .one (.slc (.own true 2624) 1 (([] ++ (eL (List.take (Int.toNat y0) list))) ++ [[.i n]])))] [1, 32] [] [] (pe 3 (M4 .sh 1 (Int.toNat y0) y0 list rfl) (px (Cs (lo := 0) (hi := y0) (n := (List.length (eL list))) (Tf (by omega) (by omega) (by omega))) (po 4 (.flat) (px (Hu (n := (([] : List (List PV)).length + ((eL (List.take (Int.toNat y0) list)) : List (List PV)).length)) (Dm (rfl) (Yb (List.take (Int.toNat y0) list)) (by first | omega | (simp only [List.length_cons, List.length_nil]; omega) | (simp; omega) | simp))) (px (H4 (H5 (List.take (Int.toNat y0) list))) (px (Hu (n := ((([] ++ (eL (List.take (Int.toNat y0) list))) : List (List PV)).length + ([[.i n]] : List (List PV)).length)) (by simp [Yb]; omega)) p0)))))) ?_
 refine eqn [(6, .o 2624 (List.take (Int.toNat y0) list ++ [n]))] [6] [] [] (by rw [show (([] ++ (eL (List.take (Int.toNat y0) list))) ++ [[.i n]]) = (eL (List.take (Int.toNat y0) list ++ [n])) from Vn (rfl) (rfl)]; first | done | kernel_rfl) ?_
 refine wT 6 0 (.own true 2624) (List.take (Int.toNat y0) list ++ [n]) (fun hw8 hl9 => ?_)
 have hl10 : List.length (List.drop (Int.toNat y0) list) ≤ 1073741824 := W7 (Iy (Int.toNat y0) (hw1))
 refine su Qa [(4, .one (.slc (.own true 2944) 1 ((eL (List.take (Int.toNat y0) list ++ [n])) ++ (eL (List.drop (Int.toNat y0) list)))))] [0, 4, 5, 6] [] [] (pe 3 (Te .sh 1 (Int.toNat y0) y0 list rfl) (px (Cs (lo := y0) (hi := (((eL list) : List (List PV)).length : Int)) (n := (List.length (eL list))) (Tg (by omega) (by omega))) (po 4 (.flat) (pa (List.take (Int.toNat y0) list ++ [n]) (List.drop (Int.toNat y0) list) (px (H4 (H5 (List.drop (Int.toNat y0) list))) p0))))) ?_
 refine eqn [(4, .o 2944 (List.take (Int.toNat y0) list ++ [n] ++ (List.drop (Int.toNat y0) list)))] [4] [] [] (by rw [show ((eL (List.take (Int.toNat y0) list ++ [n])) ++ (eL (List.drop (Int.toNat y0) list))) = (eL (List.take (Int.toNat y0) list ++ [n] ++ (List.drop (Int.toNat y0) list))) from Vn (rfl) (rfl)]; first | done | kernel_rfl) ?_
 refine Qe ?_
 exact ph0 [2944] (Un hD0.1 (Ql h6 (rfl)))
def Av (p : Qn) (name : ByteArray) (v : Jc) : Bool := ((!(Op.bytesLess p.1.toList name.toList || p.1.toList == name.toList)) || ((p.1.toList == name.toList) && decide ((Wm p.2.1 v) > (0 : Int))))
theorem T4 (p : Qn) (name : ByteArray) (v : Jc) : ACalls Tryz.prog 77 [.a [.s p.1, .i p.2.1.1, .i p.2.1.2.1, .s p.2.1.2.2, .h p.2.2], .s name, .a [.i v.1, .i v.2.1, .s v.2.2]] (.b (Av p name v)) := by
 refine en Qa Tryz.func77 fun w0 F0 hG => ?_
 refine sn Qa [1, 3, 5, 6] [3, 5] (p0) ?_
 refine Qc ?_
 refine mz [(3, .p 3 0), (5, .p 5 0), (6, .b false)] [0, 2] [(3, [.s p.1, .i p.2.1.1, .i p.2.1.2.1, .s p.2.1.2.2, .h p.2.2]), (5, [.i v.1, .i v.2.1, .s v.2.2])] [] ?_
 refine jn [(6, .b ((!(Op.bytesLess p.1.toList name.toList || p.1.toList == name.toList)) || ((p.1.toList == name.toList) && decide ((Wm p.2.1 v) > (0 : Int)))))] [1, 3, 5, 6] [] [3, 5] (!(Op.bytesLess p.1.toList name.toList || p.1.toList == name.toList)) (fun h1 => ?_) (fun h1 => ?_) ?_
 ·
  refine rn Qa [6] [] (pt 3 h1 p0) ?_
  exact ⟨rfl, Qf (by rw [h1] <;> kernel_rfl)⟩
 ·
  refine Q9 (p.1.toList == name.toList) (fun h2 => ?_) (fun h2 => ?_)
  ·
   refine rn Qa [6] [] (pf 3 h1 (pt 8 h2 (pc 13 (Nj p.2.1 v) p0))) ?_
   exact ⟨rfl, Qf (by rw [h1, h2] <;> kernel_rfl)⟩
  refine rn Qa [6] [] (pf 3 h1 (pf 8 h2 p0)) ?_
  exact ⟨rfl, Qf (by rw [h1, h2] <;> kernel_rfl)⟩
 refine Qe ?_
 exact pb [] (show Av p name v = ((!(Op.bytesLess p.1.toList name.toList || p.1.toList == name.toList)) || ((p.1.toList == name.toList) && decide ((Wm p.2.1 v) > (0 : Int)))) from rfl)
def Aw (a0 : Wp) (k1 : Nat) (a1 : Qn) (_ : Unit) : Rd (Rd ((List Qn)) ((List Qn)) ((List Qn))) (Unit) (Int) := (bif ((!(a1.1.toList == a0.1.toList)) || (!((a1.2.1.1 == a0.2.1) && ((a1.2.1.2.1 == a0.2.2.1) && ((a1.2.1.2.2.toList == a0.2.2.2.toList) && true))))) then (.next ()) else (.brk ((k1 : Nat) : Int)))
def C4 (k1 : Nat) (_ : Unit) : Int := ((k1 : Nat) : Int)
def Ax (a0 : Wp) (k2 : Nat) (a2 : Qn) (_ : Unit) : Rd (Rd ((List Qn)) ((List Qn)) ((List Qn))) (Unit) (Int) := (bif (!(Av a2 a0.1 a0.2)) then (.next ()) else (.brk ((k2 : Nat) : Int)))
def C5 (k2 : Nat) (_ : Unit) : Int := ((k2 : Nat) : Int)
def Uy (f : X9) (_ : Nat) (a0 : Wp) (s0 : (List Qn)) : Rd ((List Qn)) ((List Qn)) ((List Qn)) := (Out.on (Xp (Aw a0) C4 s0 0 ()) (fun y1 => (bif decide (y1 < (s0.length : Int)) then (.next (List.set s0 (Int.toNat y1) ((nth s0 (Int.toNat y1)).1, ((nth s0 (Int.toNat y1)).2.1.1, (nth s0 (Int.toNat y1)).2.1.2.1, (nth s0 (Int.toNat y1)).2.1.2.2), (Wf ((nth s0 (Int.toNat y1)).2.2) f.1)))) else (Out.on (Xp (Ax a0) C5 s0 0 ()) (fun y2 => (.next (List.take (Int.toNat y2) s0 ++ [(a0.1, a0.2, [f.1])] ++ (List.drop (Int.toNat y2) s0))))))))
def C6 (_ : Nat) (s0 : (List Qn)) : (List Qn) := s0
def Wg (ix : (List Qn)) (f : X9) : (List Qn) := (Out.on (Xp (Uy f) C6 f.2.2.2.2 0 (C3 ix)) (fun y0 => y0))
theorem Rr (ix : (List Qn)) (f : X9) {K : Nat} (hb : IxB K ix) (hp : K + List.length f.2.2.2.2 ≤ 1000000000) : ACalls Tryz.prog 48 [.h ix, .a [.i f.1, .i f.2.1, .b f.2.2.1, .i f.2.2.2.1, .h f.2.2.2.2]] (.q 0 (Wg ix f)) := by
 refine en Qa Tryz.func48 fun w0 F0 hG => ?_
 refine sn Qa [0, 3, 4] [3] (p0) ?_
 refine tn Qa [0, 3, 4] [3] (pc 1 (JD ix) p0) ?_
 refine Qc ?_
 refine tu Qa [(0, .o 640 (C3 ix)), (3, .p 3 0), (4, .e 0), (5, .i 0)] [0, 1] [(3, [.i f.1, .i f.2.1, .b f.2.2.1, .i f.2.2.2.1, .h f.2.2.2.2])] [] (p0) ?_
 refine wB 3 4 .sh f.2.2.2.2 (fun hw1 hl2 => ?_)
 refine FF (Uy f) C6 f.2.2.2.2 (C3 ix) (fun k0 s0 => [(0, .q 147200 s0), (5, .i ((k0 : Nat) : Int))]) [0, 5] (fun _ _ => []) [] (fun y0 => [(0, .q 147350 y0)]) [0, 3, 5] (fun _ => []) [3] (fun k0 s0 => IxB (K + k0) s0) (M5 [] [] [640] [(640, 147200)] (by kernel_rfl)) (by rw [YD]; exact hb) (fun k0 s0 hk0 hI0 => ?_) (fun k0 s0 hk0 hI0 => ?_) (fun y0 hD0 => ?_)
 ·
  have hA0_0 := hI0.2
  obtain ⟨a0, hx0⟩ := Xr (l := f.2.2.2.2) (i := k0) hk0
  have hp1 := hA0_0.1
  refine Qc ?_
  refine sn Qa [0, 3, 4, 5, 15] [3] (pl 3 f.2.2.2.2 (pe 4 (Qw (decide_eq_true (p := ((k0 : Nat) : Int) < (f.2.2.2.2.length : Int)) (by omega))) p0)) ?_
  refine ckT ?_
  refine Qh ?_
  refine Qc ?_
  refine Qt ?_
  refine tn Qa [0, 3, 4, 5, 6] [3, 6] (pn 3 hx0 p0) ?_
  refine tu Qa [(6, .p 6 0), (7, .i 0)] [] [(6, [.s a0.1, .i a0.2.1, .i a0.2.2.1, .s a0.2.2.2])] [] (p0) ?_
  refine Qc ?_
  refine wT 0 0 (.own false 147200) s0 (fun hw3 hl4 => ?_)
  refine blL2 (Aw a0) C4 s0 () (fun k1 _ => [(7, .i ((k1 : Nat) : Int))]) [7] (fun y1 => [(7, .i y1)]) [7] (fun y1 => 0 ≤ y1 ∧ y1 ≤ (s0.length : Int)) wf0 (fun k1 s1 hk1 hI1 => ?_) (fun k1 s1 hk1 hI1 => ?_) (fun y1 hD1 => ?_)
  ·
   obtain ⟨a1, hx1⟩ := Xr (l := s0) (i := k1) hk1
   refine Qc ?_
   refine Qc ?_
   refine jn [(46, .b ((!(a1.1.toList == a0.1.toList)) || (!((a1.2.1.1 == a0.2.1) && ((a1.2.1.2.1 == a0.2.2.1) && ((a1.2.1.2.2.toList == a0.2.2.2.toList) && true))))))] [] [] [] (!(a1.1.toList == a0.1.toList)) (fun h5 => ?_) (fun h5 => ?_) ?_
   ·
    refine rU Qa Yc [(46, .b true)] [] [] [] (pl 2 s0 (pe 3 (Qw (decide_eq_true (p := ((k1 : Nat) : Int) < (s0.length : Int)) (by omega))) (pN 7 hx1 (pt 12 h5 p0)))) ?_
    exact ⟨rfl, Qf (by rw [h5] <;> kernel_rfl)⟩
   ·
    refine rN Qa Yc [0, 3, 4, 5, 6, 7, 46] [3, 6] (pl 2 s0 (pe 3 (Qw (decide_eq_true (p := ((k1 : Nat) : Int) < (s0.length : Int)) (by omega))) (pN 7 hx1 (pf 12 h5 (pN 16 hx1 p0))))) ?_
    exact ⟨rfl, Qf (by rw [h5] <;> kernel_rfl)⟩
   refine ck ((!(a1.1.toList == a0.1.toList)) || (!((a1.2.1.1 == a0.2.1) && ((a1.2.1.2.1 == a0.2.2.1) && ((a1.2.1.2.2.toList == a0.2.2.2.toList) && true))))) (fun h6 => ?_) (fun h6 => ?_)
   ·
    refine Qh ?_
    refine Qt ?_
    refine rn Qa [0, 3, 4, 5, 6, 7] [3, 6] (pe 1 (Jw (Qy k1 (by omega))) p0) ?_
    exact xw _ (Q0 hx1 (Q1 h6 (rfl)) hI1)
   have h6r : ((!((a1.2.1.1 == a0.2.1) && ((a1.2.1.2.1 == a0.2.2.1) && ((a1.2.1.2.2.toList == a0.2.2.2.toList) && true))))) = false := UH h6
   have h6rn : ((a1.2.1.1 == a0.2.1) && ((a1.2.1.2.1 == a0.2.2.1) && ((a1.2.1.2.2.toList == a0.2.2.2.toList) && true))) = true := Vd h6r
   have h6rnl : ((a1.2.1.1 == a0.2.1)) = true := Pt h6rn
   have h6rnld := eq_of_beq h6rnl
   have h6rnr : (((a1.2.1.2.1 == a0.2.2.1) && ((a1.2.1.2.2.toList == a0.2.2.2.toList) && true))) = true := QB h6rn
   have h6rnrl : ((a1.2.1.2.1 == a0.2.2.1)) = true := Pt h6rnr
   have h6rnrld := eq_of_beq h6rnrl
   refine Q2 ?_
   exact xw ((k1 : Nat) : Int) ⟨Lm hx1 (Ql h6 (rfl)) hI1, by first | omega | (simp only [List.length_set]; omega)⟩
  ·
   refine Qc ?_
   refine sU Qa Yc [(46, .b false)] [] [] [] (pl 2 s0 (pe 3 (Qw (decide_eq_false (p := ((k1 : Nat) : Int) < (s0.length : Int)) (by omega))) p0)) ?_
   refine ckF ?_
   refine Q2 ?_
   exact xw ((k1 : Nat) : Int) ⟨Xs hk1 (rfl) hI1, by first | omega | (simp only [List.length_set]; omega)⟩
  have hD1_0 := hD1.2
  refine Qc ?_
  refine sn Qa [0, 3, 4, 5, 6, 7, 52] [3, 6] (pl 2 s0 p0) ?_
  refine ck (decide (y1 < (s0.length : Int))) (fun h7 => ?_) (fun h7 => ?_)
  ·
   have h7d := of_decide_eq_true h7
   have hx8 := ng s0 (Int.toNat y1)
   have hx8j := hA0_0.2 _ (List.mem_of_getElem? hx8)
   refine tU Qa Yc [(0, .one (.slc (.own false 147200) 5 (setRow (eL s0) (Int.toNat y1) 4 [.h (Wf ((nth s0 (Int.toNat y1)).2.2) f.1)])))] [0] [] [] (pG 4 y1 hx8 (pc 9 (QG ((nth s0 (Int.toNat y1)).2.2) f.1 (by omega)) (pG 10 y1 hx8 p0))) ?_
   refine eqn [(0, .q 147200 (List.set s0 (Int.toNat y1) ((nth s0 (Int.toNat y1)).1, ((nth s0 (Int.toNat y1)).2.1.1, (nth s0 (Int.toNat y1)).2.1.2.1, (nth s0 (Int.toNat y1)).2.1.2.2), (Wf ((nth s0 (Int.toNat y1)).2.2) f.1))))] [0] [] [] (by rw [Zx (y := ((nth s0 (Int.toNat y1)).1, ((nth s0 (Int.toNat y1)).2.1.1, (nth s0 (Int.toNat y1)).2.1.2.1, (nth s0 (Int.toNat y1)).2.1.2.2), (Wf ((nth s0 (Int.toNat y1)).2.2) f.1))) hx8 rfl] <;> kernel_rfl) ?_
   refine Q2 ?_
   refine rn Qa [0, 3, 4, 5] [3] (pe 1 (Jw (Qy k0 (by omega))) p0) ?_
   exact xw (List.set s0 (Int.toNat y1) ((nth s0 (Int.toNat y1)).1, ((nth s0 (Int.toNat y1)).2.1.1, (nth s0 (Int.toNat y1)).2.1.2.1, (nth s0 (Int.toNat y1)).2.1.2.2), (Wf ((nth s0 (Int.toNat y1)).2.2) f.1))) ⟨Q0 hx0 (Un hD1.1 (Q1 h7 (rfl))) hI0.1, (by first | exact Nh (K := K + k0) (Nat.le_succ_of_le hA0_0.1) hA0_0.2 (by have hz := BD ((nth s0 (Int.toNat y1)).2.2) f.1; omega) | exact ixb_put (K := K + k0) hA0_0 (by simp))⟩
  have h7d := of_decide_eq_false h7
  refine Qh ?_
  refine tu Qa [(7, .i 0)] [7] [] [] (p0) ?_
  refine Qc ?_
  refine blL2 (Ax a0) C5 s0 () (fun k2 _ => [(7, .i ((k2 : Nat) : Int))]) [7] (fun y2 => [(7, .i y2)]) [7] (fun y2 => 0 ≤ y2 ∧ y2 ≤ (s0.length : Int)) wf0 (fun k2 s2 hk2 hI2 => ?_) (fun k2 s2 hk2 hI2 => ?_) (fun y2 hD2 => ?_)
  ·
   obtain ⟨a2, hx2⟩ := Xr (l := s0) (i := k2) hk2
   refine Qc ?_
   refine sN Qa Yc [0, 3, 4, 5, 6, 7, 80] [3, 6] (pl 2 s0 (pe 3 (Qw (decide_eq_true (p := ((k2 : Nat) : Int) < (s0.length : Int)) (by omega))) (pN 7 hx2 (pc 13 (T4 a2 a0.1 a0.2) p0)))) ?_
   refine ck (!(Av a2 a0.1 a0.2)) (fun h9 => ?_) (fun h9 => ?_)
   ·
    refine Qh ?_
    refine Qt ?_
    refine qn Qa [0, 3, 4, 5, 6, 7] [3, 6] (pe 1 (Jw (Qy k2 (by omega))) p0) ?_
    exact xw _ (Q0 hx2 (Q1 h9 (rfl)) hI2)
   refine Q2 ?_
   exact xw ((k2 : Nat) : Int) ⟨Lm hx2 (Ql h9 (rfl)) hI2, by first | omega | (simp only [List.length_set]; omega)⟩
  ·
   refine Qc ?_
   refine sU Qa Yc [(80, .b false)] [] [] [] (pl 2 s0 (pe 3 (Qw (decide_eq_false (p := ((k2 : Nat) : Int) < (s0.length : Int)) (by omega))) p0)) ?_
   refine ckF ?_
   refine Q2 ?_
   exact xw ((k2 : Nat) : Int) ⟨Xs hk2 (rfl) hI2, by first | omega | (simp only [List.length_set]; omega)⟩
  have hD2_0 := hD2.2
  have hl10 : List.length (List.take (Int.toNat y2) s0) ≤ 1073741824 := W7 (Ix (Int.toNat y2) (hw3))
  refine Ez (H3 [147200] rfl) ?_
  refine sU Qa Yc [(8, .one (.slc (.own false 6208) 5 (([] ++ (eL (List.take (Int.toNat y2) s0))) ++ [[.s a0.1, .i a0.2.1, .i a0.2.2.1, .s a0.2.2.2, .slc 1 [[.i f.1]]]])))] [6] [] [6] (pe 3 (M4 .sh 5 (Int.toNat y2) y2 s0 rfl) (px (Cs (lo := 0) (hi := y2) (n := (List.length (eL s0))) (Tf (by omega) (by omega) (by omega))) (px (Hu (n := (([] : List (List PV)).length + ((eL (List.take (Int.toNat y2) s0)) : List (List PV)).length)) (Dm (rfl) (Yb (List.take (Int.toNat y2) s0)) (by first | omega | (simp only [List.length_cons, List.length_nil]; omega) | (simp; omega) | simp))) (px (Hu (n := ((([] ++ (eL (List.take (Int.toNat y2) s0))) : List (List PV)).length + ([[.s a0.1, .i a0.2.1, .i a0.2.2.1, .s a0.2.2.2, .slc 1 [[.i f.1]]]] : List (List PV)).length)) (by simp [Yb]; omega)) p0)))) ?_
  refine eqn [(8, .q 6208 (List.take (Int.toNat y2) s0 ++ [(a0.1, a0.2, [f.1])]))] [8] [] [] (by rw [show (([] ++ (eL (List.take (Int.toNat y2) s0))) ++ [[.s a0.1, .i a0.2.1, .i a0.2.2.1, .s a0.2.2.2, .slc 1 [[.i f.1]]]]) = (eL (List.take (Int.toNat y2) s0 ++ [(a0.1, a0.2, [f.1])])) from Vn (rfl) (rfl)]; first | done | kernel_rfl) ?_
  refine wT 8 0 (.own false 6208) (List.take (Int.toNat y2) s0 ++ [(a0.1, a0.2, [f.1])]) (fun hw11 hl12 => ?_)
  have hl13 : List.length (List.drop (Int.toNat y2) s0) ≤ 1073741824 := W7 (Iy (Int.toNat y2) (hw3))
  refine ru Qa [(0, .one (.slc (.own false 6528) 5 ((eL (List.take (Int.toNat y2) s0 ++ [(a0.1, a0.2, [f.1])])) ++ (eL (List.drop (Int.toNat y2) s0)))))] [0, 7, 8] [] [] (pe 3 (Te .sh 5 (Int.toNat y2) y2 s0 rfl) (px (Cs (lo := y2) (hi := (((eL s0) : List (List PV)).length : Int)) (n := (List.length (eL s0))) (Tg (by omega) (by omega))) (pa (List.take (Int.toNat y2) s0 ++ [(a0.1, a0.2, [f.1])]) (List.drop (Int.toNat y2) s0) p0))) ?_
  refine eqn [(0, .q 6528 (List.take (Int.toNat y2) s0 ++ [(a0.1, a0.2, [f.1])] ++ (List.drop (Int.toNat y2) s0)))] [0] [] [] (by rw [show ((eL (List.take (Int.toNat y2) s0 ++ [(a0.1, a0.2, [f.1])])) ++ (eL (List.drop (Int.toNat y2) s0))) = (eL (List.take (Int.toNat y2) s0 ++ [(a0.1, a0.2, [f.1])] ++ (List.drop (Int.toNat y2) s0))) from Vn (rfl) (rfl)]; first | done | kernel_rfl) ?_
  refine rn Qa [0, 3, 4, 5] [3] (pe 1 (Jw (Qy k0 (by omega))) p0) ?_
  exact Exists.intro (List.take (Int.toNat y2) s0 ++ [(a0.1, a0.2, [f.1])] ++ (List.drop (Int.toNat y2) s0)) (And.intro (X3 [(6528, 147200)] (by kernel_rfl)) ⟨Q0 hx0 (Un hD1.1 (Ql h7 (Un hD2.1 (rfl)))) hI0.1, (by first | exact Nh (K := K + k0) (Nat.le_succ_of_le hA0_0.1) hA0_0.2 (by have hz := BD ((nth s0 (Int.toNat y1)).2.2) f.1; omega) | exact ixb_put (K := K + k0) hA0_0 (by simp))⟩)
 ·
  have hA0_0 := hI0.2
  refine Qc ?_
  refine sn Qa [0, 3, 4, 5, 15] [3] (pl 3 f.2.2.2.2 (pe 4 (Qw (decide_eq_false (p := ((k0 : Nat) : Int) < (f.2.2.2.2.length : Int)) (by omega))) p0)) ?_
  refine ckF ?_
  refine Q2 ?_
  exact Exists.intro _ (And.intro (X3 [(147200, 147350)] (by kernel_rfl)) (Xs hk0 (rfl) hI0.1))
 refine sn Qa [4] [] (p0) ?_
 refine Qe ?_
 exact pz [] (show Wg ix f = _ from Un hD0 (rfl)) (fun z => .q 0 z)
theorem addIx_b {K : Nat} {ix : List Qn} {f : X9} (h : IxB K ix) : IxB (K + f.2.2.2.2.length) (We ix f) := by
  have step : ∀ {K : Nat} {s0 : List Qn} {a0 : Wp} {k : Nat}, IxB K s0 → ∃ s', Km f k a0 s0 = .next s' ∧ IxB (K + 1) s' := by
    intro K s0 a0 k hI
    obtain ⟨hj1, hj2, hj3, hj4⟩ := join_ix (a0 := a0) hI
    unfold Km
    generalize (bif decide ((X6 s0 a0.1 a0.2) < (0 : Int)) then (bif decide ((Qd s0 a0) < (0 : Int)) then (K9 s0 (Int.toNat (s0.length : Int)) ((a0.1, a0.2, []) : Qn), (s0.length : Int)) else (K9 s0 (Int.toNat (Qd s0 a0)) ((a0.1, a0.2, []) : Qn), (Qd s0 a0))) else (s0, (X6 s0 a0.1 a0.2))) = x3 at *
    unfold lt
    dsimp only
    have hm := hj4 _ (List.mem_of_getElem? (Kh (l := x3.1) (i := Int.toNat x3.2) (by omega)))
    generalize decide ((Qg ((nth x3.1 (Int.toNat x3.2)).2.2) f) < (0 : Int)) = c1
    generalize (nth ((nth x3.1 (Int.toNat x3.2)).2.2) (Int.toNat (Qg ((nth x3.1 (Int.toNat x3.2)).2.2) f)) != f.1) = c2
    cases c1 with
    | true => exact ⟨_, rfl, Nh hj3 hj4 (by simp; omega)⟩
    | false => cases c2 with
      | true => exact ⟨_, rfl, Nh hj3 hj4 (by rw [Lu]; omega)⟩
      | false => exact ⟨_, rfl, Sd hj3 hj4⟩
  have go : ∀ (l : List Wp) (k K : Nat) (s : List Qn), IxB K s → ∃ s', Xp (Km f) Au l k s = .brk s' ∧ IxB (K + l.length) s' := by
    intro l
    induction l with
    | nil => exact fun k K s hs => ⟨s, rfl, hs⟩
    | cons a l ih =>
      intro k K s hs
      obtain ⟨s1, e1, h1⟩ := step (a0 := a) (k := k) hs
      obtain ⟨s2, e2, h2⟩ := ih (k + 1) (K + 1) s1 h1
      refine ⟨s2, ?_, ?_⟩
      · simp only [Xp, e1]; exact e2
      rw [List.length_cons, Nat.add_comm l.length 1, ← Nat.add_assoc]; exact h2
  obtain ⟨s', e, hs⟩ := go f.2.2.2.2 0 K ix h
  unfold We
  rw [T0, e]
  exact hs
/-! ### one attribute -/
theorem cmp_pos (x y : Int) : Vk x y = bif decide (x < y) then -1 else bif decide (x > y) then 1 else 0 := by
  unfold Vk Vq
  simp
theorem BE (x y : ByteArray) : J0 x y = bif (Op.bytesLess x.toList y.toList) then -1 else bif (!(Op.bytesLess x.toList y.toList || x.toList == y.toList)) then 1 else 0 := by
  unfold J0 Jq
  simp
theorem ne0 {a : Int} (h : (a != 0) = false) : a = 0 := by simpa using h
theorem or_two (a b : Int) : Co [a, b] = bif a != 0 then a else b := by
  unfold Co
  cases h : (a != 0) with
  | true => simp only [Xp, Wd, h, cond_true, Out.on]
  | false =>
    cases h2 : (b != 0) with
    | true => simp only [Xp, Wd, h, h2, cond_true, cond_false, Out.on]
    | false => simp only [Xp, Wd, h, h2, cond_false, Out.on]; exact (ne0 h2).symm
theorem or_three (a b c : Int) : Co [a, b, c] = bif a != 0 then a else bif b != 0 then b else c := by
  unfold Co
  cases h : (a != 0) with
  | true => simp only [Xp, Wd, h, cond_true, Out.on]
  | false =>
    cases h2 : (b != 0) with
    | true => simp only [Xp, Wd, h, h2, cond_true, cond_false, Out.on]
    | false =>
      cases h3 : (c != 0) with
      | true => simp only [Xp, Wd, h, h2, h3, cond_true, cond_false, Out.on]
      | false => simp only [Xp, Wd, h, h2, h3, cond_false, Out.on]; exact (ne0 h3).symm
theorem cmpV_eq (a b : Jc) : Wm a b = Vb a b := by
  unfold Wm Vb
  rw [or_three, cmp_pos, cmp_pos, BE]
  rcases Int.lt_trichotomy a.1 b.1 with h | h | h
  · simp [h]
  · rw [h]
    rcases Int.lt_trichotomy a.2.1 b.2.1 with h2 | h2 | h2
    · simp [h2]
    · rw [h2]; simp
    have : ¬ a.2.1 < b.2.1 := by omega
    simp [h2, this]
  have : ¬ a.1 < b.1 := by omega
  simp [h, this]
theorem less_irr (l : List UInt8) : Op.bytesLess l l = false := by
  induction l with
  | nil => rfl
  | cons a l ih => simp [Op.bytesLess, ih]
theorem behind_eq (p : Qn) (a : Wp) : Av p a.1 a.2 = Zw p a := by
  unfold Av Zw
  rw [or_two, BE, cmpV_eq]
  cases hl : Op.bytesLess p.1.toList a.1.toList with
  | true =>
    have hne : (p.1.toList == a.1.toList) = false := by
      refine beq_eq_false_iff_ne.2 fun e => ?_
      rw [e, less_irr] at hl
      cases hl
    rw [hne]
    simp
  | false =>
    cases he : (p.1.toList == a.1.toList) with
    | true => simp
    | false => simp
theorem ids_put (l : List Int) (f : X9) : (bif decide ((Qg l f) < (0 : Int)) then l ++ [f.1] else bif ((nth l (Int.toNat (Qg l f))) != f.1) then K9 l (Int.toNat (Qg l f)) f.1 else l) = Wf l f.1 := by
  unfold Wf
  rw [VM (p := fun a : Int => Ju a f) (f := Ux f.1) (e := Cp) (fun k a s => by
    unfold Ux Ju
    by_cases h : a < f.1
    · rw [decide_eq_true h, decide_eq_false (by omega : ¬ a ≥ f.1)]; rfl
    rw [decide_eq_false h, decide_eq_true (by omega : a ≥ f.1)]; rfl) (fun _ _ => rfl), Vr]
  have hb := Me (fun a : Int => Ju a f) l
  generalize ixF (fun a : Int => Ju a f) l = z at hb
  simp only [Out.on]
  by_cases h : z < 0
  · simp only [decide_eq_true h, cond_true]
    simp
  have ez : ((0 : Nat) : Int) + z = z := by simp
  simp only [decide_eq_false h, cond_false, ez, decide_eq_true (by omega : z < (l.length : Int)), Bool.true_and]
  cases he : (nth l (Int.toNat z) == f.1) with
  | true => simp [bne, he]
  | false => simp [bne, he, K9]
theorem set_insAt {α : Type} [Inhabited α] (l : List α) (j : Nat) (x y : α) (h : j ≤ l.length) : List.set (K9 l j x) j y = K9 l j y ∧ nth (K9 l j x) j = x := by
  unfold K9
  have hl : (List.take j l).length = j := by simp; omega
  refine ⟨?_, ?_⟩
  · rw [List.append_assoc, List.append_assoc, List.set_append_right _ _ (by omega), hl, Nat.sub_self]; rfl
  refine Iw ?_
  rw [List.append_assoc, List.getElem?_append_right (by omega), hl, Nat.sub_self]; rfl
theorem same_post (p : Qn) (a : Wp) : ((!(p.1.toList == a.1.toList)) || (!((p.2.1.1 == a.2.1) && ((p.2.1.2.1 == a.2.2.1) && ((p.2.1.2.2.toList == a.2.2.2.toList) && true))))) = !(Z3 p a.1 a.2) := by
  unfold Z3
  generalize (p.1.toList == a.1.toList) = c
  generalize ((p.2.1.1 == a.2.1) && ((p.2.1.2.1 == a.2.2.1) && ((p.2.1.2.2.toList == a.2.2.2.toList) && true))) = d
  cases c <;> cases d <;> rfl
theorem CT (f : X9) (k : Nat) (a : Wp) (s : List Qn) : Uy f k a s = Km f k a s := by
  unfold Uy Km lt
  rw [VM (p := fun p : Qn => Z3 p a.1 a.2) (f := Aw a) (e := C4) (fun k p s => by unfold Aw; rw [same_post]; cases Z3 p a.1 a.2 <;> rfl) (fun _ _ => rfl)]
  rw [VM (p := fun p : Qn => Zw p a) (f := Ax a) (e := C5) (fun k p s => by unfold Ax; rw [behind_eq]; cases Zw p a <;> rfl) (fun _ _ => rfl)]
  have e1 : X6 s a.1 a.2 = ixF (fun p : Qn => Z3 p a.1 a.2) s := K5 s a.1 a.2
  rw [e1, Kz]
  have hb := Me (fun p : Qn => Z3 p a.1 a.2) s
  have hc := Me (fun p : Qn => Zw p a) s
  generalize ixF (fun p : Qn => Z3 p a.1 a.2) s = z at hb
  generalize ixF (fun p : Qn => Zw p a) s = y at hc
  simp only [Out.on]
  have e0 : ∀ x : Int, ((0 : Nat) : Int) + x = x := fun x => by simp
  by_cases hz : z < 0
  · simp only [decide_eq_true hz, cond_true, e0, decide_eq_false (by simp : ¬ (s.length : Int) < (s.length : Int)), cond_false]
    have key : ∀ t : Int, 0 ≤ t → t ≤ (s.length : Int) → (Rd.next (List.take (Int.toNat t) s ++ [(a.1, a.2, [f.1])] ++ List.drop (Int.toNat t) s) : Rd (List Qn) (List Qn) (List Qn)) =
        (fun x3 : List Qn × Int => (bif decide ((Qg ((nth x3.1 (Int.toNat x3.2)).2.2) f) < (0 : Int)) then (.next (List.set x3.1 (Int.toNat x3.2) ((nth x3.1 (Int.toNat x3.2)).1, ((nth x3.1 (Int.toNat x3.2)).2.1.1, (nth x3.1 (Int.toNat x3.2)).2.1.2.1, (nth x3.1 (Int.toNat x3.2)).2.1.2.2), (nth x3.1 (Int.toNat x3.2)).2.2 ++ [f.1]))) else (bif ((nth ((nth x3.1 (Int.toNat x3.2)).2.2) (Int.toNat (Qg ((nth x3.1 (Int.toNat x3.2)).2.2) f))) != f.1) then (.next (List.set x3.1 (Int.toNat x3.2) ((nth x3.1 (Int.toNat x3.2)).1, ((nth x3.1 (Int.toNat x3.2)).2.1.1, (nth x3.1 (Int.toNat x3.2)).2.1.2.1, (nth x3.1 (Int.toNat x3.2)).2.1.2.2), K9 ((nth x3.1 (Int.toNat x3.2)).2.2) (Int.toNat (Qg ((nth x3.1 (Int.toNat x3.2)).2.2) f)) f.1))) else (.next x3.1))) : List Qn × Int → Rd (List Qn) (List Qn) (List Qn)) (K9 s (Int.toNat t) ((a.1, a.2, []) : Qn), t) := fun t h0 h1 => by
      obtain ⟨g1, g2⟩ := set_insAt s (Int.toNat t) ((a.1, a.2, []) : Qn) ((a.1, (a.2.1, a.2.2.1, a.2.2.2), [f.1]) : Qn) (by omega)
      simp only [g2]
      have : decide ((Qg [] f) < (0 : Int)) = true := rfl
      rw [this, cond_true, List.nil_append, g1]
      rfl
    by_cases hy : y < 0
    · simp only [decide_eq_true hy, cond_true]
      exact key _ (by omega) (by omega)
    simp only [decide_eq_false hy, cond_false]
    exact key _ (by omega) (by omega)
  simp only [decide_eq_false hz, cond_false, e0, decide_eq_true hb.2, cond_true]
  rw [← ids_put]
  have hg := Kh (l := s) (i := Int.toNat z) (by omega)
  have hset : List.set s (Int.toNat z) ((nth s (Int.toNat z)).1, ((nth s (Int.toNat z)).2.1.1, (nth s (Int.toNat z)).2.1.2.1, (nth s (Int.toNat z)).2.1.2.2), (nth s (Int.toNat z)).2.2) = s := by
    refine List.ext_getElem? fun i => ?_
    by_cases hi : Int.toNat z = i
    · subst hi
      rw [List.getElem?_set_self (by omega), hg]
    rw [List.getElem?_set_ne hi]
  generalize decide ((Qg ((nth s (Int.toNat z)).2.2) f) < (0 : Int)) = c1
  generalize (nth ((nth s (Int.toNat z)).2.2) (Int.toNat (Qg ((nth s (Int.toNat z)).2.2) f)) != f.1) = c2
  cases c1 with
  | true => rfl
  | false => cases c2 with
    | true => rfl
    | false => exact congrArg Rd.next hset
theorem BF (ix : List Qn) (f : X9) : Wg ix f = We ix f := by
  unfold Wg We
  rw [T0, YD, D5 (f := Uy f) (g := Km f) (e := C6) (e' := Au) (CT f) (fun _ _ => rfl)]
theorem addIxS_b {K : Nat} {ix : List Qn} {f : X9} (h : IxB K ix) : IxB (K + f.2.2.2.2.length) (Wg ix f) := by
  rw [BF]; exact addIx_b h
open GoE (enc wide)
def Ay (_ : Nat) (a0 : X9) (s0 : (List Qn)) : Rd ((List Qn)) ((List Qn)) ((List Qn)) := (.next (We s0 a0))
def C7 (_ : Nat) (s0 : (List Qn)) : (List Qn) := s0
def Hp (s_ : Xo) : (List Qn) := (Out.on (Xp Ay C7 s_.2.1 0 []) (fun y0 => y0))
theorem Rs (s_ : Xo) (hp : Cn s_.2.1 ≤ 1000000000) : ACalls Tryz.prog 37 [.a [.h s_.1, .h s_.2.1, .i s_.2.2]] (.o 0 (Hp s_)) := by
 refine en Qa Tryz.func37 fun w0 F0 hG => ?_
 refine sn Qa [1, 2] [1] (p0) ?_
 refine tn Qa [1, 2, 3] [1] (p0) ?_
 refine Qc ?_
 refine tu Qa [(2, .e 0), (3, .one (.slc (.own true 384) 5 [])), (8, .h s_.2.1), (9, .i (s_.2.1.length : Int)), (10, .i 0)] [0] [] [] (pl 2 s_.2.1 p0) ?_
 refine wT 8 0 .sh s_.2.1 (fun hw1 hl2 => ?_)
 refine blL1 Ay C7 s_.2.1 [] (fun k0 s0 => [(3, .o 147201 s0), (10, .i ((k0 : Nat) : Int))]) [3, 10] (fun y0 => [(3, .o 147351 y0)]) [3, 8, 9, 10] (fun k0 s0 => IxB (Cn (List.take k0 s_.2.1)) s0) (X3 [(384, 147201)] (by kernel_rfl)) (by exact ID _) (fun k0 s0 hk0 hI0 => ?_) (fun k0 s0 hk0 hI0 => ?_) (fun y0 hD0 => ?_)
 ·
  have hA0_0 := hI0.2
  obtain ⟨a0, hx0⟩ := Xr (l := s_.2.1) (i := k0) hk0
  refine sn Qa [2, 3, 8, 9, 10, 11] [] (pe 0 (Qw (decide_eq_true (p := ((k0 : Nat) : Int) < (s_.2.1.length : Int)) (by omega))) p0) ?_
  refine Qc ?_
  refine ckT ?_
  refine Qh ?_
  refine Qc ?_
  refine Qt ?_
  refine tn Qa [2, 3, 5, 8, 9, 10] [5] (pn 0 hx0 p0) ?_
  refine qu Qa [(3, .o 1024 (We s0 a0))] [3] [] [] (pc 2 (Rq s0 a0 hA0_0 (by have := G1 hx0; have := VL s_.2.1 (k0 + 1); omega)) p0) ?_
  refine rn Qa [2, 3, 8, 9, 10] [] (pe 0 (Jw (Qy k0 (by omega))) p0) ?_
  exact Exists.intro (We s0 a0) (And.intro (X3 [(1024, 147201)] (by kernel_rfl)) ⟨Q0 hx0 (rfl) hI0.1, (by exact BB (addIx_b hA0_0) (by have := G1 hx0; omega))⟩)
 ·
  have hA0_0 := hI0.2
  refine sn Qa [2, 3, 8, 9, 10, 11] [] (pe 0 (Qw (decide_eq_false (p := ((k0 : Nat) : Int) < (s_.2.1.length : Int)) (by omega))) p0) ?_
  refine Qc ?_
  refine ckF ?_
  refine Q2 ?_
  exact Exists.intro _ (And.intro (X3 [(147201, 147351)] (by kernel_rfl)) (Xs hk0 (rfl) hI0.1))
 refine sn Qa [2] [] (p0) ?_
 refine Qe ?_
 exact po0 [] (Un hD0 (rfl))
def J5 (x : Qn) (y_ : Qn) : Bool := ((x.1.toList == y_.1.toList) && (((x.2.1.1 == y_.2.1.1) && ((x.2.1.2.1 == y_.2.1.2.1) && ((x.2.1.2.2.toList == y_.2.1.2.2.toList) && true))) && (Zq x.2.2 y_.2.2)))
theorem Ly (x : Qn) (y_ : Qn) : ACalls Tryz.prog 62 [.a [.s x.1, .i x.2.1.1, .i x.2.1.2.1, .s x.2.1.2.2, .h x.2.2], .a [.s y_.1, .i y_.2.1.1, .i y_.2.1.2.1, .s y_.2.1.2.2, .h y_.2.2]] (.b (J5 x y_)) := by
 refine en Qa Tryz.func62 fun w0 F0 hG => ?_
 refine sn Qa [2, 3, 4] [2, 3] (p0) ?_
 refine Qc ?_
 refine mz [(2, .p 2 0), (3, .p 3 0), (4, .b false)] [0, 1] [(2, [.s x.1, .i x.2.1.1, .i x.2.1.2.1, .s x.2.1.2.2, .h x.2.2]), (3, [.s y_.1, .i y_.2.1.1, .i y_.2.1.2.1, .s y_.2.1.2.2, .h y_.2.2])] [] ?_
 refine jn [(4, .b ((x.1.toList == y_.1.toList) && (((x.2.1.1 == y_.2.1.1) && ((x.2.1.2.1 == y_.2.1.2.1) && ((x.2.1.2.2.toList == y_.2.1.2.2.toList) && true))) && (Zq x.2.2 y_.2.2))))] [2, 3, 4] [] [2, 3] (x.1.toList == y_.1.toList) (fun h1 => ?_) (fun h1 => ?_) ?_
 ·
  refine Q9 ((x.2.1.1 == y_.2.1.1) && ((x.2.1.2.1 == y_.2.1.2.1) && ((x.2.1.2.2.toList == y_.2.1.2.2.toList) && true))) (fun h2 => ?_) (fun h2 => ?_)
  ·
   refine rn Qa [4] [] (pt 4 h1 (pt 10 h2 (pc 17 (F6 x.2.2 y_.2.2) p0))) ?_
   exact ⟨rfl, Qf (by rw [h1, h2] <;> kernel_rfl)⟩
  refine rn Qa [4] [] (pt 4 h1 (pf 10 h2 p0)) ?_
  exact ⟨rfl, Qf (by rw [h1, h2] <;> kernel_rfl)⟩
 ·
  refine rn Qa [4] [] (pf 4 h1 p0) ?_
  exact ⟨rfl, Qf (by rw [h1] <;> kernel_rfl)⟩
 refine Qe ?_
 exact pb [] (show J5 x y_ = ((x.1.toList == y_.1.toList) && (((x.2.1.1 == y_.2.1.1) && ((x.2.1.2.1 == y_.2.1.2.1) && ((x.2.1.2.2.toList == y_.2.1.2.2.toList) && true))) && (Zq x.2.2 y_.2.2))) from rfl)
def Y0 (s2_ : (List Qn)) (k0 : Nat) (a0 : Qn) (_ : Unit) : Rd (Bool) (Unit) (Unit) := (bif (!(J5 a0 (nth s2_ k0))) then (.ret false) else (.next ()))
def Y1 (_ : Nat) (_ : Unit) : Unit := ()
def Jf (s1_ : (List Qn)) (s2_ : (List Qn)) : Bool := (bif ((s1_.length : Int) != (s2_.length : Int)) then false else (Out.on (Xp (Y0 s2_) Y1 s1_ 0 ()) (fun _ => true)))
theorem U0 (s1_ : (List Qn)) (s2_ : (List Qn)) : ACalls Tryz.prog 61 [.h s1_, .h s2_, .one (.fnr 62 [])] (.b (Jf s1_ s2_)) := by
 refine en Qa Tryz.func61 fun w0 F0 hG => ?_
 refine sn Qa [0, 1, 2, 6] [] (p0) ?_
 refine Qc ?_
 refine tn Qa [0, 1, 2, 6, 14] [] (pl 1 s1_ (pl 3 s2_ p0)) ?_
 refine ck ((s1_.length : Int) != (s2_.length : Int)) (fun h1 => ?_) (fun h1 => ?_)
 ·
  refine tu Qa [(6, .b false)] [] [] [] (p0) ?_
  refine Qe ?_
  exact pb [] (Q1 h1 (rfl))
 have h1d := V6 h1
 refine Qh ?_
 refine Qc ?_
 refine tu Qa [(6, .b false), (15, .h s1_), (16, .i (s1_.length : Int)), (17, .i 0)] [0] [] [] (pl 1 s1_ p0) ?_
 refine wT 15 0 .sh s1_ (fun hw2 hl3 => ?_)
 refine Ii (Y0 s2_) Y1 s1_ () (fun k0 _ => [(17, .i ((k0 : Nat) : Int))]) [17] (fun _ => []) [1, 2, 15, 16, 17] wf0 (fun k0 s0 hk0 hI0 => ?_) (fun k0 s0 hk0 hI0 => ?_) (fun y0 hD0 => ?_)
 ·
  obtain ⟨a0, hx0⟩ := Xr (l := s1_) (i := k0) hk0
  refine su Qa [(18, .b true)] [] [] [] (pe 0 (Qw (decide_eq_true (p := ((k0 : Nat) : Int) < (s1_.length : Int)) (by omega))) p0) ?_
  refine Qc ?_
  refine ckT ?_
  refine Qh ?_
  refine Qc ?_
  refine Qt ?_
  refine sn Qa [1, 2, 6, 7, 8, 15, 16, 17] [8] (pn 1 hx0 p0) ?_
  refine wT 1 0 .sh s2_ (fun hw5 hl6 => ?_)
  have hx4 := ng s2_ k0
  refine tn Qa [1, 2, 6, 8, 9, 15, 16, 17] [8, 9] (pn 2 hx4 p0) ?_
  refine tu Qa [(30, .b (!(J5 a0 (nth s2_ k0))))] [18] [] [] (pc 3 (Ly a0 (nth s2_ k0)) p0) ?_
  refine ck (!(J5 a0 (nth s2_ k0))) (fun h7 => ?_) (fun h7 => ?_)
  ·
   refine su Qa [] [30] [] [] (p0) ?_
   refine Qe ?_
   have hr8 : (Xp (Y0 s2_) Y1 s1_ 0 ()) = .ret false := Zt hx0 (Q1 h7 (rfl)) hI0
   exact pb [] (Ql h1 (Ie hr8))
  refine Qh ?_
  refine rn Qa [1, 2, 6, 15, 16, 17] [] (pe 0 (Jw (Qy k0 (by omega))) p0) ?_
  exact xw _ (Q0 hx0 (Ql h7 (rfl)) hI0)
 ·
  refine su Qa [(18, .b false)] [] [] [] (pe 0 (Qw (decide_eq_false (p := ((k0 : Nat) : Int) < (s1_.length : Int)) (by omega))) p0) ?_
  refine Qc ?_
  refine ckF ?_
  refine Q2 ?_
  exact xw _ (Xs hk0 (rfl) hI0)
 refine sn Qa [6] [] (p0) ?_
 refine Qe ?_
 exact pb [] (Ql h1 (Un hD0 (rfl)))
def Hi (a_ : (List Qn)) (b : (List Qn)) : Bool := (Jf a_ b)
theorem O7 (a_ : (List Qn)) (b : (List Qn)) : ACalls Tryz.prog 36 [.h a_, .h b] (.b (Hi a_ b)) := by
 refine en Qa Tryz.func36 fun w0 F0 hG => ?_
 refine sn Qa [0, 1, 4] [] (p0) ?_
 refine tn Qa [4] [] (pc 2 (U0 a_ b) p0) ?_
 refine Qe ?_
 exact pb [] (show Hi a_ b = (Jf a_ b) from rfl)
def Yw (s_ : Xo) (ix : (List Qn)) : Bool := (Hi ix (Hp s_))
theorem V1 (s_ : Xo) (ix : (List Qn)) (hp : Cn s_.2.1 ≤ 1000000000) : ACalls Tryz.prog 11 [.a [.h s_.1, .h s_.2.1, .i s_.2.2], .h ix] (.b (Yw s_ ix)) := by
 refine en Qa Tryz.func11 fun w0 F0 hG => ?_
 refine sn Qa [1, 2, 4] [2] (p0) ?_
 refine tn Qa [4] [] (pc 2 (Rs s_ hp) (pc 3 (O7 ix (Hp s_)) p0)) ?_
 refine Qe ?_
 exact pb [] (show Yw s_ ix = (Hi ix (Hp s_)) from rfl)
def Az (_ : Nat) (a0 : X9) (s0 : (List Qn)) : Rd ((List Qn)) ((List Qn)) ((List Qn)) := (.next (Wg s0 a0))
def C8 (_ : Nat) (s0 : (List Qn)) : (List Qn) := s0
def Yf (s_ : Xo) : (List Qn) := (Out.on (Xp Az C8 s_.2.1 0 []) (fun y0 => y0))
theorem V2 (s_ : Xo) (hp : Cn s_.2.1 ≤ 1000000000) : ACalls Tryz.prog 21 [.a [.h s_.1, .h s_.2.1, .i s_.2.2]] (.q 0 (Yf s_)) := by
 refine en Qa Tryz.func21 fun w0 F0 hG => ?_
 refine sn Qa [1, 2] [1] (p0) ?_
 refine tn Qa [1, 2, 3] [1] (p0) ?_
 refine Qc ?_
 refine tu Qa [(1, .p 1 0), (2, .e 0), (3, .one (.slc (.own true 320) 5 [])), (4, .i 0)] [0] [(1, [.h s_.1, .h s_.2.1, .i s_.2.2])] [] (p0) ?_
 refine wB 1 1 .sh s_.2.1 (fun hw1 hl2 => ?_)
 refine FF Az C8 s_.2.1 [] (fun k0 s0 => [(3, .q 147202 s0), (4, .i ((k0 : Nat) : Int))]) [3, 4] (fun _ _ => []) [] (fun y0 => [(3, .q 147352 y0)]) [1, 3, 4] (fun _ => []) [1] (fun k0 s0 => IxB (Cn (List.take k0 s_.2.1)) s0) (M5 [] [] [320] [(320, 147202)] (by kernel_rfl)) (by exact ID _) (fun k0 s0 hk0 hI0 => ?_) (fun k0 s0 hk0 hI0 => ?_) (fun y0 hD0 => ?_)
 ·
  have hA0_0 := hI0.2
  obtain ⟨a0, hx0⟩ := Xr (l := s_.2.1) (i := k0) hk0
  refine Qc ?_
  refine sn Qa [1, 2, 3, 4, 10] [1] (pl 3 s_.2.1 (pe 4 (Qw (decide_eq_true (p := ((k0 : Nat) : Int) < (s_.2.1.length : Int)) (by omega))) p0)) ?_
  refine ckT ?_
  refine Qh ?_
  refine Qc ?_
  refine Qt ?_
  refine qn Qa [1, 2, 3, 4] [1] (pn 4 hx0 (pc 6 (Rr s0 a0 hA0_0 (by have := G1 hx0; have := VL s_.2.1 (k0 + 1); omega)) p0)) ?_
  refine qu Qa [(3, .q 1216 (Wg s0 a0)), (4, .i ((k0 + 1 : Nat) : Int))] [3, 4] [] [] (pe 1 (Jw (Qy k0 (by omega))) p0) ?_
  exact Exists.intro (Wg s0 a0) (And.intro (X3 [(1216, 147202)] (by kernel_rfl)) ⟨Q0 hx0 (rfl) hI0.1, (by exact BB (addIxS_b hA0_0) (by have := G1 hx0; omega))⟩)
 ·
  have hA0_0 := hI0.2
  refine Qc ?_
  refine sn Qa [1, 2, 3, 4, 10] [1] (pl 3 s_.2.1 (pe 4 (Qw (decide_eq_false (p := ((k0 : Nat) : Int) < (s_.2.1.length : Int)) (by omega))) p0)) ?_
  refine ckF ?_
  refine Q2 ?_
  exact Exists.intro _ (And.intro (X3 [(147202, 147352)] (by kernel_rfl)) (Xs hk0 (rfl) hI0.1))
 refine sn Qa [2] [] (p0) ?_
 refine Qe ?_
 exact pz [] (show Yf s_ = _ from Un hD0 (rfl)) (fun z => .q 0 z)
def Ww (b : (List Qn)) (k0 : Nat) (a0 : Qn) (_ : Unit) : Rd (Bool) (Unit) (Unit) := (bif ((!(a0.1.toList == ((nth b k0).1).toList)) || ((!((a0.2.1.1 == (nth b k0).2.1.1) && ((a0.2.1.2.1 == (nth b k0).2.1.2.1) && ((a0.2.1.2.2.toList == ((nth b k0).2.1.2.2).toList) && true)))) || (!(Yx a0.2.2 ((nth b k0).2.2))))) then (.ret false) else (.next ()))
def U7 (_ : Nat) (_ : Unit) : Unit := ()
def Bm (a_ : (List Qn)) (b : (List Qn)) : Bool := (bif ((a_.length : Int) != (b.length : Int)) then false else (Out.on (Xp (Ww b) U7 a_ 0 ()) (fun _ => true)))
theorem O8 (a_ : (List Qn)) (b : (List Qn)) : ACalls Tryz.prog 38 [.h a_, .h b] (.b (Bm a_ b)) := by
 refine en Qa Tryz.func38 fun w0 F0 hG => ?_
 refine sn Qa [0, 1, 4] [] (p0) ?_
 refine Qc ?_
 refine tn Qa [0, 1, 4, 10] [] (pl 1 a_ (pl 3 b p0)) ?_
 refine ck ((a_.length : Int) != (b.length : Int)) (fun h1 => ?_) (fun h1 => ?_)
 ·
  refine tu Qa [(4, .b false)] [] [] [] (p0) ?_
  refine Qe ?_
  exact pb [] (Q1 h1 (rfl))
 have h1d := V6 h1
 refine Qh ?_
 refine Qc ?_
 refine tu Qa [(4, .b false), (5, .i 0)] [] [] [] (p0) ?_
 refine wT 0 0 .sh a_ (fun hw2 hl3 => ?_)
 refine Ii (Ww b) U7 a_ () (fun k0 _ => [(5, .i ((k0 : Nat) : Int))]) [5] (fun _ => []) [0, 1, 5] wf0 (fun k0 s0 hk0 hI0 => ?_) (fun k0 s0 hk0 hI0 => ?_) (fun y0 hD0 => ?_)
 ·
  obtain ⟨a0, hx0⟩ := Xr (l := a_) (i := k0) hk0
  refine Qc ?_
  refine sn Qa [0, 1, 4, 5, 14] [] (pl 2 a_ (pe 3 (Qw (decide_eq_true (p := ((k0 : Nat) : Int) < (a_.length : Int)) (by omega))) p0)) ?_
  refine ckT ?_
  refine Qh ?_
  refine Qc ?_
  refine Qt ?_
  refine Qc ?_
  refine mz [(14, .b true)] [] [] [] ?_
  refine jn [(54, .b ((!(a0.1.toList == ((nth b k0).1).toList)) || ((!((a0.2.1.1 == (nth b k0).2.1.1) && ((a0.2.1.2.1 == (nth b k0).2.1.2.1) && ((a0.2.1.2.2.toList == ((nth b k0).2.1.2.2).toList) && true)))) || (!(Yx a0.2.2 ((nth b k0).2.2))))))] [14] [] [] (!(a0.1.toList == ((nth b k0).1).toList)) (fun h4 => ?_) (fun h4 => ?_) ?_
  ·
   refine wT 1 0 .sh b (fun hw6 hl7 => ?_)
   have hx5 := ng b k0
   refine rN Qa Yc [0, 1, 4, 5, 54] [] (pn 2 hx0 (pn 7 hx5 (pt 10 h4 p0))) ?_
   exact ⟨rfl, Qf (by rw [h4] <;> kernel_rfl)⟩
  ·
   refine Q9 (!((a0.2.1.1 == (nth b k0).2.1.1) && ((a0.2.1.2.1 == (nth b k0).2.1.2.1) && ((a0.2.1.2.2.toList == ((nth b k0).2.1.2.2).toList) && true)))) (fun h8 => ?_) (fun h8 => ?_)
   ·
    refine wT 1 0 .sh b (fun hw10 hl11 => ?_)
    have hx9 := ng b k0
    refine rN Qa Yc [0, 1, 4, 5, 54] [] (pn 2 hx0 (pn 7 hx9 (pf 10 h4 (pn 14 hx0 (pn 19 hx9 (pt 22 h8 p0)))))) ?_
    exact ⟨rfl, Qf (by rw [h4, h8] <;> kernel_rfl)⟩
   have h8n : ((a0.2.1.1 == (nth b k0).2.1.1) && ((a0.2.1.2.1 == (nth b k0).2.1.2.1) && ((a0.2.1.2.2.toList == ((nth b k0).2.1.2.2).toList) && true))) = true := Vd h8
   have h8nl : ((a0.2.1.1 == (nth b k0).2.1.1)) = true := Pt h8n
   have h8nld := eq_of_beq h8nl
   have h8nr : (((a0.2.1.2.1 == (nth b k0).2.1.2.1) && ((a0.2.1.2.2.toList == ((nth b k0).2.1.2.2).toList) && true))) = true := QB h8n
   have h8nrl : ((a0.2.1.2.1 == (nth b k0).2.1.2.1)) = true := Pt h8nr
   have h8nrld := eq_of_beq h8nrl
   refine wT 1 0 .sh b (fun hw13 hl14 => ?_)
   have hx12 := ng b k0
   refine rN Qa Yc [0, 1, 4, 5, 54] [] (pn 2 hx0 (pn 7 hx12 (pf 10 h4 (pn 14 hx0 (pn 19 hx12 (pf 22 h8 (pn 27 hx0 (pn 32 hx12 (pc 35 (Cb a0.2.2 ((nth b k0).2.2)) p0))))))))) ?_
   exact ⟨rfl, Qf (by rw [h4, h8] <;> kernel_rfl)⟩
  refine ck ((!(a0.1.toList == ((nth b k0).1).toList)) || ((!((a0.2.1.1 == (nth b k0).2.1.1) && ((a0.2.1.2.1 == (nth b k0).2.1.2.1) && ((a0.2.1.2.2.toList == ((nth b k0).2.1.2.2).toList) && true)))) || (!(Yx a0.2.2 ((nth b k0).2.2))))) (fun h15 => ?_) (fun h15 => ?_)
  ·
   refine su Qa [] [54] [] [] (p0) ?_
   refine Qe ?_
   have hr16 : (Xp (Ww b) U7 a_ 0 ()) = .ret false := Zt hx0 (Q1 h15 (rfl)) hI0
   exact pb [] (Ql h1 (Ie hr16))
  have h15r : (((!((a0.2.1.1 == (nth b k0).2.1.1) && ((a0.2.1.2.1 == (nth b k0).2.1.2.1) && ((a0.2.1.2.2.toList == ((nth b k0).2.1.2.2).toList) && true)))) || (!(Yx a0.2.2 ((nth b k0).2.2))))) = false := UH h15
  have h15rl : ((!((a0.2.1.1 == (nth b k0).2.1.1) && ((a0.2.1.2.1 == (nth b k0).2.1.2.1) && ((a0.2.1.2.2.toList == ((nth b k0).2.1.2.2).toList) && true))))) = false := DD h15r
  have h15rln : ((a0.2.1.1 == (nth b k0).2.1.1) && ((a0.2.1.2.1 == (nth b k0).2.1.2.1) && ((a0.2.1.2.2.toList == ((nth b k0).2.1.2.2).toList) && true))) = true := Vd h15rl
  have h15rlnl : ((a0.2.1.1 == (nth b k0).2.1.1)) = true := Pt h15rln
  have h15rlnld := eq_of_beq h15rlnl
  have h15rlnr : (((a0.2.1.2.1 == (nth b k0).2.1.2.1) && ((a0.2.1.2.2.toList == ((nth b k0).2.1.2.2).toList) && true))) = true := QB h15rln
  have h15rlnrl : ((a0.2.1.2.1 == (nth b k0).2.1.2.1)) = true := Pt h15rlnr
  have h15rlnrld := eq_of_beq h15rlnrl
  refine Qh ?_
  refine rn Qa [0, 1, 4, 5] [] (pe 1 (Jw (Qy k0 (by omega))) p0) ?_
  exact xw _ (Q0 hx0 (Ql h15 (rfl)) hI0)
 ·
  refine Qc ?_
  refine sn Qa [0, 1, 4, 5, 14] [] (pl 2 a_ (pe 3 (Qw (decide_eq_false (p := ((k0 : Nat) : Int) < (a_.length : Int)) (by omega))) p0)) ?_
  refine ckF ?_
  refine Q2 ?_
  exact xw _ (Xs hk0 (rfl) hI0)
 refine sn Qa [4] [] (p0) ?_
 refine Qe ?_
 exact pb [] (Ql h1 (Un hD0 (rfl)))
def Wh (s_ : Xo) (ix : (List Qn)) : Bool := (Bm (Yf s_) ix)
theorem D0 (s_ : Xo) (ix : (List Qn)) (hp : Cn s_.2.1 ≤ 1000000000) : ACalls Tryz.prog 12 [.a [.h s_.1, .h s_.2.1, .i s_.2.2], .h ix] (.b (Wh s_ ix)) := by
 refine en Qa Tryz.func12 fun w0 F0 hG => ?_
 refine sn Qa [1, 2, 4] [2] (p0) ?_
 refine tn Qa [4] [] (pc 1 (V2 s_ hp) (pc 3 (O8 (Yf s_) ix) p0)) ?_
 refine Qe ?_
 exact pb [] (show Wh s_ ix = (Bm (Yf s_) ix) from rfl)
theorem YE (s : Xo) : Yf s = Hp s := by
  unfold Yf Hp
  rw [D5 (f := Az) (g := Ay) (e := C8) (e' := C7) (fun k a s => by unfold Az Ay; rw [BF]) (fun _ _ => rfl)]
theorem intsE (a b : List Int) : Zq a b = true ↔ a = b := Ty (p := fun a b : Int => a == b) (fun a b => beq_iff_eq) (f := Kw b) (e := Uf) fun k a => by
  unfold Kw
  cases h : (a == nth b k) <;> simp [bne, h]
theorem intsS (a b : List Int) : Yx a b = true ↔ a = b := Ty (p := fun a b : Int => a == b) (fun a b => beq_iff_eq) (f := Ul b) (e := Bf) fun k a => by
  unfold Ul
  cases h : (a == nth b k) <;> simp [bne, h]
theorem valE (a b : Jc) : ((a.1 == b.1) && ((a.2.1 == b.2.1) && ((a.2.2.toList == b.2.2.toList) && true))) = true ↔ a = b := by
  simp only [Bool.and_eq_true, beq_iff_eq, Bool.and_true]
  rw [← beq_iff_eq (a := a.2.2.toList), VN]
  obtain ⟨a1, a2, a3⟩ := a
  obtain ⟨b1, b2, b3⟩ := b
  exact ⟨fun ⟨h1, h2, h3⟩ => by simp only at h1 h2 h3; rw [h1, h2, h3], fun h => by cases h; exact ⟨rfl, rfl, rfl⟩⟩
theorem postE (a b : Qn) : J5 a b = true ↔ a = b := by
  unfold J5
  rw [Bool.and_eq_true, Bool.and_eq_true, VN, valE, intsE]
  obtain ⟨a1, a2, a3⟩ := a
  obtain ⟨b1, b2, b3⟩ := b
  exact ⟨fun ⟨h1, h2, h3⟩ => by simp only at h1 h2 h3; rw [h1, h2, h3], fun h => by cases h; exact ⟨rfl, rfl, rfl⟩⟩
theorem equalIx (a b : List Qn) : Hi a b = true ↔ a = b := Ty (p := J5) postE (f := Y0 b) (e := Y1) fun k a => rfl
theorem equalIxS (a b : List Qn) : Bm a b = true ↔ a = b := Ty (p := fun a b => (a.1.toList == b.1.toList) && (((a.2.1.1 == b.2.1.1) && ((a.2.1.2.1 == b.2.1.2.1) && ((a.2.1.2.2.toList == b.2.1.2.2.toList) && true))) && Yx a.2.2 b.2.2)) (fun a b => by
    rw [Bool.and_eq_true, Bool.and_eq_true, VN, valE, intsS]
    obtain ⟨a1, a2, a3⟩ := a
    obtain ⟨b1, b2, b3⟩ := b
    exact ⟨fun ⟨h1, h2, h3⟩ => by simp only at h1 h2 h3; rw [h1, h2, h3], fun h => by cases h; exact ⟨rfl, rfl, rfl⟩⟩) (f := Ww b) (e := U7) fun k a => by
  unfold Ww
  generalize (a.1.toList == ((nth b k).1).toList) = c1
  generalize ((a.2.1.1 == (nth b k).2.1.1) && ((a.2.1.2.1 == (nth b k).2.1.2.1) && ((a.2.1.2.2.toList == ((nth b k).2.1.2.2).toList) && true))) = c2
  generalize Yx a.2.2 ((nth b k).2.2) = c3
  cases c1 <;> cases c2 <;> cases c3 <;> rfl
theorem CU (s : Xo) (ix : List Qn) : Wh s ix = Yw s ix := by
  unfold Wh Yw
  rw [YE, Bool.eq_iff_iff, equalIx, equalIxS]
  exact eq_comm
open GoE (enc wide)
def Wi (code : (List UInt8)) (ci : Nat) (ch : Int) : Jc × Nat × Int := (lt (Qm code ci ch 5) (fun x1 => (bif (x1.1 == (0 : Int)) then ((0, 0, ⟨#[]⟩), x1.2.1, x1.2.2) else (lt (α := Bool) (bif (x1.1 == (1 : Int)) then (x1.1 == (1 : Int)) else (x1.1 == (2 : Int))) (fun x4 => (bif x4 then (lt (Qm code x1.2.1 x1.2.2 5) (fun x7 => ((Xy x7.1), x7.2.1, x7.2.2))) else (lt (X4 code x1.2.1 x1.2.2 [⟨#[114, 101, 100]⟩, ⟨#[98, 108, 117, 101]⟩, ⟨#[105, 110, 107]⟩]) (fun x9 => ((Q6 x9.1), x9.2.1, x9.2.2)))))))))
theorem QH (code : (List UInt8)) (ci : Nat) (ch : Int) : AGive Tryz.prog 153 [.h code, .i ((ci : Nat) : Int), .i ch] [] (.a [.i ((((Wi code ci ch)).1).1), .i ((((Wi code ci ch)).1).2.1), .s ((((Wi code ci ch)).1).2.2)]) [.h code, .i ((((Wi code ci ch)).2.1 : Nat) : Int), .i (((Wi code ci ch)).2.2)] := by
 refine Kp (tt := tt) Qa Tryz.func153 (fn := Tryz.f153) rfl (by unfold Dt; kernel_rfl) (Nat.le_of_ble_eq_true rfl) (Nat.le_of_ble_eq_true rfl) rfl rfl fun w0 F0 hG => ?_
 refine sn Qa [0, 2] [2, 60000] (p0) ?_
 refine Qc ?_
 obtain ⟨x1, hx1⟩ := nm (Qm code ci ch 5)
 have hbx1 := hx1 ▸ Qx code ci ch 5
 refine tn Qa [0, 2, 4] [2, 60000] (po 1 (.give none (.i x1.1) [.h code, .i ((x1.2.1 : Nat) : Int), .i x1.2.2]) (px (Q3 (hx1 ▸ Xb code ci ch 5)) p0)) ?_
 refine Qt ?_
 refine tu Qa [(2, .p 2 0), (4, .i x1.1), (5, .b (x1.1 == (0 : Int)))] [] [(2, [.i 0, .i 0, .s ⟨#[]⟩]), (60000, [.h code, .i ((x1.2.1 : Nat) : Int), .i x1.2.2])] [60000] (p0) ?_
 refine ck (x1.1 == (0 : Int)) (fun h2 => ?_) (fun h2 => ?_)
 ·
  refine su Qa [] [4, 5] [] [] (p0) ?_
  refine Qe ?_
  have hE3 : Wi code ci ch = ((0, 0, ⟨#[]⟩), x1.2.1, x1.2.2) := Yo hx1 (Q1 h2 (rfl))
  exact Hv [] (congrArg (fun z => (.a [.i z.1.1, .i z.1.2.1, .s z.1.2.2] : AV)) hE3.symm) (congrArg (fun z => ([.h code, .i ((z.2.1 : Nat) : Int), .i z.2.2] : List C)) hE3.symm)
 refine Qc ?_
 refine sn Qa [0, 2, 4, 8] [2, 60000] (p0) ?_
 refine mz [(8, .b (x1.1 == (1 : Int)))] [5] [] [] ?_
 obtain ⟨x4, hx4⟩ := nm ((bif (x1.1 == (1 : Int)) then (x1.1 == (1 : Int)) else (x1.1 == (2 : Int))))
 refine jn [(8, .b x4)] [4, 8] [] [] (x1.1 == (1 : Int)) (fun h5 => ?_) (fun h5 => ?_) ?_
 ·
  refine ckt h5 ?_
  refine Qh ?_
  obtain rfl : x4 = (x1.1 == (1 : Int)) := hx4.symm.trans (show (bif (x1.1 == (1 : Int)) then (x1.1 == (1 : Int)) else (x1.1 == (2 : Int))) = (x1.1 == (1 : Int)) from Q1 h5 (rfl))
  exact ⟨rfl, Qf (by kernel_rfl)⟩
 ·
  refine ckf h5 ?_
  refine rn Qa [0, 2, 8] [2, 60000] (p0) ?_
  obtain rfl : x4 = (x1.1 == (2 : Int)) := hx4.symm.trans (show (bif (x1.1 == (1 : Int)) then (x1.1 == (1 : Int)) else (x1.1 == (2 : Int))) = (x1.1 == (2 : Int)) from Ql h5 (rfl))
  exact ⟨rfl, Qf (by kernel_rfl)⟩
 refine ck x4 (fun h6 => ?_) (fun h6 => ?_)
 ·
  obtain ⟨x7, hx7⟩ := nm (Qm code x1.2.1 x1.2.2 5)
  have hbx7 := hx7 ▸ Qx code x1.2.1 x1.2.2 5
  refine sn Qa [0, 2] [2, 60000] (po 1 (.give none (.i x7.1) [.h code, .i ((x7.2.1 : Nat) : Int), .i x7.2.2]) (px (Q3 (hx7 ▸ Xb code x1.2.1 x1.2.2 5)) (pc 2 (Hm x7.1) p0))) ?_
  refine Qe ?_
  have hE8 : Wi code ci ch = ((Xy x7.1), x7.2.1, x7.2.2) := Yo hx1 (Ql h2 (Yo hx4 (Q1 h6 (Yo hx7 (rfl)))))
  exact Hv [] (congrArg (fun z => (.a [.i z.1.1, .i z.1.2.1, .s z.1.2.2] : AV)) hE8.symm) (congrArg (fun z => ([.h code, .i ((z.2.1 : Nat) : Int), .i z.2.2] : List C)) hE8.symm)
 refine Qh ?_
 obtain ⟨x9, hx9⟩ := nm (X4 code x1.2.1 x1.2.2 [⟨#[114, 101, 100]⟩, ⟨#[98, 108, 117, 101]⟩, ⟨#[105, 110, 107]⟩])
 refine sn Qa [0, 2] [2, 60000] (po 2 (.give none (.s x9.1) [.h code, .i ((x9.2.1 : Nat) : Int), .i x9.2.2]) (px (Q3 (hx9 ▸ Kf code x1.2.1 x1.2.2 [⟨#[114, 101, 100]⟩, ⟨#[98, 108, 117, 101]⟩, ⟨#[105, 110, 107]⟩] (Nat.zero_lt_succ _))) (pc 3 (Uw x9.1) p0))) ?_
 refine Qe ?_
 have hE10 : Wi code ci ch = ((Q6 x9.1), x9.2.1, x9.2.2) := Yo hx1 (Ql h2 (Yo hx4 (Ql h6 (Yo hx9 (rfl)))))
 exact Hv [] (congrArg (fun z => (.a [.i z.1.1, .i z.1.2.1, .s z.1.2.2] : AV)) hE10.symm) (congrArg (fun z => ([.h code, .i ((z.2.1 : Nat) : Int), .i z.2.2] : List C)) hE10.symm)
def Y2 (code : (List UInt8)) (ci : Nat) (ch : Int) (list : (List Int)) : Int × Nat × Int := (lt (Qm code ci ch (list.length : Int)) (fun x1 => ((nth list (Int.toNat x1.1)), x1.2.1, x1.2.2)))
theorem V3 (code : (List UInt8)) (ci : Nat) (ch : Int) (list : (List Int)) (hp : 0 < List.length list) : AGive Tryz.prog 23 [.h code, .i ((ci : Nat) : Int), .i ch] [.h list] (.i (((Y2 code ci ch list)).1)) [.h code, .i ((((Y2 code ci ch list)).2.1 : Nat) : Int), .i (((Y2 code ci ch list)).2.2)] := by
 refine Kp (tt := tt) Qa Tryz.func23 (fn := Tryz.f23) rfl (by unfold Dt; kernel_rfl) (Nat.le_of_ble_eq_true rfl) (Nat.le_of_ble_eq_true rfl) rfl rfl fun w0 F0 hG => ?_
 refine sn Qa [0, 1, 4] [60000] (p0) ?_
 obtain ⟨x1, hx1⟩ := nm (Qm code ci ch (list.length : Int))
 have hbx1 := hx1 ▸ Qx code ci ch (list.length : Int)
 refine wT 1 0 .sh list (fun hw3 hl4 => ?_)
 have hx2 := ng list (Int.toNat x1.1)
 refine tn Qa [0, 4] [60000] (pl 3 list (po 4 (.give none (.i x1.1) [.h code, .i ((x1.2.1 : Nat) : Int), .i x1.2.2]) (px (Q3 (hx1 ▸ Xb code ci ch (list.length : Int))) (pg 5 x1.1 hx2 p0)))) ?_
 refine Qe ?_
 have hE5 : Y2 code ci ch list = ((nth list (Int.toNat x1.1)), x1.2.1, x1.2.2) := Yo hx1 (rfl)
 exact Hv [] (congrArg (fun z => (.i z.1 : AV)) hE5.symm) (congrArg (fun z => ([.h code, .i ((z.2.1 : Nat) : Int), .i z.2.2] : List C)) hE5.symm)
def Wn (code : (List UInt8)) (ci : Nat) (ch : Int) : Jc × Nat × Int := (lt (Wi code ci ch) (fun x1 => (lt (Qm code x1.2.1 x1.2.2 10) (fun x2 => (bif (x2.1 == (0 : Int)) then (lt (Qm code x2.2.1 x2.2.2 5) (fun x4 => (((x4.1 - 1), x1.1.2.1, x1.1.2.2), x4.2.1, x4.2.2))) else (bif (x2.1 == (1 : Int)) then (lt (Y2 code x2.2.1 x2.2.2 [-1, 0, 999, 1000, 9223372036854775807]) (fun x7 => ((x1.1.1, x7.1, x1.1.2.2), x7.2.1, x7.2.2))) else (bif (x2.1 == (2 : Int)) then (lt (X4 code x2.2.1 x2.2.2 [⟨#[]⟩, ⟨#[65]⟩, ⟨#[97, 98, 99, 100, 101, 102, 103]⟩, ⟨#[97, 98, 99, 100, 101, 102]⟩, ⟨#[97, 32, 98]⟩]) (fun x10 => ((x1.1.1, x1.1.2.1, x10.1), x10.2.1, x10.2.2))) else (x1.1, x2.2.1, x2.2.2))))))))
theorem Rm (code : (List UInt8)) (ci : Nat) (ch : Int) : AGive Tryz.prog 121 [.h code, .i ((ci : Nat) : Int), .i ch] [] (.a [.i ((((Wn code ci ch)).1).1), .i ((((Wn code ci ch)).1).2.1), .s ((((Wn code ci ch)).1).2.2)]) [.h code, .i ((((Wn code ci ch)).2.1 : Nat) : Int), .i (((Wn code ci ch)).2.2)] := by
 refine Kp (tt := tt) Qa Tryz.func121 (fn := Tryz.f121) rfl (by unfold Dt; kernel_rfl) (Nat.le_of_ble_eq_true rfl) (Nat.le_of_ble_eq_true rfl) rfl rfl fun w0 F0 hG => ?_
 refine sn Qa [0, 2] [2, 60000] (p0) ?_
 obtain ⟨x1, hx1⟩ := nm (Wi code ci ch)
 refine tn Qa [0, 2, 3] [2, 3, 60000] (po 1 (.give none (.a [.i x1.1.1, .i x1.1.2.1, .s x1.1.2.2]) [.h code, .i ((x1.2.1 : Nat) : Int), .i x1.2.2]) (px (Q3 (hx1 ▸ QH code ci ch)) p0)) ?_
 refine Qc ?_
 obtain ⟨x2, hx2⟩ := nm (Qm code x1.2.1 x1.2.2 10)
 have hbx2 := hx2 ▸ Qx code x1.2.1 x1.2.2 10
 refine tu Qa [(2, .p 2 0), (3, .p 3 0), (7, .i x2.1)] [] [(2, [.i 0, .i 0, .s ⟨#[]⟩]), (3, [.i x1.1.1, .i x1.1.2.1, .s x1.1.2.2]), (60000, [.h code, .i ((x2.2.1 : Nat) : Int), .i x2.2.2])] [60000] (po 1 (.give none (.i x2.1) [.h code, .i ((x2.2.1 : Nat) : Int), .i x2.2.2]) (px (Q3 (hx2 ▸ Xb code x1.2.1 x1.2.2 10)) p0)) ?_
 refine Qt ?_
 refine sn Qa [0, 2, 3, 7, 8] [2, 3, 60000] (p0) ?_
 refine ck (x2.1 == (0 : Int)) (fun h3 => ?_) (fun h3 => ?_)
 ·
  have h3d := eq_of_beq h3
  obtain ⟨x4, hx4⟩ := nm (Qm code x2.2.1 x2.2.2 5)
  have hbx4 := hx4 ▸ Qx code x2.2.1 x2.2.2 5
  refine qn Qa [0, 2, 3] [2, 3, 60000] (po 1 (.give none (.i x4.1) [.h code, .i ((x4.2.1 : Nat) : Int), .i x4.2.2]) (px (Q3 (hx4 ▸ Xb code x2.2.1 x2.2.2 5)) (pe 2 (Jw (IntWalk.i64_in (x4.1 - 1) (by omega))) p0))) ?_
  refine tu Qa [] [3, 7] [(2, [.i (x4.1 - 1), .i x1.1.2.1, .s x1.1.2.2]), (60000, [.h code, .i ((x4.2.1 : Nat) : Int), .i x4.2.2])] [2, 3, 60000] (p0) ?_
  refine Qe ?_
  have hE5 : Wn code ci ch = (((x4.1 - 1), x1.1.2.1, x1.1.2.2), x4.2.1, x4.2.2) := Yo hx1 (Yo hx2 (Q1 h3 (Yo hx4 (rfl))))
  exact Hv [] (congrArg (fun z => (.a [.i z.1.1, .i z.1.2.1, .s z.1.2.2] : AV)) hE5.symm) (congrArg (fun z => ([.h code, .i ((z.2.1 : Nat) : Int), .i z.2.2] : List C)) hE5.symm)
 refine tn Qa [0, 2, 3, 7, 14] [2, 3, 60000] (p0) ?_
 refine ck (x2.1 == (1 : Int)) (fun h6 => ?_) (fun h6 => ?_)
 ·
  obtain ⟨x7, hx7⟩ := nm (Y2 code x2.2.1 x2.2.2 [-1, 0, 999, 1000, 9223372036854775807])
  refine qu Qa [] [7] [(3, [.i x1.1.1, .i x7.1, .s x1.1.2.2]), (60000, [.h code, .i ((x7.2.1 : Nat) : Int), .i x7.2.2])] [3, 60000] (po 2 (.give none (.i x7.1) [.h code, .i ((x7.2.1 : Nat) : Int), .i x7.2.2]) (px (Q3 (hx7 ▸ V3 code x2.2.1 x2.2.2 [-1, 0, 999, 1000, 9223372036854775807] (Nat.zero_lt_succ _))) p0)) ?_
  refine sn Qa [0, 2] [2, 60000] (p0) ?_
  refine Qe ?_
  have hE8 : Wn code ci ch = ((x1.1.1, x7.1, x1.1.2.2), x7.2.1, x7.2.2) := Yo hx1 (Yo hx2 (Ql h3 (Q1 h6 (Yo hx7 (rfl)))))
  exact Hv [] (congrArg (fun z => (.a [.i z.1.1, .i z.1.2.1, .s z.1.2.2] : AV)) hE8.symm) (congrArg (fun z => ([.h code, .i ((z.2.1 : Nat) : Int), .i z.2.2] : List C)) hE8.symm)
 refine tu Qa [(20, .b (x2.1 == (2 : Int)))] [7] [] [] (p0) ?_
 refine ck (x2.1 == (2 : Int)) (fun h9 => ?_) (fun h9 => ?_)
 ·
  obtain ⟨x10, hx10⟩ := nm (X4 code x2.2.1 x2.2.2 [⟨#[]⟩, ⟨#[65]⟩, ⟨#[97, 98, 99, 100, 101, 102, 103]⟩, ⟨#[97, 98, 99, 100, 101, 102]⟩, ⟨#[97, 32, 98]⟩])
  refine rn Qa [0, 2, 3] [2, 3, 60000] (po 2 (.give none (.s x10.1) [.h code, .i ((x10.2.1 : Nat) : Int), .i x10.2.2]) (px (Q3 (hx10 ▸ Kf code x2.2.1 x2.2.2 [⟨#[]⟩, ⟨#[65]⟩, ⟨#[97, 98, 99, 100, 101, 102, 103]⟩, ⟨#[97, 98, 99, 100, 101, 102]⟩, ⟨#[97, 32, 98]⟩] (Nat.zero_lt_succ _))) p0)) ?_
  refine tn Qa [0, 2] [2, 60000] (p0) ?_
  refine Qe ?_
  have hE11 : Wn code ci ch = ((x1.1.1, x1.1.2.1, x10.1), x10.2.1, x10.2.2) := Yo hx1 (Yo hx2 (Ql h3 (Ql h6 (Q1 h9 (Yo hx10 (rfl))))))
  exact Hv [] (congrArg (fun z => (.a [.i z.1.1, .i z.1.2.1, .s z.1.2.2] : AV)) hE11.symm) (congrArg (fun z => ([.h code, .i ((z.2.1 : Nat) : Int), .i z.2.2] : List C)) hE11.symm)
 refine Qh ?_
 refine sn Qa [0, 2] [2, 60000] (p0) ?_
 refine Qe ?_
 have hE12 : Wn code ci ch = (x1.1, x2.2.1, x2.2.2) := Yo hx1 (Yo hx2 (Ql h3 (Ql h6 (Ql h9 (rfl)))))
 exact Hv [] (congrArg (fun z => (.a [.i z.1.1, .i z.1.2.1, .s z.1.2.2] : AV)) hE12.symm) (congrArg (fun z => ([.h code, .i ((z.2.1 : Nat) : Int), .i z.2.2] : List C)) hE12.symm)
def Ae (code : (List UInt8)) (ci : Nat) (ch : Int) : ByteArray × Nat × Int := (lt (X4 code ci ch [⟨#[97]⟩, ⟨#[98]⟩, ⟨#[110]⟩, ⟨#[116]⟩, ⟨#[97]⟩, ⟨#[98]⟩, ⟨#[116]⟩, ⟨#[122]⟩, ⟨#[65]⟩, ⟨#[]⟩]) (fun x1 => (x1.1, x1.2.1, x1.2.2)))
theorem O9 (code : (List UInt8)) (ci : Nat) (ch : Int) : AGive Tryz.prog 123 [.h code, .i ((ci : Nat) : Int), .i ch] [] (.s (((Ae code ci ch)).1)) [.h code, .i ((((Ae code ci ch)).2.1 : Nat) : Int), .i (((Ae code ci ch)).2.2)] := by
 refine Kp (tt := tt) Qa Tryz.func123 (fn := Tryz.f123) rfl (by unfold Dt; kernel_rfl) (Nat.le_of_ble_eq_true rfl) (Nat.le_of_ble_eq_true rfl) rfl rfl fun w0 F0 hG => ?_
 refine sn Qa [0, 2] [60000] (p0) ?_
 obtain ⟨x1, hx1⟩ := nm (X4 code ci ch [⟨#[97]⟩, ⟨#[98]⟩, ⟨#[110]⟩, ⟨#[116]⟩, ⟨#[97]⟩, ⟨#[98]⟩, ⟨#[116]⟩, ⟨#[122]⟩, ⟨#[65]⟩, ⟨#[]⟩])
 refine tn Qa [0, 2] [60000] (po 2 (.give none (.s x1.1) [.h code, .i ((x1.2.1 : Nat) : Int), .i x1.2.2]) (px (Q3 (hx1 ▸ Kf code ci ch [⟨#[97]⟩, ⟨#[98]⟩, ⟨#[110]⟩, ⟨#[116]⟩, ⟨#[97]⟩, ⟨#[98]⟩, ⟨#[116]⟩, ⟨#[122]⟩, ⟨#[65]⟩, ⟨#[]⟩] (Nat.zero_lt_succ _))) p0)) ?_
 refine Qe ?_
 have hE2 : Ae code ci ch = (x1.1, x1.2.1, x1.2.2) := Yo hx1 (rfl)
 exact Hv [] (congrArg (fun z => (.s z.1 : AV)) hE2.symm) (congrArg (fun z => ([.h code, .i ((z.2.1 : Nat) : Int), .i z.2.2] : List C)) hE2.symm)
def Uz (code : (List UInt8)) (ci : Nat) (ch : Int) : (List Ze) × Nat × Int := (lt (Qm code ci ch 8) (fun x1 => (bif (x1.1 == (0 : Int)) then (lt (Qm code x1.2.1 x1.2.2 4) (fun x3 => (List.take (Int.toNat x3.1) Qs, x3.2.1, x3.2.2))) else (bif (x1.1 == (1 : Int)) then (lt (Qm code x1.2.1 x1.2.2 4) (fun x8 => (lt (Qm code x8.2.1 x8.2.2 5) (fun x9 => (List.set Qs (Int.toNat x8.1) ((nth Qs (Int.toNat x8.1)).1, (x9.1 - 1)), x9.2.1, x9.2.2))))) else (bif (x1.1 == (2 : Int)) then (lt (Qm code x1.2.1 x1.2.2 4) (fun x15 => (lt (Ae code x15.2.1 x15.2.2) (fun x16 => (List.set Qs (Int.toNat x15.1) (x16.1, (nth Qs (Int.toNat x15.1)).2), x16.2.1, x16.2.2))))) else (bif (x1.1 == (3 : Int)) then (lt (X4 code x1.2.1 x1.2.2 [⟨#[117]⟩, ⟨#[122]⟩, ⟨#[97]⟩]) (fun x22 => (Qs ++ [((x22.1, 1) : Ze)], x22.2.1, x22.2.2))) else (bif (x1.1 == (4 : Int)) then (Qs ++ [((⟨#[117]⟩, 1) : Ze), ((⟨#[118]⟩, 2) : Ze)], x1.2.1, x1.2.2) else (Qs, x1.2.1, x1.2.2))))))))
theorem VO (code : (List UInt8)) (ci : Nat) (ch : Int) : AGive Tryz.prog 84 [.h code, .i ((ci : Nat) : Int), .i ch] [] (.h (((Uz code ci ch)).1)) [.h code, .i ((((Uz code ci ch)).2.1 : Nat) : Int), .i (((Uz code ci ch)).2.2)] := by
 refine Kp (tt := tt) Qa Tryz.func84 (fn := Tryz.f84) rfl (by unfold Dt; kernel_rfl) (Nat.le_of_ble_eq_true rfl) (Nat.le_of_ble_eq_true rfl) rfl rfl fun w0 F0 hG => ?_
 have hu4 : List.length Qs = 4 := rfl
 refine sn Qa [0, 2] [60000] (p0) ?_
 refine tn Qa [0, 2, 3] [60000] (pc 0 (Mf) p0) ?_
 refine Qc ?_
 obtain ⟨x1, hx1⟩ := nm (Qm code ci ch 8)
 have hbx1 := hx1 ▸ Qx code ci ch 8
 refine tu Qa [(2, .e 0), (3, .o 256 Qs), (6, .i x1.1)] [] [(60000, [.h code, .i ((x1.2.1 : Nat) : Int), .i x1.2.2])] [60000] (po 1 (.give none (.i x1.1) [.h code, .i ((x1.2.1 : Nat) : Int), .i x1.2.2]) (px (Q3 (hx1 ▸ Xb code ci ch 8)) p0)) ?_
 refine Qt ?_
 refine sn Qa [0, 2, 3, 6, 7] [60000] (p0) ?_
 refine ck (x1.1 == (0 : Int)) (fun h2 => ?_) (fun h2 => ?_)
 ·
  have h2d := eq_of_beq h2
  obtain ⟨x3, hx3⟩ := nm (Qm code x1.2.1 x1.2.2 4)
  have hbx3 := hx3 ▸ Qx code x1.2.1 x1.2.2 4
  refine wT 3 0 (.own true 256) Qs (fun hw4 hl5 => ?_)
  refine qn Qa [0, 2, 3] [60000] (po 2 (.give none (.i x3.1) [.h code, .i ((x3.2.1 : Nat) : Int), .i x3.2.2]) (px (Q3 (hx3 ▸ Xb code x1.2.1 x1.2.2 4)) (pe 3 (M4 (.vw 256) 2 (Int.toNat x3.1) x3.1 Qs rfl) (px (Cs (lo := 0) (hi := x3.1) (n := (List.length (eL Qs))) (Tf (by omega) (by omega) (by omega))) p0)))) ?_
  refine tu Qa [(2, .v 256 (List.take (Int.toNat x3.1) Qs))] [2, 3, 6] [(60000, [.h code, .i ((x3.2.1 : Nat) : Int), .i x3.2.2])] [60000] (p0) ?_
  refine Qe ?_
  have hE6 : Uz code ci ch = (List.take (Int.toNat x3.1) Qs, x3.2.1, x3.2.2) := Yo hx1 (Q1 h2 (Yo hx3 (rfl)))
  exact Hv [256] (congrArg (fun z => (.h z.1 : AV)) hE6.symm) (congrArg (fun z => ([.h code, .i ((z.2.1 : Nat) : Int), .i z.2.2] : List C)) hE6.symm)
 have h2d := Ym h2
 refine tn Qa [0, 2, 3, 6, 13] [60000] (p0) ?_
 refine ck (x1.1 == (1 : Int)) (fun h7 => ?_) (fun h7 => ?_)
 ·
  have h7d := eq_of_beq h7
  obtain ⟨x8, hx8⟩ := nm (Qm code x1.2.1 x1.2.2 4)
  have hbx8 := hx8 ▸ Qx code x1.2.1 x1.2.2 4
  obtain ⟨x9, hx9⟩ := nm (Qm code x8.2.1 x8.2.2 5)
  have hbx9 := hx9 ▸ Qx code x8.2.1 x8.2.2 5
  refine wT 3 0 (.own true 256) Qs (fun hw11 hl12 => ?_)
  have hx10 := ng Qs (Int.toNat x8.1)
  refine qu Qa [(3, .one (.slc (.own true 256) 2 (setRow (eL Qs) (Int.toNat x8.1) 1 [.i (x9.1 - 1)])))] [3, 6] [(60000, [.h code, .i ((x9.2.1 : Nat) : Int), .i x9.2.2])] [60000] (po 2 (.give none (.i x8.1) [.h code, .i ((x8.2.1 : Nat) : Int), .i x8.2.2]) (px (Q3 (hx8 ▸ Xb code x1.2.1 x1.2.2 4)) (po 4 (.give none (.i x9.1) [.h code, .i ((x9.2.1 : Nat) : Int), .i x9.2.2]) (px (Q3 (hx9 ▸ Xb code x8.2.1 x8.2.2 5)) (pe 5 (Jw (IntWalk.i64_in (x9.1 - 1) (by omega))) (pG 6 x8.1 hx10 p0)))))) ?_
  refine eqn [(3, .o 256 (List.set Qs (Int.toNat x8.1) ((nth Qs (Int.toNat x8.1)).1, (x9.1 - 1))))] [3] [] [] (by rw [Zx (y := ((nth Qs (Int.toNat x8.1)).1, (x9.1 - 1))) hx10 rfl] <;> kernel_rfl) ?_
  refine sn Qa [0, 2] [60000] (p0) ?_
  refine Qe ?_
  have hE13 : Uz code ci ch = (List.set Qs (Int.toNat x8.1) ((nth Qs (Int.toNat x8.1)).1, (x9.1 - 1)), x9.2.1, x9.2.2) := Yo hx1 (Ql h2 (Q1 h7 (Yo hx8 (Yo hx9 (rfl)))))
  exact Hv [256] (congrArg (fun z => (.h z.1 : AV)) hE13.symm) (congrArg (fun z => ([.h code, .i ((z.2.1 : Nat) : Int), .i z.2.2] : List C)) hE13.symm)
 have h7d := Ym h7
 refine tu Qa [(23, .b (x1.1 == (2 : Int)))] [] [] [] (p0) ?_
 refine ck (x1.1 == (2 : Int)) (fun h14 => ?_) (fun h14 => ?_)
 ·
  have h14d := eq_of_beq h14
  obtain ⟨x15, hx15⟩ := nm (Qm code x1.2.1 x1.2.2 4)
  have hbx15 := hx15 ▸ Qx code x1.2.1 x1.2.2 4
  obtain ⟨x16, hx16⟩ := nm (Ae code x15.2.1 x15.2.2)
  refine wT 3 0 (.own true 256) Qs (fun hw18 hl19 => ?_)
  have hx17 := ng Qs (Int.toNat x15.1)
  refine ru Qa [(3, .one (.slc (.own true 256) 2 (setRow (eL Qs) (Int.toNat x15.1) 0 [.s x16.1])))] [3, 6, 23] [(60000, [.h code, .i ((x16.2.1 : Nat) : Int), .i x16.2.2])] [60000] (po 2 (.give none (.i x15.1) [.h code, .i ((x15.2.1 : Nat) : Int), .i x15.2.2]) (px (Q3 (hx15 ▸ Xb code x1.2.1 x1.2.2 4)) (po 4 (.give none (.s x16.1) [.h code, .i ((x16.2.1 : Nat) : Int), .i x16.2.2]) (px (Q3 (hx16 ▸ O9 code x15.2.1 x15.2.2)) (pG 5 x15.1 hx17 p0))))) ?_
  refine eqn [(3, .o 256 (List.set Qs (Int.toNat x15.1) (x16.1, (nth Qs (Int.toNat x15.1)).2)))] [3] [] [] (by rw [Zx (y := (x16.1, (nth Qs (Int.toNat x15.1)).2)) hx17 rfl] <;> kernel_rfl) ?_
  refine sn Qa [0, 2] [60000] (p0) ?_
  refine Qe ?_
  have hE20 : Uz code ci ch = (List.set Qs (Int.toNat x15.1) (x16.1, (nth Qs (Int.toNat x15.1)).2), x16.2.1, x16.2.2) := Yo hx1 (Ql h2 (Ql h7 (Q1 h14 (Yo hx15 (Yo hx16 (rfl))))))
  exact Hv [256] (congrArg (fun z => (.h z.1 : AV)) hE20.symm) (congrArg (fun z => ([.h code, .i ((z.2.1 : Nat) : Int), .i z.2.2] : List C)) hE20.symm)
 have h14d := Ym h14
 refine sn Qa [0, 2, 3, 6, 32] [60000] (p0) ?_
 refine ck (x1.1 == (3 : Int)) (fun h21 => ?_) (fun h21 => ?_)
 ·
  have h21d := eq_of_beq h21
  obtain ⟨x22, hx22⟩ := nm (X4 code x1.2.1 x1.2.2 [⟨#[117]⟩, ⟨#[122]⟩, ⟨#[97]⟩])
  refine wT 3 0 (.own true 256) Qs (fun hw23 hl24 => ?_)
  refine qu Qa [(3, .one (.slc (.own true 2560) 2 ((eL Qs) ++ [[.s x22.1, .i 1]])))] [3, 6, 23] [(60000, [.h code, .i ((x22.2.1 : Nat) : Int), .i x22.2.2])] [60000] (po 3 (.give none (.s x22.1) [.h code, .i ((x22.2.1 : Nat) : Int), .i x22.2.2]) (px (Q3 (hx22 ▸ Kf code x1.2.1 x1.2.2 [⟨#[117]⟩, ⟨#[122]⟩, ⟨#[97]⟩] (Nat.zero_lt_succ _))) (pa Qs [((x22.1, 1) : Ze)] p0))) ?_
  refine eqn [(3, .o 2560 (Qs ++ [((x22.1, 1) : Ze)]))] [3] [] [] (by rw [show ((eL Qs) ++ [[.s x22.1, .i 1]]) = (eL (Qs ++ [((x22.1, 1) : Ze)])) from Vn (rfl) (rfl)]; first | done | kernel_rfl) ?_
  refine sn Qa [0, 2] [60000] (p0) ?_
  refine Qe ?_
  have hE25 : Uz code ci ch = (Qs ++ [((x22.1, 1) : Ze)], x22.2.1, x22.2.2) := Yo hx1 (Ql h2 (Ql h7 (Ql h14 (Q1 h21 (Yo hx22 (rfl))))))
  exact Hv [2560] (congrArg (fun z => (.h z.1 : AV)) hE25.symm) (congrArg (fun z => ([.h code, .i ((z.2.1 : Nat) : Int), .i z.2.2] : List C)) hE25.symm)
 have h21d := Ym h21
 refine tn Qa [0, 2, 3, 41] [60000] (p0) ?_
 refine ck (x1.1 == (4 : Int)) (fun h26 => ?_) (fun h26 => ?_)
 ·
  have h26d := eq_of_beq h26
  refine wT 3 0 (.own true 256) Qs (fun hw27 hl28 => ?_)
  refine qu Qa [(3, .one (.slc (.own true 3008) 2 ((eL Qs) ++ [[.s ⟨#[117]⟩, .i 1], [.s ⟨#[118]⟩, .i 2]])))] [3, 6, 23] [] [] (pa Qs [((⟨#[117]⟩, 1) : Ze), ((⟨#[118]⟩, 2) : Ze)] p0) ?_
  refine eqn [(3, .o 3008 (Qs ++ [((⟨#[117]⟩, 1) : Ze), ((⟨#[118]⟩, 2) : Ze)]))] [3] [] [] (by rw [show ((eL Qs) ++ [[.s ⟨#[117]⟩, .i 1], [.s ⟨#[118]⟩, .i 2]]) = (eL (Qs ++ [((⟨#[117]⟩, 1) : Ze), ((⟨#[118]⟩, 2) : Ze)])) from Vn (rfl) (rfl)]; first | done | kernel_rfl) ?_
  refine sn Qa [0, 2] [60000] (p0) ?_
  refine Qe ?_
  have hE29 : Uz code ci ch = (Qs ++ [((⟨#[117]⟩, 1) : Ze), ((⟨#[118]⟩, 2) : Ze)], x1.2.1, x1.2.2) := Yo hx1 (Ql h2 (Ql h7 (Ql h14 (Ql h21 (Q1 h26 (rfl))))))
  exact Hv [3008] (congrArg (fun z => (.h z.1 : AV)) hE29.symm) (congrArg (fun z => ([.h code, .i ((z.2.1 : Nat) : Int), .i z.2.2] : List C)) hE29.symm)
 refine Qh ?_
 refine tu Qa [(2, .o 256 Qs)] [2, 3, 6, 23] [] [] (p0) ?_
 refine Qe ?_
 have hE30 : Uz code ci ch = (Qs, x1.2.1, x1.2.2) := Yo hx1 (Ql h2 (Ql h7 (Ql h14 (Ql h21 (Ql h26 (rfl))))))
 exact Hv [256] (congrArg (fun z => (.h z.1 : AV)) hE30.symm) (congrArg (fun z => ([.h code, .i ((z.2.1 : Nat) : Int), .i z.2.2] : List C)) hE30.symm)
def Vc (code : (List UInt8)) (ci : Nat) (ch : Int) : X9 × Nat × Int := (lt (Qm code ci ch 7) (fun x1 => (lt (Z9 code x1.2.1 x1.2.2 (1 + x1.1)) (fun x2 => (lt (Qm code x2.2.1 x2.2.2 14) (fun x3 => (bif (x3.1 == (0 : Int)) then (lt (Y2 code x3.2.1 x3.2.2 [0, 60, 61, -1]) (fun x5 => ((x5.1, x2.1.2.1, x2.1.2.2.1, x2.1.2.2.2.1, x2.1.2.2.2.2), x5.2.1, x5.2.2))) else (bif (x3.1 == (1 : Int)) then (lt (Y2 code x3.2.1 x3.2.2 [-1, 2, 3]) (fun x8 => ((x2.1.1, x8.1, x2.1.2.2.1, x2.1.2.2.2.1, x2.1.2.2.2.2), x8.2.1, x8.2.2))) else (bif (x3.1 == (2 : Int)) then (lt (Y2 code x3.2.1 x3.2.2 [-1, 60, 61, 9223372036854775807]) (fun x11 => ((x2.1.1, x2.1.2.1, x2.1.2.2.1, x11.1, x2.1.2.2.2.2), x11.2.1, x11.2.2))) else (bif (x3.1 == (3 : Int)) then (lt (Ae code x3.2.1 x3.2.2) (fun x14 => (lt (Wn code x14.2.1 x14.2.2) (fun x15 => ((x2.1.1, x2.1.2.1, x2.1.2.2.1, x2.1.2.2.2.1, x2.1.2.2.2.2 ++ [(x14.1, x15.1)]), x15.2.1, x15.2.2))))) else (bif (x3.1 == (4 : Int)) then ((Xf x2.1 ⟨#[97]⟩ (Q6 ⟨#[114, 101, 100]⟩)), x3.2.1, x3.2.2) else (x2.1, x3.2.1, x3.2.2))))))))))))
theorem VP (code : (List UInt8)) (ci : Nat) (ch : Int) : AGive Tryz.prog 83 [.h code, .i ((ci : Nat) : Int), .i ch] [] (.a [.i ((((Vc code ci ch)).1).1), .i ((((Vc code ci ch)).1).2.1), .b ((((Vc code ci ch)).1).2.2.1), .i ((((Vc code ci ch)).1).2.2.2.1), .o 0 ((((Vc code ci ch)).1).2.2.2.2)]) [.h code, .i ((((Vc code ci ch)).2.1 : Nat) : Int), .i (((Vc code ci ch)).2.2)] := by
 refine Kp (tt := tt) Qa Tryz.func83 (fn := Tryz.f83) rfl (by unfold Dt; kernel_rfl) (Nat.le_of_ble_eq_true rfl) (Nat.le_of_ble_eq_true rfl) rfl rfl fun w0 F0 hG => ?_
 refine sn Qa [0, 2] [2, 60000] (p0) ?_
 obtain ⟨x1, hx1⟩ := nm (Qm code ci ch 7)
 have hbx1 := hx1 ▸ Qx code ci ch 7
 obtain ⟨x2, hx2⟩ := nm (Z9 code x1.2.1 x1.2.2 (1 + x1.1))
 have hlx2 := l04_len code x1.2.1 x1.2.2 (1 + x1.1)
 rw [hx2] at hlx2
 refine tn Qa [0, 2, 3] [2, 3, 60000] (po 2 (.give none (.i x1.1) [.h code, .i ((x1.2.1 : Nat) : Int), .i x1.2.2]) (px (Q3 (hx1 ▸ Xb code ci ch 7)) (pe 3 (Jw (IntWalk.i64_in (1 + x1.1) (by omega))) (po 4 (.give none (.a [.i x2.1.1, .i x2.1.2.1, .b x2.1.2.2.1, .i x2.1.2.2.2.1, .o 0 x2.1.2.2.2.2]) [.h code, .i ((x2.2.1 : Nat) : Int), .i x2.2.2]) (px (Q3 (hx2 ▸ Gy code x1.2.1 x1.2.2 (1 + x1.1))) p0))))) ?_
 refine Qc ?_
 obtain ⟨x3, hx3⟩ := nm (Qm code x2.2.1 x2.2.2 14)
 have hbx3 := hx3 ▸ Qx code x2.2.1 x2.2.2 14
 refine tu Qa [(2, .p 2 0), (3, .p 3 0), (10, .i x3.1)] [] [(2, [.i 0, .i 0, .b false, .i 0, .e 4]), (3, [.i x2.1.1, .i x2.1.2.1, .b x2.1.2.2.1, .i x2.1.2.2.2.1, .o 512 x2.1.2.2.2.2]), (60000, [.h code, .i ((x3.2.1 : Nat) : Int), .i x3.2.2])] [60000] (po 1 (.give none (.i x3.1) [.h code, .i ((x3.2.1 : Nat) : Int), .i x3.2.2]) (px (Q3 (hx3 ▸ Xb code x2.2.1 x2.2.2 14)) p0)) ?_
 refine Qt ?_
 refine sn Qa [0, 2, 3, 10, 11] [2, 3, 60000] (p0) ?_
 refine ck (x3.1 == (0 : Int)) (fun h4 => ?_) (fun h4 => ?_)
 ·
  obtain ⟨x5, hx5⟩ := nm (Y2 code x3.2.1 x3.2.2 [0, 60, 61, -1])
  refine qn Qa [0, 2, 3] [2, 3, 60000] (po 2 (.give none (.i x5.1) [.h code, .i ((x5.2.1 : Nat) : Int), .i x5.2.2]) (px (Q3 (hx5 ▸ V3 code x3.2.1 x3.2.2 [0, 60, 61, -1] (Nat.zero_lt_succ _))) p0)) ?_
  refine tu Qa [] [3, 10] [(2, [.i x5.1, .i x2.1.2.1, .b x2.1.2.2.1, .i x2.1.2.2.2.1, .o 512 x2.1.2.2.2.2]), (60000, [.h code, .i ((x5.2.1 : Nat) : Int), .i x5.2.2])] [2, 3, 60000] (p0) ?_
  refine Qe ?_
  have hE6 : Vc code ci ch = ((x5.1, x2.1.2.1, x2.1.2.2.1, x2.1.2.2.2.1, x2.1.2.2.2.2), x5.2.1, x5.2.2) := Yo hx1 (Yo hx2 (Yo hx3 (Q1 h4 (Yo hx5 (rfl)))))
  exact Hv [] (congrArg (fun z => (.a [.i z.1.1, .i z.1.2.1, .b z.1.2.2.1, .i z.1.2.2.2.1, .o 0 z.1.2.2.2.2] : AV)) hE6.symm) (congrArg (fun z => ([.h code, .i ((z.2.1 : Nat) : Int), .i z.2.2] : List C)) hE6.symm)
 have h4d := Ym h4
 refine tn Qa [0, 2, 3, 10, 17] [2, 3, 60000] (p0) ?_
 refine ck (x3.1 == (1 : Int)) (fun h7 => ?_) (fun h7 => ?_)
 ·
  obtain ⟨x8, hx8⟩ := nm (Y2 code x3.2.1 x3.2.2 [-1, 2, 3])
  refine qu Qa [] [10] [(3, [.i x2.1.1, .i x8.1, .b x2.1.2.2.1, .i x2.1.2.2.2.1, .o 512 x2.1.2.2.2.2]), (60000, [.h code, .i ((x8.2.1 : Nat) : Int), .i x8.2.2])] [3, 60000] (po 2 (.give none (.i x8.1) [.h code, .i ((x8.2.1 : Nat) : Int), .i x8.2.2]) (px (Q3 (hx8 ▸ V3 code x3.2.1 x3.2.2 [-1, 2, 3] (Nat.zero_lt_succ _))) p0)) ?_
  refine sn Qa [0, 2] [2, 60000] (p0) ?_
  refine Qe ?_
  have hE9 : Vc code ci ch = ((x2.1.1, x8.1, x2.1.2.2.1, x2.1.2.2.2.1, x2.1.2.2.2.2), x8.2.1, x8.2.2) := Yo hx1 (Yo hx2 (Yo hx3 (Ql h4 (Q1 h7 (Yo hx8 (rfl))))))
  exact Hv [] (congrArg (fun z => (.a [.i z.1.1, .i z.1.2.1, .b z.1.2.2.1, .i z.1.2.2.2.1, .o 0 z.1.2.2.2.2] : AV)) hE9.symm) (congrArg (fun z => ([.h code, .i ((z.2.1 : Nat) : Int), .i z.2.2] : List C)) hE9.symm)
 have h7d := Ym h7
 refine tu Qa [(23, .b (x3.1 == (2 : Int)))] [] [] [] (p0) ?_
 refine ck (x3.1 == (2 : Int)) (fun h10 => ?_) (fun h10 => ?_)
 ·
  obtain ⟨x11, hx11⟩ := nm (Y2 code x3.2.1 x3.2.2 [-1, 60, 61, 9223372036854775807])
  refine rn Qa [0, 2, 3] [2, 3, 60000] (po 2 (.give none (.i x11.1) [.h code, .i ((x11.2.1 : Nat) : Int), .i x11.2.2]) (px (Q3 (hx11 ▸ V3 code x3.2.1 x3.2.2 [-1, 60, 61, 9223372036854775807] (Nat.zero_lt_succ _))) p0)) ?_
  refine tn Qa [0, 2] [2, 60000] (p0) ?_
  refine Qe ?_
  have hE12 : Vc code ci ch = ((x2.1.1, x2.1.2.1, x2.1.2.2.1, x11.1, x2.1.2.2.2.2), x11.2.1, x11.2.2) := Yo hx1 (Yo hx2 (Yo hx3 (Ql h4 (Ql h7 (Q1 h10 (Yo hx11 (rfl)))))))
  exact Hv [] (congrArg (fun z => (.a [.i z.1.1, .i z.1.2.1, .b z.1.2.2.1, .i z.1.2.2.2.1, .o 0 z.1.2.2.2.2] : AV)) hE12.symm) (congrArg (fun z => ([.h code, .i ((z.2.1 : Nat) : Int), .i z.2.2] : List C)) hE12.symm)
 have h10d := Ym h10
 refine sn Qa [0, 2, 3, 10, 29] [2, 3, 60000] (p0) ?_
 refine ck (x3.1 == (3 : Int)) (fun h13 => ?_) (fun h13 => ?_)
 ·
  have h13d := eq_of_beq h13
  obtain ⟨x14, hx14⟩ := nm (Ae code x3.2.1 x3.2.2)
  obtain ⟨x15, hx15⟩ := nm (Wn code x14.2.1 x14.2.2)
  refine wB 3 4 (.own true 512) x2.1.2.2.2.2 (fun hw16 hl17 => ?_)
  refine qU Qa Yc [] [10, 23] [(3, [.i x2.1.1, .i x2.1.2.1, .b x2.1.2.2.1, .i x2.1.2.2.2.1, .slc (.own true 2496) 4 ((eL x2.1.2.2.2.2) ++ [[.s x14.1, .i x15.1.1, .i x15.1.2.1, .s x15.1.2.2]])]), (60000, [.h code, .i ((x15.2.1 : Nat) : Int), .i x15.2.2])] [3, 60000] (po 3 (.give none (.s x14.1) [.h code, .i ((x14.2.1 : Nat) : Int), .i x14.2.2]) (px (Q3 (hx14 ▸ O9 code x3.2.1 x3.2.2)) (po 5 (.give none (.a [.i x15.1.1, .i x15.1.2.1, .s x15.1.2.2]) [.h code, .i ((x15.2.1 : Nat) : Int), .i x15.2.2]) (px (Q3 (hx15 ▸ Rm code x14.2.1 x14.2.2)) (pa x2.1.2.2.2.2 [(x14.1, x15.1)] p0))))) ?_
  refine eqn [] [] [(3, [.i x2.1.1, .i x2.1.2.1, .b x2.1.2.2.1, .i x2.1.2.2.2.1, .o 2496 (x2.1.2.2.2.2 ++ [(x14.1, x15.1)])])] [3] (by rw [show ((eL x2.1.2.2.2.2) ++ [[.s x14.1, .i x15.1.1, .i x15.1.2.1, .s x15.1.2.2]]) = (eL (x2.1.2.2.2.2 ++ [(x14.1, x15.1)])) from Vn (rfl) (rfl)]; first | done | kernel_rfl) ?_
  refine sn Qa [0, 2] [2, 60000] (p0) ?_
  refine Qe ?_
  have hE18 : Vc code ci ch = ((x2.1.1, x2.1.2.1, x2.1.2.2.1, x2.1.2.2.2.1, x2.1.2.2.2.2 ++ [(x14.1, x15.1)]), x15.2.1, x15.2.2) := Yo hx1 (Yo hx2 (Yo hx3 (Ql h4 (Ql h7 (Ql h10 (Q1 h13 (Yo hx14 (Yo hx15 (rfl)))))))))
  exact Hv [] (congrArg (fun z => (.a [.i z.1.1, .i z.1.2.1, .b z.1.2.2.1, .i z.1.2.2.2.1, .o 0 z.1.2.2.2.2] : AV)) hE18.symm) (congrArg (fun z => ([.h code, .i ((z.2.1 : Nat) : Int), .i z.2.2] : List C)) hE18.symm)
 have h13d := Ym h13
 refine tn Qa [0, 2, 3, 41] [2, 3, 60000] (p0) ?_
 refine ck (x3.1 == (4 : Int)) (fun h19 => ?_) (fun h19 => ?_)
 ·
  have h19d := eq_of_beq h19
  refine qU Qa Yc [] [10, 23] [(3, [.i ((Xf x2.1 ⟨#[97]⟩ (Q6 ⟨#[114, 101, 100]⟩)).1), .i ((Xf x2.1 ⟨#[97]⟩ (Q6 ⟨#[114, 101, 100]⟩)).2.1), .b ((Xf x2.1 ⟨#[97]⟩ (Q6 ⟨#[114, 101, 100]⟩)).2.2.1), .i ((Xf x2.1 ⟨#[97]⟩ (Q6 ⟨#[114, 101, 100]⟩)).2.2.2.1), .o 2880 ((Xf x2.1 ⟨#[97]⟩ (Q6 ⟨#[114, 101, 100]⟩)).2.2.2.2)])] [3] (pc 1 (Uw ⟨#[114, 101, 100]⟩) (pc 2 (Cl x2.1 ⟨#[97]⟩ (Q6 ⟨#[114, 101, 100]⟩) (by first | omega | (simp; done) | (simp; omega))) p0)) ?_
  refine sn Qa [0, 2] [2, 60000] (p0) ?_
  refine Qe ?_
  have hE20 : Vc code ci ch = ((Xf x2.1 ⟨#[97]⟩ (Q6 ⟨#[114, 101, 100]⟩)), x3.2.1, x3.2.2) := Yo hx1 (Yo hx2 (Yo hx3 (Ql h4 (Ql h7 (Ql h10 (Ql h13 (Q1 h19 (rfl))))))))
  exact Hv [] (congrArg (fun z => (.a [.i z.1.1, .i z.1.2.1, .b z.1.2.2.1, .i z.1.2.2.2.1, .o 0 z.1.2.2.2.2] : AV)) hE20.symm) (congrArg (fun z => ([.h code, .i ((z.2.1 : Nat) : Int), .i z.2.2] : List C)) hE20.symm)
 refine Qh ?_
 refine tu Qa [] [3, 10, 23] [(2, [.i x2.1.1, .i x2.1.2.1, .b x2.1.2.2.1, .i x2.1.2.2.2.1, .o 512 x2.1.2.2.2.2])] [2, 3] (p0) ?_
 refine Qe ?_
 have hE21 : Vc code ci ch = (x2.1, x3.2.1, x3.2.2) := Yo hx1 (Yo hx2 (Yo hx3 (Ql h4 (Ql h7 (Ql h10 (Ql h13 (Ql h19 (rfl))))))))
 exact Hv [] (congrArg (fun z => (.a [.i z.1.1, .i z.1.2.1, .b z.1.2.2.1, .i z.1.2.2.2.1, .o 0 z.1.2.2.2.2] : AV)) hE21.symm) (congrArg (fun z => ([.h code, .i ((z.2.1 : Nat) : Int), .i z.2.2] : List C)) hE21.symm)
def A0 (code : (List UInt8)) (s0 : Xo × Nat × Int) : Rd (Xo × Nat × Int) (Xo × Nat × Int) (Xo × Nat × Int) := (bif decide ((s0.1.2.1.length : Int) < (12 : Int)) then (lt (Z9 code s0.2.1 s0.2.2 1) (fun x16 => (.next ((((X0 s0.1 x16.1)).1), x16.2.1, x16.2.2)))) else (.brk (s0.1, s0.2.1, s0.2.2)))
def W4 (code : (List UInt8)) (ci : Nat) (ch : Int) : Xo × Nat × Int := (lt (Y6 code ci ch) (fun x1 => (lt (Qm code x1.2.1 x1.2.2 14) (fun x2 => (bif (x2.1 == (0 : Int)) then (lt (Y2 code x2.2.1 x2.2.2 [0, 60, 61, 62]) (fun x4 => ((x1.1.1, x1.1.2.1, x4.1), x4.2.1, x4.2.2))) else (bif (x2.1 == (1 : Int)) then (lt (Vc code x2.2.1 x2.2.2) (fun x7 => ((x1.1.1, x1.1.2.1 ++ [x7.1], x1.1.2.2), x7.2.1, x7.2.2))) else (bif (x2.1 == (2 : Int)) then (lt (Uz code x2.2.1 x2.2.2) (fun x12 => ((x12.1, x1.1.2.1, x1.1.2.2), x12.2.1, x12.2.2))) else (bif (x2.1 == (3 : Int)) then (Out.on (E6 (A0 code) 13 (x1.1, x2.2.1, x2.2.2)) (fun y0 => (y0.1, y0.2.1, y0.2.2))) else (x1.1, x2.2.1, x2.2.2)))))))))
theorem VQ (code : List UInt8) (ci : Nat) (ch : Int) {s : Xo} (h : S5 s) : (whl (A0 code) 13 (s, ci, ch)).isSome = true :=
  UW (fun s => S5 s.1) (fun s => (s.1.2.1.length : Int)) 12 (fun s s' hi h => by
    unfold A0 lt at h
    by_cases hc : (s.1.2.1.length : Int) < 12
    · simp only [decide_eq_true hc, cond_true] at h
      have h := Rd.next.inj h
      obtain ⟨h1, h2⟩ := s5_push hi (by omega) (l04_ok code s.2.1 s.2.2 1)
      rw [← h]
      exact ⟨hc, by dsimp only; omega, h2⟩
    simp only [decide_eq_false hc, cond_false] at h
    cases h) 12 _ h (by show (12 : Int) ≤ (s.2.1.length : Int) + 12; omega)
theorem VT (code : (List UInt8)) (ci : Nat) (ch : Int) : AGive Tryz.prog 52 [.h code, .i ((ci : Nat) : Int), .i ch] [] (.a [.h ((((W4 code ci ch)).1).1), .q 0 ((((W4 code ci ch)).1).2.1), .i ((((W4 code ci ch)).1).2.2)]) [.h code, .i ((((W4 code ci ch)).2.1 : Nat) : Int), .i (((W4 code ci ch)).2.2)] := by
 refine Kp (tt := tt) Qa Tryz.func52 (fn := Tryz.f52) rfl (by unfold Dt; kernel_rfl) (Nat.le_of_ble_eq_true rfl) (Nat.le_of_ble_eq_true rfl) rfl rfl fun w0 F0 hG => ?_
 refine sn Qa [0, 2] [2, 60000] (p0) ?_
 obtain ⟨x1, hx1⟩ := nm (Y6 code ci ch)
 have hsx1 := BA code ci ch
 rw [hx1] at hsx1
 refine tn Qa [0, 2, 3] [2, 3, 60000] (po 1 (.give none (.a [.o 0 x1.1.1, .q 1 x1.1.2.1, .i x1.1.2.2]) [.h code, .i ((x1.2.1 : Nat) : Int), .i x1.2.2]) (px (Q3 (hx1 ▸ Di code ci ch)) p0)) ?_
 refine Qc ?_
 obtain ⟨x2, hx2⟩ := nm (Qm code x1.2.1 x1.2.2 14)
 have hbx2 := hx2 ▸ Qx code x1.2.1 x1.2.2 14
 refine tu Qa [(2, .p 2 0), (3, .p 3 0), (7, .i x2.1)] [] [(2, [.e 2, .e 5, .i 0]), (3, [.o 320 x1.1.1, .q 321 x1.1.2.1, .i x1.1.2.2]), (60000, [.h code, .i ((x2.2.1 : Nat) : Int), .i x2.2.2])] [60000] (po 1 (.give none (.i x2.1) [.h code, .i ((x2.2.1 : Nat) : Int), .i x2.2.2]) (px (Q3 (hx2 ▸ Xb code x1.2.1 x1.2.2 14)) p0)) ?_
 refine Qt ?_
 refine sn Qa [0, 2, 3, 7, 8] [2, 3, 60000] (p0) ?_
 refine ck (x2.1 == (0 : Int)) (fun h3 => ?_) (fun h3 => ?_)
 ·
  obtain ⟨x4, hx4⟩ := nm (Y2 code x2.2.1 x2.2.2 [0, 60, 61, 62])
  refine qn Qa [0, 2, 3] [2, 3, 60000] (po 2 (.give none (.i x4.1) [.h code, .i ((x4.2.1 : Nat) : Int), .i x4.2.2]) (px (Q3 (hx4 ▸ V3 code x2.2.1 x2.2.2 [0, 60, 61, 62] (Nat.zero_lt_succ _))) p0)) ?_
  refine tu Qa [] [3, 7] [(2, [.o 320 x1.1.1, .q 321 x1.1.2.1, .i x4.1]), (60000, [.h code, .i ((x4.2.1 : Nat) : Int), .i x4.2.2])] [2, 3, 60000] (p0) ?_
  refine Qe ?_
  have hE5 : W4 code ci ch = ((x1.1.1, x1.1.2.1, x4.1), x4.2.1, x4.2.2) := Yo hx1 (Yo hx2 (Q1 h3 (Yo hx4 (rfl))))
  exact Hv [320] (congrArg (fun z => (.a [.h z.1.1, .q 0 z.1.2.1, .i z.1.2.2] : AV)) hE5.symm) (congrArg (fun z => ([.h code, .i ((z.2.1 : Nat) : Int), .i z.2.2] : List C)) hE5.symm)
 have h3d := Ym h3
 refine tn Qa [0, 2, 3, 7, 14] [2, 3, 60000] (p0) ?_
 refine ck (x2.1 == (1 : Int)) (fun h6 => ?_) (fun h6 => ?_)
 ·
  have h6d := eq_of_beq h6
  obtain ⟨x7, hx7⟩ := nm (Vc code x2.2.1 x2.2.2)
  refine wB 3 1 (.own false 321) x1.1.2.1 (fun hw8 hl9 => ?_)
  refine qU Qa Yc [] [7] [(3, [.o 320 x1.1.1, .slc (.own false 1344) 5 ((eL x1.1.2.1) ++ [[.i x7.1.1, .i x7.1.2.1, .b x7.1.2.2.1, .i x7.1.2.2.2.1, .h x7.1.2.2.2.2]]), .i x1.1.2.2]), (60000, [.h code, .i ((x7.2.1 : Nat) : Int), .i x7.2.2])] [3, 60000] (po 3 (.give none (.a [.i x7.1.1, .i x7.1.2.1, .b x7.1.2.2.1, .i x7.1.2.2.2.1, .o 0 x7.1.2.2.2.2]) [.h code, .i ((x7.2.1 : Nat) : Int), .i x7.2.2]) (px (Q3 (hx7 ▸ VP code x2.2.1 x2.2.2)) (pa x1.1.2.1 [x7.1] p0))) ?_
  refine eqn [] [] [(3, [.o 320 x1.1.1, .q 1344 (x1.1.2.1 ++ [x7.1]), .i x1.1.2.2])] [3] (by rw [show ((eL x1.1.2.1) ++ [[.i x7.1.1, .i x7.1.2.1, .b x7.1.2.2.1, .i x7.1.2.2.2.1, .h x7.1.2.2.2.2]]) = (eL (x1.1.2.1 ++ [x7.1])) from Vn (rfl) (rfl)]; first | done | kernel_rfl) ?_
  refine sn Qa [0, 2] [2, 60000] (p0) ?_
  refine Qe ?_
  have hE10 : W4 code ci ch = ((x1.1.1, x1.1.2.1 ++ [x7.1], x1.1.2.2), x7.2.1, x7.2.2) := Yo hx1 (Yo hx2 (Ql h3 (Q1 h6 (Yo hx7 (rfl)))))
  exact Hv [320] (congrArg (fun z => (.a [.h z.1.1, .q 0 z.1.2.1, .i z.1.2.2] : AV)) hE10.symm) (congrArg (fun z => ([.h code, .i ((z.2.1 : Nat) : Int), .i z.2.2] : List C)) hE10.symm)
 refine tu Qa [(23, .b (x2.1 == (2 : Int)))] [] [] [] (p0) ?_
 refine ck (x2.1 == (2 : Int)) (fun h11 => ?_) (fun h11 => ?_)
 ·
  obtain ⟨x12, hx12⟩ := nm (Uz code x2.2.1 x2.2.2)
  refine rn Qa [0, 2, 3] [2, 3, 60000] (po 1 (.give none (.h x12.1) [.h code, .i ((x12.2.1 : Nat) : Int), .i x12.2.2]) (px (Q3 (hx12 ▸ VO code x2.2.1 x2.2.2)) p0)) ?_
  refine tn Qa [0, 2] [2, 60000] (p0) ?_
  refine Qe ?_
  have hE13 : W4 code ci ch = ((x12.1, x1.1.2.1, x1.1.2.2), x12.2.1, x12.2.2) := Yo hx1 (Yo hx2 (Ql h3 (Ql h6 (Q1 h11 (Yo hx12 (rfl))))))
  exact Hv [] (congrArg (fun z => (.a [.h z.1.1, .q 0 z.1.2.1, .i z.1.2.2] : AV)) hE13.symm) (congrArg (fun z => ([.h code, .i ((z.2.1 : Nat) : Int), .i z.2.2] : List C)) hE13.symm)
 refine sn Qa [0, 2, 3, 28] [2, 3, 60000] (p0) ?_
 refine ck (x2.1 == (3 : Int)) (fun h14 => ?_) (fun h14 => ?_)
 ·
  refine mz [(28, .b (x2.1 == (3 : Int)))] [7, 23] [] [] ?_
  refine blw (fun (s0 : Xo × Nat × Int) => []) [28] (fun s0 => [(3, [.o 147206 s0.1.1, .q 147207 s0.1.2.1, .i s0.1.2.2]), (60000, [.h code, .i ((s0.2.1 : Nat) : Int), .i s0.2.2])]) [3, 60000] (fun (y0 : Xo × Nat × Int) => []) [28] (fun y0 => [(3, [.o 147356 y0.1.1, .q 147357 y0.1.2.1, .i y0.1.2.2]), (60000, [.h code, .i ((y0.2.1 : Nat) : Int), .i y0.2.2])]) [3, 60000] (fun (k0 : Nat) (s0 : Xo × Nat × Int) => whl (A0 code) k0 s0 = some (E6 (A0 code) 13 (x1.1, x2.2.1, x2.2.2))) (fun (y0 : Xo × Nat × Int) => (E6 (A0 code) 13 (x1.1, x2.2.1, x2.2.2)) = .brk y0) 13 (x1.1, x2.2.1, x2.2.2) (X3 [(320, 147206), (321, 147207)] (by kernel_rfl)) (Dc (VQ code _ _ hsx1.1)) (fun _ h => D4 h) (fun k0 s0 hI0 => ?_) (fun y0 hD0 => ?_)
  ·
   refine Qc ?_
   refine sn Qa [0, 2, 3, 33] [2, 3, 60000] (pl 2 s0.1.2.1 p0) ?_
   refine ck (decide ((s0.1.2.1.length : Int) < (12 : Int))) (fun h15 => ?_) (fun h15 => ?_)
   ·
    refine Qh ?_
    refine Qt ?_
    obtain ⟨x16, hx16⟩ := nm (Z9 code s0.2.1 s0.2.2 1)
    refine qN Qa Yc [0, 2, 3] [2, 3, 60000] (po 2 (.give none (.a [.i x16.1.1, .i x16.1.2.1, .b x16.1.2.2.1, .i x16.1.2.2.2.1, .o 0 x16.1.2.2.2.2]) [.h code, .i ((x16.2.1 : Nat) : Int), .i x16.2.2]) (px (Q3 (hx16 ▸ Gy code s0.2.1 s0.2.2 1)) (pc 3 (G9 s0.1 x16.1) p0))) ?_
    exact Exists.intro ((((X0 s0.1 x16.1)).1), x16.2.1, x16.2.2) (And.intro (M5 [] [] [2433] [(2432, 147206), (2433, 147207)] (by kernel_rfl)) (wn hI0 (Q1 h15 (Yo hx16 (rfl)))))
   refine Q2 ?_
   exact Exists.intro _ (And.intro (X3 [(147206, 147356), (147207, 147357)] (by kernel_rfl)) (wb hI0 (Ql h15 (rfl))))
  refine sn Qa [0, 2] [2, 60000] (p0) ?_
  refine Qe ?_
  have hE17 : W4 code ci ch = (y0.1, y0.2.1, y0.2.2) := Yo hx1 (Yo hx2 (Ql h3 (Ql h6 (Ql h11 (Q1 h14 (Un hD0 (rfl)))))))
  exact Hv [147356] (congrArg (fun z => (.a [.h z.1.1, .q 0 z.1.2.1, .i z.1.2.2] : AV)) hE17.symm) (congrArg (fun z => ([.h code, .i ((z.2.1 : Nat) : Int), .i z.2.2] : List C)) hE17.symm)
 refine Qh ?_
 refine tn Qa [0, 2] [2, 60000] (p0) ?_
 refine Qe ?_
 have hE18 : W4 code ci ch = (x1.1, x2.2.1, x2.2.2) := Yo hx1 (Yo hx2 (Ql h3 (Ql h6 (Ql h11 (Ql h14 (rfl))))))
 exact Hv [320] (congrArg (fun z => (.a [.h z.1.1, .q 0 z.1.2.1, .i z.1.2.2] : AV)) hE18.symm) (congrArg (fun z => ([.h code, .i ((z.2.1 : Nat) : Int), .i z.2.2] : List C)) hE18.symm)
def W5 (code : (List UInt8)) (ci : Nat) (ch : Int) : (List X7) × Nat × Int := (lt (Z2 code ci ch) (fun x1 => (lt (Qm code x1.2.1 x1.2.2 (x1.1.length : Int)) (fun x2 => (lt (Qm code x2.2.1 x2.2.2 10) (fun x3 => (bif (x3.1 == (0 : Int)) then (lt (Qm code x3.2.1 x3.2.2 12) (fun x5 => (List.set x1.1 (Int.toNat x2.1) ((x5.1 - 1), (nth x1.1 (Int.toNat x2.1)).2.1, (nth x1.1 (Int.toNat x2.1)).2.2.1, (nth x1.1 (Int.toNat x2.1)).2.2.2.1, ((nth x1.1 (Int.toNat x2.1)).2.2.2.2.1, (nth x1.1 (Int.toNat x2.1)).2.2.2.2.2.1, (nth x1.1 (Int.toNat x2.1)).2.2.2.2.2.2)), x5.2.1, x5.2.2))) else (bif (x3.1 == (1 : Int)) then (lt (Y2 code x3.2.1 x3.2.2 [-1, 0, x2.1, 8, 9223372036854775807]) (fun x11 => (List.set x1.1 (Int.toNat x2.1) ((nth x1.1 (Int.toNat x2.1)).1, x11.1, (nth x1.1 (Int.toNat x2.1)).2.2.1, (nth x1.1 (Int.toNat x2.1)).2.2.2.1, ((nth x1.1 (Int.toNat x2.1)).2.2.2.2.1, (nth x1.1 (Int.toNat x2.1)).2.2.2.2.2.1, (nth x1.1 (Int.toNat x2.1)).2.2.2.2.2.2)), x11.2.1, x11.2.2))) else (bif (x3.1 == (2 : Int)) then (lt (X4 code x3.2.1 x3.2.2 [⟨#[]⟩, ⟨#[97]⟩, ⟨#[100, 97]⟩, ⟨#[97, 98, 99, 100, 101, 102, 103]⟩, ⟨#[65]⟩]) (fun x17 => (List.set x1.1 (Int.toNat x2.1) ((nth x1.1 (Int.toNat x2.1)).1, (nth x1.1 (Int.toNat x2.1)).2.1, (nth x1.1 (Int.toNat x2.1)).2.2.1, x17.1, ((nth x1.1 (Int.toNat x2.1)).2.2.2.2.1, (nth x1.1 (Int.toNat x2.1)).2.2.2.2.2.1, (nth x1.1 (Int.toNat x2.1)).2.2.2.2.2.2)), x17.2.1, x17.2.2))) else (bif (x3.1 == (3 : Int)) then (lt (Zg code x3.2.1 x3.2.2) (fun x23 => (x1.1 ++ [x23.1], x23.2.1, x23.2.2))) else (bif (x3.1 == (4 : Int)) then (lt (Wn code x3.2.1 x3.2.2) (fun x28 => (List.set x1.1 (Int.toNat x2.1) ((nth x1.1 (Int.toNat x2.1)).1, (nth x1.1 (Int.toNat x2.1)).2.1, (nth x1.1 (Int.toNat x2.1)).2.2.1, (nth x1.1 (Int.toNat x2.1)).2.2.2.1, x28.1), x28.2.1, x28.2.2))) else (bif (x3.1 == (5 : Int)) then ([], x3.2.1, x3.2.2) else (x1.1, x3.2.1, x3.2.2)))))))))))))
theorem VU (code : (List UInt8)) (ci : Nat) (ch : Int) : AGive Tryz.prog 81 [.h code, .i ((ci : Nat) : Int), .i ch] [] (.o 0 (((W5 code ci ch)).1)) [.h code, .i ((((W5 code ci ch)).2.1 : Nat) : Int), .i (((W5 code ci ch)).2.2)] := by
 refine Kp (tt := tt) Qa Tryz.func81 (fn := Tryz.f81) rfl (by unfold Dt; kernel_rfl) (Nat.le_of_ble_eq_true rfl) (Nat.le_of_ble_eq_true rfl) rfl rfl fun w0 F0 hG => ?_
 refine sn Qa [0, 2] [60000] (p0) ?_
 obtain ⟨x1, hx1⟩ := nm (Z2 code ci ch)
 have hbx1 := hx1 ▸ ZY code ci ch
 refine tn Qa [0, 2, 3] [60000] (po 1 (.give none (.o 0 x1.1) [.h code, .i ((x1.2.1 : Nat) : Int), .i x1.2.2]) (px (Q3 (hx1 ▸ C2 code ci ch)) p0)) ?_
 obtain ⟨x2, hx2⟩ := nm (Qm code x1.2.1 x1.2.2 (x1.1.length : Int))
 have hbx2 := hx2 ▸ Qx code x1.2.1 x1.2.2 (x1.1.length : Int)
 refine tu Qa [(2, .e 0), (3, .o 384 x1.1), (4, .i x2.1)] [] [(60000, [.h code, .i ((x2.2.1 : Nat) : Int), .i x2.2.2])] [60000] (pl 2 x1.1 (po 3 (.give none (.i x2.1) [.h code, .i ((x2.2.1 : Nat) : Int), .i x2.2.2]) (px (Q3 (hx2 ▸ Xb code x1.2.1 x1.2.2 (x1.1.length : Int))) p0))) ?_
 refine Qc ?_
 obtain ⟨x3, hx3⟩ := nm (Qm code x2.2.1 x2.2.2 10)
 have hbx3 := hx3 ▸ Qx code x2.2.1 x2.2.2 10
 refine sn Qa [0, 2, 3, 4, 12] [60000] (po 1 (.give none (.i x3.1) [.h code, .i ((x3.2.1 : Nat) : Int), .i x3.2.2]) (px (Q3 (hx3 ▸ Xb code x2.2.1 x2.2.2 10)) p0)) ?_
 refine Qt ?_
 refine tn Qa [0, 2, 3, 4, 12, 13] [60000] (p0) ?_
 refine ck (x3.1 == (0 : Int)) (fun h4 => ?_) (fun h4 => ?_)
 ·
  have h4d := eq_of_beq h4
  obtain ⟨x5, hx5⟩ := nm (Qm code x3.2.1 x3.2.2 12)
  have hbx5 := hx5 ▸ Qx code x3.2.1 x3.2.2 12
  refine wT 3 0 (.own true 384) x1.1 (fun hw7 hl8 => ?_)
  have hx6 := ng x1.1 (Int.toNat x2.1)
  refine qu Qa [(3, .one (.slc (.own true 384) 7 (setRow (eL x1.1) (Int.toNat x2.1) 0 [.i (x5.1 - 1)])))] [3, 4] [(60000, [.h code, .i ((x5.2.1 : Nat) : Int), .i x5.2.2])] [60000] (po 3 (.give none (.i x5.1) [.h code, .i ((x5.2.1 : Nat) : Int), .i x5.2.2]) (px (Q3 (hx5 ▸ Xb code x3.2.1 x3.2.2 12)) (pe 4 (Jw (IntWalk.i64_in (x5.1 - 1) (by omega))) (pG 5 x2.1 hx6 p0)))) ?_
  refine eqn [(3, .o 384 (List.set x1.1 (Int.toNat x2.1) ((x5.1 - 1), (nth x1.1 (Int.toNat x2.1)).2.1, (nth x1.1 (Int.toNat x2.1)).2.2.1, (nth x1.1 (Int.toNat x2.1)).2.2.2.1, ((nth x1.1 (Int.toNat x2.1)).2.2.2.2.1, (nth x1.1 (Int.toNat x2.1)).2.2.2.2.2.1, (nth x1.1 (Int.toNat x2.1)).2.2.2.2.2.2))))] [3] [] [] (by rw [Zx (y := ((x5.1 - 1), (nth x1.1 (Int.toNat x2.1)).2.1, (nth x1.1 (Int.toNat x2.1)).2.2.1, (nth x1.1 (Int.toNat x2.1)).2.2.2.1, ((nth x1.1 (Int.toNat x2.1)).2.2.2.2.1, (nth x1.1 (Int.toNat x2.1)).2.2.2.2.2.1, (nth x1.1 (Int.toNat x2.1)).2.2.2.2.2.2))) hx6 rfl] <;> kernel_rfl) ?_
  refine sn Qa [0, 2] [60000] (p0) ?_
  refine Qe ?_
  have hE9 : W5 code ci ch = (List.set x1.1 (Int.toNat x2.1) ((x5.1 - 1), (nth x1.1 (Int.toNat x2.1)).2.1, (nth x1.1 (Int.toNat x2.1)).2.2.1, (nth x1.1 (Int.toNat x2.1)).2.2.2.1, ((nth x1.1 (Int.toNat x2.1)).2.2.2.2.1, (nth x1.1 (Int.toNat x2.1)).2.2.2.2.2.1, (nth x1.1 (Int.toNat x2.1)).2.2.2.2.2.2)), x5.2.1, x5.2.2) := Yo hx1 (Yo hx2 (Yo hx3 (Q1 h4 (Yo hx5 (rfl)))))
  exact Hv [] (congrArg (fun z => (.o 0 z.1 : AV)) hE9.symm) (congrArg (fun z => ([.h code, .i ((z.2.1 : Nat) : Int), .i z.2.2] : List C)) hE9.symm)
 have h4d := Ym h4
 refine tu Qa [(12, .i x3.1), (22, .b (x3.1 == (1 : Int)))] [] [(60000, [.h code, .i ((x3.2.1 : Nat) : Int), .i x3.2.2])] [60000] (p0) ?_
 refine ck (x3.1 == (1 : Int)) (fun h10 => ?_) (fun h10 => ?_)
 ·
  have h10d := eq_of_beq h10
  obtain ⟨x11, hx11⟩ := nm (Y2 code x3.2.1 x3.2.2 [-1, 0, x2.1, 8, 9223372036854775807])
  refine wT 3 0 (.own true 384) x1.1 (fun hw13 hl14 => ?_)
  have hx12 := ng x1.1 (Int.toNat x2.1)
  refine ru Qa [(3, .one (.slc (.own true 384) 7 (setRow (eL x1.1) (Int.toNat x2.1) 1 [.i x11.1])))] [3, 4, 12, 22] [(60000, [.h code, .i ((x11.2.1 : Nat) : Int), .i x11.2.2])] [60000] (po 5 (.give none (.i x11.1) [.h code, .i ((x11.2.1 : Nat) : Int), .i x11.2.2]) (px (Q3 (hx11 ▸ V3 code x3.2.1 x3.2.2 [-1, 0, x2.1, 8, 9223372036854775807] (Nat.zero_lt_succ _))) (pG 6 x2.1 hx12 p0))) ?_
  refine eqn [(3, .o 384 (List.set x1.1 (Int.toNat x2.1) ((nth x1.1 (Int.toNat x2.1)).1, x11.1, (nth x1.1 (Int.toNat x2.1)).2.2.1, (nth x1.1 (Int.toNat x2.1)).2.2.2.1, ((nth x1.1 (Int.toNat x2.1)).2.2.2.2.1, (nth x1.1 (Int.toNat x2.1)).2.2.2.2.2.1, (nth x1.1 (Int.toNat x2.1)).2.2.2.2.2.2))))] [3] [] [] (by rw [Zx (y := ((nth x1.1 (Int.toNat x2.1)).1, x11.1, (nth x1.1 (Int.toNat x2.1)).2.2.1, (nth x1.1 (Int.toNat x2.1)).2.2.2.1, ((nth x1.1 (Int.toNat x2.1)).2.2.2.2.1, (nth x1.1 (Int.toNat x2.1)).2.2.2.2.2.1, (nth x1.1 (Int.toNat x2.1)).2.2.2.2.2.2))) hx12 rfl] <;> kernel_rfl) ?_
  refine sn Qa [0, 2] [60000] (p0) ?_
  refine Qe ?_
  have hE15 : W5 code ci ch = (List.set x1.1 (Int.toNat x2.1) ((nth x1.1 (Int.toNat x2.1)).1, x11.1, (nth x1.1 (Int.toNat x2.1)).2.2.1, (nth x1.1 (Int.toNat x2.1)).2.2.2.1, ((nth x1.1 (Int.toNat x2.1)).2.2.2.2.1, (nth x1.1 (Int.toNat x2.1)).2.2.2.2.2.1, (nth x1.1 (Int.toNat x2.1)).2.2.2.2.2.2)), x11.2.1, x11.2.2) := Yo hx1 (Yo hx2 (Yo hx3 (Ql h4 (Q1 h10 (Yo hx11 (rfl))))))
  exact Hv [] (congrArg (fun z => (.o 0 z.1 : AV)) hE15.symm) (congrArg (fun z => ([.h code, .i ((z.2.1 : Nat) : Int), .i z.2.2] : List C)) hE15.symm)
 have h10d := Ym h10
 refine sn Qa [0, 2, 3, 4, 12, 32] [60000] (p0) ?_
 refine ck (x3.1 == (2 : Int)) (fun h16 => ?_) (fun h16 => ?_)
 ·
  have h16d := eq_of_beq h16
  obtain ⟨x17, hx17⟩ := nm (X4 code x3.2.1 x3.2.2 [⟨#[]⟩, ⟨#[97]⟩, ⟨#[100, 97]⟩, ⟨#[97, 98, 99, 100, 101, 102, 103]⟩, ⟨#[65]⟩])
  refine wT 3 0 (.own true 384) x1.1 (fun hw19 hl20 => ?_)
  have hx18 := ng x1.1 (Int.toNat x2.1)
  refine qu Qa [(3, .one (.slc (.own true 384) 7 (setRow (eL x1.1) (Int.toNat x2.1) 3 [.s x17.1])))] [3, 4, 12, 22] [(60000, [.h code, .i ((x17.2.1 : Nat) : Int), .i x17.2.2])] [60000] (po 4 (.give none (.s x17.1) [.h code, .i ((x17.2.1 : Nat) : Int), .i x17.2.2]) (px (Q3 (hx17 ▸ Kf code x3.2.1 x3.2.2 [⟨#[]⟩, ⟨#[97]⟩, ⟨#[100, 97]⟩, ⟨#[97, 98, 99, 100, 101, 102, 103]⟩, ⟨#[65]⟩] (Nat.zero_lt_succ _))) (pG 5 x2.1 hx18 p0))) ?_
  refine eqn [(3, .o 384 (List.set x1.1 (Int.toNat x2.1) ((nth x1.1 (Int.toNat x2.1)).1, (nth x1.1 (Int.toNat x2.1)).2.1, (nth x1.1 (Int.toNat x2.1)).2.2.1, x17.1, ((nth x1.1 (Int.toNat x2.1)).2.2.2.2.1, (nth x1.1 (Int.toNat x2.1)).2.2.2.2.2.1, (nth x1.1 (Int.toNat x2.1)).2.2.2.2.2.2))))] [3] [] [] (by rw [Zx (y := ((nth x1.1 (Int.toNat x2.1)).1, (nth x1.1 (Int.toNat x2.1)).2.1, (nth x1.1 (Int.toNat x2.1)).2.2.1, x17.1, ((nth x1.1 (Int.toNat x2.1)).2.2.2.2.1, (nth x1.1 (Int.toNat x2.1)).2.2.2.2.2.1, (nth x1.1 (Int.toNat x2.1)).2.2.2.2.2.2))) hx18 rfl] <;> kernel_rfl) ?_
  refine sn Qa [0, 2] [60000] (p0) ?_
  refine Qe ?_
  have hE21 : W5 code ci ch = (List.set x1.1 (Int.toNat x2.1) ((nth x1.1 (Int.toNat x2.1)).1, (nth x1.1 (Int.toNat x2.1)).2.1, (nth x1.1 (Int.toNat x2.1)).2.2.1, x17.1, ((nth x1.1 (Int.toNat x2.1)).2.2.2.2.1, (nth x1.1 (Int.toNat x2.1)).2.2.2.2.2.1, (nth x1.1 (Int.toNat x2.1)).2.2.2.2.2.2)), x17.2.1, x17.2.2) := Yo hx1 (Yo hx2 (Yo hx3 (Ql h4 (Ql h10 (Q1 h16 (Yo hx17 (rfl)))))))
  exact Hv [] (congrArg (fun z => (.o 0 z.1 : AV)) hE21.symm) (congrArg (fun z => ([.h code, .i ((z.2.1 : Nat) : Int), .i z.2.2] : List C)) hE21.symm)
 have h16d := Ym h16
 refine tn Qa [0, 2, 3, 4, 12, 41] [60000] (p0) ?_
 refine ck (x3.1 == (3 : Int)) (fun h22 => ?_) (fun h22 => ?_)
 ·
  have h22d := eq_of_beq h22
  obtain ⟨x23, hx23⟩ := nm (Zg code x3.2.1 x3.2.2)
  refine wT 3 0 (.own true 384) x1.1 (fun hw24 hl25 => ?_)
  refine qu Qa [(3, .one (.slc (.own true 3008) 7 ((eL x1.1) ++ [[.i x23.1.1, .i x23.1.2.1, .i x23.1.2.2.1, .s x23.1.2.2.2.1, .i x23.1.2.2.2.2.1, .i x23.1.2.2.2.2.2.1, .s x23.1.2.2.2.2.2.2]])))] [3, 4, 12, 22] [(60000, [.h code, .i ((x23.2.1 : Nat) : Int), .i x23.2.2])] [60000] (po 2 (.give none (.a [.i x23.1.1, .i x23.1.2.1, .i x23.1.2.2.1, .s x23.1.2.2.2.1, .i x23.1.2.2.2.2.1, .i x23.1.2.2.2.2.2.1, .s x23.1.2.2.2.2.2.2]) [.h code, .i ((x23.2.1 : Nat) : Int), .i x23.2.2]) (px (Q3 (hx23 ▸ Gz code x3.2.1 x3.2.2)) (pa x1.1 [x23.1] p0))) ?_
  refine eqn [(3, .o 3008 (x1.1 ++ [x23.1]))] [3] [] [] (by rw [show ((eL x1.1) ++ [[.i x23.1.1, .i x23.1.2.1, .i x23.1.2.2.1, .s x23.1.2.2.2.1, .i x23.1.2.2.2.2.1, .i x23.1.2.2.2.2.2.1, .s x23.1.2.2.2.2.2.2]]) = (eL (x1.1 ++ [x23.1])) from Vn (rfl) (rfl)]; first | done | kernel_rfl) ?_
  refine sn Qa [0, 2] [60000] (p0) ?_
  refine Qe ?_
  have hE26 : W5 code ci ch = (x1.1 ++ [x23.1], x23.2.1, x23.2.2) := Yo hx1 (Yo hx2 (Yo hx3 (Ql h4 (Ql h10 (Ql h16 (Q1 h22 (Yo hx23 (rfl))))))))
  exact Hv [] (congrArg (fun z => (.o 0 z.1 : AV)) hE26.symm) (congrArg (fun z => ([.h code, .i ((z.2.1 : Nat) : Int), .i z.2.2] : List C)) hE26.symm)
 have h22d := Ym h22
 refine tu Qa [(48, .b (x3.1 == (4 : Int)))] [22] [] [] (p0) ?_
 refine ck (x3.1 == (4 : Int)) (fun h27 => ?_) (fun h27 => ?_)
 ·
  have h27d := eq_of_beq h27
  obtain ⟨x28, hx28⟩ := nm (Wn code x3.2.1 x3.2.2)
  refine wT 3 0 (.own true 384) x1.1 (fun hw30 hl31 => ?_)
  have hx29 := ng x1.1 (Int.toNat x2.1)
  refine ru Qa [(3, .one (.slc (.own true 384) 7 (setRow (eL x1.1) (Int.toNat x2.1) 4 [.i x28.1.1, .i x28.1.2.1, .s x28.1.2.2])))] [3, 4, 12, 48] [(60000, [.h code, .i ((x28.2.1 : Nat) : Int), .i x28.2.2])] [60000] (po 3 (.give none (.a [.i x28.1.1, .i x28.1.2.1, .s x28.1.2.2]) [.h code, .i ((x28.2.1 : Nat) : Int), .i x28.2.2]) (px (Q3 (hx28 ▸ Rm code x3.2.1 x3.2.2)) (pG 4 x2.1 hx29 p0))) ?_
  refine eqn [(3, .o 384 (List.set x1.1 (Int.toNat x2.1) ((nth x1.1 (Int.toNat x2.1)).1, (nth x1.1 (Int.toNat x2.1)).2.1, (nth x1.1 (Int.toNat x2.1)).2.2.1, (nth x1.1 (Int.toNat x2.1)).2.2.2.1, x28.1)))] [3] [] [] (by rw [Zx (y := ((nth x1.1 (Int.toNat x2.1)).1, (nth x1.1 (Int.toNat x2.1)).2.1, (nth x1.1 (Int.toNat x2.1)).2.2.1, (nth x1.1 (Int.toNat x2.1)).2.2.2.1, x28.1)) hx29 rfl] <;> kernel_rfl) ?_
  refine sn Qa [0, 2] [60000] (p0) ?_
  refine Qe ?_
  have hE32 : W5 code ci ch = (List.set x1.1 (Int.toNat x2.1) ((nth x1.1 (Int.toNat x2.1)).1, (nth x1.1 (Int.toNat x2.1)).2.1, (nth x1.1 (Int.toNat x2.1)).2.2.1, (nth x1.1 (Int.toNat x2.1)).2.2.2.1, x28.1), x28.2.1, x28.2.2) := Yo hx1 (Yo hx2 (Yo hx3 (Ql h4 (Ql h10 (Ql h16 (Ql h22 (Q1 h27 (Yo hx28 (rfl)))))))))
  exact Hv [] (congrArg (fun z => (.o 0 z.1 : AV)) hE32.symm) (congrArg (fun z => ([.h code, .i ((z.2.1 : Nat) : Int), .i z.2.2] : List C)) hE32.symm)
 refine sn Qa [0, 2, 3, 56] [60000] (p0) ?_
 refine ck (x3.1 == (5 : Int)) (fun h33 => ?_) (fun h33 => ?_)
 ·
  refine qn Qa [0, 2, 3] [60000] (p0) ?_
  refine tu Qa [] [3, 4, 12, 48] [] [] (p0) ?_
  refine opn [(false, 2, 0, true, 384000, 7)] ?_
  refine Qe ?_
  have hE34 : W5 code ci ch = ([], x3.2.1, x3.2.2) := Yo hx1 (Yo hx2 (Yo hx3 (Ql h4 (Ql h10 (Ql h16 (Ql h22 (Ql h27 (Q1 h33 (rfl)))))))))
  exact Hv [] (congrArg (fun z => (.o 0 z.1 : AV)) hE34.symm) (congrArg (fun z => ([.h code, .i ((z.2.1 : Nat) : Int), .i z.2.2] : List C)) hE34.symm)
 refine Qh ?_
 refine tn Qa [0, 2] [60000] (p0) ?_
 refine Qe ?_
 have hE35 : W5 code ci ch = (x1.1, x3.2.1, x3.2.2) := Yo hx1 (Yo hx2 (Yo hx3 (Ql h4 (Ql h10 (Ql h16 (Ql h22 (Ql h27 (Ql h33 (rfl)))))))))
 exact Hv [] (congrArg (fun z => (.o 0 z.1 : AV)) hE35.symm) (congrArg (fun z => ([.h code, .i ((z.2.1 : Nat) : Int), .i z.2.2] : List C)) hE35.symm)
def A5 (code : (List UInt8)) (s0 : (List Ys) × Nat × Int) : Rd ((List Ys) × Nat × Int) ((List Ys) × Nat × Int) ((List Ys) × Nat × Int) := (lt (Qm code s0.2.1 s0.2.2 2) (fun x17 => (bif decide ((s0.1.length : Int) < (5 + x17.1)) then (lt (Z2 code x17.2.1 x17.2.2) (fun x20 => (.next (s0.1 ++ [((nth ([⟨#[100, 97]⟩, ⟨#[100, 98]⟩, ⟨#[100, 99]⟩, ⟨#[100, 100]⟩, ⟨#[100, 101]⟩, ⟨#[100, 102]⟩] : (List ByteArray)) (Int.toNat (s0.1.length : Int))), x20.1)], x20.2.1, x20.2.2)))) else (.brk (s0.1, x17.2.1, x17.2.2)))))
def Hq (code : (List UInt8)) (ci : Nat) (ch : Int) : (List Ys) × Nat × Int := (lt (Ky code ci ch) (fun x1 => (lt (Qm code x1.2.1 x1.2.2 (x1.1.length : Int)) (fun x2 => (lt (Qm code x2.2.1 x2.2.2 10) (fun x3 => (bif (x3.1 == (0 : Int)) then (lt (X4 code x3.2.1 x3.2.2 [⟨#[]⟩, ⟨#[65]⟩, ⟨#[122, 122]⟩, ⟨#[97, 98, 99, 100, 101, 102, 103]⟩]) (fun x5 => (List.set x1.1 (Int.toNat x2.1) (x5.1, (nth x1.1 (Int.toNat x2.1)).2), x5.2.1, x5.2.2))) else (bif (x3.1 == (1 : Int)) then (lt (W5 code x3.2.1 x3.2.2) (fun x11 => (List.set x1.1 (Int.toNat x2.1) ((nth x1.1 (Int.toNat x2.1)).1, x11.1), x11.2.1, x11.2.2))) else (bif (x3.1 == (2 : Int)) then (Out.on (E6 (A5 code) 7 (x1.1, x3.2.1, x3.2.2)) (fun y0 => (y0.1, y0.2.1, y0.2.2))) else (bif (x3.1 == (3 : Int)) then ([], x3.2.1, x3.2.2) else (x1.1, x3.2.1, x3.2.2)))))))))))
theorem VW (code : List UInt8) (d : List Ys) (ci : Nat) (ch : Int) : (whl (A5 code) 7 (d, ci, ch)).isSome = true :=
  UW (fun _ => True) (fun s => (s.1.length : Int)) 6 (fun s s' _ h => by
    unfold A5 lt at h
    have hb := Qx code s.2.1 s.2.2 2
    generalize Qm code s.2.1 s.2.2 2 = x at h hb
    by_cases hc : (s.1.length : Int) < 5 + x.1
    · simp only [decide_eq_true hc, cond_true] at h
      have h := Rd.next.inj h
      rw [← h]
      refine ⟨by omega, by simp, trivial⟩
    simp only [decide_eq_false hc, cond_false] at h
    cases h) 6 _ trivial (by show (6 : Int) ≤ (d.length : Int) + 6; omega)
theorem VX (code : (List UInt8)) (ci : Nat) (ch : Int) : AGive Tryz.prog 51 [.h code, .i ((ci : Nat) : Int), .i ch] [] (.o 0 (((Hq code ci ch)).1)) [.h code, .i ((((Hq code ci ch)).2.1 : Nat) : Int), .i (((Hq code ci ch)).2.2)] := by
 refine Kp (tt := tt) Qa Tryz.func51 (fn := Tryz.f51) rfl (by unfold Dt; kernel_rfl) (Nat.le_of_ble_eq_true rfl) (Nat.le_of_ble_eq_true rfl) rfl rfl fun w0 F0 hG => ?_
 refine sn Qa [0, 2] [60000] (p0) ?_
 obtain ⟨x1, hx1⟩ := nm (Ky code ci ch)
 have hlx1 := IC code ci ch
 rw [hx1] at hlx1
 refine tn Qa [0, 2, 3] [60000] (po 1 (.give none (.o 0 x1.1) [.h code, .i ((x1.2.1 : Nat) : Int), .i x1.2.2]) (px (Q3 (hx1 ▸ O2 code ci ch)) p0)) ?_
 obtain ⟨x2, hx2⟩ := nm (Qm code x1.2.1 x1.2.2 (x1.1.length : Int))
 have hbx2 := hx2 ▸ Qx code x1.2.1 x1.2.2 (x1.1.length : Int)
 refine tu Qa [(2, .e 0), (3, .o 384 x1.1), (4, .i x2.1)] [] [(60000, [.h code, .i ((x2.2.1 : Nat) : Int), .i x2.2.2])] [60000] (pl 2 x1.1 (po 3 (.give none (.i x2.1) [.h code, .i ((x2.2.1 : Nat) : Int), .i x2.2.2]) (px (Q3 (hx2 ▸ Xb code x1.2.1 x1.2.2 (x1.1.length : Int))) p0))) ?_
 refine Qc ?_
 obtain ⟨x3, hx3⟩ := nm (Qm code x2.2.1 x2.2.2 10)
 have hbx3 := hx3 ▸ Qx code x2.2.1 x2.2.2 10
 refine sn Qa [0, 2, 3, 4, 12] [60000] (po 1 (.give none (.i x3.1) [.h code, .i ((x3.2.1 : Nat) : Int), .i x3.2.2]) (px (Q3 (hx3 ▸ Xb code x2.2.1 x2.2.2 10)) p0)) ?_
 refine Qt ?_
 refine tn Qa [0, 2, 3, 4, 12, 13] [60000] (p0) ?_
 refine ck (x3.1 == (0 : Int)) (fun h4 => ?_) (fun h4 => ?_)
 ·
  have h4d := eq_of_beq h4
  obtain ⟨x5, hx5⟩ := nm (X4 code x3.2.1 x3.2.2 [⟨#[]⟩, ⟨#[65]⟩, ⟨#[122, 122]⟩, ⟨#[97, 98, 99, 100, 101, 102, 103]⟩])
  refine wT 3 0 (.own true 384) x1.1 (fun hw7 hl8 => ?_)
  have hx6 := ng x1.1 (Int.toNat x2.1)
  refine qu Qa [(3, .one (.slc (.own true 384) 2 (setRow (eL x1.1) (Int.toNat x2.1) 0 [.s x5.1])))] [3, 4] [(60000, [.h code, .i ((x5.2.1 : Nat) : Int), .i x5.2.2])] [60000] (po 4 (.give none (.s x5.1) [.h code, .i ((x5.2.1 : Nat) : Int), .i x5.2.2]) (px (Q3 (hx5 ▸ Kf code x3.2.1 x3.2.2 [⟨#[]⟩, ⟨#[65]⟩, ⟨#[122, 122]⟩, ⟨#[97, 98, 99, 100, 101, 102, 103]⟩] (Nat.zero_lt_succ _))) (pG 5 x2.1 hx6 p0))) ?_
  refine eqn [(3, .o 384 (List.set x1.1 (Int.toNat x2.1) (x5.1, (nth x1.1 (Int.toNat x2.1)).2)))] [3] [] [] (by rw [Zx (y := (x5.1, (nth x1.1 (Int.toNat x2.1)).2)) hx6 rfl] <;> kernel_rfl) ?_
  refine sn Qa [0, 2] [60000] (p0) ?_
  refine Qe ?_
  have hE9 : Hq code ci ch = (List.set x1.1 (Int.toNat x2.1) (x5.1, (nth x1.1 (Int.toNat x2.1)).2), x5.2.1, x5.2.2) := Yo hx1 (Yo hx2 (Yo hx3 (Q1 h4 (Yo hx5 (rfl)))))
  exact Hv [] (congrArg (fun z => (.o 0 z.1 : AV)) hE9.symm) (congrArg (fun z => ([.h code, .i ((z.2.1 : Nat) : Int), .i z.2.2] : List C)) hE9.symm)
 have h4d := Ym h4
 refine tu Qa [(12, .i x3.1), (22, .b (x3.1 == (1 : Int)))] [] [(60000, [.h code, .i ((x3.2.1 : Nat) : Int), .i x3.2.2])] [60000] (p0) ?_
 refine ck (x3.1 == (1 : Int)) (fun h10 => ?_) (fun h10 => ?_)
 ·
  have h10d := eq_of_beq h10
  obtain ⟨x11, hx11⟩ := nm (W5 code x3.2.1 x3.2.2)
  refine wT 3 0 (.own true 384) x1.1 (fun hw13 hl14 => ?_)
  have hx12 := ng x1.1 (Int.toNat x2.1)
  refine ru Qa [(3, .one (.slc (.own true 384) 2 (setRow (eL x1.1) (Int.toNat x2.1) 1 [.h x11.1])))] [3, 4, 12, 22] [(60000, [.h code, .i ((x11.2.1 : Nat) : Int), .i x11.2.2])] [60000] (po 3 (.give none (.o 0 x11.1) [.h code, .i ((x11.2.1 : Nat) : Int), .i x11.2.2]) (px (Q3 (hx11 ▸ VU code x3.2.1 x3.2.2)) (pG 4 x2.1 hx12 p0))) ?_
  refine eqn [(3, .o 384 (List.set x1.1 (Int.toNat x2.1) ((nth x1.1 (Int.toNat x2.1)).1, x11.1)))] [3] [] [] (by rw [Zx (y := ((nth x1.1 (Int.toNat x2.1)).1, x11.1)) hx12 rfl] <;> kernel_rfl) ?_
  refine sn Qa [0, 2] [60000] (p0) ?_
  refine Qe ?_
  have hE15 : Hq code ci ch = (List.set x1.1 (Int.toNat x2.1) ((nth x1.1 (Int.toNat x2.1)).1, x11.1), x11.2.1, x11.2.2) := Yo hx1 (Yo hx2 (Yo hx3 (Ql h4 (Q1 h10 (Yo hx11 (rfl))))))
  exact Hv [] (congrArg (fun z => (.o 0 z.1 : AV)) hE15.symm) (congrArg (fun z => ([.h code, .i ((z.2.1 : Nat) : Int), .i z.2.2] : List C)) hE15.symm)
 have h10d := Ym h10
 refine sn Qa [0, 2, 3, 12, 30] [60000] (p0) ?_
 refine ck (x3.1 == (2 : Int)) (fun h16 => ?_) (fun h16 => ?_)
 ·
  have h16d := eq_of_beq h16
  refine mz [(30, .b (x3.1 == (2 : Int)))] [4, 22] [] [] ?_
  refine blw (fun (s0 : (List Ys) × Nat × Int) => [(3, .o 147202 s0.1)]) [3, 12, 30] (fun s0 => [(60000, [.h code, .i ((s0.2.1 : Nat) : Int), .i s0.2.2])]) [60000] (fun (y0 : (List Ys) × Nat × Int) => [(3, .o 147352 y0.1)]) [3, 12, 30] (fun y0 => [(60000, [.h code, .i ((y0.2.1 : Nat) : Int), .i y0.2.2])]) [60000] (fun (k0 : Nat) (s0 : (List Ys) × Nat × Int) => whl (A5 code) k0 s0 = some (E6 (A5 code) 7 (x1.1, x3.2.1, x3.2.2))) (fun (y0 : (List Ys) × Nat × Int) => (E6 (A5 code) 7 (x1.1, x3.2.1, x3.2.2)) = .brk y0) 7 (x1.1, x3.2.1, x3.2.2) (X3 [(384, 147202)] (by kernel_rfl)) (Dc (VW code _ _ _)) (fun _ h => D4 h) (fun k0 s0 hI0 => ?_) (fun y0 hD0 => ?_)
  ·
   refine Qc ?_
   obtain ⟨x17, hx17⟩ := nm (Qm code s0.2.1 s0.2.2 2)
   have hbx17 := hx17 ▸ Qx code s0.2.1 s0.2.2 2
   refine sn Qa [0, 2, 3, 37] [60000] (pl 1 s0.1 (po 3 (.give none (.i x17.1) [.h code, .i ((x17.2.1 : Nat) : Int), .i x17.2.2]) (px (Q3 (hx17 ▸ Xb code s0.2.1 s0.2.2 2)) (pe 4 (Jw (IntWalk.i64_in (5 + x17.1) (by omega))) p0)))) ?_
   refine ck (decide ((s0.1.length : Int) < (5 + x17.1))) (fun h18 => ?_) (fun h18 => ?_)
   ·
    have h18d := of_decide_eq_true h18
    refine Qh ?_
    refine Qt ?_
    have hx19 := ng ([⟨#[100, 97]⟩, ⟨#[100, 98]⟩, ⟨#[100, 99]⟩, ⟨#[100, 100]⟩, ⟨#[100, 101]⟩, ⟨#[100, 102]⟩] : (List ByteArray)) (Int.toNat (s0.1.length : Int)) (by simp only [List.length_cons, List.length_nil]; omega)
    obtain ⟨x20, hx20⟩ := nm (Z2 code x17.2.1 x17.2.2)
    have hbx20 := hx20 ▸ ZY code x17.2.1 x17.2.2
    refine wT 3 0 (.own true 147202) s0.1 (fun hw21 hl22 => ?_)
    refine qU Qa Yc [(3, .one (.slc (.own true 3072) 2 ((eL s0.1) ++ [[.s (nth ([⟨#[100, 97]⟩, ⟨#[100, 98]⟩, ⟨#[100, 99]⟩, ⟨#[100, 100]⟩, ⟨#[100, 101]⟩, ⟨#[100, 102]⟩] : (List ByteArray)) (Int.toNat (s0.1.length : Int))), .h x20.1]])))] [3] [(60000, [.h code, .i ((x20.2.1 : Nat) : Int), .i x20.2.2])] [60000] (pl 3 s0.1 (pG 4 (s0.1.length : Int) hx19 (po 7 (.give none (.o 0 x20.1) [.h code, .i ((x20.2.1 : Nat) : Int), .i x20.2.2]) (px (Q3 (hx20 ▸ C2 code x17.2.1 x17.2.2)) (pa s0.1 [((nth ([⟨#[100, 97]⟩, ⟨#[100, 98]⟩, ⟨#[100, 99]⟩, ⟨#[100, 100]⟩, ⟨#[100, 101]⟩, ⟨#[100, 102]⟩] : (List ByteArray)) (Int.toNat (s0.1.length : Int))), x20.1)] p0))))) ?_
    exact Exists.intro (s0.1 ++ [((nth ([⟨#[100, 97]⟩, ⟨#[100, 98]⟩, ⟨#[100, 99]⟩, ⟨#[100, 100]⟩, ⟨#[100, 101]⟩, ⟨#[100, 102]⟩] : (List ByteArray)) (Int.toNat (s0.1.length : Int))), x20.1)], x20.2.1, x20.2.2) (And.intro (X3 [(3072, 147202)] (by rw [show ((eL s0.1) ++ [[.s (nth ([⟨#[100, 97]⟩, ⟨#[100, 98]⟩, ⟨#[100, 99]⟩, ⟨#[100, 100]⟩, ⟨#[100, 101]⟩, ⟨#[100, 102]⟩] : (List ByteArray)) (Int.toNat (s0.1.length : Int))), .h x20.1]]) = (eL (s0.1 ++ [((nth ([⟨#[100, 97]⟩, ⟨#[100, 98]⟩, ⟨#[100, 99]⟩, ⟨#[100, 100]⟩, ⟨#[100, 101]⟩, ⟨#[100, 102]⟩] : (List ByteArray)) (Int.toNat (s0.1.length : Int))), x20.1)])) from Vn (rfl) (rfl)]; first | done | kernel_rfl)) (wn hI0 (Yo hx17 (Q1 h18 (Yo hx20 (rfl))))))
   refine Q2 ?_
   exact Exists.intro (s0.1, x17.2.1, x17.2.2) (And.intro (X3 [(147202, 147352)] (by kernel_rfl)) (wb hI0 (Yo hx17 (Ql h18 (rfl)))))
  refine sn Qa [0, 2] [60000] (p0) ?_
  refine Qe ?_
  have hE23 : Hq code ci ch = (y0.1, y0.2.1, y0.2.2) := Yo hx1 (Yo hx2 (Yo hx3 (Ql h4 (Ql h10 (Q1 h16 (Un hD0 (rfl)))))))
  exact Hv [] (congrArg (fun z => (.o 0 z.1 : AV)) hE23.symm) (congrArg (fun z => ([.h code, .i ((z.2.1 : Nat) : Int), .i z.2.2] : List C)) hE23.symm)
 refine tn Qa [0, 2, 3, 49] [60000] (p0) ?_
 refine ck (x3.1 == (3 : Int)) (fun h24 => ?_) (fun h24 => ?_)
 ·
  refine qu Qa [(3, .e 0)] [3, 4, 12, 22] [] [] (p0) ?_
  refine su Qa [] [3] [] [] (p0) ?_
  refine opn [(false, 2, 0, true, 384000, 2)] ?_
  refine Qe ?_
  have hE25 : Hq code ci ch = ([], x3.2.1, x3.2.2) := Yo hx1 (Yo hx2 (Yo hx3 (Ql h4 (Ql h10 (Ql h16 (Q1 h24 (rfl)))))))
  exact Hv [] (congrArg (fun z => (.o 0 z.1 : AV)) hE25.symm) (congrArg (fun z => ([.h code, .i ((z.2.1 : Nat) : Int), .i z.2.2] : List C)) hE25.symm)
 refine Qh ?_
 refine tu Qa [(2, .o 384 x1.1)] [2, 3, 4, 12, 22] [] [] (p0) ?_
 refine Qe ?_
 have hE26 : Hq code ci ch = (x1.1, x3.2.1, x3.2.2) := Yo hx1 (Yo hx2 (Yo hx3 (Ql h4 (Ql h10 (Ql h16 (Ql h24 (rfl)))))))
 exact Hv [] (congrArg (fun z => (.o 0 z.1 : AV)) hE26.symm) (congrArg (fun z => ([.h code, .i ((z.2.1 : Nat) : Int), .i z.2.2] : List C)) hE26.symm)
open GoE (enc wide)
def Qr (c : Zh) (k_ : Ve) : Ve × Bool := (bif (!(Xw k_.1 0 ((c.2.1.length : Int) - 1))) then (k_, false) else (bif (!(Zq (X5 c.2.2 ((nth c.2.1 (Int.toNat k_.1)).1)) (Yp c.1 ((nth c.2.1 (Int.toNat k_.1)).2) c.2.2))) then ((IntKind.i64.wrap (k_.1 + 1), k_.2 ++ [(nth c.2.1 (Int.toNat k_.1)).1]), true) else ((IntKind.i64.wrap (k_.1 + 1), k_.2), true)))
theorem Lb (c : Zh) (k_ : Ve) (hp : k_.1 < (c.2.1.length : Int) → (k_.2.length : Int) < 1073741824) : ACalls Tryz.prog 6 [.a [.h c.1.1, .h c.1.2.1, .i c.1.2.2, .h c.2.1, .h c.2.2], .a [.i k_.1, .h k_.2]] (.tup [(true, [.i ((((Qr c k_)).1).1), .o 0 ((((Qr c k_)).1).2)]), (false, [.b (((Qr c k_)).2)])]) := by
 refine en Qa Tryz.func6 fun w0 F0 hG => ?_
 refine sn Qa [2, 3, 4, 5] [2, 3, 4] (p0) ?_
 refine tN Qa Yc [2, 3, 4, 5, 6] [2, 3, 4, 6] (pc 4 (N6 k_.2) p0) ?_
 refine Qc ?_
 refine wB 2 3 .sh c.2.1 (fun hw1 hl2 => ?_)
 refine tu Qa [(2, .p 2 0), (3, .p 3 0), (4, .p 4 0), (5, .b false), (6, .p 6 0), (21, .b (!(Xw k_.1 0 ((c.2.1.length : Int) - 1))))] [0, 1] [(2, [.h c.1.1, .h c.1.2.1, .i c.1.2.2, .h c.2.1, .h c.2.2]), (3, [.i k_.1, .h k_.2]), (4, [.i 0, .e 1]), (6, [.i k_.1, .o 768 k_.2])] [] (pl 4 c.2.1 (pe 5 (Jw (IntWalk.i64_in ((c.2.1.length : Int) - 1) (by omega))) (pc 6 (Z5 k_.1 0 ((c.2.1.length : Int) - 1)) p0))) ?_
 refine ck (!(Xw k_.1 0 ((c.2.1.length : Int) - 1))) (fun h3 => ?_) (fun h3 => ?_)
 ·
  refine sn Qa [2, 3, 4, 5, 6] [2, 3, 4, 6] (p0) ?_
  refine Qe ?_
  exact pz [] (show Qr c k_ = _ from Q1 h3 (rfl)) (fun z => .tup [(true, [.i z.1.1, .o 0 z.1.2]), (false, [.b z.2])])
 have h3n : (Xw k_.1 0 ((c.2.1.length : Int) - 1)) = true := Vd h3
 have h3nw := By.1 h3n
 have h3nw := By.1 h3n
 refine Qh ?_
 have hx4 := ng c.2.1 (Int.toNat k_.1)
 refine sn Qa [2, 4, 5, 6, 7] [2, 4, 6, 7] (pg 4 k_.1 hx4 p0) ?_
 refine Qc ?_
 refine tN Qa Yc [4, 5, 6, 7, 42] [4, 6, 7] (pc 4 (Es c.2.2 ((nth c.2.1 (Int.toNat k_.1)).1)) (pc 11 (P1 c.1 ((nth c.2.1 (Int.toNat k_.1)).2) c.2.2) (pc 12 (F6 (X5 c.2.2 ((nth c.2.1 (Int.toNat k_.1)).1)) (Yp c.1 ((nth c.2.1 (Int.toNat k_.1)).2) c.2.2)) p0))) ?_
 refine ck (!(Zq (X5 c.2.2 ((nth c.2.1 (Int.toNat k_.1)).1)) (Yp c.1 ((nth c.2.1 (Int.toNat k_.1)).2) c.2.2))) (fun h5 => ?_) (fun h5 => ?_)
 ·
  refine wB 6 1 (.own true 768) k_.2 (fun hw6 hl7 => ?_)
  refine qu Qa [] [2, 3, 21] [(6, [.i k_.1, .slc (.own true 3072) 1 ((eL k_.2) ++ [[.s ((nth c.2.1 (Int.toNat k_.1)).1)]])])] [2, 3, 6] (pa k_.2 [(nth c.2.1 (Int.toNat k_.1)).1] p0) ?_
  refine eqn [] [] [(6, [.i k_.1, .o 3072 (k_.2 ++ [(nth c.2.1 (Int.toNat k_.1)).1])])] [6] (by rw [show ((eL k_.2) ++ [[.s ((nth c.2.1 (Int.toNat k_.1)).1)]]) = (eL (k_.2 ++ [(nth c.2.1 (Int.toNat k_.1)).1])) from Vn (rfl) (rfl)]; first | done | kernel_rfl) ?_
  refine sn Qa [4, 5, 6] [4, 6] (p0) ?_
  refine tn Qa [4, 5] [4] (p0) ?_
  refine Qe ?_
  exact pz [] (show Qr c k_ = _ from Ql h3 (Q1 h5 (rfl))) (fun z => .tup [(true, [.i z.1.1, .o 0 z.1.2]), (false, [.b z.2])])
 refine Qh ?_
 refine tu Qa [] [2, 3, 21] [(6, [.i (IntKind.i64.wrap (k_.1 + 1)), .o 768 k_.2])] [2, 3, 6] (p0) ?_
 refine sn Qa [4, 5] [4] (p0) ?_
 refine Qe ?_
 exact pz [] (show Qr c k_ = _ from Ql h3 (Ql h5 (rfl))) (fun z => .tup [(true, [.i z.1.1, .o 0 z.1.2]), (false, [.b z.2])])
def Xi (l : Zh) (c : Ve) : Ve × Bool := (bif (!(Xg c.1 0 ((l.2.1.length : Int) - 1))) then (c, false) else (bif (!(Yx (Vj l.2.2 ((nth l.2.1 (Int.toNat c.1)).1)) (Yq l.1 ((nth l.2.1 (Int.toNat c.1)).2) l.2.2))) then ((IntKind.i64.wrap (c.1 + 1), c.2 ++ [(nth l.2.1 (Int.toNat c.1)).1]), true) else ((IntKind.i64.wrap (c.1 + 1), c.2), true)))
theorem Lc (l : Zh) (c : Ve) (hp : c.1 < (l.2.1.length : Int) → (c.2.length : Int) < 1073741824) : ACalls Tryz.prog 7 [.a [.h l.1.1, .h l.1.2.1, .i l.1.2.2, .h l.2.1, .h l.2.2], .a [.i c.1, .h c.2]] (.tup [(true, [.i ((((Xi l c)).1).1), .o 0 ((((Xi l c)).1).2)]), (false, [.b (((Xi l c)).2)])]) := by
 refine en Qa Tryz.func7 fun w0 F0 hG => ?_
 refine sn Qa [2, 3, 4, 5] [2, 3, 4] (p0) ?_
 refine wB 3 1 .sh c.2 (fun hw1 hl2 => ?_)
 refine tn Qa [2, 3, 4, 5] [2, 3, 4] (po 3 (.flat) (px (Hu (n := (([] : List (List PV)).length + ((eL c.2) : List (List PV)).length)) (Dm (rfl) (Yb c.2) (by first | omega | (simp only [List.length_cons, List.length_nil]; omega) | (simp; omega) | simp))) (px (H4 (H5 c.2)) p0))) ?_
 refine Qc ?_
 refine wB 2 3 .sh l.2.1 (fun hw3 hl4 => ?_)
 refine tu Qa [(2, .p 2 0), (3, .p 3 0), (4, .p 4 0), (5, .b false), (19, .b (!(Xg c.1 0 ((l.2.1.length : Int) - 1))))] [0, 1] [(2, [.h l.1.1, .h l.1.2.1, .i l.1.2.2, .h l.2.1, .h l.2.2]), (3, [.i c.1, .o 640 c.2]), (4, [.i 0, .e 1])] [] (pl 4 l.2.1 (pe 5 (Jw (IntWalk.i64_in ((l.2.1.length : Int) - 1) (by omega))) (pc 6 (Zy c.1 0 ((l.2.1.length : Int) - 1)) p0))) ?_
 refine ck (!(Xg c.1 0 ((l.2.1.length : Int) - 1))) (fun h5 => ?_) (fun h5 => ?_)
 ·
  refine sn Qa [2, 3, 4, 5] [2, 3, 4] (p0) ?_
  refine Qe ?_
  exact pz [] (show Xi l c = _ from Q1 h5 (rfl)) (fun z => .tup [(true, [.i z.1.1, .o 0 z.1.2]), (false, [.b z.2])])
 have h5n : (Xg c.1 0 ((l.2.1.length : Int) - 1)) = true := Vd h5
 have h5nw := F1.1 h5n
 have h5nw := F1.1 h5n
 refine Qh ?_
 have hx6 := ng l.2.1 (Int.toNat c.1)
 refine sn Qa [2, 3, 4, 5, 6] [2, 3, 4, 6] (pg 4 c.1 hx6 p0) ?_
 refine Qc ?_
 refine tN Qa Yc [3, 4, 5, 6, 40] [3, 4, 6] (pc 4 (Et l.2.2 ((nth l.2.1 (Int.toNat c.1)).1)) (pc 11 (F4 l.1 ((nth l.2.1 (Int.toNat c.1)).2) l.2.2) (pc 12 (Cb (Vj l.2.2 ((nth l.2.1 (Int.toNat c.1)).1)) (Yq l.1 ((nth l.2.1 (Int.toNat c.1)).2) l.2.2)) p0))) ?_
 refine ck (!(Yx (Vj l.2.2 ((nth l.2.1 (Int.toNat c.1)).1)) (Yq l.1 ((nth l.2.1 (Int.toNat c.1)).2) l.2.2))) (fun h7 => ?_) (fun h7 => ?_)
 ·
  refine qu Qa [] [2, 19] [(3, [.i c.1, .slc (.own true 2944) 1 ((eL c.2) ++ [[.s ((nth l.2.1 (Int.toNat c.1)).1)]])])] [2, 3] (pa c.2 [(nth l.2.1 (Int.toNat c.1)).1] p0) ?_
  refine eqn [] [] [(3, [.i c.1, .o 2944 (c.2 ++ [(nth l.2.1 (Int.toNat c.1)).1])])] [3] (by rw [show ((eL c.2) ++ [[.s ((nth l.2.1 (Int.toNat c.1)).1)]]) = (eL (c.2 ++ [(nth l.2.1 (Int.toNat c.1)).1])) from Vn (rfl) (rfl)]; first | done | kernel_rfl) ?_
  refine sn Qa [3, 4, 5] [3, 4] (p0) ?_
  refine tn Qa [4, 5] [4] (p0) ?_
  refine Qe ?_
  exact pz [] (show Xi l c = _ from Ql h5 (Q1 h7 (rfl))) (fun z => .tup [(true, [.i z.1.1, .o 0 z.1.2]), (false, [.b z.2])])
 refine Qh ?_
 refine tu Qa [] [2, 19] [(3, [.i (IntKind.i64.wrap (c.1 + 1)), .o 640 c.2])] [2, 3] (p0) ?_
 refine sn Qa [4, 5] [4] (p0) ?_
 refine Qe ?_
 exact pz [] (show Xi l c = _ from Ql h5 (Ql h7 (rfl))) (fun z => .tup [(true, [.i z.1.1, .o 0 z.1.2]), (false, [.b z.2])])
def Fq (_ : Nat) (a0 : Ys) (s0 : (List Ys)) : Rd ((List Ys)) ((List Ys)) ((List Ys)) := (.next (s0 ++ [a0]))
def Fr (_ : Nat) (s0 : (List Ys)) : (List Ys) := s0
def G2 (d : (List Ys)) : (List Ys) := (Out.on (Xp Fq Fr d 0 []) (fun y0 => y0))
theorem JE (d : (List Ys)) : ACalls Tryz.prog 117 [.h d] (.o 0 (G2 d)) := by
 refine en Qa Tryz.func117 fun w0 F0 hG => ?_
 refine sn Qa [0, 2] [] (p0) ?_
 refine tn Qa [0, 2, 3] [] (p0) ?_
 refine Qc ?_
 refine tu Qa [(2, .e 0), (3, .one (.slc (.own true 320) 2 [])), (4, .i 0)] [] [] [] (p0) ?_
 refine wT 0 0 .sh d (fun hw1 hl2 => ?_)
 refine blL1 Fq Fr d [] (fun k0 s0 => [(3, .o 147202 s0), (4, .i ((k0 : Nat) : Int))]) [3, 4] (fun y0 => [(3, .o 147352 y0)]) [0, 3, 4] (fun k0 s0 => List.length s0 ≤ k0) (X3 [(320, 147202)] (by kernel_rfl)) (by simp) (fun k0 s0 hk0 hI0 => ?_) (fun k0 s0 hk0 hI0 => ?_) (fun y0 hD0 => ?_)
 ·
  have hA0_0 := hI0.2
  obtain ⟨a0, hx0⟩ := Xr (l := d) (i := k0) hk0
  refine Qc ?_
  refine sn Qa [0, 2, 3, 4, 9] [] (pl 2 d (pe 3 (Qw (decide_eq_true (p := ((k0 : Nat) : Int) < (d.length : Int)) (by omega))) p0)) ?_
  refine ckT ?_
  refine Qh ?_
  refine Qc ?_
  refine Qt ?_
  have hl3 : List.length a0.2 ≤ 1073741824 := W7 (E5 (N2 hx0 (hw1)))
  refine wT 3 0 (.own true 147202) s0 (fun hw4 hl5 => ?_)
  refine qU Qa Yc [(3, .one (.slc (.own true 1728) 2 ((eL s0) ++ [[.s a0.1, .slc 7 ([] ++ (eL a0.2))]])))] [3] [] [] (pn 3 hx0 (pn 9 hx0 (po 12 (.flat) (px (Hu (n := (([] : List (List PV)).length + ((eL a0.2) : List (List PV)).length)) (Dm (rfl) (Yb a0.2) (by first | omega | (simp only [List.length_cons, List.length_nil]; omega) | (simp; omega) | simp))) (px (H4 (H5 a0.2)) (px (Hu (n := (((eL s0) : List (List PV)).length + ([[.s a0.1, .slc 7 ([] ++ (eL a0.2))]] : List (List PV)).length)) (Dm (Yb s0) (rfl) (by first | omega | (simp only [List.length_cons, List.length_nil]; omega) | (simp; omega) | simp))) p0)))))) ?_
  refine eqn [(3, .o 1728 (s0 ++ [a0]))] [3] [] [] (by rw [show ((eL s0) ++ [[.s a0.1, .slc 7 ([] ++ (eL a0.2))]]) = (eL (s0 ++ [a0])) from Vn (rfl) (rfl)]; first | done | kernel_rfl) ?_
  refine rn Qa [0, 2, 3, 4] [] (pe 1 (Jw (Qy k0 (by omega))) p0) ?_
  exact Exists.intro (s0 ++ [a0]) (And.intro (X3 [(1728, 147202)] (by kernel_rfl)) ⟨Q0 hx0 (rfl) hI0.1, by first | omega | (simp; omega) | simp⟩)
 ·
  have hA0_0 := hI0.2
  refine Qc ?_
  refine sn Qa [0, 2, 3, 4, 9] [] (pl 2 d (pe 3 (Qw (decide_eq_false (p := ((k0 : Nat) : Int) < (d.length : Int)) (by omega))) p0)) ?_
  refine ckF ?_
  refine Q2 ?_
  exact Exists.intro _ (And.intro (X3 [(147202, 147352)] (by kernel_rfl)) (Xs hk0 (rfl) hI0.1))
 refine sn Qa [2] [] (p0) ?_
 refine Qe ?_
 exact po0 [] (Un hD0 (rfl))
def Za (s_ : Xo) (d : (List Ys)) : Zh × Bool := (bif (!(((Zi s_ d)).2)) then ((([], [], 0), [], []), false) else (((Qj s_), (G2 d), ((Zi s_ d)).1), true))
theorem Rt (s_ : Xo) (d : (List Ys)) : ACalls Tryz.prog 72 [.a [.h s_.1, .h s_.2.1, .i s_.2.2], .h d] (.tup [(true, [.o 0 ((((Za s_ d)).1).1.1), .o 1 ((((Za s_ d)).1).1.2.1), .i ((((Za s_ d)).1).1.2.2), .o 2 ((((Za s_ d)).1).2.1), .o 3 ((((Za s_ d)).1).2.2)]), (false, [.b (((Za s_ d)).2)])]) := by
 refine en Qa Tryz.func72 fun w0 F0 hG => ?_
 refine sn Qa [1, 2, 4, 5] [2, 4] (p0) ?_
 refine tn Qa [1, 2, 4, 5, 6, 7] [2, 4] (pc 2 (Md s_ d) p0) ?_
 refine Qc ?_
 refine tu Qa [(2, .p 2 0), (4, .p 4 0), (5, .b false), (6, .o 704 (((Zi s_ d)).1)), (15, .b (!(((Zi s_ d)).2)))] [0] [(2, [.h s_.1, .h s_.2.1, .i s_.2.2]), (4, [.e 2, .e 5, .i 0, .e 2, .e 2])] [] (p0) ?_
 refine ck (!(((Zi s_ d)).2)) (fun h1 => ?_) (fun h1 => ?_)
 ·
  refine su Qa [] [15] [] [] (p0) ?_
  refine opn [(true, 4, 0, true, 384000, 2), (true, 4, 1, true, 384001, 5), (true, 4, 3, true, 384002, 2), (true, 4, 4, true, 384003, 2)] ?_
  refine Qe ?_
  exact pz [] (show Za s_ d = _ from Q1 h1 (rfl)) (fun z => .tup [(true, [.o 0 z.1.1.1, .o 1 z.1.1.2.1, .i z.1.1.2.2, .o 2 z.1.2.1, .o 3 z.1.2.2]), (false, [.b z.2])])
 refine Qh ?_
 refine sn Qa [4, 5] [4] (pc 1 (Gx s_) (pc 3 (JE d) p0)) ?_
 refine Qe ?_
 exact pz [] (show Za s_ d = _ from Ql h1 (rfl)) (fun z => .tup [(true, [.o 0 z.1.1.1, .o 1 z.1.1.2.1, .i z.1.1.2.2, .o 2 z.1.2.1, .o 3 z.1.2.2]), (false, [.b z.2])])
def J3 (code : (List UInt8)) (ci : Nat) (ch : Int) : Zh × Nat × Int := (lt (Y6 code ci ch) (fun x1 => (lt (Kl code x1.2.1 x1.2.2) (fun x2 => ((((Za x1.1 x2.1)).1), x2.2.1, x2.2.2)))))
theorem Pa (code : (List UInt8)) (ci : Nat) (ch : Int) : AGive Tryz.prog 45 [.h code, .i ((ci : Nat) : Int), .i ch] [] (.a [.o 0 ((((J3 code ci ch)).1).1.1), .o 1 ((((J3 code ci ch)).1).1.2.1), .i ((((J3 code ci ch)).1).1.2.2), .o 2 ((((J3 code ci ch)).1).2.1), .o 3 ((((J3 code ci ch)).1).2.2)]) [.h code, .i ((((J3 code ci ch)).2.1 : Nat) : Int), .i (((J3 code ci ch)).2.2)] := by
 refine Kp (tt := tt) Qa Tryz.func45 (fn := Tryz.f45) rfl (by unfold Dt; kernel_rfl) (Nat.le_of_ble_eq_true rfl) (Nat.le_of_ble_eq_true rfl) rfl rfl fun w0 F0 hG => ?_
 refine sn Qa [0, 2] [2, 60000] (p0) ?_
 obtain ⟨x1, hx1⟩ := nm (Y6 code ci ch)
 obtain ⟨x2, hx2⟩ := nm (Kl code x1.2.1 x1.2.2)
 have hbx2 := hx2 ▸ l13_ne code x1.2.1 x1.2.2
 refine tn Qa [0, 2, 3] [2, 3, 60000] (po 1 (.give none (.a [.o 0 x1.1.1, .q 1 x1.1.2.1, .i x1.1.2.2]) [.h code, .i ((x1.2.1 : Nat) : Int), .i x1.2.2]) (px (Q3 (hx1 ▸ Di code ci ch)) (po 3 (.give none (.h x2.1) [.h code, .i ((x2.2.1 : Nat) : Int), .i x2.2.2]) (px (Q3 (hx2 ▸ ZZ code x1.2.1 x1.2.2)) (pc 4 (Rt x1.1 x2.1) p0))))) ?_
 refine tu Qa [(2, .p 2 0)] [] [(2, [.o 640 ((((Za x1.1 x2.1)).1).1.1), .o 641 ((((Za x1.1 x2.1)).1).1.2.1), .i ((((Za x1.1 x2.1)).1).1.2.2), .o 642 ((((Za x1.1 x2.1)).1).2.1), .o 643 ((((Za x1.1 x2.1)).1).2.2)]), (60000, [.h code, .i ((x2.2.1 : Nat) : Int), .i x2.2.2])] [60000] (p0) ?_
 refine Qe ?_
 have hE3 : J3 code ci ch = ((((Za x1.1 x2.1)).1), x2.2.1, x2.2.2) := Yo hx1 (Yo hx2 (rfl))
 exact Hv [] (congrArg (fun z => (.a [.o 0 z.1.1.1, .o 1 z.1.1.2.1, .i z.1.1.2.2, .o 2 z.1.2.1, .o 3 z.1.2.2] : AV)) hE3.symm) (congrArg (fun z => ([.h code, .i ((z.2.1 : Nat) : Int), .i z.2.2] : List C)) hE3.symm)
theorem Wo {c : Zh} {k : Ve} (hl : c.2.1.length ≤ 1073741824) (h : 0 ≤ k.1 ∧ k.1 ≤ (c.2.1.length : Int) ∧ (k.2.length : Int) ≤ k.1) :
    (0 ≤ (Qr c k).1.1 ∧ (Qr c k).1.1 ≤ (c.2.1.length : Int) ∧ ((Qr c k).1.2.length : Int) ≤ (Qr c k).1.1) ∧ ((Qr c k).2 = true → (Qr c k).1.1 = k.1 + 1 ∧ k.1 < (c.2.1.length : Int)) := by
  have hw : IntKind.i64.wrap (k.1 + 1) = k.1 + 1 := IntWalk.i64_in _ (by omega)
  unfold Qr
  rw [hw]
  cases hc : Xw k.1 0 ((c.2.1.length : Int) - 1) with
  | false => exact ⟨h, by simp⟩
  | true =>
    have := By.1 hc
    generalize (Zq _ _ : Bool) = b
    cases b with
    | false => simp; omega
    | true => simp; omega
theorem YF {c : Zh} {f : Bool × Ve → Rd (List ByteArray) (Bool × Ve) Ve} (hl : c.2.1.length ≤ 1073741824) (hf : ∀ s, f s = (bif s.1 then .next ((Qr c s.2).2, (Qr c s.2).1) else .brk s.2) := by exact fun _ => rfl) :
    (whl f (List.length c.2.1 + 2) (true, ((0 : Int), ([] : List ByteArray)))).isSome = true := by
  have key : ∀ (n : Nat) (k : Ve), (0 ≤ k.1 ∧ k.1 ≤ (c.2.1.length : Int) ∧ (k.2.length : Int) ≤ k.1) → (c.2.1.length : Int) - k.1 ≤ n → (whl f (n + 2) (true, k)).isSome = true := by
    intro n
    induction n with
    | zero =>
      intro k hk hn
      obtain ⟨_, h2⟩ := Wo hl hk
      simp only [whl, hf, cond_true]
      cases hb : (Qr c k).2 with
      | false => rfl
      | true => have := h2 hb; omega
    | succ n ih =>
      intro k hk hn
      obtain ⟨h1, h2⟩ := Wo hl hk
      rw [show n + 1 + 2 = (n + 2) + 1 by omega, whl, hf]
      simp only [cond_true]
      cases hb : (Qr c k).2 with
      | false => rw [whl, hf]; rfl
      | true => exact ih _ h1 (by have := h2 hb; omega)
  exact key _ _ (by simp) (by simp)
theorem Rn {s : Xo} {d : List Ys} (hs : ((Qz d)).2 = true) (hv : Y4 s = true) : (Zu s d).2 = true := by
  unfold Zu Ke
  rw [hs, hv]
  simp only [Bool.not_true, Bool.or_false, cond_false]
  obtain ⟨h1, h2⟩ := Sa (L := ((Qz d)).1) (on := onD d (Yg d)) (fs := s.2.1) (g := On [] (Yg d)) (f := Kb [] (Yg d)) (e := K4) (d := d) (fun k a s => by
    unfold Kb On
    cases Yy (Yg d) a.1 <;> rfl) (fun j _ hj => by unfold onD at hj; unfold On; rw [hj]; rfl)
  rw [h1]
  have key : ∀ (n k : Nat) (o : List Qp) (p : Int), EvS d ((Qz d)).1 (onD d (Yg d)) s.2.1 (((k : Nat)) : Int) o → ∃ o' p', Ha (Kd s d (Yg d)) Bk n k (o, p) = .brk (o', p') ∧ EvS d ((Qz d)).1 (onD d (Yg d)) s.2.1 (((k + n : Nat)) : Int) o' := by
    intro n
    induction n with
    | zero => intro k o p ho; exact ⟨o, p, rfl, ho⟩
    | succ n ih =>
      intro k o p ho
      obtain ⟨o1, p1, g1, g2⟩ := Gv (p := p) hs ho
      obtain ⟨o2, p2, g3, g4⟩ := ih (k + 1) o1 p1 (by rw [Int.natCast_add]; exact g2)
      refine ⟨o2, p2, ?_, by rw [show k + (n + 1) = k + 1 + n by omega]; exact g4⟩
      simp only [Ha]
      unfold Kd E6
      rw [g1]
      exact g3
  obtain ⟨o, p, g1, g2⟩ := key (Int.toNat (Um d + 1)) 0 _ 0 h2
  simp only [Out.on, K4]
  rw [g1]
theorem UX {s : Xo} {d : List Ys} (h : (Zu s d).2 = true) : (Zu s d).1.length = d.length := by
  have := congrArg List.length (Tw h).2.2.1
  simpa using this
theorem VY (code : List UInt8) (ci : Nat) (ch : Int) : Xk (Kl code ci ch).1 = true := by
  unfold Kl lt
  generalize Ky code ci ch = x
  obtain ⟨t, ht⟩ := O0 (f := Y9) (fun s r => by
    unfold Y9
    generalize (decide ((s.length : Int) > (0 : Int)) && (!(Xk s))) = c
    cases c <;> simp) (List.length x.1 + 1) x.1
  have hj := Sc (f := Y9) (I := fun _ => True) (J := fun t => t.length = 0 ∨ Xk t = true) (fun _ _ _ _ => trivial) (fun s t _ h => by
    unfold Y9 at h
    cases hs : Xk s with
    | true =>
      rw [hs] at h
      simp only [Bool.not_true, Bool.and_false, cond_false] at h
      have h := Rd.brk.inj h
      rw [← h]; exact .inr hs
    | false =>
      rw [hs] at h
      by_cases h0 : (s.length : Int) > 0
      · rw [decide_eq_true h0] at h; simp at h
      rw [decide_eq_false h0] at h
      simp only [Bool.false_and, cond_false] at h
      have h := Rd.brk.inj h
      rw [← h]; exact .inl (by omega)) (n := List.length x.1 + 1) (s := x.1) (t := t) trivial (G0 code x.1) ht
  simp only [ht, Out.on]
  by_cases h0 : (t.length : Int) = 0
  · rw [beq_iff_eq.2 h0]
    show Xk [((⟨#[100, 97]⟩, [((1, 0, 0, ⟨#[]⟩, (0, 0, ⟨#[]⟩)) : X7)]) : Ys)] = true
    kernel_rfl
  rw [beq_eq_false_iff_ne.2 h0]
  show Xk t = true
  exact hj.resolve_left (by omega)
theorem l13_len (code : List UInt8) (ci : Nat) (ch : Int) : (Kl code ci ch).1.length ≤ 4 := by
  unfold Kl lt
  have h11 := (IC code ci ch).2
  generalize Ky code ci ch = x at h11 ⊢
  obtain ⟨t, ht⟩ := O0 (f := Y9) (fun s r => by
    unfold Y9
    generalize (decide ((s.length : Int) > (0 : Int)) && (!(Xk s))) = c
    cases c <;> simp) (List.length x.1 + 1) x.1
  have hj := Sc (f := Y9) (I := fun s => s.length ≤ 4) (J := fun t => t.length ≤ 4) (fun s s' hi h => by
    unfold Y9 at h
    revert h
    generalize (decide ((s.length : Int) > (0 : Int)) && (!(Xk s))) = c
    intro h
    cases c with
    | true =>
      simp only [cond_true] at h
      have h := Rd.next.inj h
      rw [← h, List.length_take]
      omega
    | false => simp at h) (fun s t hi h => by
    unfold Y9 at h
    revert h
    generalize (decide ((s.length : Int) > (0 : Int)) && (!(Xk s))) = c
    intro h
    cases c with
    | true => simp at h
    | false =>
      simp only [cond_false] at h
      have h := Rd.brk.inj h
      rw [← h]; exact hi) (n := List.length x.1 + 1) (s := x.1) (t := t) h11 (G0 code x.1) ht
  simp only [ht, Out.on]
  cases ((t.length : Int) == 0) with
  | true => show (1 : Nat) ≤ 4; decide
  | false => exact hj
theorem copy11 (d : List Ys) : G2 d = d := by
  unfold G2
  rw [Gn (f := Fq) (e := Fr) (g := id) (fun _ _ _ => rfl), List.map_id]
  rfl
theorem l19_ne (code : List UInt8) (ci : Nat) (ch : Int) : 0 < (J3 code ci ch).1.2.2.length ∧ (J3 code ci ch).1.2.1.length ≤ 4 := by
  unfold J3 lt
  have h5 := (BA code ci ch).1
  generalize Y6 code ci ch = x1 at h5 ⊢
  dsimp only
  have hst := VY code x1.2.1 x1.2.2
  have hne := l13_ne code x1.2.1 x1.2.2
  have hle := l13_len code x1.2.1 x1.2.2
  generalize Kl code x1.2.1 x1.2.2 = x2 at hst hne hle ⊢
  have hs : (Qz x2.1).2 = true := by rw [← Vp]; exact hst
  have he := Rn (s := x1.1) hs (by rw [← R7]; exact Oz h5.vs)
  have hl := UX he
  unfold Za
  rw [Ng, he, copy11]
  simp only [Bool.not_true, cond_false]
  omega
theorem adj_pair {l : List ByteArray} (h : ∀ i, i + 1 < l.length → bl (nth l i) (nth l (i + 1)) = true) : FW l := by
  have key : ∀ j i, i < j → j < l.length → bl (nth l i) (nth l j) = true := by
    intro j
    induction j with
    | zero => intro i hi; omega
    | succ j ih =>
      intro i hi hj
      by_cases e : i = j
      · subst e; exact h i hj
      exact R1 (ih i (by omega) (by omega)) (h j hj)
  unfold FW
  rw [List.pairwise_iff_getElem]
  intro i j hi hj hij
  have := key j i hij hj
  simpa [nth, List.getD, hi, hj] using this
theorem asc_nodup {l : List ByteArray} (h : FW l) : l.Nodup := h.imp fun {a b} hab e => by
  subst e
  rw [FV] at hab
  cases hab
theorem vdirs_run {d : List Ys} (h : Y7 d = true) : ∀ (i : Nat) (a : Ys), d[i]? = some a → Yr d i a () = .next () := by
  unfold Y7 at h
  cases hf : Xp (Yr d) J4 d 0 () with
  | brk t =>
    intro i a ha
    have := N4 (fun k a t => by unfold Yr; generalize (_ || _ : Bool) = c; cases c <;> simp) hf i a ha
    rwa [Nat.zero_add] at this
  | ret r =>
    rw [hf] at h
    obtain rfl : r = true := h
    exfalso
    have key : ∀ (l : List Ys) k, Xp (Yr d) J4 l k () ≠ .ret true := by
      intro l
      induction l with
      | nil => intro k h; simp [Xp] at h
      | cons a l ih =>
        intro k h
        simp only [Xp] at h
        unfold Yr at h
        split at h
        · rename_i hf; exact ih _ h
        · cases h
        rename_i r hf; cases h; revert hf; generalize (_ || _ : Bool) = c; cases c <;> simp
    exact key _ _ hf
theorem UY {d : List Ys} (h : Y7 d = true) : (d.map (·.1)).Nodup := by
  refine asc_nodup (adj_pair fun i hi => ?_)
  rw [List.length_map] at hi
  have e : ∀ j, j < d.length → nth (d.map (·.1)) j = (nth d j).1 := fun j hj => by simp [nth, List.getD, hj]
  rw [e i (by omega), e (i + 1) hi]
  have := vdirs_run h (i + 1) _ (Kh hi)
  unfold Yr at this
  rw [decide_eq_true (show ((i + 1 : Nat) : Int) > 0 by omega), show Int.toNat (((i + 1 : Nat) : Int) - 1) = i by omega] at this
  simp only [cond_true] at this
  cases hb : bl (nth d i).1 (nth d (i + 1)).1 with
  | true => rfl
  | false =>
    unfold bl at hb
    rw [hb] at this
    simp at this
theorem VZ : ∀ {d : List Ys}, (d.map (·.1)).Nodup → ∀ {a b : Ys}, a ∈ d → b ∈ d → a.1 = b.1 → a = b
  | [], _, _, _, ha, _, _ => by cases ha
  | x :: d, h, a, b, ha, hb, e => by
    rw [List.map_cons] at h
    obtain ⟨h1, h2⟩ := List.nodup_cons.1 h
    rcases List.mem_cons.1 ha with ea | ha'
    · rcases List.mem_cons.1 hb with eb | hb'
      · rw [ea, eb]
      subst ea; exact (h1 (by rw [e]; exact List.mem_map_of_mem hb')).elim
    rcases List.mem_cons.1 hb with eb | hb'
    · subst eb; exact (h1 (by rw [← e]; exact List.mem_map_of_mem ha')).elim
    exact VZ h2 ha' hb' e
theorem dir_go (s : ByteArray) : ∀ (l : List Ys) (k : Nat), (Xp (Q7 s) Xu l k () = .brk () ∧ ∀ a, a ∈ l → a.1 ≠ s) ∨ ∃ (i : Nat) (a : Ys), l[i]? = some a ∧ a.1 = s ∧ Xp (Q7 s) Xu l k () = .ret (((k + i : Nat)) : Int)
  | [], _ => .inl ⟨rfl, fun a ha => by cases ha⟩
  | x :: l, k => by
    simp only [Xp, Q7]
    have hx : H9 x s = decide (x.1 = s) := Pw
    rw [hx]
    by_cases e : x.1 = s
    · rw [decide_eq_true e]; exact .inr ⟨0, x, rfl, e, rfl⟩
    simp only [decide_eq_false e, cond_false]
    rcases dir_go s l (k + 1) with ⟨h1, h2⟩ | ⟨i, a, h1, h2, h3⟩
    · refine .inl ⟨h1, fun a ha => ?_⟩
      rcases List.mem_cons.1 ha with rfl | ha
      · exact e
      exact h2 a ha
    exact .inr ⟨i + 1, a, by simpa using h1, h2, by rw [h3, show k + 1 + i = k + (i + 1) by omega]⟩
theorem dir_at (d : List Ys) (s : ByteArray) : (Xa d s = -1 ∧ ∀ a, a ∈ d → a.1 ≠ s) ∨ ∃ (i : Nat) (a : Ys), d[i]? = some a ∧ a.1 = s ∧ Xa d s = ((i : Nat) : Int) := by
  unfold Xa Zb
  rcases dir_go s d 0 with ⟨h1, h2⟩ | ⟨i, a, h1, h2, h3⟩
  · rw [h1]; exact .inl ⟨rfl, h2⟩
  rw [h3, Nat.zero_add]; exact .inr ⟨i, a, h1, h2, rfl⟩
theorem dir_in {d : List Ys} {a : Ys} (ha : a ∈ d) : 0 ≤ Xa d a.1 := by
  rcases dir_at d a.1 with ⟨_, h2⟩ | ⟨i, b, _, _, h3⟩
  · exact (h2 a ha rfl).elim
  rw [h3]; omega
theorem dir_nth {d : List Ys} (hn : (d.map (·.1)).Nodup) {a : Ys} (ha : a ∈ d) : Int.toNat (Xa d a.1) < d.length ∧ nth d (Int.toNat (Xa d a.1)) = a := by
  rcases dir_at d a.1 with ⟨_, h2⟩ | ⟨i, b, h1, h2, h3⟩
  · exact (h2 a ha rfl).elim
  rw [h3, Int.toNat_natCast]
  exact ⟨(List.getElem?_eq_some_iff.1 h1).1, (Iw h1).trans (VZ hn (List.mem_of_getElem? h1) ha h2)⟩
section
variable {φ : Type} {fs : List φ} {idOf : φ → Int} {m : Nat → List CD → φ → Bool} {act : Nat → Bool}
theorem BG : ∀ (ks : List Nat) (s : List CD × Bool), (Ol fs idOf m act ks s).2 = false → s.2 = false ∧ (Ol fs idOf m act ks s).1 = s.1 ∧ ∀ k, k ∈ ks → act k = true → sel fs idOf (m k s.1) = (nth s.1 k).2
  | [], s, h => ⟨h, rfl, fun k hk => by cases hk⟩
  | k :: ks, s, h => by
    have h : (Ol fs idOf m act ks (Ok fs idOf m act s k)).2 = false := h
    obtain ⟨h1, h2, h3⟩ := BG ks _ h
    have key : Ok fs idOf m act s k = s ∧ (act k = true → sel fs idOf (m k s.1) = (nth s.1 k).2) := by
      unfold Ok at h1 ⊢
      cases ha : act k with
      | false => exact ⟨rfl, fun h => by cases h⟩
      | true =>
        rw [ha] at h1
        simp only [cond_true] at h1 ⊢
        by_cases e : sel fs idOf (m k s.1) = (nth s.1 k).2
        · rw [if_pos e]; exact ⟨rfl, fun _ => e⟩
        rw [if_neg e] at h1; cases h1
    rw [key.1] at h1 h2 h3
    refine ⟨h1, ?_, fun j hj ha => ?_⟩
    · show (Ol fs idOf m act ks (Ok fs idOf m act s k)).1 = s.1
      rw [key.1]; exact h2
    rcases List.mem_cons.1 hj with rfl | hj
    · exact key.2 ha
    exact h3 j hj ha
theorem WA : ∀ (ks : List Nat) (s : List CD × Bool) (j : Nat), act j = false → nth (Ol fs idOf m act ks s).1 j = nth s.1 j
  | [], _, _, _ => rfl
  | k :: ks, s, j, hj => by
    refine (WA ks (Ok fs idOf m act s k) j hj).trans ?_
    unfold Ok
    cases ha : act k with
    | false => rfl
    | true =>
      simp only [cond_true]
      split
      · rfl
      exact Ec _ (fun e => by rw [e, hj] at ha; cases ha)
end
def FixAt (s : Xo) (d : List Ys) (a : Nat → Bool) (o : List Qp) : Prop := ∀ k, k < d.length → a k = true → sel s.2.1 (fun f : X9 => f.1) (P2 d k o) = (nth o k).2
theorem level_fix {s : Xo} {d : List Ys} {names : List ByteArray} {k1 : Nat} {o o' : List Qp} {p p' : Int} {n : Nat} (h : whl (Kc s d names k1) n (o, p, true) = some (.brk (o', p'))) :
    FixAt s d (R9 (Qz d).1 (onD d names) (k1 : Int)) o' ∧ ∀ j, R9 (Qz d).1 (onD d names) (k1 : Int) j = false → nth o' j = nth o j := by
  refine UV (f := Kc s d names k1) (fun x : List Qp × Int × Bool => (x.2.2 = false → FixAt s d (R9 (Qz d).1 (onD d names) (k1 : Int)) x.1) ∧ ∀ j, R9 (Qz d).1 (onD d names) (k1 : Int) j = false → nth x.1 j = nth o j) (fun t : List Qp × Int => FixAt s d (R9 (Qz d).1 (onD d names) (k1 : Int)) t.1 ∧ ∀ j, R9 (Qz d).1 (onD d names) (k1 : Int) j = false → nth t.1 j = nth o j) ?_ ?_ n (o, p, true) (o', p') ⟨fun h => (by cases h), fun _ _ => rfl⟩ h
  · intro x x' hi hx
    obtain ⟨xo, xp, xc⟩ := x
    unfold Kc at hx
    rw [P4 (e := Hf) (Fo s d names k1) (fun _ _ => rfl) d 0 xo false rfl] at hx
    cases xc with
    | false => cases hx
    | true =>
      simp only [cond_true, Out.on] at hx
      have hx := Rd.next.inj hx
      rw [← hx]
      refine ⟨fun hc => ?_, fun j hj => ?_⟩
      · obtain ⟨_, h2, h3⟩ := BG _ _ hc
        intro k hk ha
        dsimp only
        rw [h2]
        exact h3 k (by rw [List.mem_range'_1]; omega) ha
      exact (WA _ _ j hj).trans (hi.2 j hj)
  intro x t hi hx
  obtain ⟨xo, xp, xc⟩ := x
  unfold Kc at hx
  cases xc with
  | true =>
    rw [P4 (e := Hf) (Fo s d names k1) (fun _ _ => rfl) d 0 xo false rfl] at hx
    cases hx
  | false =>
    have hx := Rd.brk.inj hx
    rw [← hx]
    exact ⟨hi.1 rfl, hi.2⟩
/-! ### what a query reads -/
theorem dep_name {q : List X7} {b : Bool} {i : Nat} (hi : i < (Xd q).length) (hn : nth (Xd q) i = b) (hd : Y5 (nth q i) = true) : (nth q i).2.2.2.1 ∈ Jy q b := by
  have key : ∀ (l : List Bool) (k : Nat) (s : List ByteArray), ∃ t, Xp (Jt q b) Vx l k s = .brk t ∧ (∀ x, x ∈ s → x ∈ t) ∧ ∀ j, l[j]? = some b → Y5 (nth q (k + j)) = true → (nth q (k + j)).2.2.2.1 ∈ t := by
    intro l
    induction l with
    | nil => intro k s; exact ⟨s, rfl, fun _ h => h, fun j h => by simp at h⟩
    | cons a l ih =>
      intro k s
      simp only [Xp, Jt]
      cases hc : (Y5 (nth q k) && (a == b)) with
      | true =>
        obtain ⟨t, h1, h2, h3⟩ := ih (k + 1) (s ++ [(nth q k).2.2.2.1])
        refine ⟨t, h1, fun x hx => h2 x (List.mem_append_left _ hx), fun j hj hnm => ?_⟩
        cases j with
        | zero => exact h2 _ (List.mem_append_right _ (by simp))
        | succ j =>
          have := h3 j (by simpa using hj) (by rwa [show k + 1 + j = k + (j + 1) by omega])
          rwa [show k + 1 + j = k + (j + 1) by omega] at this
      | false =>
        obtain ⟨t, h1, h2, h3⟩ := ih (k + 1) s
        refine ⟨t, h1, fun x hx => h2 x hx, fun j hj hnm => ?_⟩
        cases j with
        | zero =>
          obtain rfl : a = b := by simpa using hj
          rw [Nat.add_zero] at hnm
          rw [hnm] at hc; simp at hc
        | succ j =>
          have := h3 j (by simpa using hj) (by rwa [show k + 1 + j = k + (j + 1) by omega])
          rwa [show k + 1 + j = k + (j + 1) by omega] at this
  unfold Jy
  obtain ⟨t, h1, _, h3⟩ := key (Xd q) 0 []
  rw [h1]
  simp only [Out.on]
  have := h3 i (by rw [Kh hi, hn]) (by rwa [Nat.zero_add])
  rw [Nat.zero_add] at this
  exact ((Oa t).2 _).2 this
theorem YG {q : List X7} (hv : Qv q = true) {a b : List Qp} (hs : ∀ k, k < q.length → Y5 (nth q k) = true → X5 a (nth q k).2.2.2.1 = X5 b (nth q k).2.2.2.1) (f : X9) : ∀ (n k : Nat), k < q.length → Xq n q (k : Int) f a = Xq n q (k : Int) f b
  | 0, _, _ => rfl
  | n + 1, k, hk => by
    obtain ⟨hl, hr⟩ := Cz hv (k := (k : Int)) (by omega) (by omega)
    rw [Int.toNat_natCast] at hl hr
    have hop := vn_op (ZH hv (Kh hk))
    have hnm := hs k hk
    have ih := YG hv hs f n
    unfold Xq
    rw [Int.toNat_natCast]
    generalize nth q k = m at hl hr hop hnm ⊢
    have kid : ∀ c : Int, 0 ≤ c → c < (k : Int) → Xq n q c f a = Xq n q c f b := fun c h0 h1 => by
      obtain ⟨j, rfl⟩ : ∃ j : Nat, c = (j : Int) := ⟨Int.toNat c, by omega⟩
      exact ih j (by omega)
    rcases hop with h | h | h | h | h | h | h | h | h
    · simp [h]
    · simp [h]
    · simp [h]
    · simp [h]
    · obtain ⟨k1, k2⟩ := hl (.inl h)
      simp [h, kid m.2.1 k1 k2]
    · obtain ⟨k1, k2⟩ := hl (.inr (.inl h))
      obtain ⟨k3, k4⟩ := hr (.inl h)
      simp [h, kid m.2.1 k1 k2, kid m.2.2.1 k3 k4]
    · obtain ⟨k1, k2⟩ := hl (.inr (.inr h))
      obtain ⟨k3, k4⟩ := hr (.inr h)
      simp [h, kid m.2.1 k1 k2, kid m.2.2.1 k3 k4]
    · simp [h, hnm (by simp [Y5, h])]
    simp [h, hnm (by simp [Y5, h])]
theorem pick_same {q : List X7} {a b : List Qp} (hs : Qv q = true → ∀ k, k < q.length → Y5 (nth q k) = true → X5 a (nth q k).2.2.2.1 = X5 b (nth q k).2.2.2.1) (f : X9) : Kk q f a = Kk q f b := by
  unfold Kk
  cases hv : Qv q with
  | false => rfl
  | true =>
    have hl := Rf hv
    rw [show ((q.length : Int) - 1) = ((q.length - 1 : Nat) : Int) by omega, YG hv (hs hv) f q.length (q.length - 1) (by omega)]
theorem CV {d : List Ys} {L : List Int} (h : Qz d = (L, true)) {i : Nat} (hi : i < d.length) {nm : ByteArray} : ∀ {b : Bool}, nm ∈ Jy (nth d i).2 b → 0 ≤ Xa d nm → nth L (Int.toNat (Xa d nm)) ≤ nth L i
  | true, hn, h0 => Int.le_of_lt (YB h hi hn h0)
  | false, hn, h0 => by
    obtain ⟨_, _, hs, _⟩ := F5 h
    have hm : (Int.toNat (Xa d nm), (0 : Int)) ∈ Jh d i := by
      unfold Jh
      rw [if_pos hi]
      exact List.mem_append_left _ (E8 hn h0)
    have := (Bc.1 (hs i hi)).2 _ hm
    simp only at this
    omega
structure FxS (s : Xo) (d : List Ys) (k : Int) (o : List Qp) : Prop where
  ev : EvS d (Qz d).1 (onD d (Yg d)) s.2.1 k o
  fx : ∀ j, j < d.length → nth (Qz d).1 j < k → sel s.2.1 (fun f : X9 => f.1) (P2 d j o) = (nth o j).2
theorem fxs_next {s : Xo} {d : List Ys} {k1 : Nat} {o : List Qp} {p : Int} (hs : (Qz d).2 = true) (h : FxS s d (k1 : Int) o) : ∃ o' p', whl (Kc s d (Yg d) k1) (List.length d * List.length s.2.1 + 2) (o, p, true) = some (.brk (o', p')) ∧ FxS s d (((k1 + 1 : Nat)) : Int) o' := by
  obtain ⟨o', p', g1, g2⟩ := Gv (p := p) hs h.ev
  obtain ⟨f1, f2⟩ := level_fix g1
  have hS : Qz d = ((Qz d).1, true) := Prod.ext rfl hs
  refine ⟨o', p', g1, by rw [Int.natCast_add]; exact g2, fun j hj hl => ?_⟩
  by_cases e : nth (Qz d).1 j = (k1 : Int)
  · refine f1 j hj ?_
    unfold R9 onD
    rw [e, beq_self_eq_true, Fa (Kh hj)]
    rfl
  have hlt : nth (Qz d).1 j < (k1 : Int) := by omega
  have off : ∀ i, nth (Qz d).1 i < (k1 : Int) → nth o' i = nth o i := fun i hi => f2 i (by
    unfold R9
    rw [beq_eq_false_iff_ne.2 (by omega)]
    rfl)
  rw [off j hlt, ← h.fx j hj hlt]
  have hp : P2 d j o' = P2 d j o := by
    funext f
    refine pick_same (fun hv k hk hd => ?_) f
    obtain ⟨hlen, _⟩ := AS hv
    have hdn := dep_name (q := (nth d j).2) (i := k) (by omega) rfl hd
    generalize (nth (nth d j).2 k).2.2.2.1 = nm at hdn
    rcases Gu g2.names nm with ⟨h1, h2⟩ | ⟨h1, h2, h3⟩
    · rcases Gu h.ev.names nm with ⟨_, h4⟩ | ⟨h4, _, _⟩
      · rw [h2, h4]
      omega
    rcases Gu h.ev.names nm with ⟨h4, _⟩ | ⟨_, _, h4⟩
    · omega
    have := CV hS hj hdn h1
    rw [h3, h4, off _ (by omega)]
  rw [hp]
theorem WB : ∀ (l : List Int) (s x : Int), x ∈ l ∨ x ≤ s → x ≤ l.foldl max s
  | [], s, x, h => h.resolve_left (by simp)
  | a :: l, s, x, h => by
    refine WB l (max s a) x ?_
    rcases h with h | h
    · rcases List.mem_cons.1 h with rfl | h
      · exact .inr (by omega)
      exact .inl h
    exact .inr (by omega)
theorem CW (d : List Ys) {j : Nat} (hj : j < (Qz d).1.length) : nth (Qz d).1 j ≤ Um d := by
  rw [← Ou]
  unfold Kr
  rw [Vp, Ot]
  exact WB _ _ _ (.inl (List.mem_of_getElem? (Kh hj)))
theorem QI {s : Xo} {d : List Ys} (h : (Zu s d).2 = true) : (Qz d).2 = true ∧ ∀ j, j < d.length → Yp s (nth d j).2 (Zu s d).1 = (nth (Zu s d).1 j).2 := by
  unfold Zu at h ⊢
  unfold Ke at h ⊢
  cases hc : ((!(((Qz d)).2)) || (!(Y4 s))) with
  | true => rw [hc] at h; cases h
  | false =>
    have hs : ((Qz d)).2 = true := Vd (DD hc)
    simp only [cond_false]
    obtain ⟨h1, h2⟩ := Sa (L := ((Qz d)).1) (on := onD d (Yg d)) (fs := s.2.1) (g := On [] (Yg d)) (f := Kb [] (Yg d)) (e := K4) (d := d) (fun k a s => by
      unfold Kb On
      cases Yy (Yg d) a.1 <;> rfl) (fun j _ hj => by unfold onD at hj; unfold On; rw [hj]; rfl)
    rw [h1]
    have hS : Qz d = ((Qz d).1, true) := Prod.ext rfl hs
    obtain ⟨_, hlen, _, hn0⟩ := F5 hS
    have h3 : FxS s d ((0 : Nat) : Int) _ := ⟨h2, fun j _ hj => by have := hn0 j; omega⟩
    have key : ∀ (n k : Nat) (o : List Qp) (p : Int), FxS s d ((k : Nat) : Int) o → ∃ o' p', Ha (Kd s d (Yg d)) Bk n k (o, p) = .brk (o', p') ∧ FxS s d (((k + n : Nat)) : Int) o' := by
      intro n
      induction n with
      | zero => intro k o p ho; exact ⟨o, p, rfl, ho⟩
      | succ n ih =>
        intro k o p ho
        obtain ⟨o1, p1, g1, g2⟩ := fxs_next (p := p) hs ho
        obtain ⟨o2, p2, g3, g4⟩ := ih (k + 1) o1 p1 g2
        refine ⟨o2, p2, ?_, by rw [show k + (n + 1) = k + 1 + n by omega]; exact g4⟩
        simp only [Ha]
        unfold Kd E6
        rw [g1]
        exact g3
    obtain ⟨o, p, g1, g2⟩ := key (Int.toNat (Um d + 1)) 0 _ 0 h3
    simp only [Out.on, K4]
    rw [g1]
    refine ⟨hs, fun j hj => ?_⟩
    rw [YA]
    have hm := CW d (j := j) (by omega)
    have h0 := hn0 j
    exact g2.fx j hj (by rw [Nat.zero_add, Int.toNat_of_nonneg (by omega)]; omega)
end
section
open Go.RowKit
theorem Fe (c : Zh) (k : Ve) : Xi c k = Qr c k := by
  unfold Qr Xi
  rw [Tt]
  rfl
theorem C9 {c : Zh} {k : Ve} (hl : c.2.1.length ≤ 1073741824) (h : 0 ≤ k.1 ∧ k.1 ≤ (c.2.1.length : Int) ∧ (k.2.length : Int) ≤ k.1) :
    (0 ≤ (Xi c k).1.1 ∧ (Xi c k).1.1 ≤ (c.2.1.length : Int) ∧ ((Xi c k).1.2.length : Int) ≤ (Xi c k).1.1) ∧ ((Xi c k).2 = true → (Xi c k).1.1 = k.1 + 1 ∧ k.1 < (c.2.1.length : Int)) := by
  rw [Fe]; exact Wo hl h
open GoE (enc wide)
def Yj : Ve := (0, [])
theorem Vl : ACalls Tryz.prog 19 [] (.a [.i Yj.1, .o 0 Yj.2]) := by
 refine en Qa Tryz.func19 fun w0 F0 hG => ?_
 refine sn Qa [0] [0] (p0) ?_
 refine tn Qa [0] [0] (p0) ?_
 refine opn [(true, 0, 1, true, 384000, 1)] ?_
 refine Qe ?_
 exact pz [] (show Yj = (0, []) from rfl) (fun z => .a [.i z.1, .o 0 z.2])
def Z4 (c : Zh) (s0 : Bool × Ve) : Rd ((List ByteArray)) (Bool × Ve) (Ve) := (bif s0.1 then (.next (((Qr c s0.2)).2, (((Qr c s0.2)).1))) else (.brk s0.2))
def X8 (c : Zh) : (List ByteArray) := (Out.on (E6 (Z4 c) (List.length c.2.1 + 2) (true, Yj)) (fun y0 => y0.2))
theorem QK (c : Zh) (hl : c.2.1.length ≤ 1073741824) : (whl (Z4 c) (List.length c.2.1 + 2) (true, Yj)).isSome = true := YF hl
theorem J7 (c : Zh) : ACalls Tryz.prog 16 [.a [.h c.1.1, .h c.1.2.1, .i c.1.2.2, .h c.2.1, .h c.2.2]] (.o 0 (X8 c)) := by
 refine en Qa Tryz.func16 fun w0 F0 hG => ?_
 refine sn Qa [1, 2] [1] (p0) ?_
 refine tn Qa [1, 2, 3] [1, 3] (pc 0 (Vl) p0) ?_
 refine Qc ?_
 refine tu Qa [(1, .p 1 0), (2, .e 0), (3, .p 3 0), (4, .b true)] [0] [(1, [.h c.1.1, .h c.1.2.1, .i c.1.2.2, .h c.2.1, .h c.2.2]), (3, [.i Yj.1, .o 320 Yj.2])] [] (p0) ?_
 refine wB 1 3 .sh c.2.1 (fun hw1 hl2 => ?_)
 refine blw (fun (s0 : Bool × Ve) => [(4, .b s0.1)]) [4] (fun s0 => [(3, [.i s0.2.1, .o 147210 s0.2.2])]) [3] (fun (y0 : Ve) => []) [1, 4] (fun y0 => [(3, [.i y0.1, .o 147360 y0.2])]) [1, 3] (fun (k0 : Nat) (s0 : Bool × Ve) => whl (Z4 c) k0 s0 = some (E6 (Z4 c) (List.length c.2.1 + 2) (true, Yj)) ∧ 0 ≤ s0.2.1 ∧ s0.2.1 ≤ (c.2.1.length : Int) ∧ (s0.2.2.length : Int) ≤ s0.2.1) (fun (y0 : Ve) => (E6 (Z4 c) (List.length c.2.1 + 2) (true, Yj)) = .brk y0) (List.length c.2.1 + 2) (true, Yj) (X3 [(320, 147210)] (by kernel_rfl)) ⟨Dc (QK c hl2), (by simp [Yj]), (by simp [Yj]), (by simp [Yj])⟩ (fun _ h => D4 h.1) (fun k0 s0 hI0 => ?_) (fun y0 hD0 => ?_)
 ·
  have hA0_0 := hI0.2.1
  have hA0_1 := hI0.2.2.1
  have hA0_2 := hI0.2.2.2
  refine Qc ?_
  refine sn Qa [1, 2, 3, 4, 6] [1, 3] (p0) ?_
  refine ck s0.1 (fun h3 => ?_) (fun h3 => ?_)
  ·
   refine Qh ?_
   refine Qt ?_
   refine qn Qa [1, 2, 3, 4] [1, 3] (pc 2 (Lb c s0.2 (by omega)) p0) ?_
   exact Exists.intro (((Qr c s0.2)).2, (((Qr c s0.2)).1)) (And.intro (X3 [(640, 147210)] (by kernel_rfl)) ⟨wn hI0.1 (Q1 h3 (rfl)), (by have hz := Wo (c := c) (k := s0.2) (by omega) (by omega); dsimp only; omega), (by have hz := Wo (c := c) (k := s0.2) (by omega) (by omega); dsimp only; omega), (by have hz := Wo (c := c) (k := s0.2) (by omega) (by omega); dsimp only; omega)⟩)
  refine Q2 ?_
  exact Exists.intro _ (And.intro (X3 [(147210, 147360)] (by kernel_rfl)) (wb hI0.1 (Ql h3 (rfl))))
 refine sn Qa [2] [] (p0) ?_
 refine Qe ?_
 exact po0 [] (Un hD0 (rfl))
def Kn : Ve := (0, [])
theorem QM : ACalls Tryz.prog 44 [] (.a [.i Kn.1, .o 0 Kn.2]) := by
 refine en Qa Tryz.func44 fun w0 F0 hG => ?_
 refine sn Qa [0] [0] (p0) ?_
 refine tn Qa [0] [0] (p0) ?_
 refine opn [(true, 0, 1, true, 384000, 1)] ?_
 refine Qe ?_
 exact pz [] (show Kn = (0, []) from rfl) (fun z => .a [.i z.1, .o 0 z.2])
def K1 (l : Zh) (s0 : Bool × Ve) : Rd ((List ByteArray)) (Bool × Ve) (Ve) := (bif s0.1 then (.next (((Xi l s0.2)).2, (((Xi l s0.2)).1))) else (.brk s0.2))
def Uh (l : Zh) : (List ByteArray) := (Out.on (E6 (K1 l) (List.length l.2.1 + 2) (true, Kn)) (fun y0 => y0.2))
theorem QN (l : Zh) (hl : l.2.1.length ≤ 1073741824) : (whl (K1 l) (List.length l.2.1 + 2) (true, Kn)).isSome = true := by
 have h : K1 l = Z4 l := by funext s; unfold K1 Z4; rw [Fe]
 rw [h]; exact YF hl
theorem Mi (l : Zh) : ACalls Tryz.prog 17 [.a [.h l.1.1, .h l.1.2.1, .i l.1.2.2, .h l.2.1, .h l.2.2]] (.o 0 (Uh l)) := by
 refine en Qa Tryz.func17 fun w0 F0 hG => ?_
 refine sn Qa [1, 2] [1] (p0) ?_
 refine tn Qa [1, 2, 3] [1, 3] (pc 0 (QM) p0) ?_
 refine Qc ?_
 refine tu Qa [(1, .p 1 0), (2, .e 0), (3, .p 3 0), (4, .b true)] [0] [(1, [.h l.1.1, .h l.1.2.1, .i l.1.2.2, .h l.2.1, .h l.2.2]), (3, [.i Kn.1, .o 320 Kn.2])] [] (p0) ?_
 refine wB 1 3 .sh l.2.1 (fun hw1 hl2 => ?_)
 refine blw (fun (s0 : Bool × Ve) => [(4, .b s0.1)]) [4] (fun s0 => [(3, [.i s0.2.1, .o 147210 s0.2.2])]) [3] (fun (y0 : Ve) => []) [1, 4] (fun y0 => [(3, [.i y0.1, .o 147360 y0.2])]) [1, 3] (fun (k0 : Nat) (s0 : Bool × Ve) => whl (K1 l) k0 s0 = some (E6 (K1 l) (List.length l.2.1 + 2) (true, Kn)) ∧ 0 ≤ s0.2.1 ∧ s0.2.1 ≤ (l.2.1.length : Int) ∧ (s0.2.2.length : Int) ≤ s0.2.1) (fun (y0 : Ve) => (E6 (K1 l) (List.length l.2.1 + 2) (true, Kn)) = .brk y0) (List.length l.2.1 + 2) (true, Kn) (X3 [(320, 147210)] (by kernel_rfl)) ⟨Dc (QN l hl2), (by simp [Kn]), (by simp [Kn]), (by simp [Kn])⟩ (fun _ h => D4 h.1) (fun k0 s0 hI0 => ?_) (fun y0 hD0 => ?_)
 ·
  have hA0_0 := hI0.2.1
  have hA0_1 := hI0.2.2.1
  have hA0_2 := hI0.2.2.2
  refine Qc ?_
  refine sn Qa [1, 2, 3, 4, 6] [1, 3] (p0) ?_
  refine ck s0.1 (fun h3 => ?_) (fun h3 => ?_)
  ·
   refine Qh ?_
   refine Qt ?_
   refine qn Qa [1, 2, 3, 4] [1, 3] (pc 2 (Lc l s0.2 (by omega)) p0) ?_
   exact Exists.intro (((Xi l s0.2)).2, (((Xi l s0.2)).1)) (And.intro (X3 [(640, 147210)] (by kernel_rfl)) ⟨wn hI0.1 (Q1 h3 (rfl)), (by have hz := C9 (c := l) (k := s0.2) (by omega) (by omega); dsimp only; omega), (by have hz := C9 (c := l) (k := s0.2) (by omega) (by omega); dsimp only; omega), (by have hz := C9 (c := l) (k := s0.2) (by omega) (by omega); dsimp only; omega)⟩)
  refine Q2 ?_
  exact Exists.intro _ (And.intro (X3 [(147210, 147360)] (by kernel_rfl)) (wb hI0.1 (Ql h3 (rfl))))
 refine sn Qa [2] [] (p0) ?_
 refine Qe ?_
 exact po0 [] (Un hD0 (rfl))
def Ko (code : (List UInt8)) (ci : Nat) (ch : Int) : Zh × Nat × Int := (lt (J3 code ci ch) (fun x1 => (lt (Qm code x1.2.1 x1.2.2 12) (fun x2 => (bif (x2.1 == (0 : Int)) then (lt (Ef code x2.2.1 x2.2.2) (fun x4 => ((x1.1.1, x1.1.2.1, List.set x1.1.2.2 0 ((nth x1.1.2.2 0).1, x4.1)), x4.2.1, x4.2.2))) else (bif (x2.1 == (1 : Int)) then (lt (Hq code x2.2.1 x2.2.2) (fun x10 => ((x1.1.1, x10.1, x1.1.2.2), x10.2.1, x10.2.2))) else (bif (x2.1 == (2 : Int)) then (lt (W4 code x2.2.1 x2.2.2) (fun x13 => ((x13.1, x1.1.2.1, x1.1.2.2), x13.2.1, x13.2.2))) else (x1.1, x2.2.1, x2.2.2))))))))
theorem Ld (code : (List UInt8)) (ci : Nat) (ch : Int) : AGive Tryz.prog 25 [.h code, .i ((ci : Nat) : Int), .i ch] [] (.a [.h ((((Ko code ci ch)).1).1.1), .q 0 ((((Ko code ci ch)).1).1.2.1), .i ((((Ko code ci ch)).1).1.2.2), .o 1 ((((Ko code ci ch)).1).2.1), .o 2 ((((Ko code ci ch)).1).2.2)]) [.h code, .i ((((Ko code ci ch)).2.1 : Nat) : Int), .i (((Ko code ci ch)).2.2)] := by
 refine Kp (tt := tt) Qa Tryz.func25 (fn := Tryz.f25) rfl (by unfold Dt; kernel_rfl) (Nat.le_of_ble_eq_true rfl) (Nat.le_of_ble_eq_true rfl) rfl rfl fun w0 F0 hG => ?_
 refine sn Qa [0, 2] [2, 60000] (p0) ?_
 obtain ⟨x1, hx1⟩ := nm (J3 code ci ch)
 have hcx1 := l19_ne code ci ch
 rw [hx1] at hcx1
 refine tn Qa [0, 2, 3] [2, 3, 60000] (po 1 (.give none (.a [.o 0 x1.1.1.1, .o 1 x1.1.1.2.1, .i x1.1.1.2.2, .o 2 x1.1.2.1, .o 3 x1.1.2.2]) [.h code, .i ((x1.2.1 : Nat) : Int), .i x1.2.2]) (px (Q3 (hx1 ▸ Pa code ci ch)) p0)) ?_
 refine Qc ?_
 obtain ⟨x2, hx2⟩ := nm (Qm code x1.2.1 x1.2.2 12)
 have hbx2 := hx2 ▸ Qx code x1.2.1 x1.2.2 12
 refine tu Qa [(2, .p 2 0), (3, .p 3 0), (7, .i x2.1)] [] [(2, [.e 2, .e 5, .i 0, .e 2, .e 2]), (3, [.o 320 x1.1.1.1, .o 321 x1.1.1.2.1, .i x1.1.1.2.2, .o 322 x1.1.2.1, .o 323 x1.1.2.2]), (60000, [.h code, .i ((x2.2.1 : Nat) : Int), .i x2.2.2])] [60000] (po 1 (.give none (.i x2.1) [.h code, .i ((x2.2.1 : Nat) : Int), .i x2.2.2]) (px (Q3 (hx2 ▸ Xb code x1.2.1 x1.2.2 12)) p0)) ?_
 refine Qt ?_
 refine sn Qa [0, 2, 3, 7, 8] [2, 3, 60000] (p0) ?_
 refine ck (x2.1 == (0 : Int)) (fun h3 => ?_) (fun h3 => ?_)
 ·
  have h3d := eq_of_beq h3
  obtain ⟨x4, hx4⟩ := nm (Ef code x2.2.1 x2.2.2)
  refine wB 3 4 (.own true 323) x1.1.2.2 (fun hw6 hl7 => ?_)
  have hx5 := ng x1.1.2.2 0
  refine qU Qa Yc [] [7] [(3, [.o 320 x1.1.1.1, .o 321 x1.1.1.2.1, .i x1.1.1.2.2, .o 322 x1.1.2.1, .slc (.own true 323) 2 (setRow (eL x1.1.2.2) 0 1 [.h x4.1])]), (60000, [.h code, .i ((x4.2.1 : Nat) : Int), .i x4.2.2])] [3, 60000] (po 3 (.give none (.o 0 x4.1) [.h code, .i ((x4.2.1 : Nat) : Int), .i x4.2.2]) (px (Q3 (hx4 ▸ VK code x2.2.1 x2.2.2)) (pG 4 0 hx5 p0))) ?_
  refine eqn [] [] [(3, [.o 320 x1.1.1.1, .o 321 x1.1.1.2.1, .i x1.1.1.2.2, .o 322 x1.1.2.1, .o 323 (List.set x1.1.2.2 0 ((nth x1.1.2.2 0).1, x4.1))])] [3] (by rw [Zx (y := ((nth x1.1.2.2 0).1, x4.1)) hx5 rfl] <;> kernel_rfl) ?_
  refine sn Qa [0, 2] [2, 60000] (p0) ?_
  refine Bo [321] rfl ?_
  refine Qe ?_
  have hE8 : Ko code ci ch = ((x1.1.1, x1.1.2.1, List.set x1.1.2.2 0 ((nth x1.1.2.2 0).1, x4.1)), x4.2.1, x4.2.2) := Yo hx1 (Yo hx2 (Q1 h3 (Yo hx4 (rfl))))
  exact Hv [320] (congrArg (fun z => (.a [.h z.1.1.1, .q 0 z.1.1.2.1, .i z.1.1.2.2, .o 1 z.1.2.1, .o 2 z.1.2.2] : AV)) hE8.symm) (congrArg (fun z => ([.h code, .i ((z.2.1 : Nat) : Int), .i z.2.2] : List C)) hE8.symm)
 refine tn Qa [0, 2, 3, 7, 16] [2, 3, 60000] (p0) ?_
 refine ck (x2.1 == (1 : Int)) (fun h9 => ?_) (fun h9 => ?_)
 ·
  obtain ⟨x10, hx10⟩ := nm (Hq code x2.2.1 x2.2.2)
  refine qu Qa [] [7] [(3, [.o 320 x1.1.1.1, .o 321 x1.1.1.2.1, .i x1.1.1.2.2, .o 1216 x10.1, .o 323 x1.1.2.2]), (60000, [.h code, .i ((x10.2.1 : Nat) : Int), .i x10.2.2])] [3, 60000] (po 1 (.give none (.o 0 x10.1) [.h code, .i ((x10.2.1 : Nat) : Int), .i x10.2.2]) (px (Q3 (hx10 ▸ VX code x2.2.1 x2.2.2)) p0)) ?_
  refine sn Qa [0, 2] [2, 60000] (p0) ?_
  refine Bo [321] rfl ?_
  refine Qe ?_
  have hE11 : Ko code ci ch = ((x1.1.1, x10.1, x1.1.2.2), x10.2.1, x10.2.2) := Yo hx1 (Yo hx2 (Ql h3 (Q1 h9 (Yo hx10 (rfl)))))
  exact Hv [320] (congrArg (fun z => (.a [.h z.1.1.1, .q 0 z.1.1.2.1, .i z.1.1.2.2, .o 1 z.1.2.1, .o 2 z.1.2.2] : AV)) hE11.symm) (congrArg (fun z => ([.h code, .i ((z.2.1 : Nat) : Int), .i z.2.2] : List C)) hE11.symm)
 refine tu Qa [(21, .b (x2.1 == (2 : Int)))] [7] [] [] (p0) ?_
 refine ck (x2.1 == (2 : Int)) (fun h12 => ?_) (fun h12 => ?_)
 ·
  obtain ⟨x13, hx13⟩ := nm (W4 code x2.2.1 x2.2.2)
  refine rn Qa [0, 2, 3] [2, 3, 60000] (po 1 (.give none (.a [.h x13.1.1, .q 0 x13.1.2.1, .i x13.1.2.2]) [.h code, .i ((x13.2.1 : Nat) : Int), .i x13.2.2]) (px (Q3 (hx13 ▸ VT code x2.2.1 x2.2.2)) p0)) ?_
  refine tn Qa [0, 2] [2, 60000] (p0) ?_
  refine Qe ?_
  have hE14 : Ko code ci ch = ((x13.1, x1.1.2.1, x1.1.2.2), x13.2.1, x13.2.2) := Yo hx1 (Yo hx2 (Ql h3 (Ql h9 (Q1 h12 (Yo hx13 (rfl))))))
  exact Hv [] (congrArg (fun z => (.a [.h z.1.1.1, .q 0 z.1.1.2.1, .i z.1.1.2.2, .o 1 z.1.2.1, .o 2 z.1.2.2] : AV)) hE14.symm) (congrArg (fun z => ([.h code, .i ((z.2.1 : Nat) : Int), .i z.2.2] : List C)) hE14.symm)
 refine Qh ?_
 refine sn Qa [0, 2] [2, 60000] (p0) ?_
 refine Bo [321] rfl ?_
 refine Qe ?_
 have hE15 : Ko code ci ch = (x1.1, x2.2.1, x2.2.2) := Yo hx1 (Yo hx2 (Ql h3 (Ql h9 (Ql h12 (rfl)))))
 exact Hv [320] (congrArg (fun z => (.a [.h z.1.1.1, .q 0 z.1.1.2.1, .i z.1.1.2.2, .o 1 z.1.2.1, .o 2 z.1.2.2] : AV)) hE15.symm) (congrArg (fun z => ([.h code, .i ((z.2.1 : Nat) : Int), .i z.2.2] : List C)) hE15.symm)
open GoE (enc wide)
def Jv (d : (List Ys)) : Bool := ((Qz d)).2
theorem Cq (d : (List Ys)) : ACalls Tryz.prog 40 [.h d] (.b (Jv d)) := by
 refine en Qa Tryz.func40 fun w0 F0 hG => ?_
 refine sn Qa [0, 2] [] (p0) ?_
 refine tn Qa [2, 4] [] (pc 1 (KX d) p0) ?_
 refine tu Qa [(2, .b (((Qz d)).2))] [0] [] [] (p0) ?_
 refine Qe ?_
 exact pb [] (show Jv d = ((Qz d)).2 from rfl)
def Vm (x : Ys) (y_ : Qp) : Bool := (x.1.toList == y_.1.toList)
theorem Ru (x : Ys) (y_ : Qp) : ACalls Tryz.prog 68 [.a [.s x.1, .h x.2], .a [.s y_.1, .h y_.2]] (.b (Vm x y_)) := by
 refine en Qa Tryz.func68 fun w0 F0 hG => ?_
 refine sn Qa [2, 3, 4] [2, 3] (p0) ?_
 refine tn Qa [4] [] (p0) ?_
 refine Qe ?_
 exact pb [] (show Vm x y_ = (x.1.toList == y_.1.toList) from rfl)
def Ya (s2_ : (List Qp)) (k0 : Nat) (a0 : Ys) (_ : Unit) : Rd (Bool) (Unit) (Unit) := (bif (!(Vm a0 (nth s2_ k0))) then (.ret false) else (.next ()))
def Zk (_ : Nat) (_ : Unit) : Unit := ()
def Y8 (s1_ : (List Ys)) (s2_ : (List Qp)) : Bool := (bif ((s1_.length : Int) != (s2_.length : Int)) then false else (Out.on (Xp (Ya s2_) Zk s1_ 0 ()) (fun _ => true)))
theorem Af (s1_ : (List Ys)) (s2_ : (List Qp)) : ACalls Tryz.prog 67 [.h s1_, .h s2_, .one (.fnr 68 [])] (.b (Y8 s1_ s2_)) := by
 refine en Qa Tryz.func67 fun w0 F0 hG => ?_
 refine sn Qa [0, 1, 2, 6] [] (p0) ?_
 refine Qc ?_
 refine tn Qa [0, 1, 2, 6, 14] [] (pl 1 s1_ (pl 3 s2_ p0)) ?_
 refine ck ((s1_.length : Int) != (s2_.length : Int)) (fun h1 => ?_) (fun h1 => ?_)
 ·
  refine tu Qa [(6, .b false)] [] [] [] (p0) ?_
  refine Qe ?_
  exact pb [] (Q1 h1 (rfl))
 have h1d := V6 h1
 refine Qh ?_
 refine Qc ?_
 refine tu Qa [(6, .b false), (15, .h s1_), (16, .i (s1_.length : Int)), (17, .i 0)] [0] [] [] (pl 1 s1_ p0) ?_
 refine wT 15 0 .sh s1_ (fun hw2 hl3 => ?_)
 refine Ii (Ya s2_) Zk s1_ () (fun k0 _ => [(17, .i ((k0 : Nat) : Int))]) [17] (fun _ => []) [1, 2, 15, 16, 17] wf0 (fun k0 s0 hk0 hI0 => ?_) (fun k0 s0 hk0 hI0 => ?_) (fun y0 hD0 => ?_)
 ·
  obtain ⟨a0, hx0⟩ := Xr (l := s1_) (i := k0) hk0
  refine su Qa [(18, .b true)] [] [] [] (pe 0 (Qw (decide_eq_true (p := ((k0 : Nat) : Int) < (s1_.length : Int)) (by omega))) p0) ?_
  refine Qc ?_
  refine ckT ?_
  refine Qh ?_
  refine Qc ?_
  refine Qt ?_
  refine sn Qa [1, 2, 6, 7, 8, 15, 16, 17] [8] (pn 1 hx0 p0) ?_
  refine wT 1 0 .sh s2_ (fun hw5 hl6 => ?_)
  have hx4 := ng s2_ k0
  refine tn Qa [1, 2, 6, 8, 9, 15, 16, 17] [8, 9] (pn 2 hx4 p0) ?_
  refine tu Qa [(30, .b (!(Vm a0 (nth s2_ k0))))] [18] [] [] (pc 3 (Ru a0 (nth s2_ k0)) p0) ?_
  refine ck (!(Vm a0 (nth s2_ k0))) (fun h7 => ?_) (fun h7 => ?_)
  ·
   refine su Qa [] [30] [] [] (p0) ?_
   refine Qe ?_
   have hr8 : (Xp (Ya s2_) Zk s1_ 0 ()) = .ret false := Zt hx0 (Q1 h7 (rfl)) hI0
   exact pb [] (Ql h1 (Ie hr8))
  refine Qh ?_
  refine rn Qa [1, 2, 6, 15, 16, 17] [] (pe 0 (Jw (Qy k0 (by omega))) p0) ?_
  exact xw _ (Q0 hx0 (Ql h7 (rfl)) hI0)
 ·
  refine su Qa [(18, .b false)] [] [] [] (pe 0 (Qw (decide_eq_false (p := ((k0 : Nat) : Int) < (s1_.length : Int)) (by omega))) p0) ?_
  refine Qc ?_
  refine ckF ?_
  refine Q2 ?_
  exact xw _ (Xs hk0 (rfl) hI0)
 refine sn Qa [6] [] (p0) ?_
 refine Qe ?_
 exact pb [] (Ql h1 (Un hD0 (rfl)))
def Ui (d : (List Ys)) (r : (List Qp)) : Bool := (Y8 d r)
theorem Mj (d : (List Ys)) (r : (List Qp)) : ACalls Tryz.prog 41 [.h d, .h r] (.b (Ui d r)) := by
 refine en Qa Tryz.func41 fun w0 F0 hG => ?_
 refine sn Qa [0, 1, 4] [] (p0) ?_
 refine tn Qa [4] [] (pc 2 (Af d r) p0) ?_
 refine Qe ?_
 exact pb [] (show Ui d r = (Y8 d r) from rfl)
def X1 (c : Zh) : Bool := ((Y4 c.1) && ((Jv c.2.1) && ((Ui c.2.1 c.2.2) && (((X8 c).length : Int) == (0 : Int)))))
theorem Ye (c : Zh) : ACalls Tryz.prog 13 [.a [.h c.1.1, .h c.1.2.1, .i c.1.2.2, .h c.2.1, .h c.2.2]] (.b (X1 c)) := by
 refine en Qa Tryz.func13 fun w0 F0 hG => ?_
 refine sn Qa [1, 2] [1] (p0) ?_
 refine Qc ?_
 refine mz [(1, .p 1 0), (2, .b false)] [0] [(1, [.h c.1.1, .h c.1.2.1, .i c.1.2.2, .h c.2.1, .h c.2.2])] [] ?_
 refine jn [(2, .b ((Y4 c.1) && ((Jv c.2.1) && ((Ui c.2.1 c.2.2) && (((X8 c).length : Int) == (0 : Int))))))] [1, 2] [] [1] (Y4 c.1) (fun h1 => ?_) (fun h1 => ?_) ?_
 ·
  refine Q9 (Jv c.2.1) (fun h2 => ?_) (fun h2 => ?_)
  ·
   refine Q9 (Ui c.2.1 c.2.2) (fun h3 => ?_) (fun h3 => ?_)
   ·
    refine rn Qa [2] [] (pc 2 (cb h1 (Hz c.1)) (pc 6 (cb h2 (Cq c.2.1)) (pc 13 (cb h3 (Mj c.2.1 c.2.2)) (pc 17 (J7 c) (pl 18 (X8 c) p0))))) ?_
    exact ⟨rfl, Qf (by rw [h1, h2, h3] <;> kernel_rfl)⟩
   refine rn Qa [2] [] (pc 2 (cb h1 (Hz c.1)) (pc 6 (cb h2 (Cq c.2.1)) (pc 13 (cb h3 (Mj c.2.1 c.2.2)) p0))) ?_
   exact ⟨rfl, Qf (by rw [h1, h2, h3] <;> kernel_rfl)⟩
  refine rn Qa [2] [] (pc 2 (cb h1 (Hz c.1)) (pc 6 (cb h2 (Cq c.2.1)) p0)) ?_
  exact ⟨rfl, Qf (by rw [h1, h2] <;> kernel_rfl)⟩
 ·
  refine rn Qa [2] [] (pc 2 (cb h1 (Hz c.1)) p0) ?_
  exact ⟨rfl, Qf (by rw [h1] <;> kernel_rfl)⟩
 refine Qe ?_
 exact pb [] (show X1 c = ((Y4 c.1) && ((Jv c.2.1) && ((Ui c.2.1 c.2.2) && (((X8 c).length : Int) == (0 : Int))))) from rfl)
def Wx (l : Zh) (k0 : Nat) (a0 : Ys) (_ : Unit) : Rd (Bool) (Unit) (Unit) := (bif (!(((nth l.2.2 k0).1).toList == a0.1.toList)) then (.ret false) else (.next ()))
def U8 (_ : Nat) (_ : Unit) : Unit := ()
def V4 (l : Zh) : Bool := (bif ((!(Xe l.1)) || ((!(Xk l.2.1)) || ((l.2.2.length : Int) != (l.2.1.length : Int)))) then false else (Out.on (Xp (Wx l) U8 l.2.1 0 ()) (fun _ => (((Uh l).length : Int) == (0 : Int)))))
theorem Ff (l : Zh) : ACalls Tryz.prog 14 [.a [.h l.1.1, .h l.1.2.1, .i l.1.2.2, .h l.2.1, .h l.2.2]] (.b (V4 l)) := by
 refine en Qa Tryz.func14 fun w0 F0 hG => ?_
 refine sn Qa [1, 2] [1] (p0) ?_
 refine Qc ?_
 refine Qc ?_
 refine mz [(1, .p 1 0), (2, .b false)] [0] [(1, [.h l.1.1, .h l.1.2.1, .i l.1.2.2, .h l.2.1, .h l.2.2])] [] ?_
 refine jn [(22, .b ((!(Xe l.1)) || ((!(Xk l.2.1)) || ((l.2.2.length : Int) != (l.2.1.length : Int)))))] [] [] [] (!(Xe l.1)) (fun h1 => ?_) (fun h1 => ?_) ?_
 ·
  have h1n : (Xe l.1) = false := Be h1
  refine rn Qa [1, 2, 22] [1] (pc 2 (cb h1n (Jj l.1)) (pe 3 (show .b (!false) = .b true from rfl) p0)) ?_
  exact ⟨rfl, Qf (by rw [h1] <;> kernel_rfl)⟩
 ·
  have h1n : (Xe l.1) = true := Vd h1
  refine Q9 (!(Xk l.2.1)) (fun h2 => ?_) (fun h2 => ?_)
  ·
   have h2n : (Xk l.2.1) = false := Be h2
   refine rn Qa [1, 2, 22] [1] (pc 2 (cb h1n (Jj l.1)) (pe 3 (show .b (!true) = .b false from rfl) (pc 7 (cb h2n (Cm l.2.1)) (pe 8 (show .b (!false) = .b true from rfl) p0)))) ?_
   exact ⟨rfl, Qf (by rw [h1, h2] <;> kernel_rfl)⟩
  have h2n : (Xk l.2.1) = true := Vd h2
  refine rn Qa [1, 2, 22] [1] (pc 2 (cb h1n (Jj l.1)) (pe 3 (show .b (!true) = .b false from rfl) (pc 7 (cb h2n (Cm l.2.1)) (pe 8 (show .b (!true) = .b false from rfl) (pl 13 l.2.2 (pl 16 l.2.1 p0)))))) ?_
  exact ⟨rfl, Qf (by rw [h1, h2] <;> kernel_rfl)⟩
 refine ck ((!(Xe l.1)) || ((!(Xk l.2.1)) || ((l.2.2.length : Int) != (l.2.1.length : Int)))) (fun h3 => ?_) (fun h3 => ?_)
 ·
  refine sn Qa [1, 2] [1] (p0) ?_
  refine Qe ?_
  exact pb [] (Q1 h3 (rfl))
 have h3r : (((!(Xk l.2.1)) || ((l.2.2.length : Int) != (l.2.1.length : Int)))) = false := UH h3
 have h3rr : (((l.2.2.length : Int) != (l.2.1.length : Int))) = false := UH h3r
 have h3rrd := V6 h3rr
 refine Qh ?_
 refine Qc ?_
 refine sn Qa [1, 2, 3] [1] (p0) ?_
 refine mz [(3, .i 0)] [22] [] [] ?_
 refine wB 1 3 .sh l.2.1 (fun hw4 hl5 => ?_)
 refine Ii (Wx l) U8 l.2.1 () (fun k0 _ => [(3, .i ((k0 : Nat) : Int))]) [3] (fun _ => []) [3] wf0 (fun k0 s0 hk0 hI0 => ?_) (fun k0 s0 hk0 hI0 => ?_) (fun y0 hD0 => ?_)
 ·
  obtain ⟨a0, hx0⟩ := Xr (l := l.2.1) (i := k0) hk0
  refine Qc ?_
  refine sn Qa [1, 2, 3, 27] [1] (pl 3 l.2.1 (pe 4 (Qw (decide_eq_true (p := ((k0 : Nat) : Int) < (l.2.1.length : Int)) (by omega))) p0)) ?_
  refine ckT ?_
  refine Qh ?_
  refine Qc ?_
  refine Qt ?_
  refine wB 1 4 .sh l.2.2 (fun hw7 hl8 => ?_)
  have hx6 := ng l.2.2 k0
  refine tN Qa Yc [1, 2, 3, 42] [1] (pn 3 hx6 (pn 9 hx0 p0)) ?_
  refine ck (!(((nth l.2.2 k0).1).toList == a0.1.toList)) (fun h9 => ?_) (fun h9 => ?_)
  ·
   refine tu Qa [] [] [] [] (p0) ?_
   refine Qe ?_
   have hr10 : (Xp (Wx l) U8 l.2.1 0 ()) = .ret false := Zt hx0 (Q1 h9 (rfl)) hI0
   exact pb [] (Ql h3 (Ie hr10))
  refine Qh ?_
  refine qu Qa [(3, .i ((k0 + 1 : Nat) : Int))] [3] [] [] (pe 1 (Jw (Qy k0 (by omega))) p0) ?_
  exact xw _ (Q0 hx0 (Ql h9 (rfl)) hI0)
 ·
  refine Qc ?_
  refine sn Qa [1, 2, 3, 27] [1] (pl 3 l.2.1 (pe 4 (Qw (decide_eq_false (p := ((k0 : Nat) : Int) < (l.2.1.length : Int)) (by omega))) p0)) ?_
  refine ckF ?_
  refine Q2 ?_
  exact xw _ (Xs hk0 (rfl) hI0)
 refine sn Qa [2] [] (pc 1 (Mi l) (pl 2 (Uh l) p0)) ?_
 refine Qe ?_
 exact pb [] (Ql h3 (Un hD0 (rfl)))
theorem T5 (c : Zh) : Uh c = X8 c := by
  unfold Uh X8
  rw [show K1 c = Z4 c from by funext s; unfold K1 Z4; rw [Fe]]
  rfl
theorem JF (d : List Ys) : Xk d = Jv d := by
  unfold Xk Jv
  rw [Vp]
theorem BH (c : Zh) (X : Bool) : ∀ (l : List Ys) (k : Nat), ((Xp (Wx c) U8 l k ()).on fun _ => X) = (((Xp (Ya c.2.2) Zk l k ()).on fun _ => true) && X)
  | [], k => by cases X <;> rfl
  | a :: l, k => by
    have h : ((nth c.2.2 k).1.toList == a.1.toList) = Vm a (nth c.2.2 k) := by
      unfold Vm
      rw [Bool.eq_iff_iff]; simp only [beq_iff_eq]; exact eq_comm
    simp only [Xp, Wx, Ya, h]
    cases Vm a (nth c.2.2 k) with
    | false => rfl
    | true => exact BH c X l (k + 1)
theorem T6 (c : Zh) : V4 c = X1 c := by
  unfold V4 X1 Ui Y8
  rw [BH, R7, JF, T5]
  have h : ((c.2.2.length : Int) != (c.2.1.length : Int)) = ((c.2.1.length : Int) != (c.2.2.length : Int)) := by
    rw [Bool.eq_iff_iff]; simp only [bne_iff_ne, ne_eq]; exact not_congr eq_comm
  rw [h]
  generalize (Out.on _ _ : Bool) = x
  cases Y4 c.1 <;> cases Jv c.2.1 <;> cases ((c.2.1.length : Int) != (c.2.2.length : Int)) <;> cases x <;> rfl
open GoE (enc wide)
def Wy (b : (List Qp)) (k0 : Nat) (a0 : Qp) (_ : Unit) : Rd (Bool) (Unit) (Unit) := (bif ((!(a0.1.toList == ((nth b k0).1).toList)) || (!(Yx a0.2 ((nth b k0).2)))) then (.ret false) else (.next ()))
def U9 (_ : Nat) (_ : Unit) : Unit := ()
def Hj (a_ : (List Qp)) (b : (List Qp)) : Bool := (bif ((a_.length : Int) != (b.length : Int)) then false else (Out.on (Xp (Wy b) U9 a_ 0 ()) (fun _ => true)))
theorem Pb (a_ : (List Qp)) (b : (List Qp)) : ACalls Tryz.prog 47 [.h a_, .h b] (.b (Hj a_ b)) := by
 refine en Qa Tryz.func47 fun w0 F0 hG => ?_
 refine sn Qa [0, 1, 4] [] (p0) ?_
 refine Qc ?_
 refine tn Qa [0, 1, 4, 10] [] (pl 1 a_ (pl 3 b p0)) ?_
 refine ck ((a_.length : Int) != (b.length : Int)) (fun h1 => ?_) (fun h1 => ?_)
 ·
  refine tu Qa [(4, .b false)] [] [] [] (p0) ?_
  refine Qe ?_
  exact pb [] (Q1 h1 (rfl))
 have h1d := V6 h1
 refine Qh ?_
 refine Qc ?_
 refine tu Qa [(4, .b false), (5, .i 0)] [] [] [] (p0) ?_
 refine wT 0 0 .sh a_ (fun hw2 hl3 => ?_)
 refine Ii (Wy b) U9 a_ () (fun k0 _ => [(5, .i ((k0 : Nat) : Int))]) [5] (fun _ => []) [0, 1, 5] wf0 (fun k0 s0 hk0 hI0 => ?_) (fun k0 s0 hk0 hI0 => ?_) (fun y0 hD0 => ?_)
 ·
  obtain ⟨a0, hx0⟩ := Xr (l := a_) (i := k0) hk0
  refine Qc ?_
  refine sn Qa [0, 1, 4, 5, 14] [] (pl 2 a_ (pe 3 (Qw (decide_eq_true (p := ((k0 : Nat) : Int) < (a_.length : Int)) (by omega))) p0)) ?_
  refine ckT ?_
  refine Qh ?_
  refine Qc ?_
  refine Qt ?_
  refine Qc ?_
  refine mz [(14, .b true)] [] [] [] ?_
  refine jn [(41, .b ((!(a0.1.toList == ((nth b k0).1).toList)) || (!(Yx a0.2 ((nth b k0).2)))))] [14] [] [] (!(a0.1.toList == ((nth b k0).1).toList)) (fun h4 => ?_) (fun h4 => ?_) ?_
  ·
   refine wT 1 0 .sh b (fun hw6 hl7 => ?_)
   have hx5 := ng b k0
   refine rN Qa Yc [0, 1, 4, 5, 41] [] (pn 2 hx0 (pn 7 hx5 (pt 10 h4 p0))) ?_
   exact ⟨rfl, Qf (by rw [h4] <;> kernel_rfl)⟩
  ·
   refine wT 1 0 .sh b (fun hw9 hl10 => ?_)
   have hx8 := ng b k0
   refine rN Qa Yc [0, 1, 4, 5, 41] [] (pn 2 hx0 (pn 7 hx8 (pf 10 h4 (pn 14 hx0 (pn 19 hx8 (pc 22 (Cb a0.2 ((nth b k0).2)) p0)))))) ?_
   exact ⟨rfl, Qf (by rw [h4] <;> kernel_rfl)⟩
  refine ck ((!(a0.1.toList == ((nth b k0).1).toList)) || (!(Yx a0.2 ((nth b k0).2)))) (fun h11 => ?_) (fun h11 => ?_)
  ·
   refine su Qa [] [41] [] [] (p0) ?_
   refine Qe ?_
   have hr12 : (Xp (Wy b) U9 a_ 0 ()) = .ret false := Zt hx0 (Q1 h11 (rfl)) hI0
   exact pb [] (Ql h1 (Ie hr12))
  refine Qh ?_
  refine rn Qa [0, 1, 4, 5] [] (pe 1 (Jw (Qy k0 (by omega))) p0) ?_
  exact xw _ (Q0 hx0 (Ql h11 (rfl)) hI0)
 ·
  refine Qc ?_
  refine sn Qa [0, 1, 4, 5, 14] [] (pl 2 a_ (pe 3 (Qw (decide_eq_false (p := ((k0 : Nat) : Int) < (a_.length : Int)) (by omega))) p0)) ?_
  refine ckF ?_
  refine Q2 ?_
  exact xw _ (Xs hk0 (rfl) hI0)
 refine sn Qa [4] [] (p0) ?_
 refine Qe ?_
 exact pb [] (Ql h1 (Un hD0 (rfl)))
def Kg (l : Zh) : Bool := (((Zi l.1 l.2.1)).2 && (Hj (((Zi l.1 l.2.1)).1) l.2.2))
theorem Wz (l : Zh) : ACalls Tryz.prog 20 [.a [.h l.1.1, .h l.1.2.1, .i l.1.2.2, .h l.2.1, .h l.2.2]] (.b (Kg l)) := by
 refine en Qa Tryz.func20 fun w0 F0 hG => ?_
 refine sn Qa [1, 2] [1] (p0) ?_
 refine tn Qa [1, 2, 3, 4] [1] (pc 4 (Md l.1 l.2.1) p0) ?_
 refine Qc ?_
 refine mz [(1, .p 1 0), (2, .b false), (3, .o 640 (((Zi l.1 l.2.1)).1)), (4, .b (((Zi l.1 l.2.1)).2))] [0] [(1, [.h l.1.1, .h l.1.2.1, .i l.1.2.2, .h l.2.1, .h l.2.2])] [] ?_
 refine jn [(2, .b (((Zi l.1 l.2.1)).2 && (Hj (((Zi l.1 l.2.1)).1) l.2.2)))] [1, 2, 3, 4] [] [1] (((Zi l.1 l.2.1)).2) (fun h1 => ?_) (fun h1 => ?_) ?_
 ·
  refine rn Qa [2] [] (pt 0 h1 (pc 5 (Pb (((Zi l.1 l.2.1)).1) l.2.2) p0)) ?_
  exact ⟨rfl, Qf (by rw [h1] <;> kernel_rfl)⟩
 ·
  refine rn Qa [2] [] (pf 0 h1 p0) ?_
  exact ⟨rfl, Qf (by rw [h1] <;> kernel_rfl)⟩
 refine Qe ?_
 exact pb [] (show Kg l = (((Zi l.1 l.2.1)).2 && (Hj (((Zi l.1 l.2.1)).1) l.2.2)) from rfl)
def Bn (b : (List ByteArray)) (k0 : Nat) (a0 : ByteArray) (_ : Unit) : Rd (Bool) (Unit) (Unit) := (bif (!(a0.toList == (nth b k0).toList)) then (.ret false) else (.next ()))
def D1 (_ : Nat) (_ : Unit) : Unit := ()
def Wb (a_ : (List ByteArray)) (b : (List ByteArray)) : Bool := (bif ((a_.length : Int) != (b.length : Int)) then false else (Out.on (Xp (Bn b) D1 a_ 0 ()) (fun _ => true)))
theorem Le (a_ : (List ByteArray)) (b : (List ByteArray)) : ACalls Tryz.prog 15 [.h a_, .h b] (.b (Wb a_ b)) := by
 refine en Qa Tryz.func15 fun w0 F0 hG => ?_
 refine sn Qa [0, 1, 4] [] (p0) ?_
 refine Qc ?_
 refine tn Qa [0, 1, 4, 10] [] (pl 1 a_ (pl 3 b p0)) ?_
 refine ck ((a_.length : Int) != (b.length : Int)) (fun h1 => ?_) (fun h1 => ?_)
 ·
  refine tu Qa [(4, .b false)] [] [] [] (p0) ?_
  refine Qe ?_
  exact pb [] (Q1 h1 (rfl))
 have h1d := V6 h1
 refine Qh ?_
 refine Qc ?_
 refine tu Qa [(4, .b false), (5, .i 0)] [] [] [] (p0) ?_
 refine wT 0 0 .sh a_ (fun hw2 hl3 => ?_)
 refine Ii (Bn b) D1 a_ () (fun k0 _ => [(5, .i ((k0 : Nat) : Int))]) [5] (fun _ => []) [0, 1, 5] wf0 (fun k0 s0 hk0 hI0 => ?_) (fun k0 s0 hk0 hI0 => ?_) (fun y0 hD0 => ?_)
 ·
  obtain ⟨a0, hx0⟩ := Xr (l := a_) (i := k0) hk0
  refine Qc ?_
  refine sn Qa [0, 1, 4, 5, 14] [] (pl 2 a_ (pe 3 (Qw (decide_eq_true (p := ((k0 : Nat) : Int) < (a_.length : Int)) (by omega))) p0)) ?_
  refine ckT ?_
  refine Qh ?_
  refine Qc ?_
  refine Qt ?_
  refine wT 1 0 .sh b (fun hw5 hl6 => ?_)
  have hx4 := ng b k0
  refine tN Qa Yc [0, 1, 4, 5, 25] [] (pn 2 hx0 (pn 6 hx4 p0)) ?_
  refine ck (!(a0.toList == (nth b k0).toList)) (fun h7 => ?_) (fun h7 => ?_)
  ·
   refine tu Qa [] [] [] [] (p0) ?_
   refine Qe ?_
   have hr8 : (Xp (Bn b) D1 a_ 0 ()) = .ret false := Zt hx0 (Q1 h7 (rfl)) hI0
   exact pb [] (Ql h1 (Ie hr8))
  refine Qh ?_
  refine qu Qa [(5, .i ((k0 + 1 : Nat) : Int))] [5] [] [] (pe 1 (Jw (Qy k0 (by omega))) p0) ?_
  exact xw _ (Q0 hx0 (Ql h7 (rfl)) hI0)
 ·
  refine Qc ?_
  refine sn Qa [0, 1, 4, 5, 14] [] (pl 2 a_ (pe 3 (Qw (decide_eq_false (p := ((k0 : Nat) : Int) < (a_.length : Int)) (by omega))) p0)) ?_
  refine ckF ?_
  refine Q2 ?_
  exact xw _ (Xs hk0 (rfl) hI0)
 refine sn Qa [4] [] (p0) ?_
 refine Qe ?_
 exact pb [] (Ql h1 (Un hD0 (rfl)))
def Jl (a_ : Ve) (b : Ve) : Bool := ((a_.1 == b.1) && (Wb a_.2 b.2))
theorem Jg (a_ : Ve) (b : Ve) : ACalls Tryz.prog 10 [.a [.i a_.1, .h a_.2], .a [.i b.1, .h b.2]] (.b (Jl a_ b)) := by
 refine en Qa Tryz.func10 fun w0 F0 hG => ?_
 refine sn Qa [2, 3, 4] [2, 3] (p0) ?_
 refine Qc ?_
 refine mz [(2, .p 2 0), (3, .p 3 0), (4, .b false)] [0, 1] [(2, [.i a_.1, .h a_.2]), (3, [.i b.1, .h b.2])] [] ?_
 refine jn [(4, .b ((a_.1 == b.1) && (Wb a_.2 b.2)))] [2, 3, 4] [] [2, 3] (a_.1 == b.1) (fun h1 => ?_) (fun h1 => ?_) ?_
 ·
  refine rn Qa [4] [] (pt 4 h1 (pc 10 (Le a_.2 b.2) p0)) ?_
  exact ⟨rfl, Qf (by rw [h1] <;> kernel_rfl)⟩
 ·
  refine rn Qa [4] [] (pf 4 h1 p0) ?_
  exact ⟨rfl, Qf (by rw [h1] <;> kernel_rfl)⟩
 refine Qe ?_
 exact pb [] (show Jl a_ b = ((a_.1 == b.1) && (Wb a_.2 b.2)) from rfl)
def Qb (code : (List UInt8)) : Zh × Ve := (lt (Va code) (fun x1 => (lt (Y2 code x1.1 x1.2 [0, 1, 2, 3, -1, 9223372036854775807]) (fun x2 => (lt (Yk code x2.2.1 x2.2.2 3) (fun x3 => (bif x3.1 then (lt (Ko code x3.2.1 x3.2.2) (fun x5 => (x5.1, (x2.1, [(⟨#[122, 122]⟩ : ByteArray)])))) else (lt (Ko code x3.2.1 x3.2.2) (fun x6 => (x6.1, (x2.1, [])))))))))))
theorem Nk (code : (List UInt8)) : ACalls Tryz.prog 5 [.h code] (.tup [(true, [.h ((((Qb code)).1).1.1), .q 0 ((((Qb code)).1).1.2.1), .i ((((Qb code)).1).1.2.2), .o 1 ((((Qb code)).1).2.1), .o 2 ((((Qb code)).1).2.2)]), (true, [.i ((((Qb code)).2).1), .o 3 ((((Qb code)).2).2)])]) := by
 refine en Qa Tryz.func5 fun w0 F0 hG => ?_
 refine sn Qa [0, 2, 3] [2, 3] (p0) ?_
 obtain ⟨x1, hx1⟩ := nm (Va code)
 refine tn Qa [2, 3, 4] [2, 3, 7] (po 1 (.new [.h code, .i ((x1.1 : Nat) : Int), .i x1.2]) (px (HP (hx1 ▸ Fd code)) p0)) ?_
 obtain ⟨x2, hx2⟩ := nm (Y2 code x1.1 x1.2 [0, 1, 2, 3, -1, 9223372036854775807])
 refine tu Qa [(2, .p 2 0), (3, .p 3 0), (4, .p 7 0), (5, .p 5 0)] [0] [(2, [.e 2, .e 5, .i 0, .e 2, .e 2]), (3, [.i 0, .e 1]), (5, [.i x2.1, .e 1]), (7, [.h code, .i ((x2.2.1 : Nat) : Int), .i x2.2.2])] [] (po 2 (.give none (.i x2.1) [.h code, .i ((x2.2.1 : Nat) : Int), .i x2.2.2]) (px (Q3 (hx2 ▸ V3 code x1.1 x1.2 [0, 1, 2, 3, -1, 9223372036854775807] (Nat.zero_lt_succ _))) p0)) ?_
 refine Qc ?_
 obtain ⟨x3, hx3⟩ := nm (Yk code x2.2.1 x2.2.2 3)
 refine sn Qa [2, 3, 4, 5, 13] [2, 3, 5, 7] (po 1 (.give none (.b x3.1) [.h code, .i ((x3.2.1 : Nat) : Int), .i x3.2.2]) (px (Q3 (hx3 ▸ Kx code x2.2.1 x2.2.2 3)) p0)) ?_
 refine ck x3.1 (fun h4 => ?_) (fun h4 => ?_)
 ·
  refine qn Qa [2, 3, 4, 5] [2, 3, 5, 7] (p0) ?_
  obtain ⟨x5, hx5⟩ := nm (Ko code x3.2.1 x3.2.2)
  refine tU Qa Yc [] [4, 5] [(2, [.h x5.1.1.1, .q 1088 x5.1.1.2.1, .i x5.1.1.2.2, .o 1089 x5.1.2.1, .o 1090 x5.1.2.2]), (3, [.i x2.1, .o 896 [(⟨#[122, 122]⟩ : ByteArray)]])] [2, 3, 5, 7] (po 1 (.give none (.a [.h x5.1.1.1, .q 0 x5.1.1.2.1, .i x5.1.1.2.2, .o 1 x5.1.2.1, .o 2 x5.1.2.2]) [.h code, .i ((x5.2.1 : Nat) : Int), .i x5.2.2]) (px (Q3 (hx5 ▸ Ld code x3.2.1 x3.2.2)) p0)) ?_
  refine Qe ?_
  exact pz [] (show Qb code = _ from Yo hx1 (Yo hx2 (Yo hx3 (Q1 h4 (Yo hx5 (rfl)))))) (fun z => .tup [(true, [.h z.1.1.1, .q 0 z.1.1.2.1, .i z.1.1.2.2, .o 1 z.1.2.1, .o 2 z.1.2.2]), (true, [.i z.2.1, .o 3 z.2.2])])
 refine Qh ?_
 obtain ⟨x6, hx6⟩ := nm (Ko code x3.2.1 x3.2.2)
 refine tN Qa Yc [2, 3] [2, 3] (po 1 (.give none (.a [.h x6.1.1.1, .q 0 x6.1.1.2.1, .i x6.1.1.2.2, .o 1 x6.1.2.1, .o 2 x6.1.2.2]) [.h code, .i ((x6.2.1 : Nat) : Int), .i x6.2.2]) (px (Q3 (hx6 ▸ Ld code x3.2.1 x3.2.2)) p0)) ?_
 refine opn [(true, 3, 1, true, 384000, 1)] ?_
 refine Qe ?_
 exact pz [] (show Qb code = _ from Yo hx1 (Yo hx2 (Yo hx3 (Ql h4 (Yo hx6 (rfl)))))) (fun z => .tup [(true, [.h z.1.1.1, .q 0 z.1.1.2.1, .i z.1.1.2.2, .o 1 z.1.2.1, .o 2 z.1.2.2]), (true, [.i z.2.1, .o 3 z.2.2])])
def Qi (code : (List UInt8)) : Xo × (List Qn) := (lt (Va code) (fun x1 => (lt (Y6 code x1.1 x1.2) (fun x2 => (lt (Yk code x2.2.1 x2.2.2 2) (fun x3 => (bif x3.1 then (x2.1, (Yf x2.1)) else (lt (Y6 code x3.2.1 x3.2.2) (fun x5 => (x2.1, (Yf x5.1)))))))))))
theorem Lz (code : (List UInt8)) : ACalls Tryz.prog 8 [.h code] (.tup [(true, [.h ((((Qi code)).1).1), .h ((((Qi code)).1).2.1), .i ((((Qi code)).1).2.2)]), (false, [.q 0 (((Qi code)).2)])]) := by
 refine en Qa Tryz.func8 fun w0 F0 hG => ?_
 refine sn Qa [0, 2, 3] [2] (p0) ?_
 obtain ⟨x1, hx1⟩ := nm (Va code)
 refine tn Qa [2, 3, 4] [2, 7] (po 1 (.new [.h code, .i ((x1.1 : Nat) : Int), .i x1.2]) (px (HP (hx1 ▸ Fd code)) p0)) ?_
 obtain ⟨x2, hx2⟩ := nm (Y6 code x1.1 x1.2)
 have hatx2 := Tz code x1.1 x1.2
 rw [hx2] at hatx2
 refine tu Qa [(2, .p 2 0), (3, .e 0), (4, .p 7 0), (5, .p 5 0)] [0] [(2, [.e 2, .e 5, .i 0]), (5, [.o 576 x2.1.1, .q 577 x2.1.2.1, .i x2.1.2.2]), (7, [.h code, .i ((x2.2.1 : Nat) : Int), .i x2.2.2])] [] (po 1 (.give none (.a [.o 0 x2.1.1, .q 1 x2.1.2.1, .i x2.1.2.2]) [.h code, .i ((x2.2.1 : Nat) : Int), .i x2.2.2]) (px (Q3 (hx2 ▸ Di code x1.1 x1.2)) p0)) ?_
 refine Qc ?_
 obtain ⟨x3, hx3⟩ := nm (Yk code x2.2.1 x2.2.2 2)
 refine sn Qa [2, 3, 4, 5, 11] [2, 5, 7] (po 1 (.give none (.b x3.1) [.h code, .i ((x3.2.1 : Nat) : Int), .i x3.2.2]) (px (Q3 (hx3 ▸ Kx code x2.2.1 x2.2.2 2)) p0)) ?_
 refine ck x3.1 (fun h4 => ?_) (fun h4 => ?_)
 ·
  refine mz [(11, .b x3.1)] [] [(7, [.h code, .i ((x3.2.1 : Nat) : Int), .i x3.2.2])] [7] ?_
  refine Ez (H3 [576, 577] rfl) ?_
  refine sN Qa Yc [2, 3, 4, 5] [2, 5, 7] (pc 2 (V2 x2.1 (Nat.le_trans hatx2 (by decide))) p0) ?_
  refine Qe ?_
  exact pz [] (show Qi code = _ from Yo hx1 (Yo hx2 (Yo hx3 (Q1 h4 (rfl))))) (fun z => .tup [(true, [.h z.1.1, .h z.1.2.1, .i z.1.2.2]), (false, [.q 0 z.2])])
 refine Qh ?_
 obtain ⟨x5, hx5⟩ := nm (Y6 code x3.2.1 x3.2.2)
 have hatx5 := Tz code x3.2.1 x3.2.2
 rw [hx5] at hatx5
 refine tN Qa Yc [2, 3] [2] (po 2 (.give none (.a [.o 0 x5.1.1, .q 1 x5.1.2.1, .i x5.1.2.2]) [.h code, .i ((x5.2.1 : Nat) : Int), .i x5.2.2]) (px (Q3 (hx5 ▸ Di code x3.2.1 x3.2.2)) (pc 3 (V2 x5.1 (Nat.le_trans hatx5 (by decide))) p0))) ?_
 refine Qe ?_
 exact pz [576, 577] (show Qi code = _ from Yo hx1 (Yo hx2 (Yo hx3 (Ql h4 (Yo hx5 (rfl)))))) (fun z => .tup [(true, [.h z.1.1, .h z.1.2.1, .i z.1.2.2]), (false, [.q 0 z.2])])
def Qk (code : (List UInt8)) : Zh := (lt (Va code) (fun x1 => (lt (Ko code x1.1 x1.2) (fun x2 => x2.1))))
theorem Ig (code : (List UInt8)) : ACalls Tryz.prog 9 [.h code] (.a [.h ((Qk code).1.1), .q 0 ((Qk code).1.2.1), .i ((Qk code).1.2.2), .o 1 ((Qk code).2.1), .o 2 ((Qk code).2.2)]) := by
 refine en Qa Tryz.func9 fun w0 F0 hG => ?_
 refine sn Qa [0, 2] [2] (p0) ?_
 obtain ⟨x1, hx1⟩ := nm (Va code)
 obtain ⟨x2, hx2⟩ := nm (Ko code x1.1 x1.2)
 refine tn Qa [2] [2] (po 1 (.new [.h code, .i ((x1.1 : Nat) : Int), .i x1.2]) (px (HP (hx1 ▸ Fd code)) (po 2 (.give none (.a [.h x2.1.1.1, .q 0 x2.1.1.2.1, .i x2.1.1.2.2, .o 1 x2.1.2.1, .o 2 x2.1.2.2]) [.h code, .i ((x2.2.1 : Nat) : Int), .i x2.2.2]) (px (Q3 (hx2 ▸ Ld code x1.1 x1.2)) p0)))) ?_
 refine Qe ?_
 exact pz [] (show Qk code = _ from Yo hx1 (Yo hx2 (rfl))) (fun z => .a [.h z.1.1, .q 0 z.1.2.1, .i z.1.2.2, .o 1 z.2.1, .o 2 z.2.2])
def Qu (code : (List UInt8)) : Zh := (lt (Va code) (fun x1 => (lt (J3 code x1.1 x1.2) (fun x2 => x2.1))))
theorem P7 (code : (List UInt8)) : ACalls Tryz.prog 18 [.h code] (.a [.o 0 ((Qu code).1.1), .o 1 ((Qu code).1.2.1), .i ((Qu code).1.2.2), .o 2 ((Qu code).2.1), .o 3 ((Qu code).2.2)]) := by
 refine en Qa Tryz.func18 fun w0 F0 hG => ?_
 refine sn Qa [0, 2] [2] (p0) ?_
 obtain ⟨x1, hx1⟩ := nm (Va code)
 obtain ⟨x2, hx2⟩ := nm (J3 code x1.1 x1.2)
 refine tn Qa [2] [2] (po 1 (.new [.h code, .i ((x1.1 : Nat) : Int), .i x1.2]) (px (HP (hx1 ▸ Fd code)) (po 2 (.give none (.a [.o 0 x2.1.1.1, .o 1 x2.1.1.2.1, .i x2.1.1.2.2, .o 2 x2.1.2.1, .o 3 x2.1.2.2]) [.h code, .i ((x2.2.1 : Nat) : Int), .i x2.2.2]) (px (Q3 (hx2 ▸ Pa code x1.1 x1.2)) p0)))) ?_
 refine Qe ?_
 exact pz [] (show Qu code = _ from Yo hx1 (Yo hx2 (rfl))) (fun z => .a [.o 0 z.1.1, .o 1 z.1.2.1, .i z.1.2.2, .o 2 z.2.1, .o 3 z.2.2])
theorem CX (code : List UInt8) : ((Qb code).2.2.length : Int) ≤ 1 := by
  unfold Qb lt
  dsimp only
  cases (Yk code _ _ 3).1 with
  | true => exact Int.le_refl _
  | false => show ((0 : Nat) : Int) ≤ 1; decide
theorem WC (code : List UInt8) : Cn (Qi code).1.2.1 ≤ 1000000000 := by
  unfold Qi lt
  dsimp only
  have h := Nat.le_trans (Tz code (Va code).1 (Va code).2) (show 100 ≤ 1000000000 by decide)
  generalize (Yk code _ _ 2).1 = b
  cases b with
  | true => exact h
  | false => exact h
open GoE (enc wide)
def T7 (code : (List UInt8)) : Bool := decide ((code.length : Int) > (1048576 : Int))
theorem lawsbig_a (code : (List UInt8)) : ACalls Tryz.prog 4 [.h code] (.b (T7 code)) := by
 refine en Qa Tryz.func4 fun w0 F0 hG => ?_
 refine sn Qa [0, 2] [] (p0) ?_
 refine tn Qa [2] [] (pl 1 code p0) ?_
 refine Qe ?_
 exact pb [] (show T7 code = decide ((code.length : Int) > (1048576 : Int)) from rfl)
def G3 (code : (List UInt8)) : Bool := (bif (T7 code) then true else (bif ((!((((Qr (((Qb code)).1) (((Qb code)).2))).2) == (((Xi (((Qb code)).1) (((Qb code)).2))).2))) || ((!(Jl (((Qr (((Qb code)).1) (((Qb code)).2))).1) (((Xi (((Qb code)).1) (((Qb code)).2))).1))) || ((!((Yw (((Qi code)).1) (((Qi code)).2)) == (Wh (((Qi code)).1) (((Qi code)).2)))) || ((!((X1 (Qk code)) == (V4 (Qk code)))) || (!(Wb (X8 (Qk code)) (Uh (Qk code)))))))) then false else ((X1 (Qu code)) && ((((X8 (Qu code)).length : Int) == (0 : Int)) && ((Jl Yj (0, [])) && (bif (!(Kg (Qk code))) then (bif (!(((Qr (((Qb code)).1) (((Qb code)).2))).2)) then (Yw (((Qi code)).1) (Yf (((Qi code)).1))) else (((((Qr (((Qb code)).1) (((Qb code)).2))).1).1 == IntKind.i64.wrap ((((Qb code)).2).1 + 1)) && (Yw (((Qi code)).1) (Yf (((Qi code)).1))))) else ((X1 (Qk code)) && (bif (!(((Qr (((Qb code)).1) (((Qb code)).2))).2)) then (Yw (((Qi code)).1) (Yf (((Qi code)).1))) else (((((Qr (((Qb code)).1) (((Qb code)).2))).1).1 == IntKind.i64.wrap ((((Qb code)).2).1 + 1)) && (Yw (((Qi code)).1) (Yf (((Qi code)).1))))))))))))
theorem T8 (code : (List UInt8)) : ACalls Tryz.prog 3 [.h code] (.b (G3 code)) := by
 refine en Qa Tryz.func3 fun w0 F0 hG => ?_
 have hcs := CX code
 have hci := WC code
 refine sn Qa [0, 2] [] (p0) ?_
 refine Qc ?_
 refine tn Qa [0, 2, 14] [] (pc 1 (lawsbig_a code) p0) ?_
 refine ck (T7 code) (fun h1 => ?_) (fun h1 => ?_)
 ·
  refine tu Qa [(2, .b true)] [] [] [] (p0) ?_
  refine Qe ?_
  exact pb [] (Q1 h1 (rfl))
 refine Qh ?_
 refine tu Qa [(2, .b false), (3, .p 3 0), (4, .p 4 0)] [] [(3, [.h ((((Qb code)).1).1.1), .q 1088 ((((Qb code)).1).1.2.1), .i ((((Qb code)).1).1.2.2), .o 1089 ((((Qb code)).1).2.1), .o 1090 ((((Qb code)).1).2.2)]), (4, [.i ((((Qb code)).2).1), .o 1091 ((((Qb code)).2).2)])] [] (pc 1 (Nk code) p0) ?_
 refine sn Qa [0, 2, 3, 4, 5, 6] [3, 4, 5] (pc 2 (Lb (((Qb code)).1) (((Qb code)).2) (by omega)) p0) ?_
 refine tn Qa [0, 2, 4, 5, 6, 7, 8] [4, 5, 7] (pc 2 (Lc (((Qb code)).1) (((Qb code)).2) (by omega)) p0) ?_
 refine tu Qa [(5, .p 5 0), (6, .b (((Qr (((Qb code)).1) (((Qb code)).2))).2)), (7, .p 7 0), (8, .b (((Xi (((Qb code)).1) (((Qb code)).2))).2)), (9, .p 9 0), (10, .q 2176 (((Qi code)).2))] [3] [(5, [.i ((((Qr (((Qb code)).1) (((Qb code)).2))).1).1), .o 1472 ((((Qr (((Qb code)).1) (((Qb code)).2))).1).2)]), (7, [.i ((((Xi (((Qb code)).1) (((Qb code)).2))).1).1), .o 1856 ((((Xi (((Qb code)).1) (((Qb code)).2))).1).2)]), (9, [.h ((((Qi code)).1).1), .h ((((Qi code)).1).2.1), .i ((((Qi code)).1).2.2)])] [3] (pc 1 (Lz code) p0) ?_
 refine sn Qa [0, 2, 4, 5, 6, 7, 8, 9, 10, 11] [4, 5, 7, 9, 11] (pc 1 (Ig code) p0) ?_
 refine Qc ?_
 refine Qc ?_
 refine mz [(11, .p 11 0)] [] [(11, [.h ((Qk code).1.1), .q 2432 ((Qk code).1.2.1), .i ((Qk code).1.2.2), .o 2433 ((Qk code).2.1), .o 2434 ((Qk code).2.2)])] [] ?_
 refine jn [(71, .b ((!((((Qr (((Qb code)).1) (((Qb code)).2))).2) == (((Xi (((Qb code)).1) (((Qb code)).2))).2))) || ((!(Jl (((Qr (((Qb code)).1) (((Qb code)).2))).1) (((Xi (((Qb code)).1) (((Qb code)).2))).1))) || ((!((Yw (((Qi code)).1) (((Qi code)).2)) == (Wh (((Qi code)).1) (((Qi code)).2)))) || ((!((X1 (Qk code)) == (V4 (Qk code)))) || (!(Wb (X8 (Qk code)) (Uh (Qk code)))))))))] [7, 8, 10] [] [7] (!((((Qr (((Qb code)).1) (((Qb code)).2))).2) == (((Xi (((Qb code)).1) (((Qb code)).2))).2))) (fun h2 => ?_) (fun h2 => ?_) ?_
 ·
  refine rU Qa Yc [(71, .b true)] [7, 8, 10] [] [7] (pt 2 h2 p0) ?_
  exact ⟨rfl, Qf (by rw [h2] <;> kernel_rfl)⟩
 ·
  refine Q9 (!(Jl (((Qr (((Qb code)).1) (((Qb code)).2))).1) (((Xi (((Qb code)).1) (((Qb code)).2))).1))) (fun h3 => ?_) (fun h3 => ?_)
  ·
   have h3n : (Jl (((Qr (((Qb code)).1) (((Qb code)).2))).1) (((Xi (((Qb code)).1) (((Qb code)).2))).1)) = false := Be h3
   refine rU Qa Yc [(71, .b true)] [7, 8, 10] [] [7] (pf 2 h2 (pc 6 (cb h3n (Jg (((Qr (((Qb code)).1) (((Qb code)).2))).1) (((Xi (((Qb code)).1) (((Qb code)).2))).1))) (pe 7 (show .b (!false) = .b true from rfl) p0))) ?_
   exact ⟨rfl, Qf (by rw [h2, h3] <;> kernel_rfl)⟩
  have h3n : (Jl (((Qr (((Qb code)).1) (((Qb code)).2))).1) (((Xi (((Qb code)).1) (((Qb code)).2))).1)) = true := Vd h3
  refine Q9 (!((Yw (((Qi code)).1) (((Qi code)).2)) == (Wh (((Qi code)).1) (((Qi code)).2)))) (fun h4 => ?_) (fun h4 => ?_)
  ·
   refine rU Qa Yc [(71, .b true)] [7, 8, 10] [] [7] (pf 2 h2 (pc 6 (cb h3n (Jg (((Qr (((Qb code)).1) (((Qb code)).2))).1) (((Xi (((Qb code)).1) (((Qb code)).2))).1))) (pe 7 (show .b (!true) = .b false from rfl) (pc 12 (V1 (((Qi code)).1) (((Qi code)).2) hci) (pc 15 (D0 (((Qi code)).1) (((Qi code)).2) hci) (pt 16 h4 p0)))))) ?_
   exact ⟨rfl, Qf (by rw [h2, h3, h4] <;> kernel_rfl)⟩
  refine Q9 (!((X1 (Qk code)) == (V4 (Qk code)))) (fun h5 => ?_) (fun h5 => ?_)
  ·
   refine rU Qa Yc [(71, .b true)] [7, 8, 10] [] [7] (pf 2 h2 (pc 6 (cb h3n (Jg (((Qr (((Qb code)).1) (((Qb code)).2))).1) (((Xi (((Qb code)).1) (((Qb code)).2))).1))) (pe 7 (show .b (!true) = .b false from rfl) (pc 12 (V1 (((Qi code)).1) (((Qi code)).2) hci) (pc 15 (D0 (((Qi code)).1) (((Qi code)).2) hci) (pf 16 h4 (pc 20 (Ye (Qk code)) (pc 22 (Ff (Qk code)) (pt 23 h5 p0))))))))) ?_
   exact ⟨rfl, Qf (by rw [h2, h3, h4, h5] <;> kernel_rfl)⟩
  refine rN Qa Yc [0, 2, 4, 5, 6, 9, 11, 71] [4, 5, 9, 11] (pf 2 h2 (pc 6 (cb h3n (Jg (((Qr (((Qb code)).1) (((Qb code)).2))).1) (((Xi (((Qb code)).1) (((Qb code)).2))).1))) (pe 7 (show .b (!true) = .b false from rfl) (pc 12 (V1 (((Qi code)).1) (((Qi code)).2) hci) (pc 15 (D0 (((Qi code)).1) (((Qi code)).2) hci) (pf 16 h4 (pc 20 (Ye (Qk code)) (pc 22 (Ff (Qk code)) (pf 23 h5 (pc 27 (J7 (Qk code)) (pc 29 (Mi (Qk code)) (pc 30 (Le (X8 (Qk code)) (Uh (Qk code))) p0)))))))))))) ?_
  exact ⟨rfl, Qf (by rw [h2, h3, h4, h5] <;> kernel_rfl)⟩
 refine ck ((!((((Qr (((Qb code)).1) (((Qb code)).2))).2) == (((Xi (((Qb code)).1) (((Qb code)).2))).2))) || ((!(Jl (((Qr (((Qb code)).1) (((Qb code)).2))).1) (((Xi (((Qb code)).1) (((Qb code)).2))).1))) || ((!((Yw (((Qi code)).1) (((Qi code)).2)) == (Wh (((Qi code)).1) (((Qi code)).2)))) || ((!((X1 (Qk code)) == (V4 (Qk code)))) || (!(Wb (X8 (Qk code)) (Uh (Qk code)))))))) (fun h6 => ?_) (fun h6 => ?_)
 ·
  refine su Qa [] [71] [] [] (p0) ?_
  refine Qe ?_
  exact pb [] (Ql h1 (Q1 h6 (rfl)))
 refine Qh ?_
 refine sn Qa [2, 4, 5, 6, 9, 11, 12] [4, 5, 9, 11, 12] (pc 1 (P7 code) p0) ?_
 refine Qc ?_
 refine mz [(12, .p 12 0)] [0, 71] [(12, [.o 4672 ((Qu code).1.1), .o 4673 ((Qu code).1.2.1), .i ((Qu code).1.2.2), .o 4674 ((Qu code).2.1), .o 4675 ((Qu code).2.2)])] [] ?_
 refine jn [(2, .b ((X1 (Qu code)) && ((((X8 (Qu code)).length : Int) == (0 : Int)) && ((Jl Yj (0, [])) && (bif (!(Kg (Qk code))) then (bif (!(((Qr (((Qb code)).1) (((Qb code)).2))).2)) then (Yw (((Qi code)).1) (Yf (((Qi code)).1))) else (((((Qr (((Qb code)).1) (((Qb code)).2))).1).1 == IntKind.i64.wrap ((((Qb code)).2).1 + 1)) && (Yw (((Qi code)).1) (Yf (((Qi code)).1))))) else ((X1 (Qk code)) && (bif (!(((Qr (((Qb code)).1) (((Qb code)).2))).2)) then (Yw (((Qi code)).1) (Yf (((Qi code)).1))) else (((((Qr (((Qb code)).1) (((Qb code)).2))).1).1 == IntKind.i64.wrap ((((Qb code)).2).1 + 1)) && (Yw (((Qi code)).1) (Yf (((Qi code)).1)))))))))))] [2, 4, 5, 6, 9, 11, 12] [] [4, 5, 9, 11, 12] (X1 (Qu code)) (fun h7 => ?_) (fun h7 => ?_) ?_
 ·
  refine Q9 (((X8 (Qu code)).length : Int) == (0 : Int)) (fun h8 => ?_) (fun h8 => ?_)
  ·
   refine Q9 (Jl Yj (0, [])) (fun h9 => ?_) (fun h9 => ?_)
   ·
    refine Q9 (!(Kg (Qk code))) (fun h10 => ?_) (fun h10 => ?_)
    ·
     have h10n : (Kg (Qk code)) = false := Be h10
     refine Q9 (!(((Qr (((Qb code)).1) (((Qb code)).2))).2)) (fun h11 => ?_) (fun h11 => ?_)
     ·
      have h11n : (((Qr (((Qb code)).1) (((Qb code)).2))).2) = false := Be h11
      refine rN Qa Yc [2] [] (pc 1 (cb h7 (Ye (Qu code))) (pc 4 (J7 (Qu code)) (pl 5 (X8 (Qu code)) (pt 6 h8 (pc 9 (Vl) (pc 11 (cb h9 (Jg Yj (0, []))) (pc 15 (cb h10n (Wz (Qk code))) (pe 16 (show .b (!false) = .b true from rfl) (pf 23 h11n (pe 24 (show .b (!false) = .b true from rfl) (pc 37 (V2 (((Qi code)).1) hci) (pc 38 (V1 (((Qi code)).1) (Yf (((Qi code)).1)) hci) p0)))))))))))) ?_
      exact ⟨rfl, Qf (by rw [h7, h8, h9, h10, h11] <;> kernel_rfl)⟩
     have h11n : (((Qr (((Qb code)).1) (((Qb code)).2))).2) = true := Vd h11
     refine Q9 ((((Qr (((Qb code)).1) (((Qb code)).2))).1).1 == IntKind.i64.wrap ((((Qb code)).2).1 + 1)) (fun h12 => ?_) (fun h12 => ?_)
     ·
      refine rN Qa Yc [2] [] (pc 1 (cb h7 (Ye (Qu code))) (pc 4 (J7 (Qu code)) (pl 5 (X8 (Qu code)) (pt 6 h8 (pc 9 (Vl) (pc 11 (cb h9 (Jg Yj (0, []))) (pc 15 (cb h10n (Wz (Qk code))) (pe 16 (show .b (!false) = .b true from rfl) (pt 23 h11n (pe 24 (show .b (!true) = .b false from rfl) (pt 31 h12 (pc 37 (V2 (((Qi code)).1) hci) (pc 38 (V1 (((Qi code)).1) (Yf (((Qi code)).1)) hci) p0))))))))))))) ?_
      exact ⟨rfl, Qf (by rw [h7, h8, h9, h10, h11, h12] <;> kernel_rfl)⟩
     refine rN Qa Yc [2] [] (pc 1 (cb h7 (Ye (Qu code))) (pc 4 (J7 (Qu code)) (pl 5 (X8 (Qu code)) (pt 6 h8 (pc 9 (Vl) (pc 11 (cb h9 (Jg Yj (0, []))) (pc 15 (cb h10n (Wz (Qk code))) (pe 16 (show .b (!false) = .b true from rfl) (pt 23 h11n (pe 24 (show .b (!true) = .b false from rfl) (pf 31 h12 p0))))))))))) ?_
     exact ⟨rfl, Qf (by rw [h7, h8, h9, h10, h11, h12] <;> kernel_rfl)⟩
    have h10n : (Kg (Qk code)) = true := Vd h10
    refine Q9 (X1 (Qk code)) (fun h13 => ?_) (fun h13 => ?_)
    ·
     refine Q9 (!(((Qr (((Qb code)).1) (((Qb code)).2))).2)) (fun h14 => ?_) (fun h14 => ?_)
     ·
      have h14n : (((Qr (((Qb code)).1) (((Qb code)).2))).2) = false := Be h14
      refine rN Qa Yc [2] [] (pc 1 (cb h7 (Ye (Qu code))) (pc 4 (J7 (Qu code)) (pl 5 (X8 (Qu code)) (pt 6 h8 (pc 9 (Vl) (pc 11 (cb h9 (Jg Yj (0, []))) (pc 15 (cb h10n (Wz (Qk code))) (pe 16 (show .b (!true) = .b false from rfl) (pc 19 (cb h13 (Ye (Qk code))) (pf 23 h14n (pe 24 (show .b (!false) = .b true from rfl) (pc 37 (V2 (((Qi code)).1) hci) (pc 38 (V1 (((Qi code)).1) (Yf (((Qi code)).1)) hci) p0))))))))))))) ?_
      exact ⟨rfl, Qf (by rw [h7, h8, h9, h10, h13, h14] <;> kernel_rfl)⟩
     have h14n : (((Qr (((Qb code)).1) (((Qb code)).2))).2) = true := Vd h14
     refine Q9 ((((Qr (((Qb code)).1) (((Qb code)).2))).1).1 == IntKind.i64.wrap ((((Qb code)).2).1 + 1)) (fun h15 => ?_) (fun h15 => ?_)
     ·
      refine rN Qa Yc [2] [] (pc 1 (cb h7 (Ye (Qu code))) (pc 4 (J7 (Qu code)) (pl 5 (X8 (Qu code)) (pt 6 h8 (pc 9 (Vl) (pc 11 (cb h9 (Jg Yj (0, []))) (pc 15 (cb h10n (Wz (Qk code))) (pe 16 (show .b (!true) = .b false from rfl) (pc 19 (cb h13 (Ye (Qk code))) (pt 23 h14n (pe 24 (show .b (!true) = .b false from rfl) (pt 31 h15 (pc 37 (V2 (((Qi code)).1) hci) (pc 38 (V1 (((Qi code)).1) (Yf (((Qi code)).1)) hci) p0)))))))))))))) ?_
      exact ⟨rfl, Qf (by rw [h7, h8, h9, h10, h13, h14, h15] <;> kernel_rfl)⟩
     refine rN Qa Yc [2] [] (pc 1 (cb h7 (Ye (Qu code))) (pc 4 (J7 (Qu code)) (pl 5 (X8 (Qu code)) (pt 6 h8 (pc 9 (Vl) (pc 11 (cb h9 (Jg Yj (0, []))) (pc 15 (cb h10n (Wz (Qk code))) (pe 16 (show .b (!true) = .b false from rfl) (pc 19 (cb h13 (Ye (Qk code))) (pt 23 h14n (pe 24 (show .b (!true) = .b false from rfl) (pf 31 h15 p0)))))))))))) ?_
     exact ⟨rfl, Qf (by rw [h7, h8, h9, h10, h13, h14, h15] <;> kernel_rfl)⟩
    refine rN Qa Yc [2] [] (pc 1 (cb h7 (Ye (Qu code))) (pc 4 (J7 (Qu code)) (pl 5 (X8 (Qu code)) (pt 6 h8 (pc 9 (Vl) (pc 11 (cb h9 (Jg Yj (0, []))) (pc 15 (cb h10n (Wz (Qk code))) (pe 16 (show .b (!true) = .b false from rfl) (pc 19 (cb h13 (Ye (Qk code))) p0))))))))) ?_
    exact ⟨rfl, Qf (by rw [h7, h8, h9, h10, h13] <;> kernel_rfl)⟩
   refine rN Qa Yc [2] [] (pc 1 (cb h7 (Ye (Qu code))) (pc 4 (J7 (Qu code)) (pl 5 (X8 (Qu code)) (pt 6 h8 (pc 9 (Vl) (pc 11 (cb h9 (Jg Yj (0, []))) p0)))))) ?_
   exact ⟨rfl, Qf (by rw [h7, h8, h9] <;> kernel_rfl)⟩
  refine rN Qa Yc [2] [] (pc 1 (cb h7 (Ye (Qu code))) (pc 4 (J7 (Qu code)) (pl 5 (X8 (Qu code)) (pf 6 h8 p0)))) ?_
  exact ⟨rfl, Qf (by rw [h7, h8] <;> kernel_rfl)⟩
 ·
  refine rN Qa Yc [2] [] (pc 1 (cb h7 (Ye (Qu code))) p0) ?_
  exact ⟨rfl, Qf (by rw [h7] <;> kernel_rfl)⟩
 refine Qe ?_
 exact pb [] (Ql h1 (Ql h6 (rfl)))
theorem Mk (l : List ByteArray) : Wb l l = true := by
  unfold Wb
  rw [Gm l 0 (fun i a hi => by
    unfold Bn
    rw [Nat.zero_add, Iw hi]
    simp)]
  simp [Out.on]
theorem Ml (k : Ve) : Jl k k = true := by
  unfold Jl
  rw [Mk, beq_self_eq_true]
  rfl
theorem BI {c : Zh} {k : Nat} (hl : c.2.1.length ≤ 5) (hk : k ≤ c.2.1.length) (hq : ∀ j, j < c.2.1.length → X5 c.2.2 (nth c.2.1 j).1 = Yp c.1 (nth c.2.1 j).2 c.2.2) :
    (k = c.2.1.length ∧ Qr c ((k : Int), []) = (((k : Int), []), false)) ∨ (k < c.2.1.length ∧ Qr c ((k : Int), []) = ((((k + 1 : Nat) : Int), []), true)) := by
  unfold Qr
  by_cases h : k < c.2.1.length
  · right
    have hw : Xw (k : Int) 0 ((c.2.1.length : Int) - 1) = true := By.2 ⟨by omega, by omega⟩
    have hi : IntKind.i64.wrap ((k : Int) + 1) = ((k + 1 : Nat) : Int) := by rw [IntWalk.i64_in _ (show _ ∧ _ by omega)]; omega
    dsimp only
    rw [hw, hi, Int.toNat_natCast, hq k h, (intsE _ _).2 rfl]
    exact ⟨h, rfl⟩
  left
  have hw : Xw (k : Int) 0 ((c.2.1.length : Int) - 1) = false := by
    cases hw : Xw (k : Int) 0 ((c.2.1.length : Int) - 1) with
    | false => rfl
    | true => have := By.1 hw; omega
  dsimp only
  rw [hw]
  exact ⟨by omega, rfl⟩
theorem WD {c : Zh} (hl : c.2.1.length ≤ 5) (hq : ∀ j, j < c.2.1.length → X5 c.2.2 (nth c.2.1 j).1 = Yp c.1 (nth c.2.1 j).2 c.2.2) : ∀ (m k : Nat), k + m = c.2.1.length → whl (Z4 c) (m + 2) (true, ((k : Int), [])) = some (.brk (((c.2.1.length : Nat) : Int), []))
  | 0, k, hk => by
    rcases BI (k := k) hl (by omega) hq with ⟨h1, h2⟩ | ⟨h1, _⟩
    · simp only [whl, Z4, h2, cond_true, cond_false]
      rw [h1]
    omega
  | m + 1, k, hk => by
    rcases BI (k := k) hl (by omega) hq with ⟨h1, _⟩ | ⟨_, h2⟩
    · omega
    rw [show m + 1 + 2 = (m + 2) + 1 by omega, whl]
    simp only [Z4, h2, cond_true]
    exact WD hl hq m (k + 1) (by omega)
theorem CY {c : Zh} (hl : c.2.1.length ≤ 5) (hq : ∀ j, j < c.2.1.length → X5 c.2.2 (nth c.2.1 j).1 = Yp c.1 (nth c.2.1 j).2 c.2.2) : X8 c = [] := by
  unfold X8 E6
  have h := WD hl hq c.2.1.length 0 (by omega)
  have h : whl (Z4 c) (List.length c.2.1 + 2) (true, Yj) = _ := h
  rw [h]
  rfl
theorem names_at {d : List Ys} {r : List Qp} (h : r.map (·.1) = d.map (·.1)) : r.length = d.length ∧ ∀ i, i < d.length → (nth r i).1 = (nth d i).1 := by
  have hl : r.length = d.length := by have := congrArg List.length h; simpa using this
  refine ⟨hl, fun i hi => ?_⟩
  have := congrArg (·[i]?) h
  simpa [Kh hi, Kh (l := r) (i := i) (by omega)] using this
theorem UZ {d : List Ys} {r : List Qp} (h : r.map (·.1) = d.map (·.1)) : Ui d r = true := by
  obtain ⟨h1, h2⟩ := names_at h
  unfold Ui Y8
  rw [Gm d 0 (fun i a hi => by
    have hl := (List.getElem?_eq_some_iff.1 hi).1
    unfold Ya Vm
    rw [Nat.zero_add, h2 i hl, Iw hi]
    simp)]
  simp [Out.on, h1]
theorem YH {s : Xo} {d : List Ys} (h : (Zu s d).2 = true) : X1 (s, d, (Zu s d).1) = true ∧ X8 (s, d, (Zu s d).1) = [] := by
  obtain ⟨hl, hv, hn, _⟩ := Tw h
  obtain ⟨hs, hf⟩ := QI h
  have hvd : Y7 d = true := (F5 (show Qz d = ((Qz d).1, true) from Prod.ext rfl hs)).1
  have hd := UY hvd
  have hc : X8 (s, d, (Zu s d).1) = [] := CY hl fun j hj => by
    dsimp only at hj ⊢
    have hm : nth d j ∈ d := List.mem_of_getElem? (Kh hj)
    obtain ⟨g1, g2⟩ := dir_nth hd hm
    rcases Gu hn (nth d j).1 with ⟨h1, _⟩ | ⟨_, h2, h3⟩
    · have := dir_in hm; omega
    rw [h3, ← hf _ h2, g2]
  refine ⟨?_, hc⟩
  unfold X1
  rw [hc]
  dsimp only
  rw [hv, UZ hn, show Jv d = true from hs]
  rfl
theorem CZ (a b : List Qp) : Hj a b = true ↔ a = b := Ty (p := fun a b : Qp => (a.1.toList == b.1.toList) && Yx a.2 b.2) (fun a b => by
    rw [Bool.and_eq_true, VN, intsS]
    obtain ⟨a1, a2⟩ := a
    obtain ⟨b1, b2⟩ := b
    exact ⟨fun ⟨h1, h2⟩ => by simp only at h1 h2; rw [h1, h2], fun h => by cases h; exact ⟨rfl, rfl⟩⟩) (f := Wy b) (e := U9) fun k a => by
  unfold Wy
  generalize (a.1.toList == ((nth b k).1).toList) = c1
  generalize Yx a.2 (nth b k).2 = c2
  cases c1 <;> cases c2 <;> rfl
theorem DA {c : Zh} (h : Kg c = true) : X1 c = true := by
  obtain ⟨s, d, r⟩ := c
  unfold Kg at h
  rw [Ng, Bool.and_eq_true, CZ] at h
  obtain ⟨h1, h2⟩ := h
  dsimp only at h1 h2
  rw [← h2]
  exact (YH h1).1
theorem live_ok (code : List UInt8) : X1 (Qu code) = true ∧ X8 (Qu code) = [] := by
  unfold Qu J3 lt
  dsimp only
  generalize (Va code).1 = ci
  generalize (Va code).2 = ch
  have h5 := (BA code ci ch).1
  generalize Y6 code ci ch = x1 at h5 ⊢
  have hst := VY code x1.2.1 x1.2.2
  generalize Kl code x1.2.1 x1.2.2 = x2 at hst ⊢
  have hs : (Qz x2.1).2 = true := by rw [← Vp]; exact hst
  have he := Rn (s := x1.1) hs (by rw [← R7]; exact Oz h5.vs)
  unfold Za
  rw [Ng, he, copy11, copyS]
  exact YH he
theorem step_next {c : Zh} {k : Ve} (h : (Qr c k).2 = true) : ((Qr c k).1.1 == IntKind.i64.wrap (k.1 + 1)) = true := by
  unfold Qr at h ⊢
  cases hw : Xw k.1 0 ((c.2.1.length : Int) - 1) with
  | false => rw [hw] at h; cases h
  | true =>
    simp only [Bool.not_true, cond_false]
    generalize (Zq _ _ : Bool) = b
    cases b <;> exact beq_self_eq_true _
theorem WE (s : Xo) : Yw s (Yf s) = true := by
  unfold Yw
  rw [YE]
  exact (equalIx _ _).2 rfl
theorem Pc (code : List UInt8) : G3 code = true := by
  unfold G3
  cases T7 code with
  | true => rfl
  | false =>
    obtain ⟨l1, l2⟩ := live_ok code
    have h5 : Kg (Qk code) = true → X1 (Qk code) = true := DA
    rw [Fe, CU, T6, T5, l1, l2, WE, Ml, Mk, show Jl Yj (0, []) = true from Ml _]
    have h6 := step_next (c := (Qb code).1) (k := (Qb code).2)
    generalize (Qr (Qb code).1 (Qb code).2) = y at h6 ⊢
    generalize Yw (Qi code).1 (Qi code).2 = z
    generalize IntKind.i64.wrap ((Qb code).2.1 + 1) = n at h6 ⊢
    cases hy : y.2 with
    | false =>
      cases hc : Kg (Qk code) with
      | false => cases z <;> cases X1 (Qk code) <;> rfl
      | true => rw [h5 hc]; cases z <;> rfl
    | true =>
      rw [h6 hy]
      cases hc : Kg (Qk code) with
      | false => cases z <;> cases X1 (Qk code) <;> rfl
      | true => rw [h5 hc]; cases z <;> rfl
open GoD (rd own)
set_option maxRecDepth 1000000 in
theorem DB (w : World) (v : Value) (a : List UInt8) (h : rd w [v] a) (hbig : ¬ a.length ≤ 1048576) : Calls Tryz.prog 3 #[v] w (Ret w (.bool true)) := by
  obtain ⟨oa, cap, rfl⟩ := Mn h
  have hln := FJ h
  clear h
  have hbi : 1048576 < (a.length : Int) := by omega
  go_enter Tryz.func3, Tryz.ntmps3
  go_wp2_with (first | (go_at_call 4; go_in))
  go_ret
  exact ⟨rfl, by go_grown⟩
theorem DC (w : World) (v : Value) (a : List UInt8) (h : rd w [v] a) : Calls Tryz.prog 3 #[v] w (Ret w (.bool true)) := by
  by_cases hbig : a.length ≤ 1048576
  · haveI : Good Tryz.prog w := Good.none (by kernel_rfl) w
    have hc := (T8 a).run (.cons (arg_sli h ⟨by omega, fun _ _ => trivial⟩) .nil)
    rw [Pc] at hc
    exact hc.mono fun _ _ h => ret_bool h
  exact DB w v a h hbig
end
end Go.Proofs.YtiafgmepdgfpbaaGreat
