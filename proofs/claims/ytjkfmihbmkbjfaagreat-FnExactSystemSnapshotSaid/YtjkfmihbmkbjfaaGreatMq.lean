/- Boxes, stores and literals of slices do what the machine does: the theorem. No program in sight. -/
import Derived.Test.YtjkfmihbmkbjfaaGreatMp
import Derived.Great.BuildSlice
namespace Go.Proofs.YtjkfmihbmkbjfaaGreat
open Go.RowKit
section
variable {P : Program} {N : Nat} {w0 : World} {F0 : Nat → Prop} {J : Inj} {a : Act} {w : World} {s : St}

theorem get_cons_ne {α : Type} {k nk : Nat} {x : α} {l : List (Nat × α)} (h : k ≠ nk) : get ((nk, x) :: l) k = get l k := by
  simp only [get]
  rw [if_neg fun e => h e.symm]
set_option maxHeartbeats 1000000 in
theorem evalB_ok {tt : List (Nat × TI)} (htt : ttOk P tt = true) {bn : List (Nat × List C)} {o : Oper} {avs : List AV} {r : Res} {obs : List Ob} (h : evalB tt bn o.dst o.op avs = some (r, obs)) (hdst : ∀ d, o.dst = some d → d < N)
    (hrel : Rel N w0 F0 J a w s) (hops : All2 (fun x v => opAV s x = some v) o.op.operands.toList avs) (hbn : ∀ k c, get bn k = some c → get s.bx k = some c) {K : Act → World → Prop} {Q : Exit → Act → World → Prop}
    (hK : ∀ J' a' w', Rel N w0 F0 J' a' w' (s.step o.dst r) → K a' w') : o.wp P a w K Q := by
  have hv := opAVs_ok hrel hops
  generalize ho : o.op = op at h hv
  generalize hd : o.dst = dst at h
  unfold evalB at h
  split at h
  · -- alloc
    rename_i t
    split at h
    · rename_i d ti hg
      cases hc : allC noPtrC ti.zero with
      | false => rw [hc] at h; cases h
      | true =>
        rw [hc] at h
        obtain ⟨rfl, rfl⟩ : (⟨.one (.ptr d 0), [], some d, some (d, ti.zero)⟩ : Res) = r ∧ [] = obs := by simpa using h
        obtain ⟨inf, z, hi, _, _, hz, _, hzo⟩ := (ttOk_get htt hg).info
        refine wp_of_run (v := .pointer (some ⟨w.heap.size, 0, none⟩)) (w' := w.alloc (.cells z.cells t (0, 0))) (by simp [execOp, ho, Instr.alloc, zeroValue, typeInfo_run hi, hz, newVar, newRow]) ?_
        rw [hd] at hK ⊢
        exact hK _ _ _ (hrel.alloc d (hdst d hd) z.cells t ti.zero hc (zeros_ok hzo))
    · cases h
  · -- box
    rename_i t px v
    split at h
    · rename_i d cs hfc
      cases hc : (allAlive cs && allC noPtrC cs) with
      | false => rw [hc] at h; cases h
      | true =>
        rw [hc] at h
        obtain ⟨rfl, rfl⟩ : (⟨.one (.ptr d 0), [], some d, some (d, cs)⟩ : Res) = r ∧ [] = obs := by simpa using h
        simp only [Bool.and_eq_true] at hc
        cases hv with
        | cons h1 _ =>
          have hcl := flat_cells h1 hfc hc.1
          refine wp_of_run (v := .pointer (some ⟨w.heap.size, 0, none⟩)) (w' := w.alloc (.cells (a.eval px).cells t (0, 0))) (by simp [execOp, ho, Instr.box, newVar, newRow]) ?_
          rw [hd] at hK ⊢
          exact hK _ _ _ (hrel.alloc d (hdst d hd) _ t cs hc.2 hcl)
    · cases h
  · -- store
    rename_i t px py k off v
    split at h
    · rename_i ti cells cs hg hk hfc
      cases hc : (Nat.beq cs.length ti.size && allAlive cs && Nat.ble (off + ti.size) cells.length) with
      | false => rw [hc] at h; cases h
      | true =>
        rw [hc] at h
        obtain ⟨rfl, rfl⟩ : (⟨.one .dead, [], none, some (k, cells.take off ++ cs ++ cells.drop (off + ti.size))⟩ : Res) = r ∧ [] = obs := by simpa using h
        simp only [Bool.and_eq_true, Nat.beq_eq, Nat.ble_eq] at hc
        obtain ⟨⟨c1, c2⟩, c3⟩ := hc
        cases hv with
        | cons h1 h2 =>
          cases h2 with
          | cons h2 _ =>
            have e1 : a.eval px = .pointer (some ⟨J.B k, off, none⟩) := h1
            have hcl := flat_cells h2 hfc c2
            obtain ⟨_, _, _, arr, e, hheap, hall⟩ := hrel.bo k cells (hbn k cells hk)
            have hn : (a.eval py).cells.toList.length = ti.size := by rw [hcl.length, c1]
            have hfit : off + (a.eval py).cells.toList.length ≤ arr.size := by have := hall.length; simp at this hn ⊢; omega
            have hst := run_storeCells_at P (J.B k) off e (a.eval py).cells.toList 0 arr w hheap (by simpa using hfit) (allAlive_one hcl c2)
            simp only [Nat.add_zero] at hst
            have hsz := sizeOf_run (P := P) (ttOk_get htt hg) w
            have hrun : (execOp a.eval o).run P w = .ok .skip (w.setRow (J.B k) (arr.toList.take off ++ (a.eval py).cells.toList ++ arr.toList.drop (off + (a.eval py).cells.toList.length)).toArray) := by
              have hn' : (a.eval py).cells.size = ti.size := by simpa using hn
              simp only [execOp, ho, Instr.storeAt, e1, Instr.sureAddr, storeVar, Sem.run_bind, Sem.run_pure, Result.andThen_ok, hsz, hn']
              simp [hst]
            refine wp_of_skip hrun (hK J _ _ ?_)
            rw [hd]
            refine hrel.store dst (fun d e => hdst d (hd.trans e)) k cells _ (hbn k cells hk) arr _ e hheap (setRow_heap w (J.B k) arr _ e (0, 0) hheap) (fun b hb => setRow_other w (J.B k) b _ hb) rfl rfl rfl (by simp [World.setRow]) ?_ undef
            rw [hn]
            exact ((hall.take off).append hcl).append (hall.drop _)
    · cases h
  · -- a literal of a slice
    rename_i t len ps
    split at h
    · rename_i d e n0 z0 q0 css hg hps
      split at h
      · rename_i ei rows hge hrows
        cases hc : (Nat.beq css.length len && allLen ei.size css && Nat.ble (len * ei.size) 1000 && Nat.blt 0 ei.size && !(memN (64 * d) (keysOfC css.flatten)) && nodupN (keysOfC css.flatten)) with
        | false => rw [hc] at h; cases h
        | true =>
          rw [hc] at h
          simp only [cond_true] at h
          simp only [Bool.and_eq_true, Nat.beq_eq, Nat.ble_eq, Nat.blt_eq, Bool.not_eq_true'] at hc
          obtain ⟨⟨⟨⟨⟨c1, c2⟩, c3⟩, c4⟩, c5⟩, c6⟩ := hc
          have hnk : 64 * d ∉ keysOfC css.flatten := fun hm => by rw [memN_iff.2 hm] at c5; cases c5
          have hnd := nodupN_iff.1 c6
          obtain ⟨hfl, hrl, hrn⟩ := rows_flat hrows c2
          obtain ⟨p1, p2, p3, p4⟩ := parts_ok hps c2 (by simpa [Op.operands] using hv)
          have hu := (ttOk_get htt hg).sli
          obtain ⟨inf, z, hi, hsz, hby, hz, hzs, hzo⟩ := (ttOk_get htt hge).info
          -- the row that is laid
          have hzero : ∃ zc : Array Value, zc.size = len * ei.size ∧ ∀ (parts : Array (Nat × Value)) (cells : Array Value), Instr.fill (fun i => some (i * ei.size, ei.size)) zc parts.toList = some cells →
              (Instr.buildSlice t len parts).run P w = .ok (.slice (some ⟨w.heap.size, 0, none⟩) len len) (w.alloc (.cells cells e (0, 0))) := by
            have hlim : ¬ (len * ei.size > 2 ^ 24) := by omega
            by_cases h0 : len * ei.size = 0
            · refine ⟨#[], by simp [h0], fun parts cells hf => ?_⟩
              have h00 : len * inf.size = 0 := by rw [hsz]; exact h0
              rw [← hsz] at hf
              have hr0 : Array.map (fun _ => (default : Value)) (Array.range 0) = #[] := by apply Array.eq_empty_of_size_eq_zero; simp
              simp [Instr.buildSlice, run_underlying hu, sizeOf, typeInfo_run hi, h00, hr0, hf, newRow]
            · refine ⟨(Array.range (len * ei.size)).map (z.cells[· % z.cells.size]!), by simp, fun parts cells hf => run_buildSlice w t e len parts cells inf z hu hi hz (by rw [hsz]; exact hlim) (by rw [hsz]; exact h0) ?_⟩
              rw [hsz]
              exact hf
          obtain ⟨zc, hzc, hrun⟩ := hzero
          have hlen : (ps.toList.map fun p => a.eval p.2).length = len := by simp; rw [← c1, ← p2]; simp
          obtain ⟨out, ho1, ho2⟩ := fill_seq (n := ei.size) (ps.toList.map fun p => a.eval p.2) 0 zc p3 (by rw [hzc, hlen, Nat.zero_add])
          have hfill : Instr.fill (fun i => some (i * ei.size, ei.size)) zc ((ps.map fun (i, x) => (i, a.eval x)).toList) = some out := by
            have e9 : (ps.map fun (i, x) => (i, a.eval x)).toList = (ps.toList.map fun p => (p.1, a.eval p.2)) := by simp
            rw [e9, p1, show css.length = (ps.toList.map fun p => a.eval p.2).length by rw [hlen, c1]]
            exact ho1
          have hrun := hrun _ _ hfill
          simp only [Nat.zero_mul, List.take_zero, List.nil_append] at ho2
          have hrun' : (execOp a.eval o).run P w = .ok (.value (.slice (some ⟨w.heap.size, 0, none⟩) len len)) (w.alloc (.cells out e (0, 0))) := by
            simp only [execOp, ho, Sem.run_bind, hrun, Result.andThen_ok, Sem.run_pure]
          refine wp_of_run hrun' ?_
          rw [hd] at hK ⊢
          have hw : ∀ b, b < w.heap.size → (w.alloc (.cells out e (0, 0))).heap[b]? = w.heap[b]? := fun b hb => Below.heap_alloc w _ b hb
          have hnew : (w.alloc (.cells out e (0, 0))).heap[w.heap.size]? = some (.cells out e (0, 0)) := heap_alloc_new w _
          have hzz : (w.alloc (.cells out e (0, 0))).heap.size = w.heap.size + 1 := by simp
          rw [← ho2] at p4
          have hout : out.size = len * ei.size := by
            have := p4.length
            have h3 := toPVs_vc (X := fun _ => True) (w' := w) p4 hfl (fun b _ => ⟨trivial, rfl⟩) (fun k _ b _ => ⟨trivial, rfl⟩)
            have h4 := (VC.rows h3 hrn).length
            simp at h4
            rw [h4, hrl, c1]
          have htake : out.toList.take (rows.length * ei.size) = out.toList := List.take_of_length_le (by rw [hrl, c1, ← hout]; simp)
          have hlx : len ≤ 1073741824 := by
            have : len ≤ len * ei.size := Nat.le_mul_of_pos_right _ c4
            exact Nat.le_trans (Nat.le_trans this c3) (by decide)
          have hlm : len ≤ maxLen := Nat.le_trans hlx (by decide)
          have hrows' : rows.length = len := hrl.trans c1
          cases hdeep : allDeep css.flatten with
          | true =>
            rw [hdeep] at h
            obtain ⟨rfl, rfl⟩ : (⟨.one (.slc (.own true (64 * d)) ei.size rows), (64 * d, none) :: viewAll (64 * d) (keysOfC css.flatten), none, none⟩ : Res) = r ∧ [] = obs := by simpa using h
            refine hK ⟨J.F, fun k => if k = 64 * d then w.heap.size :: J.of css.flatten else if k ∈ keysOfC css.flatten then [] else J.L k, J.B⟩ _ _ (hrel.grab (some d) (fun d' e => by cases e; exact hdst d hd) _ _ (64 * d) (keysOfC css.flatten) rfl rfl (hrel.below.alloc hrel.below.size _) (by omega) rfl (fun k hk => if_neg hk)
              (fun b hb => hb) (fun b hb => .inl hb) (fun k hk hn => by rw [get_cons_ne hn, get_view, if_neg hk]) (fun _ => by simp [get]) (fun k hk => .inr (.inr ⟨?_, fun b hb => ⟨.inl ?_, hw b (hrel.lo k b hb).2.1⟩⟩)) (fun b hb _ => hw b hb) ?_ (fun b hb => ?_) (fun _ => ?_))
            · rw [get_cons_ne (fun e : k = 64 * d => hnk (e ▸ hk)), get_view, if_pos hk]
            · simp only [if_true]
              exact List.mem_cons_of_mem _ (of_mem hdeep (fun c hc => toPVs_all hfl c hc) hk hb)
            · simp only [if_true]
              refine List.nodup_cons.2 ⟨fun hm => ?_, of_nodup hrel hnd⟩
              obtain ⟨k, _, hm⟩ := mem_of hm
              have := (hrel.lo k _ hm).2.1
              omega
            · simp only [if_true, List.mem_cons] at hb
              rcases hb with rfl | hb
              · exact ⟨by omega, .inl (Nat.le_refl _)⟩
              · obtain ⟨k, hk, hm⟩ := mem_of hb
                exact ⟨by have := (hrel.lo k b hm).2.1; omega, .inr ⟨k, hk, hm⟩⟩
            · show OwnDeep _ _ _ _ _
              simp only [if_true]
              rw [← hrows']
              obtain ⟨L, a1, a2, a3⟩ := toPVs_oc p4 hfl hdeep (of_nodup hrel hnd) fun k _ b hb => hw b (hrel.lo k b hb).2.1
              refine ⟨w.heap.size :: L, .slc hnew (by rw [hout, hrows']) ?_ (Nat.le_refl _) ⟨by omega, by omega⟩, List.nodup_cons.2 ⟨fun hm => ?_, a2⟩, fun b hb => ?_, .inr ⟨_, _, _, rfl, rfl⟩⟩
              · rw [htake]
                exact OC.rows a1 hrn
              · obtain ⟨k, _, hm⟩ := mem_of (a3 _ hm)
                have := (hrel.lo k _ hm).2.1
                omega
              · rcases List.mem_cons.1 hb with rfl | hb
                · exact List.mem_cons_self
                · exact List.mem_cons_of_mem _ (a3 b hb)
          | false =>
            rw [hdeep] at h
            obtain ⟨rfl, rfl⟩ : (⟨.one (.slc (.own false (64 * d)) ei.size rows), (64 * d, none) :: freezeAll (keysOfC css.flatten), none, none⟩ : Res) = r ∧ [] = obs := by simpa using h
            refine hK ⟨fun b => J.F b ∨ ∃ k, k ∈ keysOfC css.flatten ∧ b ∈ J.L k, fun k => if k = 64 * d then [w.heap.size] else if k ∈ keysOfC css.flatten then [] else J.L k, J.B⟩ _ _ (hrel.grab (some d) (fun d' e => by cases e; exact hdst d hd) _ _ (64 * d) (keysOfC css.flatten) rfl rfl (hrel.below.alloc hrel.below.size _) (by omega) rfl (fun k hk => if_neg hk)
              (fun b hb => .inl hb) (fun b hb => hb.imp id fun hk => ⟨hk, ?_⟩) (fun k hk hn => by rw [get_cons_ne hn, get_freeze, if_neg hk]) (fun _ => by simp [get]) (fun k hk => .inr (.inl ⟨?_, fun b hb => ⟨.inr ⟨k, hk, hb⟩, hw b (hrel.lo k b hb).2.1⟩⟩)) (fun b hb _ => hw b hb) (by simp) (fun b hb => ?_) (fun _ => ?_))
            · obtain ⟨k, _, hm⟩ := hk
              have := (hrel.lo k b hm).2.1
              simp only [if_true, List.mem_singleton]
              omega
            · rw [get_cons_ne (fun e : k = 64 * d => hnk (e ▸ hk)), get_freeze, if_pos hk]
            · simp only [if_true, List.mem_singleton] at hb
              exact ⟨by omega, .inl (by omega)⟩
            · show OwnTop _ _ _ _ _ _
              refine .inr ⟨w.heap.size, len, out, e, by simp, by rw [hrows'], hnew, hout, ?_, by omega, hlm, by omega⟩
              rw [htake]
              exact VC.rows (toPVs_vc p4 hfl (fun b hb => ⟨.inl hb, hw b (hrel.fl b hb).1⟩) fun k hk b hb => ⟨.inr ⟨k, hk, hb⟩, hw b (hrel.lo k b hb).2.1⟩) hrn
      · cases h
    · cases h
  · cases h
end
end Go.Proofs.YtjkfmihbmkbjfaaGreat
