/- The roads of Insert and of Delete: what their appends, copies and clears make of a row. No program in sight. -/
import Derived.Test.YtiafgmepdgfpbaaInr
import Derived.Deep.RegionLaw
set_option linter.unusedVariables false
set_option linter.unusedSimpArgs false
namespace Go.Proofs.Ytiafgmepdgfpbaa
open Go.RowKit
section
variable {P : Program} {t e : TypeId} {ei : TI} {w : World} {oa : Option Addr} {m cap i vb voff vc : Nat} {olds vs : List Value}
theorem goIdx {i m n : Nat} (hi : i < m) : (i + 1) * n = i * n + n ∧ i * n + n ≤ m * n ∧ (m - i) * n = m * n - i * n ∧ (m + 1) * n = m * n + n := by
  have h1 : (i + 1) * n ≤ m * n := Nat.mul_le_mul_right n (by omega)
  have h2 : (i + 1) * n = i * n + n := by rw [Nat.add_mul, Nat.one_mul]
  exact ⟨h2, by omega, Nat.sub_mul .., by rw [Nat.add_mul, Nat.one_mul]⟩
theorem OneAt.block {n : Nat} (h : OneAt w n oa cap vb voff vs) (h0 : 0 < n) : vb < w.heap.size ∧ ∃ arr tA fr, w.heap[vb]? = some (.cells arr tA fr) ∧ 0 < arr.size := by
  have hl : 0 < vs.length := by rw [h.len]; exact h0
  have hc := h.cells 0 vs[0] (List.getElem?_eq_getElem hl)
  unfold World.cell? at hc
  split at hc
  · rename_i arr tA fr hh
    refine ⟨block_lt_of_heap hh, arr, tA, fr, hh, ?_⟩
    have hc : arr[voff + 0]? = some vs[0] := by simpa using hc
    have := (Array.getElem?_eq_some_iff.1 hc).1
    omega
  · cases hc
theorem wpList_copy_rn {w : World} {ops : Array Oper} {rest : List Oper} {o : Oper} {a : Act} {Q : Exit → Act → World → Prop} (hgd : o.guard = none) (d s : Operand) (t t' : TypeId)
    (ho : o.op = .call { callee := .builtin .copy, args := #[d, s], argTypes := #[t, t'] }) (v u : Value) (hd : a.eval d = v) (hs : a.eval s = u) {v' : Value} {w' : World}
    (hr : (Builtin.copy_ #[t, t'] o.type #[v, u]).run P w = .ok v' w') (h : wpList P ops Q rest (a.put o.dst v') w') : wpList P ops Q (o :: rest) a w :=
  wpList_plain hgd fun K hK => by
    unfold Oper.wp execOp
    simp only [ho, resolve, invoke, builtin, Sem.run_bind, Sem.run_pure, Result.andThen_ok, List.map_toArray, List.map_cons, List.map_nil, hd, hs, hr]
    exact hK _ _ h
theorem step_copy_rn {w : World} {ops : Array Oper} {o : Oper} {a : Act} {K : Act → World → Prop} {Q : Exit → Act → World → Prop} {E : Prop}
    (hg : o.guard = none) (d x : Operand) (dT sT : TypeId) (hop : o.op = .call { callee := .builtin .copy, args := #[d, x], argTypes := #[dT, sT] })
    (v u : Value) (hd : a.eval d = v) (hx : a.eval x = u) {v' : Value} {w' : World} (hr : (Builtin.copy_ #[dT, sT] o.type #[v, u]).run P w = .ok v' w') (hK : K (a.put o.dst v') w') :
    if Region.wanted o (yielded ops a.tmps) = true then Oper.wp P o a w K Q else E := by
  rw [if_pos (by simp [Region.wanted, hg])]
  unfold Oper.wp execOp
  simp only [hop, resolve, invoke, builtin, Sem.run_bind, Sem.run_pure, Result.andThen_ok, List.map_toArray, List.map_cons, List.map_nil, hd, hx, hr]
  exact hK
theorem step_append_rn {w : World} {ops : Array Oper} {o : Oper} {a : Act} {K : Act → World → Prop} {Q : Exit → Act → World → Prop} {E : Prop}
    (hg : o.guard = none) (d x : Operand) (dT sT : TypeId) (hop : o.op = .call { callee := .builtin .append, args := #[d, x], argTypes := #[dT, sT] })
    (v u : Value) (hd : a.eval d = v) (hx : a.eval x = u) {v' : Value} {w' : World} (hr : (Builtin.append_ #[dT, sT] o.type #[v, u]).run P w = .ok v' w') (hK : K (a.put o.dst v') w') :
    if Region.wanted o (yielded ops a.tmps) = true then Oper.wp P o a w K Q else E := by
  rw [if_pos (by simp [Region.wanted, hg])]
  unfold Oper.wp execOp
  simp only [hop, resolve, invoke, builtin, Sem.run_bind, Sem.run_pure, Result.andThen_ok, List.map_toArray, List.map_cons, List.map_nil, hd, hx, hr]
  exact hK
theorem heap_drew_setCells (g : Nat) : ∀ (vs : List Value) (o : Nat) (w : World), (w.drew.setCells g o vs).heap = (w.setCells g o vs).heap
  | [], _, _ => rfl
  | v :: vs, o, w => heap_drew_setCells g vs (o + 1) (w.setCell ⟨g, o, none⟩ v)
theorem src_one (hu : P.underlying t = some (.slice e)) (hO : OneAt w ei.size oa cap vb voff vs) : Src P ei.size t (.slice (some ⟨vb, voff, none⟩) 1 vc) 1 vs w :=
  Src.ofSlice w hu _ _ _ _ (by rw [hO.len]; omega) (fun j u hj => by rw [Addr.add_lit]; exact hO.cells j u hj) hO.ones
theorem road_end (hu : P.underlying t = some (.slice e)) (hei : TiOk P e ei) (hn : 0 < ei.size) (hR : RowAt w ei.size oa m cap olds) (hO : OneAt w ei.size oa cap vb voff vs) :
    ∃ u w', (∀ ty, (Builtin.append_ #[t, t] ty #[.slice oa m cap, .slice (some ⟨vb, voff, none⟩) 1 vc]).run P w = .ok u w') ∧ InsTo w ei.size m oa m cap olds vs (.returned u) w' := by
  have hold : ∀ ad, oa = some ad → ∀ (j : Nat) (u : Value), olds[j]? = some u → w.cell? (ad.add j) = some u := fun ad had j u hj => by
    rcases hR.row with ⟨_, h0, _⟩ | ⟨g, cur, e0, h1, h2, h3, h4⟩
    · have := hR.len
      rw [h0, Nat.zero_mul] at this
      rw [List.length_eq_zero_iff.1 this] at hj
      simp at hj
    · rw [had] at h1
      obtain rfl := Option.some.inj h1
      rw [← h4] at hj
      exact row_reads h2 _ j u hj
  obtain ⟨g', cap', cur', e', w', hr, h1, h2, h3, h4, h5, h6, h7, h8, h9, h10⟩ := append_run (ty := 0) hu hei hn hR.len hold (fun h => by
      rcases hR.row with ⟨_, h0, _⟩ | ⟨g, cur, e0, h1, _⟩
      · exact h0
      · rw [h] at h1; cases h1) (hR.row.imp (fun h => h.2.2) fun h => h) hR.le (src_one (vc := vc) hu hO) (by have := hR.lim; omega) (fun _ => by omega) hR.cap
  refine ⟨_, w', fun ty => hr, _, rfl, ⟨h6, h7, h8, h9, g', cap', cur', e', rfl, h1, h2, ?_, h4, h5, ?_⟩⟩
  · rw [h3, List.take_of_length_le (by rw [hR.len]; omega), List.drop_of_length_le (by rw [hR.len]; omega), List.append_nil]
  · exact h10.imp (fun ⟨cur, e0, h1, h2, h3, h4⟩ => ⟨h1, by omega, h4⟩) fun ⟨h1, h2, h3⟩ => ⟨by omega, h2, h3⟩
variable {g : Nat} {cur : Array Value} {e0 : TypeId}
theorem olds_cell (hg : w.heap[g]? = some (.cells cur e0 (0, 0))) (htk : cur.toList.take (m * ei.size) = olds) {k : Nat} : ∀ (j : Nat) (u : Value), (olds.drop k)[j]? = some u → w.cell? ((⟨g, k, none⟩ : Addr).add j) = some u := fun j u hj => by
  rw [List.getElem?_drop, ← htk] at hj
  have := row_reads hg _ _ u hj
  rw [Addr.add_lit, Nat.zero_add] at this
  rw [Addr.add_lit]
  exact this
theorem heap_os_setCells (g : Nat) : ∀ (vs : List Value) (o : Nat) (w : World), (w.setCells g o vs).os = w.os ∧ (w.setCells g o vs).tape = w.tape ∧ (w.setCells g o vs).output = w.output
  | [], _, _ => ⟨rfl, rfl, rfl⟩
  | v :: vs, o, w => heap_os_setCells g vs (o + 1) (w.setCell ⟨g, o, none⟩ v)
theorem road_room (hu : P.underlying t = some (.slice e)) (hei : TiOk P e ei) (hn : 0 < ei.size) (hg : w.heap[g]? = some (.cells cur e0 (0, 0))) (hcs : cur.size = cap * ei.size) (htk : cur.toList.take (m * ei.size) = olds)
    (hR : RowAt w ei.size (some ⟨g, 0, none⟩) m cap olds) (hO : OneAt w ei.size (some ⟨g, 0, none⟩) cap vb voff vs) (hi : i < m) (hroom : m + 1 ≤ cap) :
    (∀ ty dc sc, (Builtin.copy_ #[t, t] ty #[.slice (some ⟨g, (i + 1) * ei.size, none⟩) (m + 1 - (i + 1)) dc, .slice (some ⟨g, i * ei.size, none⟩) (m + 1 - i) sc]).run P w = .ok (goInt (Nat.min (m + 1 - i) (m + 1 - (i + 1)))) (w.setCells g ((i + 1) * ei.size) (olds.drop (i * ei.size)))) ∧
    (∀ W : World, W.heap = (w.setCells g ((i + 1) * ei.size) (olds.drop (i * ei.size))).heap → ∀ ty dc, (Builtin.copy_ #[t, t] ty #[.slice (some ⟨g, i * ei.size, none⟩) (m + 1 - i) dc, .slice (some ⟨vb, voff, none⟩) 1 vc]).run P W = .ok (goInt (Nat.min 1 (m + 1 - i))) (W.setCells g (i * ei.size) vs)) ∧
    (∀ W : World, W.heap = (w.setCells g ((i + 1) * ei.size) (olds.drop (i * ei.size))).heap → W.os = w.os → W.tape = w.tape → W.output = w.output → InsTo w ei.size i (some ⟨g, 0, none⟩) m cap olds vs (.returned (.slice (some ⟨g, 0, none⟩) (m + 1) cap)) (W.setCells g (i * ei.size) vs)) := by
  obtain ⟨inf, z, hI, hsz, _⟩ := hei.info
  obtain ⟨k1, k2, k3, k4⟩ := goIdx (n := ei.size) hi
  have k5 : m * ei.size + ei.size ≤ cap * ei.size := by rw [← k4]; exact Nat.mul_le_mul_right _ hroom
  have hdl : (olds.drop (i * ei.size)).length = (m - i) * ei.size := by rw [List.length_drop, hR.len, k3]
  have hfit1 : (i + 1) * ei.size + (olds.drop (i * ei.size)).length ≤ cur.size := by rw [hdl]; omega
  have hmin : Nat.min (m + 1 - i) (m + 1 - (i + 1)) = m - i := by simp only [Nat.min_def]; split <;> omega
  have hmin1 : Nat.min 1 (m + 1 - i) = 1 := by simp only [Nat.min_def]; split <;> omega
  have hvb : vb ≠ g := hO.ne g rfl (by omega)
  have hg1 := heap_setCells_of g (olds.drop (i * ei.size)) ((i + 1) * ei.size) w hg
  have hfit2 : i * ei.size + vs.length ≤ (putCells cur ((i + 1) * ei.size) (olds.drop (i * ei.size))).size := by rw [size_putCells, hO.len]; omega
  refine ⟨fun ty dc sc => ?_, fun W hW ty dc => ?_, fun W hW ho ht hu' => ?_⟩
  · exact copy_run w t t ty e inf g _ _ dc ⟨g, i * ei.size, none⟩ _ sc _ hu hI (by rw [hmin, hdl, hsz]) (olds_cell hg htk) hg hfit1 fun v hv => hR.ones v (List.mem_of_mem_drop hv)
  · refine copy_run W t t ty e inf g _ _ dc ⟨vb, voff, none⟩ _ vc _ hu hI (by rw [hmin1, hO.len, hsz, Nat.one_mul]) (fun j v hj => ?_) (hW ▸ hg1) hfit2 hO.ones
    rw [Addr.add_lit, World.cell?_of_block (w := w) (by rw [hW]; exact heap_setCells_ne g hvb _ _ _)]
    exact hO.cells j v hj
  · obtain ⟨p1, p2, p3⟩ := heap_os_setCells g vs (i * ei.size) W
    have hg2 := heap_setCells_of g vs (i * ei.size) W (hW ▸ hg1)
    refine ⟨_, rfl, ⟨p1.trans ho, p2.trans ht, p3.trans hu', ?_, g, cap, _, e0, rfl, hg2, by rw [size_putCells, size_putCells]; exact hcs, ?_, hroom, hR.cap, .inl ⟨rfl, by omega, fun b hb => ?_⟩⟩⟩
    · rw [size_setCells, hW, size_setCells]; exact Nat.le_refl _
    · have hci : cur.toList.take (i * ei.size) = olds.take (i * ei.size) := by
        rw [← htk, List.take_take]; congr 1; omega
      have hA : ((cur.toList.take ((i + 1) * ei.size) ++ olds.drop (i * ei.size)) ++ cur.toList.drop ((i + 1) * ei.size + (olds.drop (i * ei.size)).length)).take (i * ei.size) = olds.take (i * ei.size) := by
        have hl : (cur.toList.take ((i + 1) * ei.size)).length = (i + 1) * ei.size := by rw [List.length_take, Array.length_toList]; omega
        rw [List.append_assoc, List.take_append_of_le_length (by rw [hl]; omega), List.take_take, ← hci]; congr 1; omega
      have hB : ((cur.toList.take ((i + 1) * ei.size) ++ olds.drop (i * ei.size)) ++ cur.toList.drop ((i + 1) * ei.size + (olds.drop (i * ei.size)).length)).drop (i * ei.size + vs.length) = olds.drop (i * ei.size) ++ cur.toList.drop ((i + 1) * ei.size + (olds.drop (i * ei.size)).length) := by
        have hl : (cur.toList.take ((i + 1) * ei.size)).length = i * ei.size + vs.length := by rw [List.length_take, Array.length_toList, hO.len]; omega
        rw [List.append_assoc, ← hl, List.drop_left]
      rw [putCells_list hfit2, putCells_list hfit1, hA, hB]
      have hl3 : (olds.take (i * ei.size) ++ vs ++ olds.drop (i * ei.size)).length = (m + 1) * ei.size := by
        rw [List.length_append, List.length_append, hdl, hO.len, List.length_take, hR.len, k3]; omega
      rw [← List.append_assoc, ← hl3, List.take_left]
    · rw [heap_setCells_ne g hb, hW, heap_setCells_ne g hb]
theorem road_grow {tn : TypeId} (hu : P.underlying t = some (.slice e)) (htn : P.underlying tn = some (.int .i64)) (hei : TiOk P e ei) (hn : 0 < ei.size) (hg : w.heap[g]? = some (.cells cur e0 (0, 0))) (hcs : cur.size = cap * ei.size) (htk : cur.toList.take (m * ei.size) = olds)
    (hR : RowAt w ei.size (some ⟨g, 0, none⟩) m cap olds) (hO : OneAt w ei.size (some ⟨g, 0, none⟩) cap vb voff vs) (hvw : vb < w.heap.size) (hi : i < m) (hroom : cap < m + 1) :
    ∃ G W1, m + 1 ≤ G ∧ G ≤ maxLen ∧ (∀ ty k, k = ((m + 1 - i : Nat) : Int) → (Builtin.append_ #[t, tn] ty #[.slice (some ⟨g, 0, none⟩) i cap, .int .i64 k]).run P w = .ok (.slice (some ⟨w.heap.size, 0, none⟩) (m + 1) G) W1) ∧
    (∀ W : World, W.heap = W1.heap → ∀ ty dc, (Builtin.copy_ #[t, t] ty #[.slice (some ⟨w.heap.size, i * ei.size, none⟩) (m + 1 - i) dc, .slice (some ⟨vb, voff, none⟩) 1 vc]).run P W = .ok (goInt (Nat.min 1 (m + 1 - i))) (W.setCells w.heap.size (i * ei.size) vs)) ∧
    (∀ W : World, W.heap = (W1.setCells w.heap.size (i * ei.size) vs).heap → ∀ ty dc sc, (Builtin.copy_ #[t, t] ty #[.slice (some ⟨w.heap.size, (i + 1) * ei.size, none⟩) (m + 1 - (i + 1)) dc, .slice (some ⟨g, i * ei.size, none⟩) (m - i) sc]).run P W = .ok (goInt (Nat.min (m - i) (m + 1 - (i + 1)))) (W.setCells w.heap.size ((i + 1) * ei.size) (olds.drop (i * ei.size)))) ∧
    (∀ W : World, W.heap = (W1.setCells w.heap.size (i * ei.size) vs).heap → W.os = w.os → W.tape = w.tape → W.output = w.output → InsTo w ei.size i (some ⟨g, 0, none⟩) m cap olds vs (.returned (.slice (some ⟨w.heap.size, 0, none⟩) (m + 1) G)) (W.setCells w.heap.size ((i + 1) * ei.size) (olds.drop (i * ei.size)))) ∧
    W1.os = w.os ∧ W1.tape = w.tape ∧ W1.output = w.output := by
  obtain ⟨inf, z, hI, hsz, hby, hz, hzs, _⟩ := hei.info
  obtain ⟨k1, k2, k3, k4⟩ := goIdx (n := ei.size) hi
  have hlim := hR.lim
  have hle := hR.le
  have hgw : g < w.heap.size := block_lt_of_heap hg
  have hdl : (olds.drop (i * ei.size)).length = (m - i) * ei.size := by rw [List.length_drop, hR.len, k3]
  have htl : (olds.take (i * ei.size)).length = i * ei.size := by rw [List.length_take, hR.len]; omega
  have hmin : Nat.min (m - i) (m + 1 - (i + 1)) = m - i := by simp only [Nat.min_def]; split <;> omega
  have hmin1 : Nat.min 1 (m + 1 - i) = 1 := by simp only [Nat.min_def]; split <;> omega
  have hold : (Builtin.firstCells inf.size i (.slice (some ⟨g, 0, none⟩) i cap)).run P w.drew = .ok (olds.take (i * ei.size)).toArray w.drew := by
    refine run_firstCells_some w.drew inf.size i ⟨g, 0, none⟩ i cap _ (by rw [htl, hsz]) fun j u hj => ?_
    rw [List.getElem?_take] at hj
    split at hj
    · rw [← htk] at hj
      exact row_reads hg _ j u hj
    · cases hj
  have hik : i + (m + 1 - i) = m + 1 := by omega
  have hbytes : ((m + 1) + (m + 1) / 4 + 192) * inf.bytes ≤ 281474976710656 := Nat.le_trans (Nat.mul_le_mul (show _ ≤ 1342177472 by omega) hby) (by decide)
  have hkb : (m + 1 - i) * inf.bytes ≤ 281474976710656 := Nat.le_trans (Nat.mul_le_mul_right _ (by omega)) hbytes
  have hap : ∀ ty, (Builtin.append_ #[t, tn] ty #[.slice (some ⟨g, 0, none⟩) i cap, .int .i64 ((m + 1 - i : Nat) : Int)]).run P w = _ := fun ty =>
    Lib.run_append_grow_zeros w t tn ty e inf z .i64 .i64 hu htn hI hz (some ⟨g, 0, none⟩) i cap (olds.take (i * ei.size)) hold (m + 1 - i) (by omega) (by omega) (by omega) (by omega) hkb (by rw [hik]; exact growslice_fits_wide hroom hbytes)
  rw [hik] at hap
  obtain ⟨G, hG⟩ : ∃ G, G = grownCap w (m + 1) cap e := ⟨_, rfl⟩
  have hGn : m + 1 ≤ G := by rw [hG]; exact grownCap_ge w _ _ _
  have hGm : G ≤ maxLen := by rw [hG]; exact grownCap_le_maxLen w _ _ _ (by unfold maxLen; omega)
  rw [← hG] at hap
  obtain ⟨ROW, hROW⟩ : ∃ ROW : Array Value, ROW = (olds.take (i * ei.size)).toArray ++ Builtin.zeroCells z.cells (m + 1 - i) ++ Builtin.zeroCells z.cells (G - (m + 1)) := ⟨_, rfl⟩
  rw [← hROW] at hap
  have hRs : ROW.size = G * ei.size := by
    rw [hROW]
    simp only [Array.size_append, List.size_toArray, size_zeroCells, hzs, htl, ← Nat.add_mul]
    congr 1
    omega
  have hRt : ROW.toList.take (i * ei.size) = olds.take (i * ei.size) := by
    rw [hROW, Array.toList_append, Array.toList_append, List.append_assoc]
    show (olds.take (i * ei.size) ++ _).take _ = _
    rw [List.take_append_of_le_length (by rw [htl]; omega), List.take_of_length_le (by rw [htl]; omega)]
  have hGe : (m + 1) * ei.size ≤ G * ei.size := Nat.mul_le_mul_right _ hGn
  obtain ⟨W1, hW1⟩ : ∃ W1, W1 = w.drew.alloc (.cells ROW e) := ⟨_, rfl⟩
  rw [← hW1] at hap
  have hn1 : W1.heap[w.heap.size]? = some (.cells ROW e (0, 0)) := by rw [hW1]; exact heap_alloc_new w.drew _
  have ho1 : ∀ b, b < w.heap.size → W1.heap[b]? = w.heap[b]? := fun b hb => by rw [hW1]; exact heap_alloc_old w.drew _ hb
  have hs1 : W1.heap.size = w.heap.size + 1 := by rw [hW1]; simp
  have hfitA : i * ei.size + vs.length ≤ ROW.size := by rw [hO.len, hRs]; omega
  have hg2 := heap_setCells_of w.heap.size vs (i * ei.size) W1 hn1
  have hfitB : (i + 1) * ei.size + (olds.drop (i * ei.size)).length ≤ (putCells ROW (i * ei.size) vs).size := by rw [size_putCells, hdl, hRs]; omega
  refine ⟨G, W1, hGn, hGm, fun ty k hk => by subst hk; exact hap ty, fun W hW ty dc => ?_, fun W hW ty dc sc => ?_, fun W hW ho ht hu' => ?_, by rw [hW1]; rfl, by rw [hW1]; rfl, by rw [hW1]; rfl⟩
  · refine copy_run W t t ty e inf _ _ _ dc ⟨vb, voff, none⟩ _ vc _ hu hI (by rw [hmin1, hO.len, hsz, Nat.one_mul]) (fun j v hj => ?_) (hW ▸ hn1) hfitA hO.ones
    rw [Addr.add_lit, World.cell?_of_block (w := w) (by rw [hW]; exact ho1 _ hvw)]
    exact hO.cells j v hj
  · refine copy_run W t t ty e inf _ _ _ dc ⟨g, i * ei.size, none⟩ _ sc _ hu hI (by rw [hmin, hdl, hsz]) (fun j v hj => ?_) (hW ▸ hg2) hfitB fun v hv => hR.ones v (List.mem_of_mem_drop hv)
    have := olds_cell hg htk j v hj
    rw [Addr.add_lit] at this ⊢
    rw [World.cell?_of_block (w := w) (by rw [hW]; exact (heap_setCells_ne w.heap.size (show g ≠ w.heap.size by omega) _ _ _).trans (ho1 _ hgw))]
    exact this
  · obtain ⟨p1, p2, p3⟩ := heap_os_setCells w.heap.size (olds.drop (i * ei.size)) ((i + 1) * ei.size) W
    have hg3 := heap_setCells_of w.heap.size (olds.drop (i * ei.size)) ((i + 1) * ei.size) W (hW ▸ hg2)
    have hsz3 : (W.setCells w.heap.size ((i + 1) * ei.size) (olds.drop (i * ei.size))).heap.size = w.heap.size + 1 := by rw [size_setCells, hW, size_setCells, hs1]
    refine ⟨_, rfl, ⟨p1.trans ho, p2.trans ht, p3.trans hu', by omega, w.heap.size, G, _, e, rfl, hg3, by rw [size_putCells, size_putCells]; exact hRs, ?_, hGn, hGm, .inr ⟨Nat.le_refl _, by omega, fun b hb => ?_⟩⟩⟩
    · rw [putCells_list hfitB, putCells_list hfitA, hRt]
      have hl : (olds.take (i * ei.size) ++ vs).length = (i + 1) * ei.size := by rw [List.length_append, htl, hO.len]; omega
      rw [show ((olds.take (i * ei.size) ++ vs ++ ROW.toList.drop (i * ei.size + vs.length)).take ((i + 1) * ei.size)) = olds.take (i * ei.size) ++ vs from by rw [← hl, List.take_left]]
      have hl3 : (olds.take (i * ei.size) ++ vs ++ olds.drop (i * ei.size)).length = (m + 1) * ei.size := by
        rw [List.length_append, List.length_append, hdl, hO.len, htl, k3]; omega
      rw [← hl3, List.take_left]
    · rw [heap_setCells_ne _ (show b ≠ w.heap.size by omega), hW, heap_setCells_ne _ (show b ≠ w.heap.size by omega)]
      exact ho1 b hb
theorem road_del {z1 : Nat} {z2 : List C} {z3 : List LK} {tt : List (Nat × TI)} (htt : ttOk P tt = true) (g1 : get tt t = some ⟨.sli e, z1, z2, z3⟩) (g2 : get tt e = some ei) (hn : 0 < ei.size) (hg : w.heap[g]? = some (.cells cur e0 (0, 0))) (hcs : cur.size = cap * ei.size) (htk : cur.toList.take (m * ei.size) = olds)
    (hR : RowAt w ei.size (some ⟨g, 0, none⟩) m cap olds) (hi : i < m) :
    ∃ W1, (∀ ty ad, (cap = i + 1 ∨ ad = ⟨g, (i + 1) * ei.size, none⟩) → (Builtin.append_ #[t, t] ty #[.slice (some ⟨g, 0, none⟩) i cap, .slice (some ad) (m - (i + 1)) (cap - (i + 1))]).run P w = .ok (.slice (some ⟨g, 0, none⟩) (m - 1) cap) W1) ∧ W1.os = w.os ∧ W1.tape = w.tape ∧ W1.output = w.output ∧
    ∀ W : World, W.heap = W1.heap → W.os = w.os → W.tape = w.tape → W.output = w.output → ∃ W2 : World, (∀ ty, (Builtin.clear_ #[t] ty #[.slice (some ⟨g, (m - 1) * ei.size, none⟩) (m - (m - 1)) (cap - (m - 1))]).run P W = .ok (.tuple #[]) W2) ∧
      ∀ W3 : World, W3.heap = W2.heap → W3.os = W2.os → W3.tape = W2.tape → W3.output = W2.output → DelTo w ei.size i (some ⟨g, 0, none⟩) m cap olds (.returned (.slice (some ⟨g, 0, none⟩) (m - 1) cap)) W3 := by
  have hei := ttOk_get htt g2
  have hu := (ttOk_get htt g1).sli
  obtain ⟨inf, z, hI, hsz, hby, hz, hzs, _⟩ := hei.info
  obtain ⟨k1, k2, k3, k4⟩ := goIdx (n := ei.size) hi
  have hle := hR.le
  have hlim := hR.lim
  have k6 : m * ei.size ≤ cap * ei.size := Nat.mul_le_mul_right _ hle
  have k7 : (m - 1) * ei.size = m * ei.size - ei.size := by rw [Nat.sub_mul, Nat.one_mul]
  have k8 : (m - (i + 1)) * ei.size = m * ei.size - (i + 1) * ei.size := Nat.sub_mul ..
  have hdl : (olds.drop ((i + 1) * ei.size)).length = (m - (i + 1)) * ei.size := by rw [List.length_drop, hR.len, k8]
  have hfit : i * ei.size + (olds.drop ((i + 1) * ei.size)).length ≤ cur.size := by rw [hdl, hcs]; omega
  have hg1 := heap_setCells_of g (olds.drop ((i + 1) * ei.size)) (i * ei.size) w hg
  have hcs1 : (putCells cur (i * ei.size) (olds.drop ((i + 1) * ei.size))).size = cap * ei.size := by rw [size_putCells]; exact hcs
  obtain ⟨q1, q2, q3⟩ := heap_os_setCells g (olds.drop ((i + 1) * ei.size)) (i * ei.size) w
  have hlist : (putCells cur (i * ei.size) (olds.drop ((i + 1) * ei.size))).toList.take ((m - 1) * ei.size) = olds.take (i * ei.size) ++ olds.drop ((i + 1) * ei.size) := by
    have hci : cur.toList.take (i * ei.size) = olds.take (i * ei.size) := by
      rw [← htk, List.take_take]; congr 1; omega
    have hl : (olds.take (i * ei.size) ++ olds.drop ((i + 1) * ei.size)).length = (m - 1) * ei.size := by
      rw [List.length_append, hdl, List.length_take, hR.len]; omega
    rw [putCells_list hfit, hci, ← hl, List.take_left]
  refine ⟨w.setCells g (i * ei.size) (olds.drop ((i + 1) * ei.size)), fun ty ad had => ?_, q1, q2, q3, fun W hW ho ht hu' => ?_⟩
  · have hs : Src P inf.size t (.slice (some ad) (m - (i + 1)) (cap - (i + 1))) (m - (i + 1)) (olds.drop ((i + 1) * ei.size)) w := by
      refine Src.ofSlice w hu _ _ _ _ (by rw [hdl, hsz]) (fun j u hj => ?_) fun u hu => hR.ones u (List.mem_of_mem_drop hu)
      rcases had with had | rfl
      · have : (olds.drop ((i + 1) * ei.size)).length = 0 := by rw [hdl, show m - (i + 1) = 0 by omega, Nat.zero_mul]
        rw [List.length_eq_zero_iff.1 this] at hj
        simp at hj
      · exact olds_cell hg htk j u hj
    have hr := run_append_room_src (P := P) w t t ty e inf hu hI g 0 i cap _ _ _ hs (by omega) (fun j hj => by
      rw [hsz]
      have : 0 + i * ei.size + j < cur.size := by omega
      simp only [World.cell?, hg, Array.getElem?_eq_getElem this]; rfl) (fun j hj => by simp [World.frozen?, hg])
    rw [hsz, Nat.zero_add, show i + (m - (i + 1)) = m - 1 by omega] at hr
    exact hr
  · obtain ⟨zs, ps, hzl, hpl, hzv, hrun⟩ := clear_run (P := P) (w := W) (m := m) (i := m - 1) htt g1 g2 rfl (hW ▸ hg1) hcs1 (by omega) hle 0
    refine ⟨_, fun ty => hrun, fun W3 h3 o3 t3 u3 => ?_⟩
    have hgw := setRow_heap W g _ ((putCells cur (i * ei.size) (olds.drop ((i + 1) * ei.size))).toList.take ((m - 1) * ei.size) ++ (List.replicate (m - (m - 1)) zs).flatten ++ (putCells cur (i * ei.size) (olds.drop ((i + 1) * ei.size))).toList.drop ((m - 1) * ei.size + (m - (m - 1)) * ei.size)).toArray e0 (0, 0) (hW ▸ hg1)
    rw [← h3] at hgw
    have hfl : ((List.replicate (m - (m - 1)) zs).flatten).length = (m - (m - 1)) * ei.size := by
      rw [List.length_flatten, List.map_replicate, hzl]; simp
    have h5 : (m - (m - 1)) * ei.size = ei.size := by rw [show m - (m - 1) = 1 by omega, Nat.one_mul]
    refine ⟨_, rfl, ⟨o3.trans ho, t3.trans ht, u3.trans hu', ?_, g, cap, _, e0, rfl, hgw, ?_, ?_, by omega, hR.cap, .inl ⟨rfl, by omega, fun b hb => ?_⟩⟩⟩
    · rw [h3]; simp only [World.setRow, Array.size_modify]; rw [hW, size_setCells]; exact Nat.le_refl _
    · simp only [List.size_toArray, List.length_append, hfl, List.length_take, List.length_drop, Array.length_toList, hcs1]
      omega
    · show ((_ : List Value) ++ _ ++ _).take _ = _
      have hl : ((putCells cur (i * ei.size) (olds.drop ((i + 1) * ei.size))).toList.take ((m - 1) * ei.size)).length = (m - 1) * ei.size := by
        rw [List.length_take, Array.length_toList, hcs1]; omega
      rw [List.append_assoc, List.take_append_of_le_length (by rw [hl]; omega), List.take_of_length_le (by rw [hl]; omega), hlist]
    · rw [h3, setRow_other W g b _ hb, hW, heap_setCells_ne g hb]
def insAt {α : Type} (l : List α) (j : Nat) (y : α) : List α := l.take j ++ [y] ++ l.drop j
def delAt {α : Type} (l : List α) (j : Nat) : List α := l.take j ++ l.drop (j + 1)
theorem av_ins {α : Type} [GoE α] {n : Nat} (l : List α) (z : Nat) (y : α) : AV.one (.slc .sh n (eL (insAt l z y))) = AV.one (.slc .sh n ((eL l).take z ++ [GoE.enc y] ++ (eL l).drop z)) := by simp [insAt, eL, List.map_take, List.map_drop]
theorem insAt_len {α : Type} {l : List α} {j : Nat} {y : α} (h : j ≤ l.length) : (insAt l j y).length = l.length + 1 := by simp [insAt]; omega
theorem delAt_len {α : Type} {l : List α} {j : Nat} (h : j < l.length) : (delAt l j).length + 1 = l.length := by simp [delAt]; omega
theorem atake_insT {α : Type} [GoE α] {f n : Nat} (hok : FnOk P f) (h0 : 0 < n)
    (hrun : ∀ w oa m cap olds i vb voff vc vs, RowAt w n oa m cap olds → OneAt w n oa cap vb voff vs → i ≤ m → Calls P f #[.slice oa m cap, .int .i64 (i : Int), .slice (some ⟨vb, voff, none⟩) 1 vc] w (InsTo w n i oa m cap olds vs))
    (l : List α) (y : α) {i : Int} (hi : 0 ≤ i) (hj : i ≤ l.length) (hl : l.length < 1073741824) : ATake P f n (eL l) [.one (.int .i64 i), .one (.slc .sh n (eL [y]))] true false (eL (insAt l i.toNat y)) := by
  have h := atake_ins hok h0 hrun (l := eL l) (x := GoE.enc y) (i := i) (j := i.toNat) (by omega) (by simp [eL]; omega) (by simpa [eL] using hl)
  rw [show eL (insAt l i.toNat y) = (eL l).take i.toNat ++ [GoE.enc y] ++ (eL l).drop i.toNat by simp [insAt, eL, List.map_take, List.map_drop]]
  exact h
theorem atake_delT {α : Type} [GoE α] {f n : Nat} (hok : FnOk P f)
    (hrun : ∀ w oa m cap olds i, RowAt w n oa m cap olds → i < m → Calls P f #[.slice oa m cap, .int .i64 (i : Int), .int .i64 ((i : Int) + 1)] w (DelTo w n i oa m cap olds))
    (l : List α) {i k : Int} (hi : 0 ≤ i) (hk : k = i + 1) (hj : i < l.length) (hl : l.length < 1073741824) : ATake P f n (eL l) [.one (.int .i64 i), .one (.int .i64 k)] true false (eL (delAt l i.toNat)) := by
  have h := atake_del hok hrun (l := eL l) (i := i) (k := k) (j := i.toNat) (by omega) (by omega) (by simp [eL]; omega) (by simpa [eL] using hl)
  rw [show eL (delAt l i.toNat) = (eL l).take i.toNat ++ (eL l).drop (i.toNat + 1) by simp [delAt, eL, List.map_take, List.map_drop]]
  exact h
end
end Go.Proofs.Ytiafgmepdgfpbaa
