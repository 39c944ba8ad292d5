/- The operation clear on the end of a row of ours. No program in sight. -/
import Derived.Test.YtiafgmepdgfpbaaTw
set_option linter.unusedVariables false
set_option linter.unusedSimpArgs false
namespace Go.Proofs.Ytiafgmepdgfpbaa
open Go.RowKit
theorem getD_put' {a : Act} {t u : Nat} {v : Value} (ht : t < a.tmps.size) : (a.put (some t) v).tmps.getD u undef = if u = t then v else a.tmps.getD u undef := by
  simp only [Act.put, Array.getD_eq_getD_getElem?, Array.getElem?_setIfInBounds]
  by_cases h : u = t
  · subst h; simp [ht]
  · simp [h, Ne.symm h]
theorem nbeq_false {a b : Nat} : Nat.beq a b = false ↔ ¬ a = b := by
  cases h : Nat.beq a b with
  | true => simp [Nat.eq_of_beq_eq_true h]
  | false => simp; exact Nat.ne_of_beq_eq_false h
theorem put_self {a : Act} {t : Nat} {v : Value} (h : a.tmps.getD t undef = v) (ht : t < a.tmps.size) : a.put (some t) v = a := by
  have e : a.tmps.setIfInBounds t v = a.tmps := by
    apply Array.ext
    · simp
    · intro i h1 h2
      rw [Array.getElem_setIfInBounds]
      split
      · rename_i e; subst e; rw [← h, Array.getD_eq_getD_getElem?, Array.getElem?_eq_getElem ht]; rfl
      · rfl
  show ({ a with tmps := a.tmps.setIfInBounds t v } : Act) = a
  rw [e]
theorem zeros_vc : ∀ {vs : List Value} {cs : List C}, zerosOk vs cs = true → ∃ ps : List PV, ps.length = vs.length ∧ ∀ (X : Nat → Prop) (w : World), VC X w vs ps
  | [], [], _ => ⟨[], rfl, fun _ _ => .nil⟩
  | [], _ :: _, h => by simp [zerosOk] at h
  | _ :: _, [], h => by simp [zerosOk] at h
  | v :: vs, c :: cs, h => by
    simp only [zerosOk, Bool.and_eq_true] at h
    obtain ⟨ps, h1, h2⟩ := zeros_vc h.2
    have hz := h.1
    unfold zeroOk at hz
    split at hz
    · rename_i k _ _ _
      simp only [Bool.and_eq_true, decide_eq_true_eq] at hz
      obtain ⟨⟨rfl, rfl⟩, rfl⟩ := hz
      exact ⟨.int k 0 :: ps, by simp [h1], fun X w => .cons (.int (by cases k <;> simp [InR, IntKind.min, IntKind.max, IntKind.bits, IntKind.signed])) (h2 X w)⟩
    · rename_i b _
      exact ⟨.bool b :: ps, by simp [h1], fun X w => .cons (.bool b) (h2 X w)⟩
    · rename_i s _
      have hs : s.size = 0 := by simp only [Bool.and_eq_true] at hz; exact Nat.eq_of_beq_eq_true hz.1
      exact ⟨.str s :: ps, by simp [h1], fun X w => .cons (.str (by rw [hs]; exact Nat.zero_le _)) (h2 X w)⟩
    · rename_i n
      exact ⟨.slc n [] :: ps, by simp [h1], fun X w => .cons (.emp none n (Nat.zero_le _)) (h2 X w)⟩
    · cases hz
theorem vr_zeros {X : Nat → Prop} {w : World} {n : Nat} {vs : List Value} {ps : List PV} (h : VC X w vs ps) (hn : ps.length = n) : ∀ m, VR X w n (List.replicate m vs).flatten (List.replicate m ps)
  | 0 => .nil n
  | m + 1 => by
    rw [List.replicate_succ, List.replicate_succ, List.flatten_cons]
    exact .cons h hn (vr_zeros h hn m)
theorem zero_cells {z : Array Value} {m : Nat} : (Builtin.zeroCells z m).toList = (List.replicate m z.toList).flatten := by
  have key : ∀ (l : List Value) (m : Nat), (List.range (m * l.length)).map (fun i => l[i % l.length]!) = (List.replicate m l).flatten := by
    intro l m
    induction m with
    | zero => simp
    | succ m ih =>
      rw [Nat.succ_mul, List.range_add, List.map_append, ih, List.replicate_succ', List.flatten_append]
      congr 1
      simp only [List.map_map, List.flatten_cons, List.flatten_nil, List.append_nil]
      apply List.ext_getElem
      · simp
      · intro i h1 h2
        simp only [List.length_map, List.length_range] at h1
        simp [Nat.mul_add_mod_self_right, Nat.mod_eq_of_lt h1, h2]
  rw [← key z.toList m]
  unfold Builtin.zeroCells
  rw [Array.toList_map, Array.toList_range]
  apply List.map_congr_left
  intro i _
  simp only [Array.length_toList, getElem!_def, Array.getElem?_toList]
theorem zero_one {vs : List Value} {cs : List C} (h : zerosOk vs cs = true) : ∀ v, v ∈ vs → v.oneCell' = true := by
  induction vs generalizing cs with
  | nil => intro v hv; simp at hv
  | cons v vs ih =>
    cases cs with
    | nil => simp [zerosOk] at h
    | cons c cs =>
      simp only [zerosOk, Bool.and_eq_true] at h
      intro u hu
      rcases List.mem_cons.1 hu with rfl | hu
      · have hz := h.1
        unfold zeroOk at hz
        split at hz <;> first | rfl | cases hz
      · exact ih h.2 u hu
section
variable {P : Program} {N : Nat} {w0 : Base} {F0 : Nat → Prop} {J : Inj} {a : Act} {w : World} {s : St} {Q : Exit → St → Prop}
theorem Rel.aside (h : Rel N w0 F0 J a w s) {d : Nat} (hd : d < N) (hn : get s.tm d = none) (v : Value) : Rel N w0 F0 J (a.put (some d) v) w s :=
  (h.pure (some d) (fun d' e => by cases e; exact hd) (.one .dead) v (fun _ => trivial)).less (fun t x hx => by
    show get (ins d _ s.tm) t = some x
    rw [get_ins, if_neg (fun e => by subst e; rw [hn] at hx; cases hx)]
    exact hx) (fun _ _ h => h)
theorem clear_run {tt : List (Nat × TI)} (htt : ttOk P tt = true) {sty ety z1 : Nat} {z2 : List C} {z3 : List LK} {ti : TI} (g1 : get tt sty = some ⟨.sli ety, z1, z2, z3⟩) (g2 : get tt ety = some ti)
    {g cap m i n : Nat} {cur : Array Value} {e : TypeId} (hn : ti.size = n) (hg : w.heap[g]? = some (.cells cur e (0, 0))) (hs : cur.size = cap * n) (hi : i < m) (hm : m ≤ cap) (ty : TypeId) :
    ∃ zs : List Value, ∃ ps : List PV, zs.length = n ∧ ps.length = n ∧ (∀ (X : Nat → Prop) (w : World), VC X w zs ps) ∧
      (Builtin.clear_ #[sty] ty #[.slice (some ⟨g, i * n, none⟩) (m - i) (cap - i)]).run P w = .ok (.tuple #[]) (w.setRow g (cur.toList.take (i * n) ++ (List.replicate (m - i) zs).flatten ++ cur.toList.drop (i * n + (m - i) * n)).toArray) := by
  obtain ⟨inf, z, hI, hsz, _, hz, hzs, hzo⟩ := (ttOk_get htt g2).info
  obtain ⟨ps, p1, p2⟩ := zeros_vc hzo
  have hu := (ttOk_get htt g1).sli
  have hzl : z.cells.toList.length = n := by simpa [hn] using hzs
  refine ⟨z.cells.toList, ps, hzl, by rw [p1, hzl], p2, ?_⟩
  obtain ⟨q, hq⟩ : ∃ q, m - i = q + 1 := ⟨m - i - 1, by omega⟩
  have hfl : ((List.replicate (m - i) z.cells.toList).flatten).length = (m - i) * n := by
    rw [List.length_flatten, List.map_replicate, hzl]; simp
  have h3 : i * n + (m - i) * n ≤ cap * n := by rw [← Nat.add_mul]; exact Nat.mul_le_mul_right n (by omega)
  have hst := run_storeCells_at P g (i * n) e ((List.replicate (m - i) z.cells.toList).flatten) 0 cur w hg (by rw [hfl, hs]; simpa using h3) (fun v hv => by
    obtain ⟨l, hl, hv⟩ := List.mem_flatten.1 hv
    rw [List.eq_of_mem_replicate hl] at hv
    exact zero_one hzo v hv)
  simp only [Nat.add_zero, hfl] at hst
  rw [hq] at hst ⊢
  simp [Builtin.clear_, run_underlying hu, zeroValue, typeInfo_run hI, hz, zero_cells, hst]
theorem awp_clear {tt : List (Nat × TI)} (htt : ttOk P tt = true) {id : Nat} {ops : Array Oper} {t0 t5 d1 d2 d3 sty ety z1 : Nat} {z2 : List C} {z3 : List LK} {ti : TI} {y1 y2 y3 y4 : TypeId} {q1 q2 q3 q4 : String} {f1 f2 f3 f4 : Array Edge}
    (hops : ops = #[⟨some d1, .move (.tmp t0), y1, q1, f1, none⟩, ⟨some d2, .move (.tmp t5), y2, q2, f2, none⟩, ⟨some d3, .slice sty (.tmp d1) (some (.tmp d2)) none none, y3, q3, f3, none⟩, ⟨none, .call { callee := .builtin .clear, args := #[.tmp d3], argTypes := #[sty] }, y4, q4, f4, none⟩])
    (hN : (Nat.blt d1 N && Nat.blt d2 N && Nat.blt d3 N && Nat.blt t0 N && !(Nat.beq d1 t0) && !(Nat.beq d1 t5) && !(Nat.beq d2 t0) && !(Nat.beq d2 t5) && !(Nat.beq d3 t0) && !(Nat.beq d3 t5) && !(Nat.beq d1 d2) && !(Nat.beq t0 t5)) = true)
    (g1 : get tt sty = some ⟨.sli ety, z1, z2, z3⟩) (g2 : get tt ety = some ti) {k n : Nat} {l : List (List PV)} (hk : get s.tm t0 = some (.one (.slc (.own false k) n l))) (hn : ti.size = n) {i : Int} (hi : get s.tm t5 = some (.one (.int .i64 i))) (h0 : 0 ≤ i) (hl : i < l.length)
    (hQ : ∀ l', l'.length = l.length → l'.take i.toNat = l.take i.toNat → Q .normal ⟨[(t0, .one (.slc (.own false (64 * t0)) n l')), (t5, .one (.int .i64 i))], []⟩) : AWP P N w0 F0 (.region id ops false) Q s := fun J a w hr => by
  simp only [Bool.and_eq_true, Nat.blt_eq, Bool.not_eq_true', nbeq_false] at hN
  obtain ⟨⟨⟨⟨⟨⟨⟨⟨⟨⟨⟨m1, m2⟩, m3⟩, m0⟩, n1⟩, n2⟩, n3⟩, n4⟩, n5⟩, n6⟩, n7⟩, n8⟩ := hN
  obtain ⟨j, rfl⟩ : ∃ j : Nat, i = (j : Int) := ⟨i.toNat, by omega⟩
  have hj : j < l.length := by omega
  have e0 : CR J w (a.tmps.getD t0 undef) (.slc (.own false k) n l) := hr.tm t0 _ hk
  have e5 : CR J w (a.tmps.getD t5 undef) (.int .i64 (j : Int)) := hr.tm t5 _ hi
  obtain ⟨e5, _⟩ := e5
  rcases (show OwnTop J.F (J.L k) w _ n l from e0) with ⟨e, _⟩ | ⟨g, cap, cur, e, hL, e0, hg, hs, hvr, hlc, hcap⟩
  · rw [e] at hj; simp at hj
  obtain ⟨zs, ps, hzl, hpl, hzv, hrun⟩ := clear_run (P := P) (w := w) htt g1 g2 hn hg hs hj hlc y4
  have hu := (ttOk_get htt g1).sli
  have hsz := sizeOf_run (P := P) (ttOk_get htt g2) w
  rw [hn] at hsz
  have hr5 : Rel N w0 F0 J a w ⟨[(t5, .one (.int .i64 (j : Int)))], []⟩ := hr.less (fun t v hv => by
    simp only [get] at hv
    split at hv
    · rename_i e; subst e; rw [hi]; exact hv
    · cases hv) (fun k c hc => by cases hc)
  have no : ∀ d, ¬ d = t5 → get (⟨[(t5, .one (.int .i64 (j : Int)))], []⟩ : St).tm d = none := fun d hd => by
    show (if t5 = d then _ else _) = none
    rw [if_neg (fun e => hd e.symm)]; rfl
  have s0 := hr.size
  have hr1 := (hr5.aside m1 (no _ n2) (.slice (some ⟨g, 0, none⟩) l.length cap)).aside m2 (no _ n4) (.int .i64 (j : Int))
  have hr3 := hr1.aside m3 (no _ n6) (.slice (some ⟨g, 0 + j * n, none⟩) (l.length - j) (cap - j))
  subst hops
  refine wp_region ?_
  show wpOps P _ (QX N w0 F0 Q) [0, 1, 2, 3] a w
  rw [wpOps_cons]; unfold wpOp
  simp only [List.getElem?_toArray, List.getElem?_cons_zero]
  rw [if_pos (by simp [Region.wanted])]
  refine .inl (wp_of_run (v := .slice (some ⟨g, 0, none⟩) l.length cap) (w' := w) (by simp [execOp, e0, Act.eval]) ?_)
  rw [wpOps_cons]; unfold wpOp
  simp only [List.getElem?_toArray, List.getElem?_cons_succ, List.getElem?_cons_zero]
  rw [if_pos (by simp [Region.wanted])]
  have e5' : (a.put (some d1) (.slice (some ⟨g, 0, none⟩) l.length cap)).tmps.getD t5 undef = .int .i64 (j : Int) := (getD_put' (by omega)).trans ((if_neg (fun e => n2 e.symm)).trans e5)
  refine .inl (wp_of_run (v := .int .i64 (j : Int)) (w' := w) (by simp [execOp, e5', Act.eval]) ?_)
  rw [wpOps_cons]; unfold wpOp
  simp only [List.getElem?_toArray, List.getElem?_cons_succ, List.getElem?_cons_zero]
  rw [if_pos (by simp [Region.wanted])]
  have hs1 : (a.put (some d1) (.slice (some ⟨g, 0, none⟩) l.length cap)).tmps.size = N := by simp [Act.put, s0]
  have ea : ((a.put (some d1) (.slice (some ⟨g, 0, none⟩) l.length cap)).put (some d2) (.int .i64 (j : Int))).eval (.tmp d1) = .slice (some ⟨g, 0, none⟩) l.length cap := (getD_put' (by omega)).trans ((if_neg n7).trans ((getD_put' (by omega)).trans (if_pos rfl)))
  have eb : ((a.put (some d1) (.slice (some ⟨g, 0, none⟩) l.length cap)).put (some d2) (.int .i64 (j : Int))).eval (.tmp d2) = .int .i64 (j : Int) := (getD_put' (by omega)).trans (if_pos rfl)
  have hsb : (Instr.sliceBounds true l.length cap (some (.int .i64 (j : Int))) none none).run P w = .ok (j, l.length, cap) w := by
    have e4 : ∀ c, (Instr.sliceBound (.int .i64 (j : Int)) l.length c).run P w = .ok j w := fun c => by
      have := bound_ok (P := P) (w := w) (k := .i64) (lo := (j : Int)) (code := c) (y := l.length) (by omega) (by omega)
      simpa using this
    unfold Instr.sliceBounds
    simp only [Sem.run_bind, Sem.run_pure, Result.andThen_ok]
    simp [e4]
  refine .inl (wp_of_run (v := .slice (some ⟨g, 0 + j * n, none⟩) (l.length - j) (cap - j)) (w' := w) (by
    have hca : cap ≠ j := by omega
    simp [execOp, ea, eb, Instr.sliceAt, run_underlying hu, Instr.slice, hsb, hsz, hca, Addr.add_lit]) ?_)
  rw [wpOps_cons]; unfold wpOp
  simp only [List.getElem?_toArray, List.getElem?_cons_succ, List.getElem?_cons_zero]
  rw [if_pos (by simp [Region.wanted])]
  generalize ha2 : ((a.put (some d1) (.slice (some ⟨g, 0, none⟩) l.length cap)).put (some d2) (.int .i64 (j : Int))) = a2 at *
  have s2 : a2.tmps.size = N := hr1.size
  have ec : (a2.put (some d3) (.slice (some ⟨g, 0 + j * n, none⟩) (l.length - j) (cap - j))).eval (.tmp d3) = .slice (some ⟨g, j * n, none⟩) (l.length - j) (cap - j) := (getD_put' (by omega)).trans ((if_pos rfl).trans (by simp))
  have ec := ec
  simp only [Nat.zero_add] at ec
  refine .inl (wp_of_run (v := .tuple #[]) (w' := w.setRow g (cur.toList.take (j * n) ++ (List.replicate (l.length - j) zs).flatten ++ cur.toList.drop (j * n + (l.length - j) * n)).toArray) (by
    simp [execOp, resolve, invoke, builtin, ec, hrun]) ?_)
  generalize ha3 : a2.put (some d3) (.slice (some ⟨g, 0 + j * n, none⟩) (l.length - j) (cap - j)) = a3 at *
  show QX N w0 F0 Q .normal a3 _
  have e03 : a3.tmps.getD t0 undef = .slice (some ⟨g, 0, none⟩) l.length cap := by
    rw [← ha3]
    refine (getD_put' (by omega)).trans ((if_neg (fun e => n5 e.symm)).trans ?_)
    rw [← ha2]
    exact (getD_put' (by omega)).trans ((if_neg (fun e => n3 e.symm)).trans ((getD_put' (by omega)).trans ((if_neg (fun e => n1 e.symm)).trans e0)))
  have hgk : g ∈ J.L k := by rw [hL]; exact List.mem_cons_self
  have hgF : ¬ J.F g := (hr.lo k g hgk).2.2
  generalize hw' : w.setRow g (cur.toList.take (j * n) ++ (List.replicate (l.length - j) zs).flatten ++ cur.toList.drop (j * n + (l.length - j) * n)).toArray = w'
  have hgw : w'.heap[g]? = some (.cells (cur.toList.take (j * n) ++ (List.replicate (l.length - j) zs).flatten ++ cur.toList.drop (j * n + (l.length - j) * n)).toArray e (0, 0)) := by rw [← hw']; exact setRow_heap w g cur _ e (0, 0) hg
  have hother : ∀ b, b ≠ g → w'.heap[b]? = w.heap[b]? := fun b hb => by rw [← hw']; exact setRow_other w g b _ hb
  have hsize : w'.heap.size = w.heap.size := by rw [← hw']; simp [World.setRow]
  have hbelow : w0.Keeps w' := by
    refine hr.below.step (by rw [← hw']; rfl) (by rw [← hw']; rfl) (by rw [← hw']; rfl) (by omega) fun b _ hnl => hother b fun e => ?_
    exact hnl (e ▸ (hr.lo k g hgk).1)
  have hfl : ((List.replicate (l.length - j) zs).flatten).length = (l.length - j) * n := by
    rw [List.length_flatten, List.map_replicate, hzl]; simp
  have hsum : j * n + (l.length - j) * n = l.length * n := by rw [← Nat.add_mul]; congr 1; omega
  have hle : l.length * n ≤ cap * n := Nat.mul_le_mul_right n hlc
  have hcl : cur.toList.length = cap * n := by simpa using hs
  have hjn : j * n ≤ cap * n := Nat.mul_le_mul_right n (by omega)
  have htl : (l.take j ++ List.replicate (l.length - j) ps).length = l.length := by simp; omega
  have hown : OwnTop (takeJ J w w' (64 * t0) k [] [g]).F [g] w' (.slice (some ⟨g, 0, none⟩) l.length cap) n (l.take j ++ List.replicate (l.length - j) ps) := by
    refine .inr ⟨g, cap, _, e, rfl, by rw [htl], hgw, ?_, ?_, by rw [htl]; exact hlc, by rw [htl]; exact hcap⟩
    · simp only [List.size_toArray, List.length_append, hfl, List.length_take, List.length_drop, hcl]
      omega
    · rw [htl]
      have : ((cur.toList.take (j * n) ++ (List.replicate (l.length - j) zs).flatten ++ cur.toList.drop (j * n + (l.length - j) * n)).toArray.toList.take (l.length * n)) = cur.toList.take (j * n) ++ (List.replicate (l.length - j) zs).flatten := by
        show ((_ : List Value) ++ _ ++ _).take _ = _
        have hln : (cur.toList.take (j * n) ++ (List.replicate (l.length - j) zs).flatten).length = l.length * n := by
          simp only [List.length_append, hfl, List.length_take, hcl]; omega
        rw [List.take_append_of_le_length (by omega), List.take_of_length_le (by omega)]
      rw [this]
      refine VR.append (vr_zeros (hzv _ _) hpl _) (VR.keep (X := J.F) (w := w) (fun b hb => ⟨.inl hb, hother b fun e => hgF (e ▸ hb)⟩) ?_)
      have h3 := hvr.take j
      rwa [List.take_take, Nat.min_eq_left (by omega)] at h3
  have hR := take_step hr3 (t := t0) (k := k) (n := n) m0 (frz := []) (L' := [g]) (by simp) (w' := w') (u := .slice (some ⟨g, 0, none⟩) l.length cap) (l' := l.take j ++ List.replicate (l.length - j) ps) (d := false) hbelow (by omega) (fun b hb hn => hother b fun e => hn (e ▸ hgk)) (by simp) (fun b hb => by
    obtain rfl := List.mem_singleton.1 hb
    exact ⟨by have := (hr.lo k b hgk).2.1; omega, .inr hgk⟩) (by
      show OwnTop _ ((takeJ J w w' (64 * t0) k [] [g]).L (64 * t0)) _ _ _ _
      rw [show (takeJ J w w' (64 * t0) k [] [g]).L (64 * t0) = [g] from if_pos rfl]
      exact hown)
  rw [put_self e03 (by rw [hr3.size]; exact m0)] at hR
  refine ⟨_, _, hR.less (s' := ⟨[(t0, .one (.slc (.own false (64 * t0)) n (l.take j ++ List.replicate (l.length - j) ps))), (t5, .one (.int .i64 (j : Int)))], []⟩) (fun t v hv => ?_) (fun k c hc => by cases hc), hQ _ htl (by simp [List.take_append, List.take_take]; omega)⟩
  show get (ins t0 _ [(t5, AV.one (.int .i64 (j : Int)))]) t = some v
  rw [get_ins]
  simp only [get] at hv ⊢
  exact hv
end
end Go.Proofs.Ytiafgmepdgfpbaa
