/- Makers: operations of a fork that call, lay an empty slice, append a whole slice to an empty one. No program in sight. -/
import Derived.Test.YtiafgmepdgfpbaaReg
import Derived.Test.YtiafgmepdgfpbaaApp
set_option linter.unusedVariables false
set_option linter.unusedSimpArgs false
namespace Go.Proofs.Ytiafgmepdgfpbaa
open Go.RowKit
open GoD (rd own)
/-! ### append of a whole slice to an empty one -/
theorem run_app_nil {P : Program} (w : World) (t ty e : TypeId) (i : TypeInfo) (ht : P.underlying t = some (.slice e)) (hi : P.info? e = some i) (g n cap : Nat) (hn : n ≤ cap) :
    (Builtin.append_ #[t, t] ty #[.slice (some ⟨g, 0, none⟩) n cap, .slice none 0 0]).run P w = .ok (.slice (some ⟨g, 0, none⟩) n cap) w := by
  simp [Builtin.append_, run_underlying ht, sizeOf, typeInfo, hi, Builtin.lenOf, Builtin.firstCells, loadCells, loadCellsFrom, hn, storeCells]
section
variable {α : Type} [GoD α]
def Plain (α : Type) [GoD α] : Prop := 0 < GoD.n α ∧ ∀ (w w' : World) (cs : List Value) (a : α), rd w cs a → own [] w' cs a ∧ ∀ u ∈ cs, u.oneCell' = true
theorem plain_int : Plain Int := ⟨Nat.zero_lt_one, fun w w' cs a h => ⟨⟨rfl, h.1, h.2⟩, by rw [h.1]; simp [Value.oneCell']⟩⟩
theorem plain_bool : Plain Bool := ⟨Nat.zero_lt_one, fun w w' cs a h => ⟨⟨rfl, h⟩, by rw [show cs = [.bool a] from h]; simp [Value.oneCell']⟩⟩
theorem plain_str : Plain ByteArray := ⟨Nat.zero_lt_one, fun w w' cs a h => ⟨⟨rfl, h.1, h.2⟩, by rw [h.1]; simp [Value.oneCell']⟩⟩
theorem plain_pair {β : Type} [GoD β] (h1 : Plain α) (h2 : Plain β) : Plain (α × β) := by
  refine ⟨Nat.lt_of_lt_of_le h1.1 (Nat.le_add_right _ _), fun w w' cs a h => ?_⟩
  obtain ⟨c1, c2, rfl, k1, k2⟩ := h
  obtain ⟨o1, u1⟩ := h1.2 w w' _ _ k1
  obtain ⟨o2, u2⟩ := h2.2 w w' _ _ k2
  refine ⟨own_pair o1 o2 (by simp), fun u hu => ?_⟩
  rcases List.mem_append.1 hu with hu | hu
  · exact u1 u hu
  · exact u2 u hu
theorem rdS_news {w : World} {oa : Option Addr} {cap : Nat} {l : List α} (hn : 0 < GoD.n α) (h : rd w [.slice oa l.length cap] l) : l = [] ∨ ∃ (b off : Nat) (news : List Value), oa = some ⟨b, off, none⟩ ∧ news.length = l.length * GoD.n α ∧ (∀ j u, news[j]? = some u → w.cell? ⟨b, off + j, none⟩ = some u) ∧
    ∀ i a, l[i]? = some a → rd w ((news.drop (i * GoD.n α)).take (GoD.n α)) a := by
  obtain ⟨oa', cap', e, hl, hm, hel⟩ := h
  obtain ⟨rfl, rfl⟩ : oa = oa' ∧ cap = cap' := by simpa using e
  cases hcase : l with
  | nil => exact .inl rfl
  | cons a0 l0 =>
    right
    obtain ⟨b, off, _, rfl, _⟩ := hel 0 a0 (by simp [hcase])
    rw [← hcase]
    have key : ∀ k, k ≤ l.length → ∃ news : List Value, news.length = k * GoD.n α ∧ (∀ j u, news[j]? = some u → w.cell? ⟨b, off + j, none⟩ = some u) ∧ ∀ i a, i < k → l[i]? = some a → rd w ((news.drop (i * GoD.n α)).take (GoD.n α)) a := by
      intro k
      induction k with
      | zero => intro _; exact ⟨[], by simp, by simp, fun i a hi => absurd hi (Nat.not_lt_zero _)⟩
      | succ k ih =>
        intro hk
        obtain ⟨news, h1, h2, h3⟩ := ih (by omega)
        obtain ⟨b', off', ce, e', hcl, hcc, hr⟩ := hel k _ (List.getElem?_eq_getElem (by omega : k < l.length))
        obtain ⟨rfl, rfl⟩ : b = b' ∧ off = off' := by simpa using e'
        refine ⟨news ++ ce, by rw [List.length_append, h1, hcl, Nat.add_mul, Nat.one_mul], fun j u hj => ?_, fun i a hi ha => ?_⟩
        · rcases Nat.lt_or_ge j news.length with h | h
          · rw [List.getElem?_append_left h] at hj; exact h2 j u hj
          · rw [List.getElem?_append_right h] at hj
            have := hcc _ u hj
            rw [show off + k * GoD.n α + (j - news.length) = off + j by rw [← h1]; omega] at this
            exact this
        · rcases Nat.lt_or_ge i k with h | h
          · have hmul := Nat.mul_le_mul_right (GoD.n α) (show i + 1 ≤ k by omega)
            rw [Nat.add_mul, Nat.one_mul] at hmul
            rw [List.drop_append_of_le_length (by omega), List.take_append_of_le_length (by rw [List.length_drop]; omega)]
            exact h3 i a h ha
          · obtain rfl : i = k := by omega
            rw [List.getElem?_eq_getElem (by omega)] at ha
            obtain rfl := Option.some.inj ha
            rw [← h1, List.drop_left, ← hcl, List.take_length]
            exact hr
    obtain ⟨news, h1, h2, h3⟩ := key l.length (Nat.le_refl _)
    exact ⟨b, off, news, rfl, h1, h2, fun i a ha => h3 i a (List.getElem?_eq_some_iff.1 ha).1 ha⟩
theorem run_appAll {P : Program} (w : World) (t ty e : TypeId) (hpl : Plain α) (ht : P.underlying t = some (.slice e))
    (hinf : (P.info? e).map (fun i => (i.zero.map (·.cells.size), i.size, decide (i.bytes ≤ 1000))) = some (some (GoD.n α), GoD.n α, true)) {g : Nat} (hg : w.heap[g]? = some (.cells #[] e (0, 0)))
    {y : Value} {l : List α} (hr : rd w [y] l) (hl : l.length ≤ 1073741824) :
    ∃ v' w' L, (Builtin.append_ #[t, t] ty #[.slice (some ⟨g, 0, none⟩) 0 0, y]).run P w = .ok v' w' ∧ own L w' [v'] l ∧ Ext w w' ∧ ∀ b ∈ L, w.heap.size ≤ b ∧ b < w'.heap.size := by
  obtain ⟨i, z, hi, hz, hsize, hzn, hb⟩ := info_ok hinf
  obtain ⟨oa, cap, rfl⟩ := slice_of_rd hr
  have hown : w.ownsRow g e i.size (.slice (some ⟨g, 0, none⟩) 0 0) 0 [] := ⟨by simp, .inr ⟨g, 0, #[], rfl, Nat.le_refl _, hg, Nat.le_refl _, Nat.zero_le _, by simp, by simp⟩⟩
  have h0 : own [] w [.slice (some ⟨g, 0, none⟩) 0 0] ([] : List α) := ⟨by simp, .inl ⟨rfl, rfl, _, rfl⟩⟩
  rcases rdS_news hpl.1 hr with rfl | ⟨b, off, news, rfl, hnl, hnews, hrd⟩
  · cases oa with
    | none =>
      obtain ⟨_, _, ee, _, _, _⟩ := hr
      by_cases hc : cap = 0
      · subst hc
        exact ⟨_, w, [], run_app_nil w t ty e i ht hi g 0 0 (Nat.le_refl _), h0, Ext.refl w, by simp⟩
      · refine ⟨_, w, [], ?_, h0, Ext.refl w, by simp⟩
        simp [Builtin.append_, run_underlying ht, sizeOf, typeInfo, hi, Builtin.lenOf, Builtin.firstCells, loadCells, loadCellsFrom, storeCells]
    | some ad =>
      refine ⟨_, w, [], ?_, h0, Ext.refl w, by simp⟩
      simp [Builtin.append_, run_underlying ht, sizeOf, typeInfo, hi, Builtin.lenOf, Builtin.firstCells, loadCells, loadCellsFrom, storeCells]
  · cases hlc : l with
    | nil =>
      subst hlc
      refine ⟨_, w, [], ?_, h0, Ext.refl w, by simp⟩
      simp [Builtin.append_, run_underlying ht, sizeOf, typeInfo, hi, Builtin.lenOf, Builtin.firstCells, loadCells, loadCellsFrom, storeCells]
    | cons a0 l0 =>
      rw [← hlc]
      have hpos : 0 < l.length := by rw [hlc]; simp
      have h1 : ∀ u ∈ news, Value.oneCell' u = true := fun u hu => by
        obtain ⟨j, hj, rfl⟩ := List.getElem_of_mem hu
        have hnp := hpl.1
        have hjn : j / GoD.n α < l.length := by rw [Nat.div_lt_iff_lt_mul hnp]; omega
        have hx := (hpl.2 w w _ _ (hrd _ _ (List.getElem?_eq_getElem hjn))).2
        refine hx _ (List.mem_of_getElem? (i := j % GoD.n α) ?_)
        rw [take_drop_get (Nat.mod_lt _ hnp), Nat.mul_comm, Nat.div_add_mod, List.getElem?_eq_getElem hj]
      obtain ⟨v', w', hr', hw, hgr, _, hfresh⟩ := run_app (P := P) w g t ty e i z ht hi hz (by rw [hsize]; exact hzn) (by rw [hsize]; exact hpl.1) hb hown ⟨b, off, none⟩ l.length cap news (by rw [hsize]; exact hnl) (fun j u hj => by
        have := hnews j u hj
        unfold Addr.add
        by_cases hj0 : j = 0
        · subst hj0; simpa using this
        · simpa [hj0] using this) h1 (by omega) (Nat.le_of_lt (block_lt_of_heap hg))
      obtain ⟨hf1, hf2⟩ := hfresh _ _ _ rfl (by omega)
      have hext : Ext w w' := (Below.refl _ _).grown hf2 (Nat.le_refl _) (fun k hk => by cases hk)
      rw [Nat.zero_add, List.nil_append, hsize] at hw
      have hA : App e w w' (v'.ownBlock.toList ++ (List.replicate l.length ([] : List Nat)).flatten) v' l := by
        refine ⟨news, List.replicate l.length [], ⟨hw.1, ?_⟩, rfl, ?_, ?_, by simp, fun i Li a hLi ha => ?_⟩
        · rcases hw.2 with h | ⟨g', cap', cur, h1, h2, h3⟩
          · exact .inl h
          · exact .inr ⟨g', cap', cur, h1, hf1 g' (by rw [h1]; rfl), h3⟩
        · simp only [List.flatten_replicate_nil, List.append_nil]
          cases v'.ownBlock <;> simp
        · intro b' hb'
          simp only [List.flatten_replicate_nil, List.append_nil] at hb'
          have hb2 : v'.ownBlock = some b' := by simpa using hb'
          exact ⟨hf1 b' hb2, (World.ownsRow.lt hw b' hb2).2⟩
        · have : Li = [] := by
            have := List.mem_of_getElem? hLi
            exact (List.mem_replicate.1 this).2
          subst this
          exact (hpl.2 w w' _ _ (hrd i a ha)).1
      exact ⟨v', w', _, hr', hA.done, hext, fun b hb => ⟨hA.ge b hb, hA.lt b hb⟩⟩
theorem wpList_appAll {P : Program} {w : World} {ops : Array Oper} {rest : List Oper} {o : Oper} {a : Act} {Q : Exit → Act → World → Prop} (s x : Operand) (t e : TypeId) (hpl : Plain α) (g : Nat) {y : Value} {l : List α} (hr : rd w [y] l) (hl : l.length ≤ 1073741824)
    (hg : w.heap[g]? = some (.cells #[] e (0, 0))) (hgd : o.guard = none) (ho : o.op = .call { callee := .builtin .append, args := #[s, x], argTypes := #[t, t] }) (ht : P.underlying t = some (.slice e))
    (hinf : (P.info? e).map (fun i => (i.zero.map (·.cells.size), i.size, decide (i.bytes ≤ 1000))) = some (some (GoD.n α), GoD.n α, true)) (hs : a.eval s = .slice (some ⟨g, 0, none⟩) 0 0) (hx : a.eval x = y)
    (k : ∀ v' w' L, own L w' [v'] l → Ext w w' → (∀ b ∈ L, w.heap.size ≤ b ∧ b < w'.heap.size) → wpList P ops Q rest (a.put o.dst v') w') : wpList P ops Q (o :: rest) a w := by
  refine wpList_plain hgd fun _ hK => ?_
  obtain ⟨v', w', L, hr', h1, h2, h3⟩ := run_appAll (P := P) w t o.type e hpl ht hinf hg hr hl
  unfold Oper.wp execOp
  simp only [ho, resolve, invoke, builtin, Sem.run_bind, Sem.run_pure, Result.andThen_ok, List.map_toArray, List.map_cons, List.map_nil, hs, hx, hr']
  exact hK _ _ (k v' w' L h1 h2 h3)
end
/-! ### makers -/
section
variable {P : Program} {o : Oper} {a : Act} {w : World} {K : Act → World → Prop} {Q : Exit → Act → World → Prop}
theorem wp_callN {n : FuncId} {args : Array Operand} {tys : Array TypeId} {vals : Array Value} (ho : o.op = .call { callee := .value (.func n), args := args, argTypes := tys }) (hv : args.map a.eval = vals)
    (hf : (P.funcs[n]?).map (fun fn => (fn.name == "runtime.NumGoroutine", fn.body.isNone)) = some (false, false))
    (h : Calls P n vals w (fun e w'' => match e, w'' with
      | .returned v, w'' => K (a.put o.dst v) w''
      | .panicked c, w'' => Q (.panic c) a w''
      | .outgrown, _ => LetsOut Q)) : o.wp P a w K Q := by
  obtain ⟨fn, hfn, hq⟩ := Option.map_eq_some_iff.1 hf
  simp only [Prod.mk.injEq] at hq
  have hc : (callFunc n vals).run P w = .ok (.enter n vals) w := by
    have h1 : ¬ fn.name = "runtime.NumGoroutine" := by simpa using hq.1
    have h2 : ¬ fn.body = none := fun e => by rw [e] at hq; simp at hq
    unfold callFunc
    simp [hfn, h1, h2]
  unfold Oper.wp execOp
  simp only [ho, resolve, invoke, Sem.run_bind, Sem.run_pure, Result.andThen_ok, hv, Act.eval, Deferred.ofValue, Array.append_empty, Array.empty_append, hc]
  exact h
theorem wanted_none {o : Oper} (hg : o.guard = none) (y : Nat → Option Bool) : Region.wanted o y = true := by
  simp [Region.wanted, hg]
theorem run_callS {β : Type} [GoD β] {ops : Array Oper} {Q : Exit → Act → World → Prop} {H : List Nat} {dst : Nat → Tmp} {a : Act} {W : World} {i : Nat} {o : Oper} {n : FuncId} {t : Tmp} {ty : TypeId} {v : Value} {l : List β} {D : Act → World → Prop}
    (hi : ops[i]? = some o) (hd : o.dst = some (dst i)) (hg : o.guard = none) (hop : o.op = .call { callee := .value (.func n), args := #[.tmp t], argTypes := #[ty] })
    (hf : (P.funcs[n]?).map (fun fn => (fn.name == "runtime.NumGoroutine", fn.body.isNone)) = some (false, false)) (ht : ∀ j ∈ H, dst j ≠ t) (hv : a.tmps.getD t undef = v) (hc : ∀ w, Ext W w → Calls P n #[v] w (RetS w l)) :
    ∃ o, ops[i]? = some o ∧ o.dst = some (dst i) ∧ ∀ a' w, Same dst H a a' → Ext W w → D a' w →
      Region.wanted o (yielded ops a'.tmps) = true ∧ ∀ K : Act → World → Prop, (∀ v L w', Ext w w' → own L w' [v] l → (∀ b ∈ L, w.heap.size ≤ b ∧ b < w'.heap.size) → K (a'.put (some (dst i)) v) w') → o.wp P a' w K Q := by
  refine ⟨o, hi, hd, fun a' w hs hx _ => ⟨wanted_none hg _, fun K hk => ?_⟩⟩
  refine wp_callN hop (vals := #[v]) ?_ hf ?_
  · simp only [List.map_toArray, List.map_cons, List.map_nil, Act.eval, hs.eval t ht, hv]
  · refine call_retS (w := w) (hc w hx) (Below.refl _ _) fun w' v L h1 h2 h3 h4 ho hL => ?_
    rw [hd]
    exact hk v L w' h1 ho fun b hb => ⟨hL b hb, GoD.own_lt ho b hb⟩
theorem run_callA {β : Type} [GoD β] {ops : Array Oper} {Q : Exit → Act → World → Prop} {H : List Nat} {dst : Nat → Tmp} {a : Act} {W : World} {i : Nat} {o : Oper} {n : FuncId} {t : Tmp} {ty : TypeId} {v : Value} {l : β} {D : Act → World → Prop}
    (hi : ops[i]? = some o) (hd : o.dst = some (dst i)) (hg : o.guard = none) (hop : o.op = .call { callee := .value (.func n), args := #[.tmp t], argTypes := #[ty] })
    (hf : (P.funcs[n]?).map (fun fn => (fn.name == "runtime.NumGoroutine", fn.body.isNone)) = some (false, false)) (ht : ∀ j ∈ H, dst j ≠ t) (hv : a.tmps.getD t undef = v) (hc : ∀ w, Ext W w → Calls P n #[v] w (RetA w l)) :
    ∃ o, ops[i]? = some o ∧ o.dst = some (dst i) ∧ ∀ a' w, Same dst H a a' → Ext W w → D a' w →
      Region.wanted o (yielded ops a'.tmps) = true ∧ ∀ K : Act → World → Prop, (∀ v L w', Ext w w' → (∃ cs, v = .agg cs.toArray ∧ own L w' cs l) → (∀ b ∈ L, w.heap.size ≤ b ∧ b < w'.heap.size) → K (a'.put (some (dst i)) v) w') → o.wp P a' w K Q := by
  refine ⟨o, hi, hd, fun a' w hs hx _ => ⟨wanted_none hg _, fun K hk => ?_⟩⟩
  refine wp_callN hop (vals := #[v]) ?_ hf ?_
  · simp only [List.map_toArray, List.map_cons, List.map_nil, Act.eval, hs.eval t ht, hv]
  · refine call_retA (w := w) (hc w hx) (Below.refl _ _) fun w' cs L h1 h2 h3 h4 ho hL => ?_
    rw [hd]
    exact hk _ L w' h1 ⟨cs, rfl, ho⟩ fun b hb => ⟨hL b hb, GoD.own_lt ho b hb⟩
def New0 (e : TypeId) (v : Value) (L : List Nat) (w : World) : Prop := L = [] ∧ ∃ g, v = .slice (some ⟨g, 0, none⟩) 0 0 ∧ w.heap[g]? = some (.cells #[] e (0, 0))
theorem New0.keep {e : TypeId} {v : Value} {L : List Nat} {w w' : World} (h : New0 e v L w) (hx : Ext w w') : New0 e v L w' := by
  obtain ⟨h1, g, h2, h3⟩ := h
  exact ⟨h1, g, h2, (hx.block g (block_lt_of_heap h3)).trans h3⟩
theorem wp_new0 {t e : TypeId} {i : TypeInfo} (ho : o.op = .buildSlice t 0 #[]) (ht : P.underlying t = some (.slice e)) (hi : P.info? e = some i) (hz : i.zero.isSome = true)
    (h : K (a.put o.dst (.slice (some ⟨w.heap.size, 0, none⟩) 0 0)) (w.alloc (.cells #[] e))) : o.wp P a w K Q := by
  obtain ⟨z, hz⟩ := Option.isSome_iff_exists.1 hz
  unfold Oper.wp execOp
  simp [ho, Instr.buildSlice, run_underlying ht, sizeOf, typeInfo, hi, hz, Instr.fill, newRow, go_sem]
  exact h
theorem run_new0 {ops : Array Oper} {Q : Exit → Act → World → Prop} {H : List Nat} {dst : Nat → Tmp} {a : Act} {W : World} {i : Nat} {o : Oper} {t e : TypeId} {D : Act → World → Prop}
    (hi : ops[i]? = some o) (hd : o.dst = some (dst i)) (hg : o.guard = none) (hop : o.op = .buildSlice t 0 #[]) (ht : P.underlying t = some (.slice e)) {n : Nat}
    (hinf : (P.info? e).map (fun i => (i.zero.map (·.cells.size), i.size, decide (i.bytes ≤ 1000))) = some (some n, n, true)) :
    ∃ o, ops[i]? = some o ∧ o.dst = some (dst i) ∧ ∀ a' w, Same dst H a a' → Ext W w → D a' w →
      Region.wanted o (yielded ops a'.tmps) = true ∧ ∀ K : Act → World → Prop, (∀ v L w', Ext w w' → New0 e v L w' → (∀ b ∈ L, w.heap.size ≤ b ∧ b < w'.heap.size) → K (a'.put (some (dst i)) v) w') → o.wp P a' w K Q := by
  obtain ⟨inf, z, h1, h2, _⟩ := info_ok hinf
  refine ⟨o, hi, hd, fun a' w hs hx _ => ⟨wanted_none hg _, fun K hk => ?_⟩⟩
  refine wp_new0 hop ht h1 (by rw [h2]; rfl) ?_
  rw [hd]
  exact hk _ [] _ ((Below.refl _ _).alloc (Nat.le_refl _) _) ⟨rfl, _, rfl, heap_alloc_new w _⟩ (by simp)
theorem run_appW {β : Type} [GoD β] {ops : Array Oper} {Q : Exit → Act → World → Prop} {H : List Nat} {dst : Nat → Tmp} {a : Act} {W : World} {i : Nat} (j : Nat) {o : Oper} {s x : Tmp} {t e : TypeId} {y : Value} {l : List β} {D : Act → World → Prop}
    (hpl : Plain β) (hi : ops[i]? = some o) (hd : o.dst = some (dst i)) (hg : o.guard = none) (hop : o.op = .call { callee := .builtin .append, args := #[.tmp s, .tmp x], argTypes := #[t, t] }) (ht : P.underlying t = some (.slice e))
    (hinf : (P.info? e).map (fun i => (i.zero.map (·.cells.size), i.size, decide (i.bytes ≤ 1000))) = some (some (GoD.n β), GoD.n β, true)) (hs : dst j = s) (hx : ∀ k ∈ H, dst k ≠ x) (hv : a.tmps.getD x undef = y) (hr : rd W [y] l) (hl : l.length ≤ 1073741824)
    (hdep : ∀ a' w, D a' w → ∃ v L, a'.tmps.getD (dst j) undef = v ∧ New0 e v L w) :
    ∃ o, ops[i]? = some o ∧ o.dst = some (dst i) ∧ ∀ a' w, Same dst H a a' → Ext W w → D a' w →
      Region.wanted o (yielded ops a'.tmps) = true ∧ ∀ K : Act → World → Prop, (∀ v L w', Ext w w' → own L w' [v] l → (∀ b ∈ L, w.heap.size ≤ b ∧ b < w'.heap.size) → K (a'.put (some (dst i)) v) w') → o.wp P a' w K Q := by
  refine ⟨o, hi, hd, fun a' w hs' hext hD => ⟨wanted_none hg _, fun K hk => ?_⟩⟩
  obtain ⟨v0, L0, hv0, _, g, rfl, hg0⟩ := hdep a' w hD
  obtain ⟨v', w', L, hr', h1, h2, h3⟩ := run_appAll (P := P) w t o.type e hpl ht hinf hg0 (rd_below hr hext) hl
  have e1 : a'.eval (.tmp s) = .slice (some ⟨g, 0, none⟩) 0 0 := by rw [← hs]; exact hv0
  have e2 : a'.eval (.tmp x) = y := (hs'.eval x hx).trans hv
  unfold Oper.wp execOp
  simp only [hop, resolve, invoke, builtin, Sem.run_bind, Sem.run_pure, Result.andThen_ok, List.map_toArray, List.map_cons, List.map_nil, e1, e2, hr']
  show K (a'.put o.dst v') w'
  rw [hd]
  exact hk v' L w' h2 h1 h3
theorem cells_new (w : World) (cs : List Value) (t : TypeId) : ∀ j u, cs[j]? = some u → (w.alloc (.cells cs.toArray t)).cell? ((⟨w.heap.size, 0, none⟩ : Addr).add j) = some u := by
  intro j u hj
  have h : (w.alloc (.cells cs.toArray t)).heap[w.heap.size]? = some (.cells cs.toArray t (0, 0)) := heap_alloc_new w _
  have ha : ((⟨w.heap.size, 0, none⟩ : Addr).add j) = ⟨w.heap.size, j, none⟩ := by
    unfold Addr.add
    by_cases hj0 : j = 0 <;> simp [hj0]
  have hlt : j < cs.length := (List.getElem?_eq_some_iff.1 hj).1
  rw [ha, cells_of_heap h j (by simpa using hlt)]
  rw [List.getElem?_eq_getElem hlt] at hj
  simpa using hj
end
end Go.Proofs.Ytiafgmepdgfpbaa
