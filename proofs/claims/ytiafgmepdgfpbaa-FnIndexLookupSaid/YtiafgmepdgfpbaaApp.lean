/- Lists grown by append: of elements with memory of their own ('App'), of elements that share what was there ('AppR'). No program in sight. -/
import Derived.Test.YtiafgmepdgfpbaaZa
import Derived.Deep.DeepAppendWide
import Derived.Deep.DeepAppendRoom
import Derived.Maps.AppendAt
set_option linter.unusedVariables false
set_option linter.unusedSimpArgs false
namespace Go.Proofs.Ytiafgmepdgfpbaa
open Go.RowKit
open GoD (rd own)
theorem run_app {P : Program} (w : World) (base : Nat) (t ty e : TypeId) (i : TypeInfo) (z : Value) (ht : P.underlying t = some (.slice e)) (hi : P.info? e = some i) (hz : i.zero = some z)
    (hzs : z.cells.size = i.size) (hsz : 0 < i.size) (hb : i.bytes ≤ 1000) {v : Value} {n : Nat} {xs : List Value} (hown : w.ownsRow base e i.size v n xs)
    (a : Addr) (m c : Nat) (news : List Value) (hl : news.length = m * i.size) (hnews : ∀ j u, news[j]? = some u → w.cell? (a.add j) = some u) (h1 : ∀ u ∈ news, u.oneCell' = true)
    (hnm : n + m ≤ 1073741824) (hbase : base ≤ w.heap.size) :
    ∃ v' w', (Builtin.append_ #[t, t] ty #[v, .slice (some a) m c]).run P w = .ok v' w' ∧ w'.ownsRow base e i.size v' (n + m) (xs ++ news) ∧ w.grownBy w' v.ownBlock ∧
      (∀ g, v'.ownBlock = some g → v.ownBlock = some g ∨ w.heap.size ≤ g) ∧ (∀ x k c, v = .slice (some x) k c → c < n + m → (∀ g, v'.ownBlock = some g → w.heap.size ≤ g) ∧ w.grownBy w' none) := by
  have hbytes : ((n + m) + (n + m) / 4 + 192) * i.bytes ≤ 281474976710656 := Nat.le_trans (Nat.mul_le_mul (show _ ≤ 1342177472 by omega) hb) (by decide)
  have h63 : n + m ≤ maxLen := by unfold maxLen; omega
  rcases hown.2 with ⟨rfl, rfl⟩ | ⟨g, cap, cur, rfl, hbg, hg, hnc, hcm, hcs, htake⟩
  · have h0 : w.ownsRow w.heap.size e i.size (.slice none 0 0) 0 xs := ⟨hown.1, .inl ⟨rfl, rfl⟩⟩
    obtain ⟨v', w', hr, hw, hgr, _⟩ := run_append_own_wide w w.heap.size t ty e i z i.size i.bytes ht hi hz rfl rfl hzs hsz _ 0 xs h0 a m c news hl hnews h1 h63 hbytes (Nat.le_refl _)
    refine ⟨v', w', hr, ⟨hw.1, ?_⟩, hgr, fun g hg => .inr (World.ownsRow.lt hw g hg).1, fun x k c h => (by cases h)⟩
    rcases hw.2 with h | ⟨g, cap, cur, h1, h2, h3⟩
    · exact .inl h
    · exact .inr ⟨g, cap, cur, h1, Nat.le_trans hbase h2, h3⟩
  · by_cases hroom : n + m ≤ cap
    · obtain ⟨w', hr, hw, hgr⟩ := run_append_own_spare w base t ty e i i.size ht hi rfl g n cap xs hown a m c news hl hnews h1 hroom
      exact ⟨_, w', hr, hw, hgr, fun k hk => .inl hk, fun x k c h hlt => (by cases h; omega)⟩
    · have hgs : cap < n + m := by omega
      have hr := run_append_grow (P := P) w t ty e i z ht hi hz ⟨g, 0, none⟩ n cap xs hown.1 (hown.cells (g := g) rfl) a m c news hl hnews hgs (by unfold maxLen at h63; omega) (growslice_fits_wide hgs hbytes)
      refine ⟨_, _, hr, ⟨by rw [List.length_append, hown.1, hl, Nat.add_mul], .inr ⟨w.heap.size, _, _, rfl, hbase, heap_alloc_new w.drew _, grownCap_ge w (n + m) cap e, grownCap_le_maxLen w (n + m) cap e h63, ?_, ?_⟩⟩,
        ⟨rfl, rfl, rfl, by simp, fun k hk _ => heap_alloc_old w.drew _ hk⟩, fun k hk => .inr ?_, fun x k c _ _ => ⟨fun g' hk => ?_, rfl, rfl, rfl, by simp, fun k hk _ => heap_alloc_old w.drew _ hk⟩⟩
      · have hge := grownCap_ge w (n + m) cap e
        simp only [Array.size_append, List.size_toArray, size_zeroCells, hzs, hown.1, hl, ← Nat.add_mul]
        congr 1
        omega
      · simp only [Array.toList_append, List.append_assoc]
        rw [← List.append_assoc, List.take_append_of_le_length (by simp [hown.1, hl, Nat.add_mul]), List.take_of_length_le (by simp [hown.1, hl, Nat.add_mul])]
      · simp only [Value.ownBlock, Option.some.injEq] at hk
        omega
      · simp only [Value.ownBlock, Option.some.injEq] at hk
        omega
theorem wp_app {P : Program} {w : World} {o : Oper} {a : Act} {K : Act → World → Prop} {Q : Exit → Act → World → Prop} (s x : Operand) (t : TypeId)
    (ho : o.op = .call { callee := .builtin .append, args := #[s, x], argTypes := #[t, t] }) (e sz base : Nat) (ht : P.underlying t = some (.slice e))
    (hinf : (P.info? e).map (fun i => (i.zero.map (·.cells.size), i.size, decide (i.bytes ≤ 1000))) = some (some sz, sz, true)) (hsz : 0 < sz)
    {v : Value} {n : Nat} {xs : List Value} (hs : a.eval s = v) (hown : w.ownsRow base e sz v n xs) (ad : Addr) (m c : Nat) (news : List Value) (hx : a.eval x = .slice (some ad) m c) (hl : news.length = m * sz)
    (hnews : ∀ j u, news[j]? = some u → w.cell? (ad.add j) = some u) (h1 : ∀ u ∈ news, u.oneCell' = true) (hnm : n + m ≤ 1073741824) (hbase : base ≤ w.heap.size)
    (h : ∀ v' w', w'.ownsRow base e sz v' (n + m) (xs ++ news) → w.grownBy w' v.ownBlock → (∀ g, v'.ownBlock = some g → v.ownBlock = some g ∨ w.heap.size ≤ g) → K (a.put o.dst v') w') : o.wp P a w K Q := by
  obtain ⟨i, z, hi, hz, hsize, hzn, hb⟩ := info_ok hinf
  subst hsize
  obtain ⟨v', w', hr, h2, h3, h4, _⟩ := run_app (P := P) w base t o.type e i z ht hi hz hzn hsz hb hown ad m c news hl hnews h1 hnm hbase
  unfold Oper.wp execOp
  simp only [ho, resolve, invoke, builtin, Sem.run_bind, Sem.run_pure, Result.andThen_ok, List.map_toArray, List.map_cons, List.map_nil, hs, hx, hr]
  exact h v' w' h2 h3 h4
section
variable {α : Type} [GoD α]
def App (e : TypeId) (w0 w : World) (L : List Nat) (v : Value) (l : List α) : Prop :=
  ∃ (xs : List Value) (Ls : List (List Nat)), w.ownsRow w0.heap.size e (GoD.n α) v l.length xs ∧ L = v.ownBlock.toList ++ Ls.flatten ∧ L.Nodup ∧ (∀ b, b ∈ L → w0.heap.size ≤ b ∧ b < w.heap.size) ∧ Ls.length = l.length ∧
    ∀ i Li a, Ls[i]? = some Li → l[i]? = some a → own Li w ((xs.drop (i * GoD.n α)).take (GoD.n α)) a
def AppR (e : TypeId) (w0 w : World) (v : Value) (l : List α) : Prop :=
  ∃ (xs : List Value), w.ownsRow w0.heap.size e (GoD.n α) v l.length xs ∧ ∀ i a, l[i]? = some a → rd w0 ((xs.drop (i * GoD.n α)).take (GoD.n α)) a
theorem ownsRow_keep {w w' : World} {base : Nat} {e : TypeId} {sz n : Nat} {v : Value} {xs : List Value} (h : w.ownsRow base e sz v n xs) (hb : ∀ b, v.ownBlock = some b → w'.heap[b]? = w.heap[b]?) : w'.ownsRow base e sz v n xs := by
  refine ⟨h.1, ?_⟩
  rcases h.2 with h | ⟨g, cap, cur, rfl, h2, h3, h4⟩
  · exact .inl h
  · exact .inr ⟨g, cap, cur, rfl, h2, (hb g rfl).trans h3, h4⟩
theorem App.keep {e : TypeId} {w0 w w' : World} {L : List Nat} {v : Value} {l : List α} (h : App e w0 w L v l) (hb : Below w.heap.size w w') : App e w0 w' L v l := by
  obtain ⟨xs, Ls, h1, h2, h3, h4, h5, h6⟩ := h
  exact ⟨xs, Ls, ownsRow_keep h1 (fun b hm => hb.block b (World.ownsRow.lt h1 b hm).2), h2, h3, fun b hm => ⟨(h4 b hm).1, Nat.lt_of_lt_of_le (h4 b hm).2 hb.size⟩, h5, fun i Li a x y => own_below (h6 i Li a x y) hb⟩
theorem AppR.keep {e : TypeId} {w0 w w' : World} {v : Value} {l : List α} (h : AppR e w0 w v l) (hb : Below w.heap.size w w') : AppR e w0 w' v l := by
  obtain ⟨xs, h1, h2⟩ := h
  exact ⟨xs, ownsRow_keep h1 (fun b hm => hb.block b (World.ownsRow.lt h1 b hm).2), h2⟩
theorem App.start {e : TypeId} {w0 w : World} {v : Value} {c : Nat} {cur : Array Value} {g : Nat} (hv : v = .slice (some ⟨g, 0, none⟩) 0 c) (hg : w.heap[g]? = some (.cells cur e (0, 0))) (hs : cur.size = c * GoD.n α) (hc : c ≤ maxLen) (h0 : w0.heap.size ≤ g) : App e w0 w [g] v ([] : List α) := by
  subst hv
  exact ⟨[], [], ⟨by simp, .inr ⟨g, c, cur, rfl, h0, hg, Nat.zero_le _, hc, hs, by simp⟩⟩, rfl, by simp, fun b hb => by rw [List.mem_singleton.1 hb]; exact ⟨h0, block_lt_of_heap hg⟩, rfl, by simp⟩
theorem AppR.start {e : TypeId} {w0 w : World} {v : Value} {c : Nat} {cur : Array Value} {g : Nat} (hv : v = .slice (some ⟨g, 0, none⟩) 0 c) (hg : w.heap[g]? = some (.cells cur e (0, 0))) (hs : cur.size = c * GoD.n α) (hc : c ≤ maxLen) (h0 : w0.heap.size ≤ g) : AppR e w0 w v ([] : List α) := by
  subst hv
  exact ⟨[], ⟨by simp, .inr ⟨g, c, cur, rfl, h0, hg, Nat.zero_le _, hc, hs, by simp⟩⟩, by simp⟩
theorem App.fresh {e : TypeId} {w0 w1 : World} {g : Nat} (hg : g = w1.heap.size) (h0 : w0.heap.size ≤ g) : App e w0 (w1.alloc (.cells #[] e)) [g] (.slice (some ⟨g, 0, none⟩) 0 0) ([] : List α) := by
  subst hg
  exact App.start rfl (heap_alloc_new w1 _) (by simp) (by decide) h0
theorem AppR.fresh {e : TypeId} {w0 w1 : World} {g : Nat} (hg : g = w1.heap.size) (h0 : w0.heap.size ≤ g) : AppR e w0 (w1.alloc (.cells #[] e)) (.slice (some ⟨g, 0, none⟩) 0 0) ([] : List α) := by
  subst hg
  exact AppR.start rfl (heap_alloc_new w1 _) (by simp) (by decide) h0
theorem App.alloc {e : TypeId} {w0 w : World} {L : List Nat} {v : Value} {l : List α} (h : App e w0 w L v l) (o : Obj) : App e w0 (w.alloc o) L v l := h.keep ((Below.refl _ _).alloc (Nat.le_refl _) _)
theorem App.drew {e : TypeId} {w0 w : World} {L : List Nat} {v : Value} {l : List α} (h : App e w0 w L v l) : App e w0 w.drew L v l := h.keep ((Below.refl _ _).drew)
theorem AppR.alloc {e : TypeId} {w0 w : World} {v : Value} {l : List α} (h : AppR e w0 w v l) (o : Obj) : AppR e w0 (w.alloc o) v l := h.keep ((Below.refl _ _).alloc (Nat.le_refl _) _)
theorem AppR.drew {e : TypeId} {w0 w : World} {v : Value} {l : List α} (h : AppR e w0 w v l) : AppR e w0 w.drew v l := h.keep ((Below.refl _ _).drew)
theorem App.nil {e : TypeId} (w0 w : World) : App e w0 w [] (.slice none 0 0) ([] : List α) := ⟨[], [], ⟨by simp, .inl ⟨rfl, rfl⟩⟩, rfl, by simp, by simp, rfl, by simp⟩
theorem AppR.nil {e : TypeId} (w0 w : World) : AppR e w0 w (.slice none 0 0) ([] : List α) := ⟨[], ⟨by simp, .inl ⟨rfl, rfl⟩⟩, by simp⟩
theorem App.done {e : TypeId} {w0 w : World} {L : List Nat} {v : Value} {l : List α} (h : App e w0 w L v l) : own L w [v] l := by
  obtain ⟨xs, Ls, ⟨h1, h2⟩, rfl, h3, h4, h5, h6⟩ := h
  refine ⟨h3, ?_⟩
  rcases h2 with ⟨rfl, hl⟩ | ⟨g, cap, cur, rfl, _, hg, hnc, hcm, hcs, rfl⟩
  · have : l = [] := List.eq_nil_of_length_eq_zero hl
    subst this
    have : Ls = [] := List.eq_nil_of_length_eq_zero h5
    subst this
    exact .inl ⟨rfl, rfl, none, rfl⟩
  · refine .inr ⟨g, cap, cur, e, Ls, rfl, hg, hnc, hcm, hcs, rfl, h5, fun i Li a hi ha => ?_⟩
    have h := h6 i Li a hi ha
    have hil : i < l.length := (List.getElem?_eq_some_iff.1 ha).1
    rw [List.drop_take, List.take_take, Nat.min_eq_left (by
      have := Nat.mul_le_mul_right (GoD.n α) (show i + 1 ≤ l.length by omega)
      rw [Nat.add_mul, Nat.one_mul] at this
      omega)] at h
    exact h
theorem App.ge {e : TypeId} {w0 w : World} {L : List Nat} {v : Value} {l : List α} (h : App e w0 w L v l) : ∀ b, b ∈ L → w0.heap.size ≤ b := by
  obtain ⟨_, _, _, _, _, h4, _⟩ := h
  exact fun b hb => (h4 b hb).1
theorem App.lt {e : TypeId} {w0 w : World} {L : List Nat} {v : Value} {l : List α} (h : App e w0 w L v l) : ∀ b, b ∈ L → b < w.heap.size := by
  obtain ⟨_, _, _, _, _, h4, _⟩ := h
  exact fun b hb => (h4 b hb).2
theorem AppR.done {e : TypeId} {w0 w : World} {v : Value} {l : List α} (h : AppR e w0 w v l) (hb : Below w0.heap.size w0 w) : rd w [v] l := by
  obtain ⟨xs, ⟨h1, h2⟩, h6⟩ := h
  rcases h2 with ⟨rfl, hl⟩ | ⟨g, cap, cur, rfl, _, hg, hnc, hcm, hcs, rfl⟩
  · have : l = [] := List.eq_nil_of_length_eq_zero hl
    subst this
    exact ⟨none, 0, rfl, Nat.le_refl _, Nat.zero_le _, by simp⟩
  · refine ⟨some ⟨g, 0, none⟩, cap, rfl, hnc, hcm, fun i a ha => ⟨g, 0, _, rfl, GoD.rd_len (h6 i a ha), fun j u hj => ?_, rd_below (h6 i a ha) hb⟩⟩
    have hlt := (List.getElem?_eq_some_iff.1 hj).1
    simp only [List.length_take] at hlt
    rw [take_drop_get (by omega), List.getElem?_take] at hj
    split at hj
    · rw [Nat.zero_add]
      rw [Array.getElem?_toList] at hj
      simp [World.cell?, hg, hj]
    · cases hj
theorem AppR.slice {e : TypeId} {w0 w : World} {v : Value} {l : List α} (h : AppR e w0 w v l) : ∃ oa cap, v = .slice oa l.length cap := by
  obtain ⟨xs, ⟨_, h2⟩, _⟩ := h
  rcases h2 with ⟨rfl, hl⟩ | ⟨g, cap, cur, rfl, _⟩
  · exact ⟨none, 0, by rw [hl]⟩
  · exact ⟨_, _, rfl⟩
theorem App.slice {e : TypeId} {w0 w : World} {L : List Nat} {v : Value} {l : List α} (h : App e w0 w L v l) : ∃ oa cap, v = .slice oa l.length cap := slice_of_own h.done
theorem grown_below {w0 w w' : World} {v : Value} {sz n : Nat} {e : TypeId} {xs : List Value} (h0 : Below w0.heap.size w0 w) (hg : w.grownBy w' v.ownBlock) (ho : w.ownsRow w0.heap.size e sz v n xs) : Below w0.heap.size w0 w' :=
  h0.grown hg (h0.size) (fun k hk => (World.ownsRow.lt ho k hk).1)
theorem wp_App {P : Program} {w0 w : World} {o : Oper} {a : Act} {K : Act → World → Prop} {Q : Exit → Act → World → Prop} (s x : Operand) (t e : TypeId) {L La : List Nat} {v : Value} {l : List α} {y : α} {news : List Value} (ad : Addr) (c : Nat)
    (hA : App e w0 w L v l) (hy : own La w news y) (hd : ∀ b, b ∈ L → b ∉ La) (hLa : ∀ b, b ∈ La → w0.heap.size ≤ b) (h0 : Below w0.heap.size w0 w)
    (ho : o.op = .call { callee := .builtin .append, args := #[s, x], argTypes := #[t, t] }) (ht : P.underlying t = some (.slice e))
    (hinf : (P.info? e).map (fun i => (i.zero.map (·.cells.size), i.size, decide (i.bytes ≤ 1000))) = some (some (GoD.n α), GoD.n α, true)) (hsz : 0 < GoD.n α) (hs : a.eval s = v) (hx : a.eval x = .slice (some ad) 1 c)
    (hnews : ∀ j u, news[j]? = some u → w.cell? (ad.add j) = some u) (h1 : ∀ u ∈ news, u.oneCell' = true) (hnm : l.length < 1073741824)
    (k : ∀ v' w' L', App e w0 w' L' v' (l ++ [y]) → Below w0.heap.size w0 w' → w.heap.size ≤ w'.heap.size → (∀ b, b ∈ L' → b ∈ L ∨ b ∈ La ∨ w.heap.size ≤ b) → (∀ b, b < w.heap.size → b ∉ L → w'.heap[b]? = w.heap[b]?) → K (a.put o.dst v') w') : o.wp P a w K Q := by
  obtain ⟨xs, Ls, hr, rfl, hnd, hlt, hlen, hel⟩ := hA
  have hnl : news.length = GoD.n α := GoD.rd_len (GoD.own_rd hy)
  refine wp_app s x t ho e (GoD.n α) w0.heap.size ht hinf hsz hs hr ad 1 c news hx (by rw [hnl, Nat.one_mul]) hnews h1 (by omega) h0.size fun v' w' hr' hg hv => ?_
  have hin : ∀ Li, Li ∈ Ls → ∀ b, b ∈ Li → b < w.heap.size ∧ some b ≠ v.ownBlock := fun Li hLi b hb => by
    have hm : b ∈ Ls.flatten := List.mem_flatten.2 ⟨Li, hLi, hb⟩
    refine ⟨(hlt b (List.mem_append.2 (.inr hm))).2, fun e => ?_⟩
    have := (List.nodup_append.1 hnd).2.2 b (by rw [← e]; simp) b hm
    exact this rfl
  have hLab : ∀ b, b ∈ La → b < w.heap.size ∧ some b ≠ v.ownBlock := fun b hb => ⟨GoD.own_lt hy b hb, fun e => hd b (by rw [← e]; simp) hb⟩
  have hfl : (Ls ++ [La]).flatten = Ls.flatten ++ La := by simp
  have hsub : ∀ b, b ∈ v'.ownBlock.toList → b ∈ v.ownBlock.toList ∨ w.heap.size ≤ b := fun b hb => by
    rcases hv b (by simpa using hb) with h | h
    · left; rw [h]; simp
    · exact .inr h
  refine k v' w' (v'.ownBlock.toList ++ (Ls ++ [La]).flatten) ⟨xs ++ news, Ls ++ [La], by rw [List.length_append]; exact hr', rfl, ?_, ?_, by simp [hlen], ?_⟩ (grown_below h0 hg hr) hg.size ?_ ?_
  · rw [hfl]
    refine List.nodup_append.2 ⟨by cases v'.ownBlock <;> simp, List.nodup_append.2 ⟨(List.nodup_append.1 hnd).2.1, GoD.own_nd hy, fun b hb c hc e => hd b (List.mem_append.2 (.inr hb)) (e ▸ hc)⟩, fun b hb c hc e => ?_⟩
    subst e
    rcases hsub b hb with h | h
    · rcases List.mem_append.1 hc with hc | hc
      · exact (List.nodup_append.1 hnd).2.2 b h b hc rfl
      · exact hd b (List.mem_append.2 (.inl h)) hc
    · rcases List.mem_append.1 hc with hc | hc
      · have := (hlt b (List.mem_append.2 (.inr hc))).2; omega
      · have := (hLab b hc).1; omega
  · intro b hb
    rw [hfl] at hb
    rcases List.mem_append.1 hb with hb | hb
    · exact World.ownsRow.lt hr' b (by simpa using hb)
    · rcases List.mem_append.1 hb with hb | hb
      · have := hlt b (List.mem_append.2 (.inr hb)); exact ⟨this.1, Nat.lt_of_lt_of_le this.2 hg.size⟩
      · exact ⟨hLa b hb, Nat.lt_of_lt_of_le (hLab b hb).1 hg.size⟩
  · intro i Li b hi hb
    have hxl : xs.length = l.length * GoD.n α := hr.1
    by_cases hil : i < l.length
    · rw [List.getElem?_append_left (by omega)] at hi
      rw [List.getElem?_append_left hil] at hb
      have hmul := Nat.mul_le_mul_right (GoD.n α) (show i + 1 ≤ l.length by omega)
      rw [Nat.add_mul, Nat.one_mul] at hmul
      rw [List.drop_append_of_le_length (by omega), List.take_append_of_le_length (by rw [List.length_drop]; omega)]
      exact GoD.own_same (hel i Li b hi hb) fun b' hb' => by
        have := hin Li (List.mem_of_getElem? hi) b' hb'
        exact hg.block b' this.1 this.2
    · have hi2 : i < (Ls ++ [La]).length := (List.getElem?_eq_some_iff.1 hi).1
      simp [hlen] at hi2
      obtain rfl : i = l.length := by omega
      rw [List.getElem?_append_right (by omega), hlen, Nat.sub_self] at hi
      rw [List.getElem?_append_right (by omega), Nat.sub_self] at hb
      obtain rfl : La = Li := by simpa using hi
      obtain rfl : y = b := by simpa using hb
      rw [← hxl, List.drop_left, ← hnl, List.take_length]
      exact GoD.own_same hy fun b' hb' => hg.block b' (hLab b' hb').1 (hLab b' hb').2
  · intro b hb
    rw [hfl] at hb
    rcases List.mem_append.1 hb with hb | hb
    · rcases hsub b hb with h | h
      · exact .inl (List.mem_append.2 (.inl h))
      · exact .inr (.inr h)
    · rcases List.mem_append.1 hb with hb | hb
      · exact .inl (List.mem_append.2 (.inr hb))
      · exact .inr (.inl hb)
  · intro b hb hn
    exact hg.block b hb (fun e => hn (List.mem_append.2 (.inl (by rw [← e]; simp))))
theorem wpList_App {P : Program} {w0 w : World} {ops : Array Oper} {rest : List Oper} {o : Oper} {a : Act} {Q : Exit → Act → World → Prop} (s x : Operand) (t e : TypeId) {L La : List Nat} {v : Value} {l : List α} {y : α} {news : List Value} (ad : Addr) (c : Nat)
    (hA : App e w0 w L v l) (hy : own La w news y) (hd : ∀ b, b ∈ L → b ∉ La) (hLa : ∀ b, b ∈ La → w0.heap.size ≤ b) (h0 : Below w0.heap.size w0 w) (hgd : o.guard = none)
    (ho : o.op = .call { callee := .builtin .append, args := #[s, x], argTypes := #[t, t] }) (ht : P.underlying t = some (.slice e))
    (hinf : (P.info? e).map (fun i => (i.zero.map (·.cells.size), i.size, decide (i.bytes ≤ 1000))) = some (some (GoD.n α), GoD.n α, true)) (hsz : 0 < GoD.n α) (hs : a.eval s = v) (hx : a.eval x = .slice (some ad) 1 c)
    (hnews : ∀ j u, news[j]? = some u → w.cell? (ad.add j) = some u) (h1 : ∀ u ∈ news, u.oneCell' = true) (hnm : l.length < 1073741824)
    (k : ∀ v' w' L', App e w0 w' L' v' (l ++ [y]) → Below w0.heap.size w0 w' → w.heap.size ≤ w'.heap.size → (∀ b, b ∈ L' → b ∈ L ∨ b ∈ La ∨ w.heap.size ≤ b) → (∀ b, b < w.heap.size → b ∉ L → w'.heap[b]? = w.heap[b]?) → wpList P ops Q rest (a.put o.dst v') w') : wpList P ops Q (o :: rest) a w :=
  wpList_plain hgd fun _ hK => wp_App s x t e ad c hA hy hd hLa h0 ho ht hinf hsz hs hx hnews h1 hnm fun x0 x1 x2 x3 x4 x5 x6 x7 => hK _ _ (k x0 x1 x2 x3 x4 x5 x6 x7)
theorem wp_AppR {P : Program} {w0 w : World} {o : Oper} {a : Act} {K : Act → World → Prop} {Q : Exit → Act → World → Prop} (s x : Operand) (t e : TypeId) {v : Value} {l : List α} {y : α} {news : List Value} (ad : Addr) (c : Nat)
    (hA : AppR e w0 w v l) (hy : rd w0 news y) (h0 : Below w0.heap.size w0 w)
    (ho : o.op = .call { callee := .builtin .append, args := #[s, x], argTypes := #[t, t] }) (ht : P.underlying t = some (.slice e))
    (hinf : (P.info? e).map (fun i => (i.zero.map (·.cells.size), i.size, decide (i.bytes ≤ 1000))) = some (some (GoD.n α), GoD.n α, true)) (hsz : 0 < GoD.n α) (hs : a.eval s = v) (hx : a.eval x = .slice (some ad) 1 c)
    (hnews : ∀ j u, news[j]? = some u → w.cell? (ad.add j) = some u) (h1 : ∀ u ∈ news, u.oneCell' = true) (hnm : l.length < 1073741824)
    (k : ∀ v' w', AppR e w0 w' v' (l ++ [y]) → Below w0.heap.size w0 w' → w.heap.size ≤ w'.heap.size → K (a.put o.dst v') w') : o.wp P a w K Q := by
  obtain ⟨xs, hr, hel⟩ := hA
  have hnl : news.length = GoD.n α := GoD.rd_len hy
  refine wp_app s x t ho e (GoD.n α) w0.heap.size ht hinf hsz hs hr ad 1 c news hx (by rw [hnl, Nat.one_mul]) hnews h1 (by omega) h0.size fun v' w' hr' hg hv => ?_
  refine k v' w' ⟨xs ++ news, by rw [List.length_append]; exact hr', ?_⟩ (grown_below h0 hg hr) hg.size
  intro i b hb
  have hxl : xs.length = l.length * GoD.n α := hr.1
  by_cases hil : i < l.length
  · rw [List.getElem?_append_left hil] at hb
    have hmul := Nat.mul_le_mul_right (GoD.n α) (show i + 1 ≤ l.length by omega)
    rw [Nat.add_mul, Nat.one_mul] at hmul
    rw [List.drop_append_of_le_length (by omega), List.take_append_of_le_length (by rw [List.length_drop]; omega)]
    exact hel i b hb
  · have hi2 : i < (l ++ [y]).length := (List.getElem?_eq_some_iff.1 hb).1
    simp at hi2
    obtain rfl : i = l.length := by omega
    rw [List.getElem?_append_right (by omega), Nat.sub_self] at hb
    obtain rfl : y = b := by simpa using hb
    rw [← hxl, List.drop_left, ← hnl, List.take_length]
    exact hy
theorem wpList_AppR {P : Program} {w0 w : World} {ops : Array Oper} {rest : List Oper} {o : Oper} {a : Act} {Q : Exit → Act → World → Prop} (s x : Operand) (t e : TypeId) {v : Value} {l : List α} {y : α} {news : List Value} (ad : Addr) (c : Nat)
    (hA : AppR e w0 w v l) (hy : rd w0 news y) (h0 : Below w0.heap.size w0 w) (hgd : o.guard = none)
    (ho : o.op = .call { callee := .builtin .append, args := #[s, x], argTypes := #[t, t] }) (ht : P.underlying t = some (.slice e))
    (hinf : (P.info? e).map (fun i => (i.zero.map (·.cells.size), i.size, decide (i.bytes ≤ 1000))) = some (some (GoD.n α), GoD.n α, true)) (hsz : 0 < GoD.n α) (hs : a.eval s = v) (hx : a.eval x = .slice (some ad) 1 c)
    (hnews : ∀ j u, news[j]? = some u → w.cell? (ad.add j) = some u) (h1 : ∀ u ∈ news, u.oneCell' = true) (hnm : l.length < 1073741824)
    (k : ∀ v' w', AppR e w0 w' v' (l ++ [y]) → Below w0.heap.size w0 w' → w.heap.size ≤ w'.heap.size → wpList P ops Q rest (a.put o.dst v') w') : wpList P ops Q (o :: rest) a w :=
  wpList_plain hgd fun _ hK => wp_AppR s x t e ad c hA hy h0 ho ht hinf hsz hs hx hnews h1 hnm fun x0 x1 x2 x3 x4 => hK _ _ (k x0 x1 x2 x3 x4)
end
end Go.Proofs.Ytiafgmepdgfpbaa
