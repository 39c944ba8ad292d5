/- Texts of this proof, put together by a program: App, Fk, Kn, Cka, Ckb, Nga, Ngb, Zd, Ts, Dpa, Dpb, Dpc, Dpd, Sta, Stb, Stc, Stg, Sth, Std, Ste, Isa, Isb, Ckc, Slb, Ev, Ex, Ey, Eva, Evb, Tw, Clr, Inr, Ins, Df, Eua. -/
import Derived.Test.YtdakhddpcfimaaaGreatDoorP3
import Derived.Deep.DeepAppendWide
import Derived.Deep.DeepAppendRoom
import Derived.Maps.AppendAt
import Derived.Test.YtdakhddpcfimaaaGreatDoorProg
import Derived.Outline
import Derived.Lib.SliceRun
import Derived.KernelRfl
import Derived.Sort.EncStr
import Derived.Sort.Grow
import Derived.Lib.SlicesCompact
import Derived.Sort.Walk0
import Derived.Laws.Externs
import Derived.Lib.AppendZerosOnto
import Derived.Deep.RegionLaw
set_option linter.unusedVariables false
set_option linter.unusedSimpArgs false
namespace Go.Proofs.YtdakhddpcfimaaaGreatDoor
open Go.RowKit
open GoD (rd own)
theorem run_app {P : Program} (w : World) (base : Nat) (t ty e : TypeId) (i : TypeInfo) (z : Value) (ht : P.underlying t = some (.slice e)) (hi : P.info? e = some i) (hz : i.zero = some z)
    (hzs : z.cells.size = i.size) (hsz : 0 < i.size) (hb : i.bytes ≤ 1000) {v : Value} {n : Nat} {xs : List Value} (hown : w.ownsRow base e i.size v n xs)
    (a : Addr) (m c : Nat) (news : List Value) (hl : news.length = m * i.size) (hnews : ∀ j u, news[j]? = some u → w.cell? (a.add j) = some u) (h1 : ∀ u ∈ news, u.oneCell' = true)
    (hnm : n + m ≤ 1073741824) (hbase : base ≤ w.heap.size) :
    ∃ v' w', (Builtin.append_ #[t, t] ty #[v, .slice (some a) m c]).run P w = .ok v' w' ∧ w'.ownsRow base e i.size v' (n + m) (xs ++ news) ∧ w.grownBy w' v.ownBlock ∧
      (∀ g, v'.ownBlock = some g → v.ownBlock = some g ∨ w.heap.size ≤ g) ∧ (∀ x k c, v = .slice (some x) k c → c < n + m → (∀ g, v'.ownBlock = some g → w.heap.size ≤ g) ∧ w.grownBy w' none) := by
  have hbytes : ((n + m) + (n + m) / 4 + 192) * i.bytes ≤ 281474976710656 := Nat.le_trans (Nat.mul_le_mul (show _ ≤ 1342177472 by omega) hb) (by decide)
  have h63 : n + m ≤ maxLen := by unfold maxLen; omega
  rcases hown.2 with ⟨rfl, rfl⟩ | ⟨g, cap, cur, rfl, hbg, hg, hnc, hcm, hcs, htake⟩
  · have h0 : w.ownsRow w.heap.size e i.size (.slice none 0 0) 0 xs := ⟨hown.1, .inl ⟨rfl, rfl⟩⟩
    obtain ⟨v', w', hr, hw, hgr, _⟩ := run_append_own_wide w w.heap.size t ty e i z i.size i.bytes ht hi hz rfl rfl hzs hsz _ 0 xs h0 a m c news hl hnews h1 h63 hbytes (Nat.le_refl _)
    refine ⟨v', w', hr, ⟨hw.1, ?_⟩, hgr, fun g hg => .inr (World.ownsRow.lt hw g hg).1, fun x k c h => (by cases h)⟩
    rcases hw.2 with h | ⟨g, cap, cur, h1, h2, h3⟩
    · exact .inl h
    · exact .inr ⟨g, cap, cur, h1, Nat.le_trans hbase h2, h3⟩
  · by_cases hroom : n + m ≤ cap
    · obtain ⟨w', hr, hw, hgr⟩ := run_append_own_spare w base t ty e i i.size ht hi rfl g n cap xs hown a m c news hl hnews h1 hroom
      exact ⟨_, w', hr, hw, hgr, fun k hk => .inl hk, fun x k c h hlt => (by cases h; omega)⟩
    · have hgs : cap < n + m := by omega
      have hr := run_append_grow (P := P) w t ty e i z ht hi hz ⟨g, 0, none⟩ n cap xs hown.1 (hown.cells (g := g) rfl) a m c news hl hnews hgs (by unfold maxLen at h63; omega) (growslice_fits_wide hgs hbytes)
      refine ⟨_, _, hr, ⟨by rw [List.length_append, hown.1, hl, Nat.add_mul], .inr ⟨w.heap.size, _, _, rfl, hbase, heap_alloc_new w.drew _, grownCap_ge w (n + m) cap e, grownCap_le_maxLen w (n + m) cap e h63, ?_, ?_⟩⟩,
        ⟨rfl, rfl, rfl, by simp, fun k hk _ => heap_alloc_old w.drew _ hk⟩, fun k hk => .inr ?_, fun x k c _ _ => ⟨fun g' hk => ?_, rfl, rfl, rfl, by simp, fun k hk _ => heap_alloc_old w.drew _ hk⟩⟩
      · have hge := grownCap_ge w (n + m) cap e
        simp only [Array.size_append, List.size_toArray, size_zeroCells, hzs, hown.1, hl, ← Nat.add_mul]
        congr 1
        omega
      · simp only [Array.toList_append, List.append_assoc]
        rw [← List.append_assoc, List.take_append_of_le_length (by simp [hown.1, hl, Nat.add_mul]), List.take_of_length_le (by simp [hown.1, hl, Nat.add_mul])]
      · simp only [Value.ownBlock, Option.some.injEq] at hk
        omega
      · simp only [Value.ownBlock, Option.some.injEq] at hk
        omega
theorem wp_app {P : Program} {w : World} {o : Oper} {a : Act} {K : Act → World → Prop} {Q : Exit → Act → World → Prop} (s x : Operand) (t : TypeId)
    (ho : o.op = .call { callee := .builtin .append, args := #[s, x], argTypes := #[t, t] }) (e sz base : Nat) (ht : P.underlying t = some (.slice e))
    (hinf : (P.info? e).map (fun i => (i.zero.map (·.cells.size), i.size, decide (i.bytes ≤ 1000))) = some (some sz, sz, true)) (hsz : 0 < sz)
    {v : Value} {n : Nat} {xs : List Value} (hs : a.eval s = v) (hown : w.ownsRow base e sz v n xs) (ad : Addr) (m c : Nat) (news : List Value) (hx : a.eval x = .slice (some ad) m c) (hl : news.length = m * sz)
    (hnews : ∀ j u, news[j]? = some u → w.cell? (ad.add j) = some u) (h1 : ∀ u ∈ news, u.oneCell' = true) (hnm : n + m ≤ 1073741824) (hbase : base ≤ w.heap.size)
    (h : ∀ v' w', w'.ownsRow base e sz v' (n + m) (xs ++ news) → w.grownBy w' v.ownBlock → (∀ g, v'.ownBlock = some g → v.ownBlock = some g ∨ w.heap.size ≤ g) → K (a.put o.dst v') w') : o.wp P a w K Q := by
  obtain ⟨i, z, hi, hz, hsize, hzn, hb⟩ := info_ok hinf
  subst hsize
  obtain ⟨v', w', hr, h2, h3, h4, _⟩ := run_app (P := P) w base t o.type e i z ht hi hz hzn hsz hb hown ad m c news hl hnews h1 hnm hbase
  unfold Oper.wp execOp
  simp only [ho, resolve, invoke, builtin, Sem.run_bind, Sem.run_pure, Result.andThen_ok, List.map_toArray, List.map_cons, List.map_nil, hs, hx, hr]
  exact h v' w' h2 h3 h4
section
variable {α : Type} [GoD α]
def App (e : TypeId) (w0 w : World) (L : List Nat) (v : Value) (l : List α) : Prop :=
  ∃ (xs : List Value) (Ls : List (List Nat)), w.ownsRow w0.heap.size e (GoD.n α) v l.length xs ∧ L = v.ownBlock.toList ++ Ls.flatten ∧ L.Nodup ∧ (∀ b, b ∈ L → w0.heap.size ≤ b ∧ b < w.heap.size) ∧ Ls.length = l.length ∧
    ∀ i Li a, Ls[i]? = some Li → l[i]? = some a → own Li w ((xs.drop (i * GoD.n α)).take (GoD.n α)) a
def AppR (e : TypeId) (w0 w : World) (v : Value) (l : List α) : Prop :=
  ∃ (xs : List Value), w.ownsRow w0.heap.size e (GoD.n α) v l.length xs ∧ ∀ i a, l[i]? = some a → rd w0 ((xs.drop (i * GoD.n α)).take (GoD.n α)) a
theorem ownsRow_keep {w w' : World} {base : Nat} {e : TypeId} {sz n : Nat} {v : Value} {xs : List Value} (h : w.ownsRow base e sz v n xs) (hb : ∀ b, v.ownBlock = some b → w'.heap[b]? = w.heap[b]?) : w'.ownsRow base e sz v n xs := by
  refine ⟨h.1, ?_⟩
  rcases h.2 with h | ⟨g, cap, cur, rfl, h2, h3, h4⟩
  · exact .inl h
  · exact .inr ⟨g, cap, cur, rfl, h2, (hb g rfl).trans h3, h4⟩
theorem App.keep {e : TypeId} {w0 w w' : World} {L : List Nat} {v : Value} {l : List α} (h : App e w0 w L v l) (hb : Below w.heap.size w w') : App e w0 w' L v l := by
  obtain ⟨xs, Ls, h1, h2, h3, h4, h5, h6⟩ := h
  exact ⟨xs, Ls, ownsRow_keep h1 (fun b hm => hb.block b (World.ownsRow.lt h1 b hm).2), h2, h3, fun b hm => ⟨(h4 b hm).1, Nat.lt_of_lt_of_le (h4 b hm).2 hb.size⟩, h5, fun i Li a x y => own_below (h6 i Li a x y) hb⟩
theorem AppR.keep {e : TypeId} {w0 w w' : World} {v : Value} {l : List α} (h : AppR e w0 w v l) (hb : Below w.heap.size w w') : AppR e w0 w' v l := by
  obtain ⟨xs, h1, h2⟩ := h
  exact ⟨xs, ownsRow_keep h1 (fun b hm => hb.block b (World.ownsRow.lt h1 b hm).2), h2⟩
theorem App.start {e : TypeId} {w0 w : World} {v : Value} {c : Nat} {cur : Array Value} {g : Nat} (hv : v = .slice (some ⟨g, 0, none⟩) 0 c) (hg : w.heap[g]? = some (.cells cur e (0, 0))) (hs : cur.size = c * GoD.n α) (hc : c ≤ maxLen) (h0 : w0.heap.size ≤ g) : App e w0 w [g] v ([] : List α) := by
  subst hv
  exact ⟨[], [], ⟨by simp, .inr ⟨g, c, cur, rfl, h0, hg, Nat.zero_le _, hc, hs, by simp⟩⟩, rfl, by simp, fun b hb => by rw [List.mem_singleton.1 hb]; exact ⟨h0, block_lt_of_heap hg⟩, rfl, by simp⟩
theorem AppR.start {e : TypeId} {w0 w : World} {v : Value} {c : Nat} {cur : Array Value} {g : Nat} (hv : v = .slice (some ⟨g, 0, none⟩) 0 c) (hg : w.heap[g]? = some (.cells cur e (0, 0))) (hs : cur.size = c * GoD.n α) (hc : c ≤ maxLen) (h0 : w0.heap.size ≤ g) : AppR e w0 w v ([] : List α) := by
  subst hv
  exact ⟨[], ⟨by simp, .inr ⟨g, c, cur, rfl, h0, hg, Nat.zero_le _, hc, hs, by simp⟩⟩, by simp⟩
theorem App.fresh {e : TypeId} {w0 w1 : World} {g : Nat} (hg : g = w1.heap.size) (h0 : w0.heap.size ≤ g) : App e w0 (w1.alloc (.cells #[] e)) [g] (.slice (some ⟨g, 0, none⟩) 0 0) ([] : List α) := by
  subst hg
  exact App.start rfl (heap_alloc_new w1 _) (by simp) (by decide) h0
theorem AppR.fresh {e : TypeId} {w0 w1 : World} {g : Nat} (hg : g = w1.heap.size) (h0 : w0.heap.size ≤ g) : AppR e w0 (w1.alloc (.cells #[] e)) (.slice (some ⟨g, 0, none⟩) 0 0) ([] : List α) := by
  subst hg
  exact AppR.start rfl (heap_alloc_new w1 _) (by simp) (by decide) h0
theorem App.alloc {e : TypeId} {w0 w : World} {L : List Nat} {v : Value} {l : List α} (h : App e w0 w L v l) (o : Obj) : App e w0 (w.alloc o) L v l := h.keep ((Below.refl _ _).alloc (Nat.le_refl _) _)
theorem App.drew {e : TypeId} {w0 w : World} {L : List Nat} {v : Value} {l : List α} (h : App e w0 w L v l) : App e w0 w.drew L v l := h.keep ((Below.refl _ _).drew)
theorem AppR.alloc {e : TypeId} {w0 w : World} {v : Value} {l : List α} (h : AppR e w0 w v l) (o : Obj) : AppR e w0 (w.alloc o) v l := h.keep ((Below.refl _ _).alloc (Nat.le_refl _) _)
theorem AppR.drew {e : TypeId} {w0 w : World} {v : Value} {l : List α} (h : AppR e w0 w v l) : AppR e w0 w.drew v l := h.keep ((Below.refl _ _).drew)
theorem App.nil {e : TypeId} (w0 w : World) : App e w0 w [] (.slice none 0 0) ([] : List α) := ⟨[], [], ⟨by simp, .inl ⟨rfl, rfl⟩⟩, rfl, by simp, by simp, rfl, by simp⟩
theorem AppR.nil {e : TypeId} (w0 w : World) : AppR e w0 w (.slice none 0 0) ([] : List α) := ⟨[], ⟨by simp, .inl ⟨rfl, rfl⟩⟩, by simp⟩
theorem App.done {e : TypeId} {w0 w : World} {L : List Nat} {v : Value} {l : List α} (h : App e w0 w L v l) : own L w [v] l := by
  obtain ⟨xs, Ls, ⟨h1, h2⟩, rfl, h3, h4, h5, h6⟩ := h
  refine ⟨h3, ?_⟩
  rcases h2 with ⟨rfl, hl⟩ | ⟨g, cap, cur, rfl, _, hg, hnc, hcm, hcs, rfl⟩
  · have : l = [] := List.eq_nil_of_length_eq_zero hl
    subst this
    have : Ls = [] := List.eq_nil_of_length_eq_zero h5
    subst this
    exact .inl ⟨rfl, rfl, none, rfl⟩
  · refine .inr ⟨g, cap, cur, e, Ls, rfl, hg, hnc, hcm, hcs, rfl, h5, fun i Li a hi ha => ?_⟩
    have h := h6 i Li a hi ha
    have hil : i < l.length := (List.getElem?_eq_some_iff.1 ha).1
    rw [List.drop_take, List.take_take, Nat.min_eq_left (by
      have := Nat.mul_le_mul_right (GoD.n α) (show i + 1 ≤ l.length by omega)
      rw [Nat.add_mul, Nat.one_mul] at this
      omega)] at h
    exact h
theorem App.ge {e : TypeId} {w0 w : World} {L : List Nat} {v : Value} {l : List α} (h : App e w0 w L v l) : ∀ b, b ∈ L → w0.heap.size ≤ b := by
  obtain ⟨_, _, _, _, _, h4, _⟩ := h
  exact fun b hb => (h4 b hb).1
theorem App.lt {e : TypeId} {w0 w : World} {L : List Nat} {v : Value} {l : List α} (h : App e w0 w L v l) : ∀ b, b ∈ L → b < w.heap.size := by
  obtain ⟨_, _, _, _, _, h4, _⟩ := h
  exact fun b hb => (h4 b hb).2
theorem AppR.done {e : TypeId} {w0 w : World} {v : Value} {l : List α} (h : AppR e w0 w v l) (hb : Below w0.heap.size w0 w) : rd w [v] l := by
  obtain ⟨xs, ⟨h1, h2⟩, h6⟩ := h
  rcases h2 with ⟨rfl, hl⟩ | ⟨g, cap, cur, rfl, _, hg, hnc, hcm, hcs, rfl⟩
  · have : l = [] := List.eq_nil_of_length_eq_zero hl
    subst this
    exact ⟨none, 0, rfl, Nat.le_refl _, Nat.zero_le _, by simp⟩
  · refine ⟨some ⟨g, 0, none⟩, cap, rfl, hnc, hcm, fun i a ha => ⟨g, 0, _, rfl, GoD.rd_len (h6 i a ha), fun j u hj => ?_, rd_below (h6 i a ha) hb⟩⟩
    have hlt := (List.getElem?_eq_some_iff.1 hj).1
    simp only [List.length_take] at hlt
    rw [take_drop_get (by omega), List.getElem?_take] at hj
    split at hj
    · rw [Nat.zero_add]
      rw [Array.getElem?_toList] at hj
      simp [World.cell?, hg, hj]
    · cases hj
theorem AppR.slice {e : TypeId} {w0 w : World} {v : Value} {l : List α} (h : AppR e w0 w v l) : ∃ oa cap, v = .slice oa l.length cap := by
  obtain ⟨xs, ⟨_, h2⟩, _⟩ := h
  rcases h2 with ⟨rfl, hl⟩ | ⟨g, cap, cur, rfl, _⟩
  · exact ⟨none, 0, by rw [hl]⟩
  · exact ⟨_, _, rfl⟩
theorem App.slice {e : TypeId} {w0 w : World} {L : List Nat} {v : Value} {l : List α} (h : App e w0 w L v l) : ∃ oa cap, v = .slice oa l.length cap := slice_of_own h.done
theorem grown_below {w0 w w' : World} {v : Value} {sz n : Nat} {e : TypeId} {xs : List Value} (h0 : Below w0.heap.size w0 w) (hg : w.grownBy w' v.ownBlock) (ho : w.ownsRow w0.heap.size e sz v n xs) : Below w0.heap.size w0 w' :=
  h0.grown hg (h0.size) (fun k hk => (World.ownsRow.lt ho k hk).1)
theorem wp_App {P : Program} {w0 w : World} {o : Oper} {a : Act} {K : Act → World → Prop} {Q : Exit → Act → World → Prop} (s x : Operand) (t e : TypeId) {L La : List Nat} {v : Value} {l : List α} {y : α} {news : List Value} (ad : Addr) (c : Nat)
    (hA : App e w0 w L v l) (hy : own La w news y) (hd : ∀ b, b ∈ L → b ∉ La) (hLa : ∀ b, b ∈ La → w0.heap.size ≤ b) (h0 : Below w0.heap.size w0 w)
    (ho : o.op = .call { callee := .builtin .append, args := #[s, x], argTypes := #[t, t] }) (ht : P.underlying t = some (.slice e))
    (hinf : (P.info? e).map (fun i => (i.zero.map (·.cells.size), i.size, decide (i.bytes ≤ 1000))) = some (some (GoD.n α), GoD.n α, true)) (hsz : 0 < GoD.n α) (hs : a.eval s = v) (hx : a.eval x = .slice (some ad) 1 c)
    (hnews : ∀ j u, news[j]? = some u → w.cell? (ad.add j) = some u) (h1 : ∀ u ∈ news, u.oneCell' = true) (hnm : l.length < 1073741824)
    (k : ∀ v' w' L', App e w0 w' L' v' (l ++ [y]) → Below w0.heap.size w0 w' → w.heap.size ≤ w'.heap.size → (∀ b, b ∈ L' → b ∈ L ∨ b ∈ La ∨ w.heap.size ≤ b) → (∀ b, b < w.heap.size → b ∉ L → w'.heap[b]? = w.heap[b]?) → K (a.put o.dst v') w') : o.wp P a w K Q := by
  obtain ⟨xs, Ls, hr, rfl, hnd, hlt, hlen, hel⟩ := hA
  have hnl : news.length = GoD.n α := GoD.rd_len (GoD.own_rd hy)
  refine wp_app s x t ho e (GoD.n α) w0.heap.size ht hinf hsz hs hr ad 1 c news hx (by rw [hnl, Nat.one_mul]) hnews h1 (by omega) h0.size fun v' w' hr' hg hv => ?_
  have hin : ∀ Li, Li ∈ Ls → ∀ b, b ∈ Li → b < w.heap.size ∧ some b ≠ v.ownBlock := fun Li hLi b hb => by
    have hm : b ∈ Ls.flatten := List.mem_flatten.2 ⟨Li, hLi, hb⟩
    refine ⟨(hlt b (List.mem_append.2 (.inr hm))).2, fun e => ?_⟩
    have := (List.nodup_append.1 hnd).2.2 b (by rw [← e]; simp) b hm
    exact this rfl
  have hLab : ∀ b, b ∈ La → b < w.heap.size ∧ some b ≠ v.ownBlock := fun b hb => ⟨GoD.own_lt hy b hb, fun e => hd b (by rw [← e]; simp) hb⟩
  have hfl : (Ls ++ [La]).flatten = Ls.flatten ++ La := by simp
  have hsub : ∀ b, b ∈ v'.ownBlock.toList → b ∈ v.ownBlock.toList ∨ w.heap.size ≤ b := fun b hb => by
    rcases hv b (by simpa using hb) with h | h
    · left; rw [h]; simp
    · exact .inr h
  refine k v' w' (v'.ownBlock.toList ++ (Ls ++ [La]).flatten) ⟨xs ++ news, Ls ++ [La], by rw [List.length_append]; exact hr', rfl, ?_, ?_, by simp [hlen], ?_⟩ (grown_below h0 hg hr) hg.size ?_ ?_
  · rw [hfl]
    refine List.nodup_append.2 ⟨by cases v'.ownBlock <;> simp, List.nodup_append.2 ⟨(List.nodup_append.1 hnd).2.1, GoD.own_nd hy, fun b hb c hc e => hd b (List.mem_append.2 (.inr hb)) (e ▸ hc)⟩, fun b hb c hc e => ?_⟩
    subst e
    rcases hsub b hb with h | h
    · rcases List.mem_append.1 hc with hc | hc
      · exact (List.nodup_append.1 hnd).2.2 b h b hc rfl
      · exact hd b (List.mem_append.2 (.inl h)) hc
    · rcases List.mem_append.1 hc with hc | hc
      · have := (hlt b (List.mem_append.2 (.inr hc))).2; omega
      · have := (hLab b hc).1; omega
  · intro b hb
    rw [hfl] at hb
    rcases List.mem_append.1 hb with hb | hb
    · exact World.ownsRow.lt hr' b (by simpa using hb)
    · rcases List.mem_append.1 hb with hb | hb
      · have := hlt b (List.mem_append.2 (.inr hb)); exact ⟨this.1, Nat.lt_of_lt_of_le this.2 hg.size⟩
      · exact ⟨hLa b hb, Nat.lt_of_lt_of_le (hLab b hb).1 hg.size⟩
  · intro i Li b hi hb
    have hxl : xs.length = l.length * GoD.n α := hr.1
    by_cases hil : i < l.length
    · rw [List.getElem?_append_left (by omega)] at hi
      rw [List.getElem?_append_left hil] at hb
      have hmul := Nat.mul_le_mul_right (GoD.n α) (show i + 1 ≤ l.length by omega)
      rw [Nat.add_mul, Nat.one_mul] at hmul
      rw [List.drop_append_of_le_length (by omega), List.take_append_of_le_length (by rw [List.length_drop]; omega)]
      exact GoD.own_same (hel i Li b hi hb) fun b' hb' => by
        have := hin Li (List.mem_of_getElem? hi) b' hb'
        exact hg.block b' this.1 this.2
    · have hi2 : i < (Ls ++ [La]).length := (List.getElem?_eq_some_iff.1 hi).1
      simp [hlen] at hi2
      obtain rfl : i = l.length := by omega
      rw [List.getElem?_append_right (by omega), hlen, Nat.sub_self] at hi
      rw [List.getElem?_append_right (by omega), Nat.sub_self] at hb
      obtain rfl : La = Li := by simpa using hi
      obtain rfl : y = b := by simpa using hb
      rw [← hxl, List.drop_left, ← hnl, List.take_length]
      exact GoD.own_same hy fun b' hb' => hg.block b' (hLab b' hb').1 (hLab b' hb').2
  · intro b hb
    rw [hfl] at hb
    rcases List.mem_append.1 hb with hb | hb
    · rcases hsub b hb with h | h
      · exact .inl (List.mem_append.2 (.inl h))
      · exact .inr (.inr h)
    · rcases List.mem_append.1 hb with hb | hb
      · exact .inl (List.mem_append.2 (.inr hb))
      · exact .inr (.inl hb)
  · intro b hb hn
    exact hg.block b hb (fun e => hn (List.mem_append.2 (.inl (by rw [← e]; simp))))
theorem wpList_App {P : Program} {w0 w : World} {ops : Array Oper} {rest : List Oper} {o : Oper} {a : Act} {Q : Exit → Act → World → Prop} (s x : Operand) (t e : TypeId) {L La : List Nat} {v : Value} {l : List α} {y : α} {news : List Value} (ad : Addr) (c : Nat)
    (hA : App e w0 w L v l) (hy : own La w news y) (hd : ∀ b, b ∈ L → b ∉ La) (hLa : ∀ b, b ∈ La → w0.heap.size ≤ b) (h0 : Below w0.heap.size w0 w) (hgd : o.guard = none)
    (ho : o.op = .call { callee := .builtin .append, args := #[s, x], argTypes := #[t, t] }) (ht : P.underlying t = some (.slice e))
    (hinf : (P.info? e).map (fun i => (i.zero.map (·.cells.size), i.size, decide (i.bytes ≤ 1000))) = some (some (GoD.n α), GoD.n α, true)) (hsz : 0 < GoD.n α) (hs : a.eval s = v) (hx : a.eval x = .slice (some ad) 1 c)
    (hnews : ∀ j u, news[j]? = some u → w.cell? (ad.add j) = some u) (h1 : ∀ u ∈ news, u.oneCell' = true) (hnm : l.length < 1073741824)
    (k : ∀ v' w' L', App e w0 w' L' v' (l ++ [y]) → Below w0.heap.size w0 w' → w.heap.size ≤ w'.heap.size → (∀ b, b ∈ L' → b ∈ L ∨ b ∈ La ∨ w.heap.size ≤ b) → (∀ b, b < w.heap.size → b ∉ L → w'.heap[b]? = w.heap[b]?) → wpList P ops Q rest (a.put o.dst v') w') : wpList P ops Q (o :: rest) a w :=
  wpList_plain hgd fun _ hK => wp_App s x t e ad c hA hy hd hLa h0 ho ht hinf hsz hs hx hnews h1 hnm fun x0 x1 x2 x3 x4 x5 x6 x7 => hK _ _ (k x0 x1 x2 x3 x4 x5 x6 x7)
theorem wp_AppR {P : Program} {w0 w : World} {o : Oper} {a : Act} {K : Act → World → Prop} {Q : Exit → Act → World → Prop} (s x : Operand) (t e : TypeId) {v : Value} {l : List α} {y : α} {news : List Value} (ad : Addr) (c : Nat)
    (hA : AppR e w0 w v l) (hy : rd w0 news y) (h0 : Below w0.heap.size w0 w)
    (ho : o.op = .call { callee := .builtin .append, args := #[s, x], argTypes := #[t, t] }) (ht : P.underlying t = some (.slice e))
    (hinf : (P.info? e).map (fun i => (i.zero.map (·.cells.size), i.size, decide (i.bytes ≤ 1000))) = some (some (GoD.n α), GoD.n α, true)) (hsz : 0 < GoD.n α) (hs : a.eval s = v) (hx : a.eval x = .slice (some ad) 1 c)
    (hnews : ∀ j u, news[j]? = some u → w.cell? (ad.add j) = some u) (h1 : ∀ u ∈ news, u.oneCell' = true) (hnm : l.length < 1073741824)
    (k : ∀ v' w', AppR e w0 w' v' (l ++ [y]) → Below w0.heap.size w0 w' → w.heap.size ≤ w'.heap.size → K (a.put o.dst v') w') : o.wp P a w K Q := by
  obtain ⟨xs, hr, hel⟩ := hA
  have hnl : news.length = GoD.n α := GoD.rd_len hy
  refine wp_app s x t ho e (GoD.n α) w0.heap.size ht hinf hsz hs hr ad 1 c news hx (by rw [hnl, Nat.one_mul]) hnews h1 (by omega) h0.size fun v' w' hr' hg hv => ?_
  refine k v' w' ⟨xs ++ news, by rw [List.length_append]; exact hr', ?_⟩ (grown_below h0 hg hr) hg.size
  intro i b hb
  have hxl : xs.length = l.length * GoD.n α := hr.1
  by_cases hil : i < l.length
  · rw [List.getElem?_append_left hil] at hb
    have hmul := Nat.mul_le_mul_right (GoD.n α) (show i + 1 ≤ l.length by omega)
    rw [Nat.add_mul, Nat.one_mul] at hmul
    rw [List.drop_append_of_le_length (by omega), List.take_append_of_le_length (by rw [List.length_drop]; omega)]
    exact hel i b hb
  · have hi2 : i < (l ++ [y]).length := (List.getElem?_eq_some_iff.1 hb).1
    simp at hi2
    obtain rfl : i = l.length := by omega
    rw [List.getElem?_append_right (by omega), Nat.sub_self] at hb
    obtain rfl : y = b := by simpa using hb
    rw [← hxl, List.drop_left, ← hnl, List.take_length]
    exact hy
theorem wpList_AppR {P : Program} {w0 w : World} {ops : Array Oper} {rest : List Oper} {o : Oper} {a : Act} {Q : Exit → Act → World → Prop} (s x : Operand) (t e : TypeId) {v : Value} {l : List α} {y : α} {news : List Value} (ad : Addr) (c : Nat)
    (hA : AppR e w0 w v l) (hy : rd w0 news y) (h0 : Below w0.heap.size w0 w) (hgd : o.guard = none)
    (ho : o.op = .call { callee := .builtin .append, args := #[s, x], argTypes := #[t, t] }) (ht : P.underlying t = some (.slice e))
    (hinf : (P.info? e).map (fun i => (i.zero.map (·.cells.size), i.size, decide (i.bytes ≤ 1000))) = some (some (GoD.n α), GoD.n α, true)) (hsz : 0 < GoD.n α) (hs : a.eval s = v) (hx : a.eval x = .slice (some ad) 1 c)
    (hnews : ∀ j u, news[j]? = some u → w.cell? (ad.add j) = some u) (h1 : ∀ u ∈ news, u.oneCell' = true) (hnm : l.length < 1073741824)
    (k : ∀ v' w', AppR e w0 w' v' (l ++ [y]) → Below w0.heap.size w0 w' → w.heap.size ≤ w'.heap.size → wpList P ops Q rest (a.put o.dst v') w') : wpList P ops Q (o :: rest) a w :=
  wpList_plain hgd fun _ hK => wp_AppR s x t e ad c hA hy h0 ho ht hinf hsz hs hx hnews h1 hnm fun x0 x1 x2 x3 x4 => hK _ _ (k x0 x1 x2 x3 x4)
end
end Go.Proofs.YtdakhddpcfimaaaGreatDoor
namespace Go.Proofs.YtdakhddpcfimaaaGreatDoor
open Go.RowKit
open GoD (rd own)
/-! ### append of a whole slice to an empty one -/
theorem run_app_nil {P : Program} (w : World) (t ty e : TypeId) (i : TypeInfo) (ht : P.underlying t = some (.slice e)) (hi : P.info? e = some i) (g n cap : Nat) (hn : n ≤ cap) :
    (Builtin.append_ #[t, t] ty #[.slice (some ⟨g, 0, none⟩) n cap, .slice none 0 0]).run P w = .ok (.slice (some ⟨g, 0, none⟩) n cap) w := by
  simp [Builtin.append_, run_underlying ht, sizeOf, typeInfo, hi, Builtin.lenOf, Builtin.firstCells, loadCells, loadCellsFrom, hn, storeCells]
section
variable {α : Type} [GoD α]
def Plain (α : Type) [GoD α] : Prop := 0 < GoD.n α ∧ ∀ (w w' : World) (cs : List Value) (a : α), rd w cs a → own [] w' cs a ∧ ∀ u ∈ cs, u.oneCell' = true
theorem plain_int : Plain Int := ⟨Nat.zero_lt_one, fun w w' cs a h => ⟨⟨rfl, h.1, h.2⟩, by rw [h.1]; simp [Value.oneCell']⟩⟩
theorem plain_bool : Plain Bool := ⟨Nat.zero_lt_one, fun w w' cs a h => ⟨⟨rfl, h⟩, by rw [show cs = [.bool a] from h]; simp [Value.oneCell']⟩⟩
theorem plain_str : Plain ByteArray := ⟨Nat.zero_lt_one, fun w w' cs a h => ⟨⟨rfl, h.1, h.2⟩, by rw [h.1]; simp [Value.oneCell']⟩⟩
theorem plain_pair {β : Type} [GoD β] (h1 : Plain α) (h2 : Plain β) : Plain (α × β) := by
  refine ⟨Nat.lt_of_lt_of_le h1.1 (Nat.le_add_right _ _), fun w w' cs a h => ?_⟩
  obtain ⟨c1, c2, rfl, k1, k2⟩ := h
  obtain ⟨o1, u1⟩ := h1.2 w w' _ _ k1
  obtain ⟨o2, u2⟩ := h2.2 w w' _ _ k2
  refine ⟨own_pair o1 o2 (by simp), fun u hu => ?_⟩
  rcases List.mem_append.1 hu with hu | hu
  · exact u1 u hu
  · exact u2 u hu
theorem rdS_news {w : World} {oa : Option Addr} {cap : Nat} {l : List α} (hn : 0 < GoD.n α) (h : rd w [.slice oa l.length cap] l) : l = [] ∨ ∃ (b off : Nat) (news : List Value), oa = some ⟨b, off, none⟩ ∧ news.length = l.length * GoD.n α ∧ (∀ j u, news[j]? = some u → w.cell? ⟨b, off + j, none⟩ = some u) ∧
    ∀ i a, l[i]? = some a → rd w ((news.drop (i * GoD.n α)).take (GoD.n α)) a := by
  obtain ⟨oa', cap', e, hl, hm, hel⟩ := h
  obtain ⟨rfl, rfl⟩ : oa = oa' ∧ cap = cap' := by simpa using e
  cases hcase : l with
  | nil => exact .inl rfl
  | cons a0 l0 =>
    right
    obtain ⟨b, off, _, rfl, _⟩ := hel 0 a0 (by simp [hcase])
    rw [← hcase]
    have key : ∀ k, k ≤ l.length → ∃ news : List Value, news.length = k * GoD.n α ∧ (∀ j u, news[j]? = some u → w.cell? ⟨b, off + j, none⟩ = some u) ∧ ∀ i a, i < k → l[i]? = some a → rd w ((news.drop (i * GoD.n α)).take (GoD.n α)) a := by
      intro k
      induction k with
      | zero => intro _; exact ⟨[], by simp, by simp, fun i a hi => absurd hi (Nat.not_lt_zero _)⟩
      | succ k ih =>
        intro hk
        obtain ⟨news, h1, h2, h3⟩ := ih (by omega)
        obtain ⟨b', off', ce, e', hcl, hcc, hr⟩ := hel k _ (List.getElem?_eq_getElem (by omega : k < l.length))
        obtain ⟨rfl, rfl⟩ : b = b' ∧ off = off' := by simpa using e'
        refine ⟨news ++ ce, by rw [List.length_append, h1, hcl, Nat.add_mul, Nat.one_mul], fun j u hj => ?_, fun i a hi ha => ?_⟩
        · rcases Nat.lt_or_ge j news.length with h | h
          · rw [List.getElem?_append_left h] at hj; exact h2 j u hj
          · rw [List.getElem?_append_right h] at hj
            have := hcc _ u hj
            rw [show off + k * GoD.n α + (j - news.length) = off + j by rw [← h1]; omega] at this
            exact this
        · rcases Nat.lt_or_ge i k with h | h
          · have hmul := Nat.mul_le_mul_right (GoD.n α) (show i + 1 ≤ k by omega)
            rw [Nat.add_mul, Nat.one_mul] at hmul
            rw [List.drop_append_of_le_length (by omega), List.take_append_of_le_length (by rw [List.length_drop]; omega)]
            exact h3 i a h ha
          · obtain rfl : i = k := by omega
            rw [List.getElem?_eq_getElem (by omega)] at ha
            obtain rfl := Option.some.inj ha
            rw [← h1, List.drop_left, ← hcl, List.take_length]
            exact hr
    obtain ⟨news, h1, h2, h3⟩ := key l.length (Nat.le_refl _)
    exact ⟨b, off, news, rfl, h1, h2, fun i a ha => h3 i a (List.getElem?_eq_some_iff.1 ha).1 ha⟩
theorem run_appAll {P : Program} (w : World) (t ty e : TypeId) (hpl : Plain α) (ht : P.underlying t = some (.slice e))
    (hinf : (P.info? e).map (fun i => (i.zero.map (·.cells.size), i.size, decide (i.bytes ≤ 1000))) = some (some (GoD.n α), GoD.n α, true)) {g : Nat} (hg : w.heap[g]? = some (.cells #[] e (0, 0)))
    {y : Value} {l : List α} (hr : rd w [y] l) (hl : l.length ≤ 1073741824) :
    ∃ v' w' L, (Builtin.append_ #[t, t] ty #[.slice (some ⟨g, 0, none⟩) 0 0, y]).run P w = .ok v' w' ∧ own L w' [v'] l ∧ Ext w w' ∧ ∀ b ∈ L, w.heap.size ≤ b ∧ b < w'.heap.size := by
  obtain ⟨i, z, hi, hz, hsize, hzn, hb⟩ := info_ok hinf
  obtain ⟨oa, cap, rfl⟩ := slice_of_rd hr
  have hown : w.ownsRow g e i.size (.slice (some ⟨g, 0, none⟩) 0 0) 0 [] := ⟨by simp, .inr ⟨g, 0, #[], rfl, Nat.le_refl _, hg, Nat.le_refl _, Nat.zero_le _, by simp, by simp⟩⟩
  have h0 : own [] w [.slice (some ⟨g, 0, none⟩) 0 0] ([] : List α) := ⟨by simp, .inl ⟨rfl, rfl, _, rfl⟩⟩
  rcases rdS_news hpl.1 hr with rfl | ⟨b, off, news, rfl, hnl, hnews, hrd⟩
  · cases oa with
    | none =>
      obtain ⟨_, _, ee, _, _, _⟩ := hr
      by_cases hc : cap = 0
      · subst hc
        exact ⟨_, w, [], run_app_nil w t ty e i ht hi g 0 0 (Nat.le_refl _), h0, Ext.refl w, by simp⟩
      · refine ⟨_, w, [], ?_, h0, Ext.refl w, by simp⟩
        simp [Builtin.append_, run_underlying ht, sizeOf, typeInfo, hi, Builtin.lenOf, Builtin.firstCells, loadCells, loadCellsFrom, storeCells]
    | some ad =>
      refine ⟨_, w, [], ?_, h0, Ext.refl w, by simp⟩
      simp [Builtin.append_, run_underlying ht, sizeOf, typeInfo, hi, Builtin.lenOf, Builtin.firstCells, loadCells, loadCellsFrom, storeCells]
  · cases hlc : l with
    | nil =>
      subst hlc
      refine ⟨_, w, [], ?_, h0, Ext.refl w, by simp⟩
      simp [Builtin.append_, run_underlying ht, sizeOf, typeInfo, hi, Builtin.lenOf, Builtin.firstCells, loadCells, loadCellsFrom, storeCells]
    | cons a0 l0 =>
      rw [← hlc]
      have hpos : 0 < l.length := by rw [hlc]; simp
      have h1 : ∀ u ∈ news, Value.oneCell' u = true := fun u hu => by
        obtain ⟨j, hj, rfl⟩ := List.getElem_of_mem hu
        have hnp := hpl.1
        have hjn : j / GoD.n α < l.length := by rw [Nat.div_lt_iff_lt_mul hnp]; omega
        have hx := (hpl.2 w w _ _ (hrd _ _ (List.getElem?_eq_getElem hjn))).2
        refine hx _ (List.mem_of_getElem? (i := j % GoD.n α) ?_)
        rw [take_drop_get (Nat.mod_lt _ hnp), Nat.mul_comm, Nat.div_add_mod, List.getElem?_eq_getElem hj]
      obtain ⟨v', w', hr', hw, hgr, _, hfresh⟩ := run_app (P := P) w g t ty e i z ht hi hz (by rw [hsize]; exact hzn) (by rw [hsize]; exact hpl.1) hb hown ⟨b, off, none⟩ l.length cap news (by rw [hsize]; exact hnl) (fun j u hj => by
        have := hnews j u hj
        unfold Addr.add
        by_cases hj0 : j = 0
        · subst hj0; simpa using this
        · simpa [hj0] using this) h1 (by omega) (Nat.le_of_lt (block_lt_of_heap hg))
      obtain ⟨hf1, hf2⟩ := hfresh _ _ _ rfl (by omega)
      have hext : Ext w w' := (Below.refl _ _).grown hf2 (Nat.le_refl _) (fun k hk => by cases hk)
      rw [Nat.zero_add, List.nil_append, hsize] at hw
      have hA : App e w w' (v'.ownBlock.toList ++ (List.replicate l.length ([] : List Nat)).flatten) v' l := by
        refine ⟨news, List.replicate l.length [], ⟨hw.1, ?_⟩, rfl, ?_, ?_, by simp, fun i Li a hLi ha => ?_⟩
        · rcases hw.2 with h | ⟨g', cap', cur, h1, h2, h3⟩
          · exact .inl h
          · exact .inr ⟨g', cap', cur, h1, hf1 g' (by rw [h1]; rfl), h3⟩
        · simp only [List.flatten_replicate_nil, List.append_nil]
          cases v'.ownBlock <;> simp
        · intro b' hb'
          simp only [List.flatten_replicate_nil, List.append_nil] at hb'
          have hb2 : v'.ownBlock = some b' := by simpa using hb'
          exact ⟨hf1 b' hb2, (World.ownsRow.lt hw b' hb2).2⟩
        · have : Li = [] := by
            have := List.mem_of_getElem? hLi
            exact (List.mem_replicate.1 this).2
          subst this
          exact (hpl.2 w w' _ _ (hrd i a ha)).1
      exact ⟨v', w', _, hr', hA.done, hext, fun b hb => ⟨hA.ge b hb, hA.lt b hb⟩⟩
theorem wpList_appAll {P : Program} {w : World} {ops : Array Oper} {rest : List Oper} {o : Oper} {a : Act} {Q : Exit → Act → World → Prop} (s x : Operand) (t e : TypeId) (hpl : Plain α) (g : Nat) {y : Value} {l : List α} (hr : rd w [y] l) (hl : l.length ≤ 1073741824)
    (hg : w.heap[g]? = some (.cells #[] e (0, 0))) (hgd : o.guard = none) (ho : o.op = .call { callee := .builtin .append, args := #[s, x], argTypes := #[t, t] }) (ht : P.underlying t = some (.slice e))
    (hinf : (P.info? e).map (fun i => (i.zero.map (·.cells.size), i.size, decide (i.bytes ≤ 1000))) = some (some (GoD.n α), GoD.n α, true)) (hs : a.eval s = .slice (some ⟨g, 0, none⟩) 0 0) (hx : a.eval x = y)
    (k : ∀ v' w' L, own L w' [v'] l → Ext w w' → (∀ b ∈ L, w.heap.size ≤ b ∧ b < w'.heap.size) → wpList P ops Q rest (a.put o.dst v') w') : wpList P ops Q (o :: rest) a w := by
  refine wpList_plain hgd fun _ hK => ?_
  obtain ⟨v', w', L, hr', h1, h2, h3⟩ := run_appAll (P := P) w t o.type e hpl ht hinf hg hr hl
  unfold Oper.wp execOp
  simp only [ho, resolve, invoke, builtin, Sem.run_bind, Sem.run_pure, Result.andThen_ok, List.map_toArray, List.map_cons, List.map_nil, hs, hx, hr']
  exact hK _ _ (k v' w' L h1 h2 h3)
end
/-! ### makers -/
section
variable {P : Program} {o : Oper} {a : Act} {w : World} {K : Act → World → Prop} {Q : Exit → Act → World → Prop}
theorem wp_callN {n : FuncId} {args : Array Operand} {tys : Array TypeId} {vals : Array Value} (ho : o.op = .call { callee := .value (.func n), args := args, argTypes := tys }) (hv : args.map a.eval = vals)
    (hf : (P.funcs[n]?).map (fun fn => (fn.name == "runtime.NumGoroutine", fn.body.isNone)) = some (false, false))
    (h : Calls P n vals w (fun e w'' => match e, w'' with
      | .returned v, w'' => K (a.put o.dst v) w''
      | .panicked c, w'' => Q (.panic c) a w''
      | .outgrown, _ => LetsOut Q)) : o.wp P a w K Q := by
  obtain ⟨fn, hfn, hq⟩ := Option.map_eq_some_iff.1 hf
  simp only [Prod.mk.injEq] at hq
  have hc : (callFunc n vals).run P w = .ok (.enter n vals) w := by
    have h1 : ¬ fn.name = "runtime.NumGoroutine" := by simpa using hq.1
    have h2 : ¬ fn.body = none := fun e => by rw [e] at hq; simp at hq
    unfold callFunc
    simp [hfn, h1, h2]
  unfold Oper.wp execOp
  simp only [ho, resolve, invoke, Sem.run_bind, Sem.run_pure, Result.andThen_ok, hv, Act.eval, Deferred.ofValue, Array.append_empty, Array.empty_append, hc]
  exact h
theorem wanted_none {o : Oper} (hg : o.guard = none) (y : Nat → Option Bool) : Region.wanted o y = true := by
  simp [Region.wanted, hg]
theorem run_callS {β : Type} [GoD β] {ops : Array Oper} {Q : Exit → Act → World → Prop} {H : List Nat} {dst : Nat → Tmp} {a : Act} {W : World} {i : Nat} {o : Oper} {n : FuncId} {t : Tmp} {ty : TypeId} {v : Value} {l : List β} {D : Act → World → Prop}
    (hi : ops[i]? = some o) (hd : o.dst = some (dst i)) (hg : o.guard = none) (hop : o.op = .call { callee := .value (.func n), args := #[.tmp t], argTypes := #[ty] })
    (hf : (P.funcs[n]?).map (fun fn => (fn.name == "runtime.NumGoroutine", fn.body.isNone)) = some (false, false)) (ht : ∀ j ∈ H, dst j ≠ t) (hv : a.tmps.getD t undef = v) (hc : ∀ w, Ext W w → Calls P n #[v] w (RetS w l)) :
    ∃ o, ops[i]? = some o ∧ o.dst = some (dst i) ∧ ∀ a' w, Same dst H a a' → Ext W w → D a' w →
      Region.wanted o (yielded ops a'.tmps) = true ∧ ∀ K : Act → World → Prop, (∀ v L w', Ext w w' → own L w' [v] l → (∀ b ∈ L, w.heap.size ≤ b ∧ b < w'.heap.size) → K (a'.put (some (dst i)) v) w') → o.wp P a' w K Q := by
  refine ⟨o, hi, hd, fun a' w hs hx _ => ⟨wanted_none hg _, fun K hk => ?_⟩⟩
  refine wp_callN hop (vals := #[v]) ?_ hf ?_
  · simp only [List.map_toArray, List.map_cons, List.map_nil, Act.eval, hs.eval t ht, hv]
  · refine call_retS (w := w) (hc w hx) (Below.refl _ _) fun w' v L h1 h2 h3 h4 ho hL => ?_
    rw [hd]
    exact hk v L w' h1 ho fun b hb => ⟨hL b hb, GoD.own_lt ho b hb⟩
theorem run_callA {β : Type} [GoD β] {ops : Array Oper} {Q : Exit → Act → World → Prop} {H : List Nat} {dst : Nat → Tmp} {a : Act} {W : World} {i : Nat} {o : Oper} {n : FuncId} {t : Tmp} {ty : TypeId} {v : Value} {l : β} {D : Act → World → Prop}
    (hi : ops[i]? = some o) (hd : o.dst = some (dst i)) (hg : o.guard = none) (hop : o.op = .call { callee := .value (.func n), args := #[.tmp t], argTypes := #[ty] })
    (hf : (P.funcs[n]?).map (fun fn => (fn.name == "runtime.NumGoroutine", fn.body.isNone)) = some (false, false)) (ht : ∀ j ∈ H, dst j ≠ t) (hv : a.tmps.getD t undef = v) (hc : ∀ w, Ext W w → Calls P n #[v] w (RetA w l)) :
    ∃ o, ops[i]? = some o ∧ o.dst = some (dst i) ∧ ∀ a' w, Same dst H a a' → Ext W w → D a' w →
      Region.wanted o (yielded ops a'.tmps) = true ∧ ∀ K : Act → World → Prop, (∀ v L w', Ext w w' → (∃ cs, v = .agg cs.toArray ∧ own L w' cs l) → (∀ b ∈ L, w.heap.size ≤ b ∧ b < w'.heap.size) → K (a'.put (some (dst i)) v) w') → o.wp P a' w K Q := by
  refine ⟨o, hi, hd, fun a' w hs hx _ => ⟨wanted_none hg _, fun K hk => ?_⟩⟩
  refine wp_callN hop (vals := #[v]) ?_ hf ?_
  · simp only [List.map_toArray, List.map_cons, List.map_nil, Act.eval, hs.eval t ht, hv]
  · refine call_retA (w := w) (hc w hx) (Below.refl _ _) fun w' cs L h1 h2 h3 h4 ho hL => ?_
    rw [hd]
    exact hk _ L w' h1 ⟨cs, rfl, ho⟩ fun b hb => ⟨hL b hb, GoD.own_lt ho b hb⟩
def New0 (e : TypeId) (v : Value) (L : List Nat) (w : World) : Prop := L = [] ∧ ∃ g, v = .slice (some ⟨g, 0, none⟩) 0 0 ∧ w.heap[g]? = some (.cells #[] e (0, 0))
theorem New0.keep {e : TypeId} {v : Value} {L : List Nat} {w w' : World} (h : New0 e v L w) (hx : Ext w w') : New0 e v L w' := by
  obtain ⟨h1, g, h2, h3⟩ := h
  exact ⟨h1, g, h2, (hx.block g (block_lt_of_heap h3)).trans h3⟩
theorem wp_new0 {t e : TypeId} {i : TypeInfo} (ho : o.op = .buildSlice t 0 #[]) (ht : P.underlying t = some (.slice e)) (hi : P.info? e = some i) (hz : i.zero.isSome = true)
    (h : K (a.put o.dst (.slice (some ⟨w.heap.size, 0, none⟩) 0 0)) (w.alloc (.cells #[] e))) : o.wp P a w K Q := by
  obtain ⟨z, hz⟩ := Option.isSome_iff_exists.1 hz
  unfold Oper.wp execOp
  simp [ho, Instr.buildSlice, run_underlying ht, sizeOf, typeInfo, hi, hz, Instr.fill, newRow, go_sem]
  exact h
theorem run_new0 {ops : Array Oper} {Q : Exit → Act → World → Prop} {H : List Nat} {dst : Nat → Tmp} {a : Act} {W : World} {i : Nat} {o : Oper} {t e : TypeId} {D : Act → World → Prop}
    (hi : ops[i]? = some o) (hd : o.dst = some (dst i)) (hg : o.guard = none) (hop : o.op = .buildSlice t 0 #[]) (ht : P.underlying t = some (.slice e)) {n : Nat}
    (hinf : (P.info? e).map (fun i => (i.zero.map (·.cells.size), i.size, decide (i.bytes ≤ 1000))) = some (some n, n, true)) :
    ∃ o, ops[i]? = some o ∧ o.dst = some (dst i) ∧ ∀ a' w, Same dst H a a' → Ext W w → D a' w →
      Region.wanted o (yielded ops a'.tmps) = true ∧ ∀ K : Act → World → Prop, (∀ v L w', Ext w w' → New0 e v L w' → (∀ b ∈ L, w.heap.size ≤ b ∧ b < w'.heap.size) → K (a'.put (some (dst i)) v) w') → o.wp P a' w K Q := by
  obtain ⟨inf, z, h1, h2, _⟩ := info_ok hinf
  refine ⟨o, hi, hd, fun a' w hs hx _ => ⟨wanted_none hg _, fun K hk => ?_⟩⟩
  refine wp_new0 hop ht h1 (by rw [h2]; rfl) ?_
  rw [hd]
  exact hk _ [] _ ((Below.refl _ _).alloc (Nat.le_refl _) _) ⟨rfl, _, rfl, heap_alloc_new w _⟩ (by simp)
theorem run_appW {β : Type} [GoD β] {ops : Array Oper} {Q : Exit → Act → World → Prop} {H : List Nat} {dst : Nat → Tmp} {a : Act} {W : World} {i : Nat} (j : Nat) {o : Oper} {s x : Tmp} {t e : TypeId} {y : Value} {l : List β} {D : Act → World → Prop}
    (hpl : Plain β) (hi : ops[i]? = some o) (hd : o.dst = some (dst i)) (hg : o.guard = none) (hop : o.op = .call { callee := .builtin .append, args := #[.tmp s, .tmp x], argTypes := #[t, t] }) (ht : P.underlying t = some (.slice e))
    (hinf : (P.info? e).map (fun i => (i.zero.map (·.cells.size), i.size, decide (i.bytes ≤ 1000))) = some (some (GoD.n β), GoD.n β, true)) (hs : dst j = s) (hx : ∀ k ∈ H, dst k ≠ x) (hv : a.tmps.getD x undef = y) (hr : rd W [y] l) (hl : l.length ≤ 1073741824)
    (hdep : ∀ a' w, D a' w → ∃ v L, a'.tmps.getD (dst j) undef = v ∧ New0 e v L w) :
    ∃ o, ops[i]? = some o ∧ o.dst = some (dst i) ∧ ∀ a' w, Same dst H a a' → Ext W w → D a' w →
      Region.wanted o (yielded ops a'.tmps) = true ∧ ∀ K : Act → World → Prop, (∀ v L w', Ext w w' → own L w' [v] l → (∀ b ∈ L, w.heap.size ≤ b ∧ b < w'.heap.size) → K (a'.put (some (dst i)) v) w') → o.wp P a' w K Q := by
  refine ⟨o, hi, hd, fun a' w hs' hext hD => ⟨wanted_none hg _, fun K hk => ?_⟩⟩
  obtain ⟨v0, L0, hv0, _, g, rfl, hg0⟩ := hdep a' w hD
  obtain ⟨v', w', L, hr', h1, h2, h3⟩ := run_appAll (P := P) w t o.type e hpl ht hinf hg0 (rd_below hr hext) hl
  have e1 : a'.eval (.tmp s) = .slice (some ⟨g, 0, none⟩) 0 0 := by rw [← hs]; exact hv0
  have e2 : a'.eval (.tmp x) = y := (hs'.eval x hx).trans hv
  unfold Oper.wp execOp
  simp only [hop, resolve, invoke, builtin, Sem.run_bind, Sem.run_pure, Result.andThen_ok, List.map_toArray, List.map_cons, List.map_nil, e1, e2, hr']
  show K (a'.put o.dst v') w'
  rw [hd]
  exact hk v' L w' h2 h1 h3
theorem cells_new (w : World) (cs : List Value) (t : TypeId) : ∀ j u, cs[j]? = some u → (w.alloc (.cells cs.toArray t)).cell? ((⟨w.heap.size, 0, none⟩ : Addr).add j) = some u := by
  intro j u hj
  have h : (w.alloc (.cells cs.toArray t)).heap[w.heap.size]? = some (.cells cs.toArray t (0, 0)) := heap_alloc_new w _
  have ha : ((⟨w.heap.size, 0, none⟩ : Addr).add j) = ⟨w.heap.size, j, none⟩ := by
    unfold Addr.add
    by_cases hj0 : j = 0 <;> simp [hj0]
  have hlt : j < cs.length := (List.getElem?_eq_some_iff.1 hj).1
  rw [ha, cells_of_heap h j (by simpa using hlt)]
  rw [List.getElem?_eq_getElem hlt] at hj
  simpa using hj
end
end Go.Proofs.YtdakhddpcfimaaaGreatDoor
namespace Go.Proofs.YtdakhddpcfimaaaGreatDoor
open Go.RowKit
open GoD (rd own)
theorem cloneAttr_c (w : World) (v : Value) (l : List AttrD) (ha : rd w [v] l) (hl : l.length ≤ 1073741824) : Calls Tryz.prog 85 #[v] w (RetS w l) := by
  have HA := Lib.hid ha
  obtain ⟨oa, cap, e, hlc, hm, hel⟩ := ha
  obtain rfl : v = _ := by simpa using e
  clear e
  have q22 : ∀ (w : World) (a : Option Addr) (n c n' c' : Nat), (binOp .eql 51 (.slice a n c) (.slice none n' c')).run Tryz.prog w = .ok (.bool a.isNone) w := fun w a n c n' c' => Lib.run_eql_slice_nil w _ _ a n c n' c' Tryz.underlying51
  cases oa with
  | none =>
    have hnil : l = [] := by
      cases l with
      | nil => rfl
      | cons a l => obtain ⟨b, off, ce, h, _⟩ := hel 0 a rfl; cases h
    clear hel
    subst hnil
    go_enter Tryz.func85, Tryz.ntmps85
    go_wp2
    go_ret
    all_goals exact ⟨_, [], rfl, Below.refl _ _, ⟨by simp, .inl ⟨rfl, rfl, _, rfl⟩⟩, by simp⟩
  | some ad =>
    clear hel
    go_enter Tryz.func85, Tryz.ntmps85
    go_wp2_with (at_builtin; refine wpList_appAll (α := AttrD) _ _ 51 74 (plain_pair plain_str (plain_pair plain_int (plain_pair plain_int plain_str))) w.heap.size (rd_below HA.out (by go_grown)) hl (heap_alloc_new w _) rfl rfl Tryz.underlying51 (by kernel_rfl) rfl rfl ?_; intro v2 w2 L2 ho2 hx2 hL2)
    go_ret
    have hb : Below w.heap.size w w2 := below_via (show Below w.heap.size w _ by go_grown) hx2
    exact ⟨v2, L2, rfl, hb, ho2, fun b hb' => by have := (hL2 b hb').1; simp only [World.size_alloc] at this; omega⟩
theorem cloneAttr_a (l : List AttrD) : ACalls Tryz.prog 85 [argS l] (resS l) := acalls_retS (by unfold FnOk; kernel_rfl) (fun w v h hw => cloneAttr_c w v l h (by have := hw.1; omega)) id
theorem cloneField_c (w : World) (v : Value) (l : List FieldD) (ha : rd w [v] l) (hl : l.length ≤ 1073741824) : Calls Tryz.prog 49 #[v] w (RetS w l) := by
  have HA := Lib.hid ha
  obtain ⟨oa, cap, e, hlc, hm, hel⟩ := ha
  obtain rfl : v = _ := by simpa using e
  clear e
  have q22 : ∀ (w : World) (a : Option Addr) (n c n' c' : Nat), (binOp .eql 27 (.slice a n c) (.slice none n' c')).run Tryz.prog w = .ok (.bool a.isNone) w := fun w a n c n' c' => Lib.run_eql_slice_nil w _ _ a n c n' c' Tryz.underlying27
  cases oa with
  | none =>
    have hnil : l = [] := by
      cases l with
      | nil => rfl
      | cons a l => obtain ⟨b, off, ce, h, _⟩ := hel 0 a rfl; cases h
    clear hel
    subst hnil
    go_enter Tryz.func49, Tryz.ntmps49
    go_wp2
    go_ret
    all_goals exact ⟨_, [], rfl, Below.refl _ _, ⟨by simp, .inl ⟨rfl, rfl, _, rfl⟩⟩, by simp⟩
  | some ad =>
    clear hel
    go_enter Tryz.func49, Tryz.ntmps49
    go_wp2_with (at_builtin; refine wpList_appAll (α := FieldD) _ _ 27 47 (plain_pair plain_str plain_int) w.heap.size (rd_below HA.out (by go_grown)) hl (heap_alloc_new w _) rfl rfl Tryz.underlying27 (by kernel_rfl) rfl rfl ?_; intro v2 w2 L2 ho2 hx2 hL2)
    go_ret
    have hb : Below w.heap.size w w2 := below_via (show Below w.heap.size w _ by go_grown) hx2
    exact ⟨v2, L2, rfl, hb, ho2, fun b hb' => by have := (hL2 b hb').1; simp only [World.size_alloc] at this; omega⟩
theorem cloneField_a (l : List FieldD) : ACalls Tryz.prog 49 [argS l] (resS l) := acalls_retS (by unfold FnOk; kernel_rfl) (fun w v h hw => cloneField_c w v l h (by have := hw.1; omega)) id
open GoE (enc wide)
def tt : List (Nat × TI) := [(3, ⟨.int .i64, 1, [.i 0], []⟩),
  (4, ⟨.bool, 1, [.b false], []⟩),
  (5, ⟨.int .u8, 1, [.int .u8 0], []⟩),
  (9, ⟨.str, 1, [.s ⟨#[]⟩], []⟩),
  (25, ⟨.struct [(0, 1, false), (1, 1, false), (2, 1, false)], 3, [.e 2, .e 5, .i 0], []⟩),
  (27, ⟨.sli 47, 1, [.e 2], []⟩),
  (28, ⟨.sli 53, 1, [.e 5], []⟩),
  (30, ⟨.struct [(0, 1, false), (1, 1, false), (2, 1, false)], 3, [.e 2, .e 5, .i 0], []⟩),
  (31, ⟨.sli 3, 1, [.e 1], []⟩),
  (47, ⟨.struct [(0, 1, false), (1, 1, false)], 2, [.s ⟨#[]⟩, .i 0], []⟩),
  (49, ⟨.struct [(0, 1, false), (1, 1, false), (2, 1, false)], 3, [.i 0, .i 0, .s ⟨#[]⟩], [.int, .int, .str]⟩),
  (51, ⟨.sli 74, 1, [.e 4], []⟩),
  (53, ⟨.struct [(0, 1, false), (1, 1, false), (2, 1, false), (3, 1, false), (4, 1, false)], 5, [.i 0, .i 0, .b false, .i 0, .e 4], []⟩),
  (74, ⟨.struct [(0, 1, false), (1, 3, true)], 4, [.s ⟨#[]⟩, .i 0, .i 0, .s ⟨#[]⟩], []⟩)]
theorem tt_ok : ttOk Tryz.prog tt = true := by kernel_rfl
theorem tt_mx : Tryz.prog.follows .mixedOrders = true := by kernel_rfl
def implwithin (n : Int) (low : Int) (high_ : Int) : Bool := (decide (low ≤ n) && decide (n ≤ high_))
theorem implwithin_a (n : Int) (low : Int) (high_ : Int) : ACalls Tryz.prog 53 [.i n, .i low, .i high_] (.b (implwithin n low high_)) := by
  refine en tt_ok Tryz.func53 fun w0 F0 hG => ?_
  refine sn tt_ok [0, 1, 2, 6] [] (p0) ?_
  refine awp_seq ?_
  refine mz [(6, .b false)] [] [] [] ?_
  refine jn [(6, .b (decide (low ≤ n) && decide (n ≤ high_)))] [0, 1, 2, 6] [] [] (decide (low ≤ n)) (fun h1 => ?_) (fun h1 => ?_) ?_
  ·
    have h1d := of_decide_eq_true h1
    refine rn tt_ok [6] [] (pt 2 h1 p0) ?_
    exact ⟨rfl, weak_fit (by rw [h1]; first | done | kernel_rfl)⟩
  ·
    have h1d := of_decide_eq_false h1
    refine rn tt_ok [6] [] (pf 2 h1 p0) ?_
    exact ⟨rfl, weak_fit (by rw [h1]; first | done | kernel_rfl)⟩
  refine awp_ret ?_
  exact pb [] (show implwithin n low high_ = (decide (low ≤ n) && decide (n ≤ high_)) from rfl)
def implIsValidString_f0 (s_ : ByteArray) (k0 : Nat) (_ : Unit) : Rd (Bool) (Unit) (Unit) := (bif (decide (strAt s_ ((k0 : Nat) : Int) < (97 : Int)) || decide (strAt s_ ((k0 : Nat) : Int) > (122 : Int))) then (.ret false) else (.next ()))
def implIsValidString_e0 (_ : Nat) (_ : Unit) : Unit := ()
def implIsValidString (s_ : ByteArray) : Bool := (Out.on (forN (implIsValidString_f0 s_) implIsValidString_e0 (Int.toNat (ByteArray.size s_ : Int)) 0 ()) (fun _ => (implwithin (ByteArray.size s_ : Int) 1 6)))
theorem implIsValidString_a (s_ : ByteArray) : ACalls Tryz.prog 82 [.s s_] (.b (implIsValidString s_)) := by
  refine en tt_ok Tryz.func82 fun w0 F0 hG => ?_
  refine sn tt_ok [0, 2] [] (p0) ?_
  refine awp_seq ?_
  refine tn tt_ok [0, 2, 5, 6] [] (p0) ?_
  refine mz [(2, .b false), (5, .i (ByteArray.size s_ : Int)), (6, .i 0)] [] [] [] ?_
  refine stT 0 0 s_ (fun hs1 => ?_)
  refine blN0 (implIsValidString_f0 s_) implIsValidString_e0 (Int.toNat (ByteArray.size s_ : Int)) () (fun k0 _ => [(6, .i ((k0 : Nat) : Int))]) [6] (fun _ => []) [5, 6] (weak_fit (by kernel_rfl)) (fun k0 s0 hk0 hI0 => ?_) (fun k0 s0 hk0 hI0 => ?_) (fun y0 hD0 => ?_)
  ·
    refine sn tt_ok [0, 2, 5, 6, 7] [] (pe 0 (av_bool (decide_eq_true (p := ((k0 : Nat) : Int) < (ByteArray.size s_ : Int)) (by omega))) p0) ?_
    refine awp_seq ?_
    refine ckT ?_
    refine awp_skip ?_
    refine awp_seq ?_
    refine awp_block ?_
    refine tn tt_ok [0, 2, 3, 5, 6] [] (p0) ?_
    refine awp_seq ?_
    refine mz [(3, .i ((k0 : Nat) : Int))] [] [] [] ?_
    refine jn [(18, .b (decide (strAt s_ ((k0 : Nat) : Int) < (97 : Int)) || decide (strAt s_ ((k0 : Nat) : Int) > (122 : Int))))] [3] [] [] (decide (strAt s_ ((k0 : Nat) : Int) < (97 : Int))) (fun h2 => ?_) (fun h2 => ?_) ?_
    ·
      have h2d := of_decide_eq_true h2
      refine rn tt_ok [0, 2, 5, 6, 18] [] (px (ob_idx (i := ((k0 : Nat) : Int)) (n := (ByteArray.size s_)) (by omega)) (pt 3 h2 p0)) ?_
      exact ⟨rfl, weak_fit (by rw [h2]; first | done | kernel_rfl)⟩
    ·
      have h2d := of_decide_eq_false h2
      refine rn tt_ok [0, 2, 5, 6, 18] [] (px (ob_idx (i := ((k0 : Nat) : Int)) (n := (ByteArray.size s_)) (by omega)) (pf 3 h2 (px (ob_idx (i := ((k0 : Nat) : Int)) (n := (ByteArray.size s_)) (by omega)) p0))) ?_
      exact ⟨rfl, weak_fit (by rw [h2]; first | done | kernel_rfl)⟩
    refine ck (decide (strAt s_ ((k0 : Nat) : Int) < (97 : Int)) || decide (strAt s_ ((k0 : Nat) : Int) > (122 : Int))) (fun h3 => ?_) (fun h3 => ?_)
    ·
      refine su tt_ok [] [18] [] [] (p0) ?_
      refine awp_ret ?_
      have hr4 : (forN (implIsValidString_f0 s_) implIsValidString_e0 (Int.toNat (ByteArray.size s_ : Int)) 0 ()) = .ret false := forN_ret hk0 (bif_t h3 (rfl)) hI0
      exact pb [] (on_r hr4)
    ·
      have h3l : (decide (strAt s_ ((k0 : Nat) : Int) < (97 : Int))) = false := or_l h3
      have h3ld := of_decide_eq_false h3l
      have h3r : (decide (strAt s_ ((k0 : Nat) : Int) > (122 : Int))) = false := or_r h3
      have h3rd := of_decide_eq_false h3r
      refine awp_skip ?_
      refine rn tt_ok [0, 2, 5, 6] [] (pe 0 (av_i (wrap_succ k0 (by omega))) p0) ?_
      exact Exists.intro _ (And.intro (weak_fit (by kernel_rfl)) (forN_next hk0 (bif_f h3 (rfl)) hI0))
  ·
    refine sn tt_ok [0, 2, 5, 6, 7] [] (pe 0 (av_bool (decide_eq_false (p := ((k0 : Nat) : Int) < (ByteArray.size s_ : Int)) (by omega))) p0) ?_
    refine awp_seq ?_
    refine ckF ?_
    refine awp_exit ?_
    exact Exists.intro _ (And.intro (weak_fit (by kernel_rfl)) (forN_end hk0 (rfl) hI0))
  ·
    refine sn tt_ok [2] [] (pc 2 (implwithin_a (ByteArray.size s_ : Int) 1 6) p0) ?_
    refine awp_ret ?_
    exact pb [] (on_b hD0 (rfl))
def implIsValidValue (v : ValueD) : Bool := (bif (v.1 == (0 : Int)) then ((v.1 == 0) && ((v.2.1 == 0) && ((v.2.2.toList == (⟨#[]⟩ : ByteArray).toList) && true))) else (bif (v.1 == (1 : Int)) then ((implwithin v.2.1 0 999) && (v.2.2.toList == (⟨#[]⟩ : ByteArray).toList)) else (bif (v.1 == (2 : Int)) then ((implIsValidString v.2.2) && (v.2.1 == (0 : Int))) else false)))
theorem implIsValidValue_a (v : ValueD) : ACalls Tryz.prog 56 [.a [.i v.1, .i v.2.1, .s v.2.2]] (.b (implIsValidValue v)) := by
  refine en tt_ok Tryz.func56 fun w0 F0 hG => ?_
  refine sn tt_ok [1, 2] [1] (p0) ?_
  refine awp_seq ?_
  refine tn tt_ok [1, 2, 4] [1] (p0) ?_
  refine awp_block ?_
  refine tu tt_ok [(1, .p 1 0), (2, .b false), (4, .i v.1), (5, .b (v.1 == (0 : Int)))] [0] [(1, [.i v.1, .i v.2.1, .s v.2.2])] [] (p0) ?_
  refine ck (v.1 == (0 : Int)) (fun h1 => ?_) (fun h1 => ?_)
  ·
    have h1d := eq_of_beq h1
    refine sn tt_ok [2] [] (p0) ?_
    refine awp_ret ?_
    exact pb [] (bif_t h1 (rfl))
  ·
    have h1d := ne_of_beq h1
    refine sn tt_ok [1, 2, 4, 10] [1] (p0) ?_
    refine ck (v.1 == (1 : Int)) (fun h2 => ?_) (fun h2 => ?_)
    ·
      have h2d := eq_of_beq h2
      refine awp_seq ?_
      refine mz [(10, .b (v.1 == (1 : Int)))] [5] [] [] ?_
      refine jn [(2, .b ((implwithin v.2.1 0 999) && (v.2.2.toList == (⟨#[]⟩ : ByteArray).toList)))] [1, 2, 4, 10] [] [1] (implwithin v.2.1 0 999) (fun h3 => ?_) (fun h3 => ?_) ?_
      ·
        refine rn tt_ok [2] [] (pc 2 (cb h3 (implwithin_a v.2.1 0 999)) p0) ?_
        exact ⟨rfl, weak_fit (by rw [h3]; first | done | kernel_rfl)⟩
      ·
        refine rn tt_ok [2] [] (pc 2 (cb h3 (implwithin_a v.2.1 0 999)) p0) ?_
        exact ⟨rfl, weak_fit (by rw [h3]; first | done | kernel_rfl)⟩
      refine awp_ret ?_
      exact pb [] (bif_f h1 (bif_t h2 (rfl)))
    ·
      have h2d := ne_of_beq h2
      refine tn tt_ok [1, 2, 20] [1] (p0) ?_
      refine ck (v.1 == (2 : Int)) (fun h4 => ?_) (fun h4 => ?_)
      ·
        have h4d := eq_of_beq h4
        refine awp_seq ?_
        refine mz [(20, .b (v.1 == (2 : Int)))] [4, 5] [] [] ?_
        refine jn [(2, .b ((implIsValidString v.2.2) && (v.2.1 == (0 : Int))))] [1, 2, 20] [] [1] (implIsValidString v.2.2) (fun h5 => ?_) (fun h5 => ?_) ?_
        ·
          refine rn tt_ok [2] [] (pc 2 (cb h5 (implIsValidString_a v.2.2)) p0) ?_
          exact ⟨rfl, weak_fit (by rw [h5]; first | done | kernel_rfl)⟩
        ·
          refine rn tt_ok [2] [] (pc 2 (cb h5 (implIsValidString_a v.2.2)) p0) ?_
          exact ⟨rfl, weak_fit (by rw [h5]; first | done | kernel_rfl)⟩
        refine awp_ret ?_
        exact pb [] (bif_f h1 (bif_f h2 (bif_t h4 (rfl))))
      ·
        have h4d := ne_of_beq h4
        refine awp_skip ?_
        refine tu tt_ok [] [1, 4, 5] [] [1] (p0) ?_
        refine awp_ret ?_
        exact pb [] (bif_f h1 (bif_f h2 (bif_f h4 (rfl))))
def specl01In (x : Int) (least : Int) (most : Int) : Bool := (decide (x ≥ least) && decide (x ≤ most))
theorem specl01In_a (x : Int) (least : Int) (most : Int) : ACalls Tryz.prog 19 [.i x, .i least, .i most] (.b (specl01In x least most)) := by
  refine en tt_ok Tryz.func19 fun w0 F0 hG => ?_
  refine sn tt_ok [0, 1, 2, 6] [] (p0) ?_
  refine awp_seq ?_
  refine mz [(6, .b false)] [] [] [] ?_
  refine jn [(6, .b (decide (x ≥ least) && decide (x ≤ most)))] [0, 1, 2, 6] [] [] (decide (x ≥ least)) (fun h1 => ?_) (fun h1 => ?_) ?_
  ·
    have h1d := of_decide_eq_true h1
    refine rn tt_ok [6] [] (pt 2 h1 p0) ?_
    exact ⟨rfl, weak_fit (by rw [h1]; first | done | kernel_rfl)⟩
  ·
    have h1d := of_decide_eq_false h1
    refine rn tt_ok [6] [] (pf 2 h1 p0) ?_
    exact ⟨rfl, weak_fit (by rw [h1]; first | done | kernel_rfl)⟩
  refine awp_ret ?_
  exact pb [] (show specl01In x least most = (decide (x ≥ least) && decide (x ≤ most)) from rfl)
def specl02Text_f0 (s_ : ByteArray) (k0 : Nat) (_ : Unit) : Rd (Bool) (Unit) (Unit) := (bif (decide (strAt s_ ((k0 : Nat) : Int) < (97 : Int)) || decide (strAt s_ ((k0 : Nat) : Int) > (122 : Int))) then (.ret false) else (.next ()))
def specl02Text_e0 (_ : Nat) (_ : Unit) : Unit := ()
def specl02Text (s_ : ByteArray) (most : Int) : Bool := (Out.on (forN (specl02Text_f0 s_) specl02Text_e0 (Int.toNat (ByteArray.size s_ : Int)) 0 ()) (fun _ => (specl01In (ByteArray.size s_ : Int) 1 most)))
theorem specl02Text_a (s_ : ByteArray) (most : Int) : ACalls Tryz.prog 90 [.s s_, .i most] (.b (specl02Text s_ most)) := by
  refine en tt_ok Tryz.func90 fun w0 F0 hG => ?_
  refine sn tt_ok [0, 1, 4] [] (p0) ?_
  refine awp_seq ?_
  refine tn tt_ok [0, 1, 4, 5] [] (p0) ?_
  refine mz [(4, .b false), (5, .i 0)] [] [] [] ?_
  refine stT 0 0 s_ (fun hs1 => ?_)
  refine blN0 (specl02Text_f0 s_) specl02Text_e0 (Int.toNat (ByteArray.size s_ : Int)) () (fun k0 _ => [(5, .i ((k0 : Nat) : Int))]) [5] (fun _ => []) [5] (weak_fit (by kernel_rfl)) (fun k0 s0 hk0 hI0 => ?_) (fun k0 s0 hk0 hI0 => ?_) (fun y0 hD0 => ?_)
  ·
    refine awp_seq ?_
    refine sn tt_ok [0, 1, 4, 5, 9] [] (pe 3 (av_bool (decide_eq_true (p := ((k0 : Nat) : Int) < (ByteArray.size s_ : Int)) (by omega))) p0) ?_
    refine ckT ?_
    refine awp_skip ?_
    refine awp_seq ?_
    refine awp_block ?_
    refine awp_seq ?_
    refine mz [(9, .b true)] [] [] [] ?_
    refine jn [(21, .b (decide (strAt s_ ((k0 : Nat) : Int) < (97 : Int)) || decide (strAt s_ ((k0 : Nat) : Int) > (122 : Int))))] [9] [] [] (decide (strAt s_ ((k0 : Nat) : Int) < (97 : Int))) (fun h2 => ?_) (fun h2 => ?_) ?_
    ·
      have h2d := of_decide_eq_true h2
      refine rn tt_ok [0, 1, 4, 5, 21] [] (px (ob_idx (i := ((k0 : Nat) : Int)) (n := (ByteArray.size s_)) (by omega)) (pt 3 h2 p0)) ?_
      exact ⟨rfl, weak_fit (by rw [h2]; first | done | kernel_rfl)⟩
    ·
      have h2d := of_decide_eq_false h2
      refine rn tt_ok [0, 1, 4, 5, 21] [] (px (ob_idx (i := ((k0 : Nat) : Int)) (n := (ByteArray.size s_)) (by omega)) (pf 3 h2 (px (ob_idx (i := ((k0 : Nat) : Int)) (n := (ByteArray.size s_)) (by omega)) p0))) ?_
      exact ⟨rfl, weak_fit (by rw [h2]; first | done | kernel_rfl)⟩
    refine ck (decide (strAt s_ ((k0 : Nat) : Int) < (97 : Int)) || decide (strAt s_ ((k0 : Nat) : Int) > (122 : Int))) (fun h3 => ?_) (fun h3 => ?_)
    ·
      refine su tt_ok [] [21] [] [] (p0) ?_
      refine awp_ret ?_
      have hr4 : (forN (specl02Text_f0 s_) specl02Text_e0 (Int.toNat (ByteArray.size s_ : Int)) 0 ()) = .ret false := forN_ret hk0 (bif_t h3 (rfl)) hI0
      exact pb [] (on_r hr4)
    ·
      have h3l : (decide (strAt s_ ((k0 : Nat) : Int) < (97 : Int))) = false := or_l h3
      have h3ld := of_decide_eq_false h3l
      have h3r : (decide (strAt s_ ((k0 : Nat) : Int) > (122 : Int))) = false := or_r h3
      have h3rd := of_decide_eq_false h3r
      refine awp_skip ?_
      refine rn tt_ok [0, 1, 4, 5] [] (pe 1 (av_i (wrap_succ k0 (by omega))) p0) ?_
      exact Exists.intro _ (And.intro (weak_fit (by kernel_rfl)) (forN_next hk0 (bif_f h3 (rfl)) hI0))
  ·
    refine awp_seq ?_
    refine sn tt_ok [0, 1, 4, 5, 9] [] (pe 3 (av_bool (decide_eq_false (p := ((k0 : Nat) : Int) < (ByteArray.size s_ : Int)) (by omega))) p0) ?_
    refine ckF ?_
    refine awp_exit ?_
    exact Exists.intro _ (And.intro (weak_fit (by kernel_rfl)) (forN_end hk0 (rfl) hI0))
  ·
    refine sn tt_ok [4] [] (pc 3 (specl01In_a (ByteArray.size s_ : Int) 1 most) p0) ?_
    refine awp_ret ?_
    exact pb [] (on_b hD0 (rfl))
def specIsValidString (s_ : ByteArray) : Bool := (specl02Text s_ 6)
theorem specIsValidString_a (s_ : ByteArray) : ACalls Tryz.prog 75 [.s s_] (.b (specIsValidString s_)) := by
  refine en tt_ok Tryz.func75 fun w0 F0 hG => ?_
  refine sn tt_ok [0, 2] [] (p0) ?_
  refine tn tt_ok [2] [] (pc 1 (specl02Text_a s_ 6) p0) ?_
  refine awp_ret ?_
  exact pb [] (show specIsValidString s_ = (specl02Text s_ 6) from rfl)
def specIsValidValue (v : ValueD) : Bool := (bif (v.1 == (0 : Int)) then ((v.1 == 0) && ((v.2.1 == 0) && ((v.2.2.toList == (⟨#[]⟩ : ByteArray).toList) && true))) else (bif (v.1 == (1 : Int)) then ((specl01In v.2.1 0 999) && (v.2.2.toList == (⟨#[]⟩ : ByteArray).toList)) else (bif (v.1 == (2 : Int)) then ((specIsValidString v.2.2) && (v.2.1 == (0 : Int))) else false)))
theorem specIsValidValue_a (v : ValueD) : ACalls Tryz.prog 42 [.a [.i v.1, .i v.2.1, .s v.2.2]] (.b (specIsValidValue v)) := by
  refine en tt_ok Tryz.func42 fun w0 F0 hG => ?_
  refine sn tt_ok [1, 2] [1] (p0) ?_
  refine awp_seq ?_
  refine tn tt_ok [1, 2, 4] [1] (p0) ?_
  refine awp_block ?_
  refine tu tt_ok [(1, .p 1 0), (2, .b false), (4, .i v.1), (5, .b (v.1 == (0 : Int)))] [0] [(1, [.i v.1, .i v.2.1, .s v.2.2])] [] (p0) ?_
  refine ck (v.1 == (0 : Int)) (fun h1 => ?_) (fun h1 => ?_)
  ·
    have h1d := eq_of_beq h1
    refine sn tt_ok [2] [] (p0) ?_
    refine awp_ret ?_
    exact pb [] (bif_t h1 (rfl))
  ·
    have h1d := ne_of_beq h1
    refine sn tt_ok [1, 2, 4, 10] [1] (p0) ?_
    refine ck (v.1 == (1 : Int)) (fun h2 => ?_) (fun h2 => ?_)
    ·
      have h2d := eq_of_beq h2
      refine awp_seq ?_
      refine mz [(10, .b (v.1 == (1 : Int)))] [5] [] [] ?_
      refine jn [(2, .b ((specl01In v.2.1 0 999) && (v.2.2.toList == (⟨#[]⟩ : ByteArray).toList)))] [1, 2, 4, 10] [] [1] (specl01In v.2.1 0 999) (fun h3 => ?_) (fun h3 => ?_) ?_
      ·
        refine rn tt_ok [2] [] (pc 2 (cb h3 (specl01In_a v.2.1 0 999)) p0) ?_
        exact ⟨rfl, weak_fit (by rw [h3]; first | done | kernel_rfl)⟩
      ·
        refine rn tt_ok [2] [] (pc 2 (cb h3 (specl01In_a v.2.1 0 999)) p0) ?_
        exact ⟨rfl, weak_fit (by rw [h3]; first | done | kernel_rfl)⟩
      refine awp_ret ?_
      exact pb [] (bif_f h1 (bif_t h2 (rfl)))
    ·
      have h2d := ne_of_beq h2
      refine tn tt_ok [1, 2, 20] [1] (p0) ?_
      refine ck (v.1 == (2 : Int)) (fun h4 => ?_) (fun h4 => ?_)
      ·
        have h4d := eq_of_beq h4
        refine awp_seq ?_
        refine mz [(20, .b (v.1 == (2 : Int)))] [4, 5] [] [] ?_
        refine jn [(2, .b ((specIsValidString v.2.2) && (v.2.1 == (0 : Int))))] [1, 2, 20] [] [1] (specIsValidString v.2.2) (fun h5 => ?_) (fun h5 => ?_) ?_
        ·
          refine rn tt_ok [2] [] (pc 2 (cb h5 (specIsValidString_a v.2.2)) p0) ?_
          exact ⟨rfl, weak_fit (by rw [h5]; first | done | kernel_rfl)⟩
        ·
          refine rn tt_ok [2] [] (pc 2 (cb h5 (specIsValidString_a v.2.2)) p0) ?_
          exact ⟨rfl, weak_fit (by rw [h5]; first | done | kernel_rfl)⟩
        refine awp_ret ?_
        exact pb [] (bif_f h1 (bif_f h2 (bif_t h4 (rfl))))
      ·
        have h4d := ne_of_beq h4
        refine awp_skip ?_
        refine tu tt_ok [] [1, 4, 5] [] [1] (p0) ?_
        refine awp_ret ?_
        exact pb [] (bif_f h1 (bif_f h2 (bif_f h4 (rfl))))
def specIsValidAttrName (s_ : ByteArray) : Bool := (specl02Text s_ 1)
theorem specIsValidAttrName_a (s_ : ByteArray) : ACalls Tryz.prog 74 [.s s_] (.b (specIsValidAttrName s_)) := by
  refine en tt_ok Tryz.func74 fun w0 F0 hG => ?_
  refine sn tt_ok [0, 2] [] (p0) ?_
  refine tn tt_ok [2] [] (pc 1 (specl02Text_a s_ 1) p0) ?_
  refine awp_ret ?_
  exact pb [] (show specIsValidAttrName s_ = (specl02Text s_ 1) from rfl)
def implIsValidAttrName (s_ : ByteArray) : Bool := (((ByteArray.size s_ : Int) == (1 : Int)) && (decide (strAt s_ 0 ≥ (97 : Int)) && decide (strAt s_ 0 ≤ (122 : Int))))
theorem implIsValidAttrName_a (s_ : ByteArray) : ACalls Tryz.prog 80 [.s s_] (.b (implIsValidAttrName s_)) := by
  refine en tt_ok Tryz.func80 fun w0 F0 hG => ?_
  refine sn tt_ok [0, 2] [] (p0) ?_
  refine awp_seq ?_
  refine mz [(2, .b false)] [] [] [] ?_
  refine jn [(2, .b (((ByteArray.size s_ : Int) == (1 : Int)) && (decide (strAt s_ 0 ≥ (97 : Int)) && decide (strAt s_ 0 ≤ (122 : Int)))))] [0, 2] [] [] ((ByteArray.size s_ : Int) == (1 : Int)) (fun h1 => ?_) (fun h1 => ?_) ?_
  ·
    have h1d := eq_of_beq h1
    refine awp_split (decide (strAt s_ 0 ≥ (97 : Int))) (fun h2 => ?_) (fun h2 => ?_)
    ·
      have h2d := of_decide_eq_true h2
      refine rn tt_ok [2] [] (pt 2 h1 (px (ob_idx (i := 0) (n := (ByteArray.size s_)) (by omega)) (pt 6 h2 (px (ob_idx (i := 0) (n := (ByteArray.size s_)) (by omega)) p0)))) ?_
      exact ⟨rfl, weak_fit (by rw [h1, h2]; first | done | kernel_rfl)⟩
    ·
      have h2d := of_decide_eq_false h2
      refine rn tt_ok [2] [] (pt 2 h1 (px (ob_idx (i := 0) (n := (ByteArray.size s_)) (by omega)) (pf 6 h2 p0))) ?_
      exact ⟨rfl, weak_fit (by rw [h1, h2]; first | done | kernel_rfl)⟩
  ·
    have h1d := ne_of_beq h1
    refine rn tt_ok [2] [] (pf 2 h1 p0) ?_
    exact ⟨rfl, weak_fit (by rw [h1]; first | done | kernel_rfl)⟩
  refine awp_ret ?_
  exact pb [] (show implIsValidAttrName s_ = (((ByteArray.size s_ : Int) == (1 : Int)) && (decide (strAt s_ 0 ≥ (97 : Int)) && decide (strAt s_ 0 ≤ (122 : Int)))) from rfl)
theorem within_in (a b c : Int) : implwithin a b c = specl01In a b c := rfl
theorem within_iff {a b c : Int} : implwithin a b c = true ↔ b ≤ a ∧ a ≤ c := by simp [implwithin]
theorem l01In_iff {a b c : Int} : specl01In a b c = true ↔ b ≤ a ∧ a ≤ c := by simp [specl01In]
theorem vstr_eq (s : ByteArray) : implIsValidString s = specIsValidString s := rfl
theorem vname_eq (s : ByteArray) : implIsValidAttrName s = specIsValidAttrName s := by
  unfold implIsValidAttrName specIsValidAttrName specl02Text
  by_cases h : s.size = 1
  · simp only [h, Int.toNat_natCast, forN, specl02Text_f0]
    by_cases h1 : strAt s 0 < 97 <;> by_cases h2 : strAt s 0 > 122 <;> simp [h1, h2, Out.on, specl01In, specl02Text_e0] <;> omega
  · have h1 : ((s.size : Int) == 1) = false := by simpa using fun e : (s.size : Int) = 1 => h (by omega)
    have h2 : specl01In (s.size : Int) 1 1 = false := by simp [specl01In]; omega
    rw [h1, h2, Bool.false_and]
    cases hf : forN (specl02Text_f0 s) specl02Text_e0 (Int.toNat (s.size : Int)) 0 () with
    | brk t => rfl
    | ret r =>
      have key : ∀ n k, ∀ r, forN (specl02Text_f0 s) specl02Text_e0 n k () = .ret r → r = false := by
        intro n
        induction n with
        | zero => intro k r h; simp [forN] at h
        | succ n ih =>
          intro k r h
          simp only [forN, specl02Text_f0] at h
          cases hc : (decide (strAt s ((k : Nat) : Int) < (97 : Int)) || decide (strAt s ((k : Nat) : Int) > (122 : Int))) with
          | true => rw [hc] at h; simp only [cond_true] at h; cases h; rfl
          | false => rw [hc] at h; exact ih _ _ h
      exact (key _ _ _ hf).symm
theorem vval_eq (v : ValueD) : implIsValidValue v = specIsValidValue v := rfl
section
end
open GoE (enc wide)
theorem nth_set_ne {α : Type} [Inhabited α] {l : List α} {i j : Nat} (x : α) (h : j ≠ i) : nth (l.set j x) i = nth l i := by
  simp [nth, List.getD, List.getElem?_set_ne h]
end Go.Proofs.YtdakhddpcfimaaaGreatDoor
namespace Go.Proofs.YtdakhddpcfimaaaGreatDoor
open Go.RowKit Go.Sort
open GoE (enc)
structure OneC (α σ : Type) [GoE α] where
  to : α → σ
  of : σ → α
  cell : σ → Value
  pv : α → PV
  ok : α → Prop
  of_to : ∀ a, of (to a) = a
  to_of : ∀ s, to (of s) = s
  enc_eq : ∀ a, enc a = [pv a]
  flat : ∀ a, (pv a).flat
  vv : ∀ (X : Nat → Prop) (w : World) v a, VV X w v (pv a) ↔ v = cell (to a) ∧ ok a
def oneI : OneC Int Int where
  to := id
  of := id
  cell := .int .i64
  pv := .int .i64
  ok := InR .i64
  of_to _ := rfl
  to_of _ := rfl
  enc_eq _ := rfl
  flat _ := trivial
  vv X w v a := ⟨fun h => by cases h with | int h => exact ⟨rfl, h⟩, fun ⟨h1, h2⟩ => by subst h1; exact .int h2⟩
def oneS : OneC ByteArray (List UInt8) where
  to b := b.data.toList
  of s := ⟨s.toArray⟩
  cell := encStr
  pv := .str
  ok b := b.size ≤ maxLen
  of_to b := by cases b; simp
  to_of s := by simp
  enc_eq _ := rfl
  flat _ := trivial
  vv X w v a := by
    have e : encStr a.data.toList = .string a := by cases a; simp [encStr]
    rw [e]
    exact ⟨fun h => by cases h with | str h => exact ⟨rfl, h⟩, fun ⟨h1, h2⟩ => by subst h1; exact .str h2⟩
section
variable {α σ : Type} [GoE α] (C : OneC α σ)
theorem one_vr {X : Nat → Prop} {w : World} : ∀ {l : List α} {cs : List Value}, VR X w 1 cs (eL l) → cs = (l.map C.to).map C.cell ∧ ∀ a, a ∈ l → C.ok a
  | [], cs, h => by
    generalize hr : eL ([] : List α) = r at h
    cases h with
    | nil => exact ⟨rfl, fun a ha => by simp at ha⟩
    | cons => cases hr
  | a :: l, cs, h => by
    generalize hr : eL (a :: l) = r at h
    cases h with
    | nil => cases hr
    | cons h1 h2 h3 =>
      rw [eL_cons, C.enc_eq] at hr
      obtain ⟨rfl, rfl⟩ : [C.pv a] = _ ∧ eL l = _ := by simpa using hr
      obtain ⟨e, hok⟩ := one_vr h3
      cases h1 with
      | cons h4 h5 =>
        cases h5
        obtain ⟨rfl, ha⟩ := (C.vv X w _ a).1 h4
        exact ⟨by rw [e]; rfl, fun b hb => (List.mem_cons.1 hb).elim (fun e => e ▸ ha) (hok b)⟩
theorem vr_one {X : Nat → Prop} {w : World} : ∀ {l : List α}, (∀ a, a ∈ l → C.ok a) → VR X w 1 ((l.map C.to).map C.cell) (eL l)
  | [], _ => .nil 1
  | a :: l, h => by
    rw [eL_cons, C.enc_eq]
    exact VR.cons (ce := [C.cell (C.to a)]) (.cons ((C.vv X w _ a).2 ⟨rfl, h a List.mem_cons_self⟩) .nil) rfl (vr_one fun b hb => h b (List.mem_cons_of_mem _ hb))
theorem eL_flat (l : List α) : (eL l).flatten = l.map C.pv := by
  induction l with
  | nil => rfl
  | cons a l ih => rw [eL_cons, C.enc_eq, List.flatten_cons, ih]; rfl
theorem eL_pv (l : List α) : eL l = (l.map C.pv).map fun c => [c] := by
  simp [eL, C.enc_eq, Function.comp_def]
theorem put_list (e : σ → Value) [Inhabited σ] (d : Array σ) (cur : Array Value) (h : d.size ≤ cur.size) : (Go.Sort.putCells e 0 d cur).toList = d.toList.map e ++ cur.toList.drop d.size := by
  apply List.ext_getElem?
  intro j
  unfold Go.Sort.putCells
  rw [Array.getElem?_toList, Array.getElem?_mapIdx]
  by_cases hj : j < d.size
  · rw [List.getElem?_append_left (by simpa using hj), Array.getElem?_eq_getElem (by omega : j < cur.size), List.getElem?_map, Array.getElem?_toList, Array.getElem?_eq_getElem hj]
    simp only [Option.map_some]
    rw [if_pos ⟨Nat.zero_le _, by omega⟩, Nat.sub_zero, getElem!_pos d j hj]
  · rw [List.getElem?_append_right (by simpa using Nat.le_of_not_lt hj), List.getElem?_drop]
    have e1 : d.size + (j - (d.toList.map e).length) = j := by simp; omega
    rw [e1, Array.getElem?_toList]
    cases cur[j]? with
    | none => rfl
    | some x => simp; omega
theorem putRow_heap {e : σ → Value} [Inhabited σ] {w : World} {g : Nat} {cur : Array Value} {ty : TypeId} (hg : w.heap[g]? = some (.cells cur ty (0, 0))) (q : Nat) (d : Array σ) (os : Array Obj) :
    (grow (putRow e (Sort.ahead w q) g 0 d) os).heap[g]? = some (.cells (Go.Sort.putCells e 0 d cur) ty (0, 0)) := by
  have hlt : g < w.heap.size := block_lt_of_heap hg
  unfold grow putRow mapBlock Sort.ahead
  simp only [Array.getElem?_append, Array.size_modify]
  rw [if_pos hlt, Array.getElem?_modify, if_pos rfl, hg]
  rfl
theorem putRow_other {e : σ → Value} [Inhabited σ] (w : World) (g q : Nat) (d : Array σ) (os : Array Obj) : (∀ b, b < w.heap.size → b ≠ g → (grow (putRow e (Sort.ahead w q) g 0 d) os).heap[b]? = w.heap[b]?) ∧ ∀ m, m ≤ g → m ≤ w.heap.size → Below m w (grow (putRow e (Sort.ahead w q) g 0 d) os) := by
  have h : ∀ b, b < w.heap.size → b ≠ g → (grow (putRow e (Sort.ahead w q) g 0 d) os).heap[b]? = w.heap[b]? := fun b hb hn => by
    unfold grow putRow mapBlock Sort.ahead
    simp only [Array.getElem?_append, Array.size_modify]
    rw [if_pos hb, Array.getElem?_modify, if_neg (fun e => hn e.symm)]
  refine ⟨h, fun m hm hs => ⟨rfl, rfl, rfl, ?_, fun b hb => h b (by omega) (by omega)⟩⟩
  unfold grow putRow mapBlock Sort.ahead
  simp
theorem holds_of {e : σ → Value} [Inhabited σ] {g : Nat} {w : World} {cur : Array Value} {ty : TypeId} {l : List σ} (hg : w.heap[g]? = some (.cells cur ty (0, 0))) (ht : cur.toList.take l.length = l.map e) : Holds e w g 0 l.toArray := by
  intro j hj
  have hjl : j < l.length := by simpa using hj
  have hc : cur[j]? = some (e l[j]) := by
    have h5 : (cur.toList.take l.length)[j]? = (l.map e)[j]? := by rw [ht]
    rw [List.getElem?_take, if_pos hjl, List.getElem?_map, List.getElem?_eq_getElem hjl, Array.getElem?_toList] at h5
    exact h5
  refine ⟨?_, ?_⟩
  · rw [Nat.zero_add]
    simp [World.cell?, hg, hc, getElem!_pos, hjl]
  · simp [World.frozen?, hg]
variable {P : Program} [Inhabited σ]
theorem tret_none (F : Nat → Prop) (L : List Nat) (w : World) (oa : Option Addr) : TRet F L w 1 true [] (.returned (.tuple #[])) w :=
  ⟨_, rfl, fun m _ _ => Below.refl _ _, fun _ _ _ => rfl, rfl, fun v2 l2 h => by simpa [setAll] using h⟩
theorem atake_turn {f : Nat} (hok : FnOk P f) (srt : List σ → List σ) (hlen : ∀ l, (srt l).length = l.length) (hmem : ∀ l x, x ∈ srt l → x ∈ l)
    (h0 : ∀ oa cap w, Calls P f #[.slice oa 0 cap] w fun e w' => e = .returned (.tuple #[]) ∧ w' = w)
    (h1 : ∀ g cap (l : List σ) w, Holds C.cell w g 0 l.toArray → g < w.heap.size → l.length < 4611686018427387904 → Calls P f #[.slice (some ⟨g, 0, none⟩) l.length cap] w fun e w' => e = .returned (.tuple #[]) ∧ ∃ n os, w' = grow (putRow C.cell (Sort.ahead w n) g 0 (srt l).toArray) os)
    (l : List α) : ATake P f 1 (eL l) [] false true (eL ((srt (l.map C.to)).map C.of)) := by
  refine ⟨hok, fun w F G L v vals _ hFG _ hGs _ hLG hrow hargs => ?_⟩
  cases hargs
  rcases hrow with ⟨hl, oa, rfl⟩ | ⟨g, cap, cur, ty, rfl, rfl, hg, hs, hr, h5, h6⟩
  · obtain rfl : l = [] := by simpa [eL] using hl
    have hs0 : srt [] = [] := List.eq_nil_of_length_eq_zero (by rw [hlen]; rfl)
    refine (h0 oa 0 w).mono ?_
    rintro e w' ⟨rfl, rfl⟩
    rw [List.map_nil, hs0]
    exact tret_none F L w' oa
  · have hll : (eL l).length = l.length := by simp [eL]
    rw [hll] at hr h5 h6 ⊢
    rw [Nat.mul_one] at hr hs
    obtain ⟨hcs, hok'⟩ := one_vr C hr
    have hH : Holds C.cell w g 0 (l.map C.to).toArray := holds_of hg (by rw [List.length_map]; exact hcs)
    have hc := h1 g cap (l.map C.to) w hH (block_lt_of_heap hg) (by rw [List.length_map]; have := h6.2; omega)
    rw [List.length_map] at hc
    refine hc.mono ?_
    rintro e w' ⟨rfl, n, os, rfl⟩
    have hother := putRow_other (e := C.cell) w g n (srt (l.map C.to)).toArray os
    have hgl := block_lt_of_heap hg
    refine ⟨_, rfl, fun m hm hL => hother.2 m (hL g (by simp)) hm, fun b hb hn => hother.1 b hb (by simpa using hn), rfl, fun v2 l2 h2 => ?_⟩
    rcases h2 with ⟨rfl, oa, rfl⟩ | ⟨g2, cap2, cur2, ty2, hL2, rfl, hg2, hs2, hr2, h7, h8⟩
    · exact .inl ⟨by simp [setAll], oa, rfl⟩
    · obtain rfl : g = g2 := by simpa using hL2
      rw [hg] at hg2
      cases hg2
      rw [eL_flat C, setAll]
      have hd : (srt (l.map C.to)).toArray.size ≤ cur.size := by simp only [List.size_toArray, hlen, List.length_map]; omega
      have hlen2 : (List.map (fun c => [c]) (List.take l2.length (List.map C.pv (List.map C.of (srt (l.map C.to))))) ++ List.drop (List.map C.pv (List.map C.of (srt (l.map C.to)))).length l2).length = l2.length := by
        simp only [List.length_append, List.length_map, List.length_take, List.length_drop]
        omega
      refine .inr ⟨g, cap2, _, ty, rfl, by rw [hlen2], putRow_heap hg n _ os, ?_, ?_, by rw [hlen2]; exact h7, by rw [hlen2]; exact h8⟩
      · simp [Go.Sort.putCells, hs2]
      · rw [hlen2, Nat.mul_one, put_list C.cell _ cur hd, List.take_append]
        rw [Nat.mul_one] at hr2
        refine VR.append ?_ ?_
        · have hk : VR F (grow (putRow C.cell (Sort.ahead w n) g 0 (srt (l.map C.to)).toArray) os) 1 (cur.toList.take l2.length) l2 := by
            refine hr2.keep fun b hb => ⟨hb, hother.1 b (hGs b (hFG b hb)) fun e => (hLG g (by simp)).2 (hFG g (e ▸ hb))⟩
          have := VR.drop (srt (l.map C.to)).length hk
          rw [Nat.mul_one, List.drop_take] at this
          simpa using this
        · have hm : ∀ a, a ∈ (srt (l.map C.to)).map C.of → C.ok a := fun a ha => by
            obtain ⟨x, hx, rfl⟩ := List.mem_map.1 ha
            obtain ⟨b, hb, rfl⟩ := List.mem_map.1 (hmem _ _ hx)
            rw [C.of_to]; exact hok' b hb
          have := VR.take l2.length (vr_one C (X := F) (w := grow (putRow C.cell (Sort.ahead w n) g 0 (srt (l.map C.to)).toArray) os) hm)
          rw [Nat.mul_one, eL_pv C] at this
          simpa [List.map_take, Function.comp_def, C.to_of] using this
theorem atake_take {f : Nat} (hok : FnOk P f) (cmp : List σ → List σ) (hlen : ∀ l, (cmp l).length ≤ l.length) (hmem : ∀ l x, x ∈ cmp l → x ∈ l)
    (h0 : ∀ oa cap w, Calls P f #[.slice oa 0 cap] w fun e w' => e = .returned (.slice oa 0 cap) ∧ w' = w)
    (h1 : ∀ g cap (l : List σ) w, Holds C.cell w g 0 l.toArray → l.length ≤ 9223372036854775807 → l.length ≤ cap → Calls P f #[.slice (some ⟨g, 0, none⟩) l.length cap] w fun e w' => e = .returned (.slice (some ⟨g, 0, none⟩) (cmp l).length cap) ∧ ∃ q pad, (cmp l ++ pad).length = l.length ∧ w' = putRow C.cell (Sort.ahead w q) g 0 (cmp l ++ pad).toArray)
    (l : List α) : ATake P f 1 (eL l) [] false false (eL ((cmp (l.map C.to)).map C.of)) := by
  refine ⟨hok, fun w F G L v vals _ hFG _ hGs _ hLG hrow hargs => ?_⟩
  cases hargs
  rcases hrow with ⟨hl, oa, rfl⟩ | ⟨g, cap, cur, ty, rfl, rfl, hg, hs, hr, h5, h6⟩
  · obtain rfl : l = [] := by simpa [eL] using hl
    have hs0 : cmp [] = [] := List.eq_nil_of_length_eq_zero (by have := hlen []; simpa using this)
    refine (h0 oa 0 w).mono ?_
    rintro e w' ⟨rfl, rfl⟩
    rw [List.map_nil, hs0]
    exact ⟨_, rfl, fun m _ _ => Below.refl _ _, fun _ _ _ => rfl, [], List.nodup_nil, fun b hb => (by simp at hb), .inl ⟨rfl, oa, rfl⟩⟩
  · have hll : (eL l).length = l.length := by simp [eL]
    rw [hll] at hr h5 h6 ⊢
    rw [Nat.mul_one] at hr hs
    obtain ⟨hcs, hok'⟩ := one_vr C hr
    have hH : Holds C.cell w g 0 (l.map C.to).toArray := holds_of hg (by rw [List.length_map]; exact hcs)
    have hc := h1 g cap (l.map C.to) w hH (by rw [List.length_map]; have := h6.2; omega) (by rw [List.length_map]; exact h5)
    rw [List.length_map] at hc
    refine hc.mono ?_
    rintro e w' ⟨rfl, q, pad, hpad, rfl⟩
    have hw : putRow C.cell (Sort.ahead w q) g 0 (cmp (l.map C.to) ++ pad).toArray = grow (putRow C.cell (Sort.ahead w q) g 0 (cmp (l.map C.to) ++ pad).toArray) #[] := (grow_empty _).symm
    rw [hw]
    have hother := putRow_other (e := C.cell) w g q (cmp (l.map C.to) ++ pad).toArray #[]
    have hgl := block_lt_of_heap hg
    have hd : (cmp (l.map C.to) ++ pad).toArray.size ≤ cur.size := by rw [List.size_toArray, hpad]; omega
    have hle := hlen (l.map C.to)
    rw [List.length_map] at hle
    have hel : (eL ((cmp (l.map C.to)).map C.of)).length = (cmp (l.map C.to)).length := by simp [eL]
    have hsz : g < (grow (putRow C.cell (Sort.ahead w q) g 0 (cmp (l.map C.to) ++ pad).toArray) #[]).heap.size := block_lt_of_heap (putRow_heap hg q _ #[])
    refine ⟨_, rfl, fun m hm hL => hother.2 m (hL g (by simp)) hm, fun b hb hn => hother.1 b hb (by simpa using hn), [g], by simp, fun b hb => ?_, .inr ⟨g, cap, _, ty, rfl, by rw [hel], putRow_heap hg q _ #[], ?_, ?_, by rw [hel]; omega, h6.1, by rw [hel]; have := h6.2; omega⟩⟩
    · obtain rfl := List.mem_singleton.1 hb
      exact ⟨hsz, .inr (by simp)⟩
    · simp [Go.Sort.putCells, hs]
    · rw [hel, Nat.mul_one, put_list C.cell _ cur hd]
      have hm : ∀ a, a ∈ (cmp (l.map C.to)).map C.of → C.ok a := fun a ha => by
        obtain ⟨x, hx, rfl⟩ := List.mem_map.1 ha
        obtain ⟨b, hb, rfl⟩ := List.mem_map.1 (hmem _ _ hx)
        rw [C.of_to]; exact hok' b hb
      have := vr_one C (X := F) (w := grow (putRow C.cell (Sort.ahead w q) g 0 (cmp (l.map C.to) ++ pad).toArray) #[]) hm
      have e1 : ((cmp (l.map C.to)).map C.of).map C.to = cmp (l.map C.to) := by simp [Function.comp_def, C.to_of]
      rw [e1] at this
      rw [List.map_append, List.append_assoc, List.take_left' (by simp)]
      exact VR.keep (fun b hb => ⟨.inl hb, rfl⟩) this
end
/-! ### the rows that Sort and Compact give, typed -/
def sortI (l : List Int) : List Int := l.mergeSort fun x y => decide (x ≤ y)
def sortS (l : List ByteArray) : List ByteArray := ((l.map oneS.to).mergeSort fun x y => decide (x ≤ y)).map oneS.of
def compI (l : List Int) : List Int := Lib.compact l
def compS (l : List ByteArray) : List ByteArray := (Lib.compact (l.map oneS.to)).map oneS.of
theorem comp_mem {σ : Type} [Inhabited σ] [DecidableEq σ] (l : List σ) (x : σ) (h : x ∈ Lib.compact l) : x ∈ l := by
  unfold Lib.compact Lib.compactUpTo at h
  simp only [List.mem_map, List.mem_filter, List.mem_range] at h
  obtain ⟨j, ⟨hj, _⟩, e⟩ := h
  have e1 : l.toArray[j]! = l[j] := by rw [getElem!_pos l.toArray j (by simpa using hj)]; simp
  rw [e1] at e
  exact e ▸ List.getElem_mem hj
theorem comp_len {σ : Type} [Inhabited σ] [DecidableEq σ] (l : List σ) : (Lib.compact l).length ≤ l.length := by
  unfold Lib.compact Lib.compactUpTo
  rw [List.length_map]
  exact Nat.le_trans (List.length_filter_le _ _) (by rw [List.length_range]; exact Nat.le_refl _)
theorem sortI_len (l : List Int) : (sortI l).length = l.length := List.length_mergeSort _
theorem sortS_len (l : List ByteArray) : (sortS l).length = l.length := by simp [sortS, List.length_mergeSort]
theorem compI_len (l : List Int) : (compI l).length ≤ l.length := comp_len l
theorem compS_len (l : List ByteArray) : (compS l).length ≤ l.length := by
  have := comp_len (l.map oneS.to)
  rw [List.length_map] at this
  simpa [compS] using this
theorem putR_all {α : Type} [GoE α] {l k : List α} (h1 : ∀ a : α, (enc a).length = 1) (h : k.length = l.length) : putR (eL l) 0 4294967296 (eL k).flatten = eL k := by
  have hk : ∀ k : List α, ((eL k).flatten.map fun c => [c]) = eL k := fun k => by
    induction k with
    | nil => rfl
    | cons a k ih =>
      rw [eL_cons, List.flatten_cons, List.map_append, ih]
      have := h1 a
      match enc a, this with
      | [p], _ => rfl
  have hf : (eL k).flatten.length = k.length := by
    have := congrArg List.length (hk k)
    rw [List.length_map] at this
    rw [this]
    simp [eL]
  show setAll (eL l) (eL k).flatten = eL k
  unfold setAll
  have e1 : (eL l).length = l.length := by simp [eL]
  rw [e1, List.take_of_length_le (by omega), hk, List.drop_of_length_le (by omega), List.append_nil]
end Go.Proofs.YtdakhddpcfimaaaGreatDoor
namespace Go.Proofs.YtdakhddpcfimaaaGreatDoor
open Go.RowKit
section
variable {σ : Type} (lt : σ → σ → Prop)
theorem ascs_ext (irr : ∀ a, ¬ lt a a) (tr : ∀ a b c, lt a b → lt b c → lt a c) : ∀ (a b : List σ), a.Pairwise lt → b.Pairwise lt → (∀ x, x ∈ a ↔ x ∈ b) → a = b
  | [], [], _, _, _ => rfl
  | [], y :: b, _, _, h => by have := (h y).2 (by simp); simp at this
  | x :: a, [], _, _, h => by have := (h x).1 (by simp); simp at this
  | x :: a, y :: b, ha, hb, h => by
    rw [List.pairwise_cons] at ha hb
    have h1 : x = y := by
      have hx := (h x).1 (by simp)
      have hy := (h y).2 (by simp)
      simp only [List.mem_cons] at hx hy
      rcases hx with e | hx
      · exact e
      · rcases hy with e | hy
        · exact e.symm
        · exact (irr x (tr _ _ _ (ha.1 y hy) (hb.1 x hx))).elim
    subst h1
    congr 1
    refine ascs_ext irr tr a b ha.2 hb.2 fun z => ?_
    have hz := h z
    simp only [List.mem_cons] at hz
    constructor
    · intro hm
      have hlt := ha.1 z hm
      rcases hz.1 (.inr hm) with e | e
      · subst e; exact (irr z hlt).elim
      · exact e
    · intro hm
      have hlt := hb.1 z hm
      rcases hz.2 (.inr hm) with e | e
      · subst e; exact (irr z hlt).elim
      · exact e
theorem comp_asc [Inhabited σ] [DecidableEq σ] (d : Array σ) (tr : ∀ a b c, ¬ lt b a → lt b c → lt a c) (tri : ∀ a b, ¬ lt b a → a ≠ b → lt a b) (hs : ∀ i j, i ≤ j → j < d.size → ¬ lt d[j]! d[i]!) :
    ∀ m, m ≤ d.size → (Lib.compactUpTo d m).Pairwise lt ∧ ∀ x, x ∈ Lib.compactUpTo d m ↔ ∃ j, j < m ∧ d[j]! = x
  | 0, _ => by simp [Lib.compactUpTo]
  | m + 1, hm => by
    obtain ⟨h1, h2⟩ := comp_asc d tr tri hs m (by omega)
    rw [Lib.compactUpTo_succ]
    by_cases hk : Lib.keeps d m = true
    · rw [if_pos hk]
      refine ⟨?_, fun x => ?_⟩
      · rw [List.pairwise_append]
        refine ⟨h1, by simp, fun a ha b hb => ?_⟩
        obtain ⟨j, hj, rfl⟩ := (h2 a).1 ha
        obtain rfl : b = d[m]! := by simpa using hb
        have hle := hs j (m - 1) (by omega) (by omega)
        have hle2 := hs (m - 1) m (by omega) (by omega)
        have hne : d[m]! ≠ d[m - 1]! := by
          unfold Lib.keeps at hk
          simp only [Bool.or_eq_true, beq_iff_eq, bne_iff_ne, decide_eq_true_eq] at hk
          rcases hk with h | h
          · omega
          · exact h
        exact tr _ _ _ hle (tri _ _ hle2 fun e => hne e.symm)
      · rw [List.mem_append, h2 x]
        constructor
        · rintro (⟨j, hj, e⟩ | h)
          · exact ⟨j, by omega, e⟩
          · exact ⟨m, by omega, by simpa using (by simpa using h : x = d[m]!).symm⟩
        · rintro ⟨j, hj, e⟩
          by_cases hjm : j = m
          · subst hjm; exact .inr (by simp [e])
          · exact .inl ⟨j, by omega, e⟩
    · rw [if_neg hk, List.append_nil]
      refine ⟨h1, fun x => ?_⟩
      rw [h2 x]
      have hm0 : m ≠ 0 ∧ d[m]! = d[m - 1]! := by
        unfold Lib.keeps at hk
        simp only [Bool.or_eq_true, beq_iff_eq, bne_iff_ne, decide_eq_true_eq, not_or, Decidable.not_not] at hk
        exact hk
      constructor
      · rintro ⟨j, hj, e⟩; exact ⟨j, by omega, e⟩
      · rintro ⟨j, hj, e⟩
        by_cases hjm : j = m
        · subst hjm; exact ⟨j - 1, by omega, hm0.2 ▸ e⟩
        · exact ⟨j, by omega, e⟩
end
/-! ### texts -/
def bl (a b : ByteArray) : Bool := Op.bytesLess a.toList b.toList
theorem lt8_trans {a b c : List UInt8} (h : a < b) (h' : b < c) : a < c := List.lt_trans h h'
theorem lt8_irr (a : List UInt8) : ¬ a < a := List.lt_irrefl a
theorem lt8_tri {a b : List UInt8} (h : ¬ b < a) (hn : a ≠ b) : a < b := Classical.byContradiction fun h' => hn (List.le_antisymm h h')
theorem bl_iff (a b : ByteArray) : bl a b = true ↔ a.data.toList < b.data.toList := by
  unfold bl
  rw [bytesLess_eq, ByteArray.toList_eq, ByteArray.toList_eq, decide_eq_true_iff]
theorem bl_irr (a : ByteArray) : bl a a = false := by
  cases h : bl a a with
  | false => rfl
  | true => exact (lt8_irr _ ((bl_iff a a).1 h)).elim
theorem bl_trans {a b c : ByteArray} (h : bl a b = true) (h' : bl b c = true) : bl a c = true := (bl_iff _ _).2 (lt8_trans ((bl_iff _ _).1 h) ((bl_iff _ _).1 h'))
theorem bl_tri {a b : ByteArray} (h : bl b a = false) (hn : a ≠ b) : bl a b = true := (bl_iff _ _).2 (lt8_tri (fun hb => by rw [(bl_iff _ _).2 hb] at h; cases h) fun e => hn (by cases a; cases b; simp at e; rw [e]))
def putS : List ByteArray → ByteArray → List ByteArray
  | [], s => [s]
  | x :: l, s => if bl x s then x :: putS l s else if x = s then x :: l else s :: x :: l
def ascS (l : List ByteArray) : Prop := l.Pairwise fun a b => bl a b = true
theorem mem_putS (s x : ByteArray) : ∀ l, x ∈ putS l s ↔ x = s ∨ x ∈ l
  | [] => by simp [putS]
  | y :: l => by
    simp only [putS]
    split
    · rw [List.mem_cons, mem_putS s x l, List.mem_cons]
      constructor
      · rintro (h | h | h) <;> simp [h]
      · rintro (h | h | h) <;> simp [h]
    · split
      · rename_i e
        subst e
        simp
      · simp
theorem asc_putS (s : ByteArray) : ∀ l, ascS l → ascS (putS l s)
  | [], _ => by simp [ascS, putS]
  | y :: l, h => by
    have h := List.pairwise_cons.1 h
    simp only [putS]
    split
    · rename_i hl
      refine List.pairwise_cons.2 ⟨fun z hz => ?_, asc_putS s l h.2⟩
      rcases (mem_putS s z l).1 hz with e | hz
      · exact e ▸ hl
      · exact h.1 z hz
    · split
      · exact List.pairwise_cons.2 h
      · rename_i hl hn
        have hs : bl s y = true := bl_tri (by simpa using hl) fun e => hn e.symm
        refine List.pairwise_cons.2 ⟨fun z hz => ?_, List.pairwise_cons.2 h⟩
        rcases List.mem_cons.1 hz with rfl | hz
        · exact hs
        · exact bl_trans hs (h.1 z hz)
theorem len_putS (s : ByteArray) : ∀ l, (putS l s).length ≤ l.length + 1
  | [] => by simp [putS]
  | y :: l => by
    have := len_putS s l
    simp only [putS]
    split
    · simp only [List.length_cons]; omega
    · split <;> simp
def putAllS (l xs : List ByteArray) : List ByteArray := xs.foldl putS l
theorem mem_putAllS (x : ByteArray) : ∀ xs l, x ∈ putAllS l xs ↔ x ∈ xs ∨ x ∈ l
  | [], l => by simp [putAllS]
  | y :: xs, l => by
    show x ∈ putAllS (putS l y) xs ↔ _
    rw [mem_putAllS x xs, mem_putS, List.mem_cons]
    constructor
    · rintro (h | h | h) <;> simp [h]
    · rintro ((h | h) | h) <;> simp [h]
theorem asc_putAllS : ∀ xs l, ascS l → ascS (putAllS l xs)
  | [], _, h => h
  | y :: xs, l, h => asc_putAllS xs (putS l y) (asc_putS y l h)
theorem putAllS_snoc (l xs : List ByteArray) (s : ByteArray) : putAllS l (xs ++ [s]) = putS (putAllS l xs) s := by simp [putAllS]
theorem ascS_ext (a b : List ByteArray) (ha : ascS a) (hb : ascS b) (h : ∀ x, x ∈ a ↔ x ∈ b) : a = b :=
  ascs_ext (fun a b => bl a b = true) (fun a h => by rw [bl_irr] at h; cases h) (fun _ _ _ => bl_trans) a b ha hb h
theorem once_spec (l : List ByteArray) : ascS (compS (sortS l)) ∧ ∀ x, x ∈ compS (sortS l) ↔ x ∈ l := by
  have hto : (sortS l).map oneS.to = (l.map oneS.to).mergeSort fun x y => decide (x ≤ y) := by simp [sortS, Function.comp_def, oneS.to_of]
  unfold compS
  rw [hto]
  generalize hm : l.map oneS.to = m
  have hp := List.mergeSort_perm m (fun x y => decide (x ≤ y))
  have hs := List.pairwise_mergeSort (le := fun (x y : List UInt8) => decide (x ≤ y)) (fun a b c h1 h2 => by
    simp only [decide_eq_true_eq] at h1 h2 ⊢; exact List.le_trans h1 h2) (fun a b => by
    have := List.le_total a b
    simpa using this) m
  generalize (m.mergeSort fun x y => decide (x ≤ y)) = s at hp hs
  have hget : ∀ j, j < s.length → s.toArray[j]! = s[j]! := fun j hj => by simp
  have hmono : ∀ i j, i ≤ j → j < s.toArray.size → ¬ s.toArray[j]! < s.toArray[i]! := fun i j hij hj => by
    have hj : j < s.length := by simpa using hj
    rw [hget i (by omega), hget j hj, getElem!_pos s i (by omega), getElem!_pos s j hj]
    by_cases e : i = j
    · subst e; exact lt8_irr _
    · have := List.pairwise_iff_getElem.1 hs i j (by omega) hj (by omega)
      simpa using this
  obtain ⟨h1, h2⟩ := comp_asc (fun a b : List UInt8 => a < b) s.toArray (fun a b c hab hbc => by
    by_cases e : a = b
    · exact e ▸ hbc
    · exact lt8_trans (lt8_tri hab e) hbc) (fun a b h hn => lt8_tri h hn) hmono s.length (by simp)
  refine ⟨?_, fun x => ?_⟩
  · refine List.pairwise_map.2 (h1.imp fun {a b} h => (bl_iff _ _).2 ?_)
    simpa [oneS] using h
  · have hmem : x ∈ l ↔ oneS.to x ∈ m := by
      rw [← hm, List.mem_map]
      refine ⟨fun h => ⟨x, h, rfl⟩, fun ⟨y, h, e⟩ => ?_⟩
      have := congrArg oneS.of e
      rw [oneS.of_to, oneS.of_to] at this
      exact this ▸ h
    rw [hmem, ← hp.mem_iff, List.mem_map]
    constructor
    · rintro ⟨y, hy, rfl⟩
      obtain ⟨j, hj, e⟩ := (h2 y).1 hy
      rw [hget j hj, getElem!_pos s j hj] at e
      rw [oneS.to_of]
      exact e ▸ List.getElem_mem hj
    · intro h
      obtain ⟨j, hj, e⟩ := List.getElem_of_mem h
      exact ⟨oneS.to x, (h2 _).2 ⟨j, hj, by rw [hget j hj, getElem!_pos s j hj]; exact e⟩, oneS.of_to x⟩
theorem once_put (l : List ByteArray) : compS (sortS l) = putAllS [] l :=
  ascS_ext _ _ (once_spec l).1 (asc_putAllS l [] List.Pairwise.nil) fun x => by rw [(once_spec l).2, mem_putAllS]; simp
end Go.Proofs.YtdakhddpcfimaaaGreatDoor
namespace Go.Proofs.YtdakhddpcfimaaaGreatDoor
abbrev Edges := List (Nat × Int)
def need (E : Edges) (L : List Int) : Int := E.foldl (fun m e => max m (nth L e.1 + e.2)) 0
theorem fold_max_le (L : List Int) (x : Int) : ∀ (E : Edges) (m : Int), E.foldl (fun m e => max m (nth L e.1 + e.2)) m ≤ x ↔ m ≤ x ∧ ∀ e, e ∈ E → nth L e.1 + e.2 ≤ x
  | [], m => by simp
  | e :: E, m => by
    rw [List.foldl_cons, fold_max_le L x E]
    constructor
    · rintro ⟨h1, h2⟩
      refine ⟨by omega, fun e' he => ?_⟩
      rcases List.mem_cons.1 he with rfl | he
      · omega
      · exact h2 e' he
    · rintro ⟨h1, h2⟩
      have := h2 e List.mem_cons_self
      exact ⟨by omega, fun e' he => h2 e' (List.mem_cons_of_mem _ he)⟩
theorem need_le {E : Edges} {L : List Int} {x : Int} : need E L ≤ x ↔ 0 ≤ x ∧ ∀ e, e ∈ E → nth L e.1 + e.2 ≤ x := fold_max_le L x E 0
theorem need_nonneg (E : Edges) (L : List Int) : 0 ≤ need E L := (need_le.1 (Int.le_refl _)).1
theorem need_mono {E : Edges} {L M : List Int} (h : ∀ j, nth L j ≤ nth M j) : need E L ≤ need E M :=
  need_le.2 ⟨need_nonneg E M, fun e he => by
    have := (need_le.1 (Int.le_refl (need E M))).2 e he
    have := h e.1
    omega⟩
theorem nth_set {L : List Int} {i : Nat} (x : Int) (j : Nat) (hi : i < L.length) : nth (L.set i x) j = if j = i then x else nth L j := by
  unfold nth
  by_cases h : j = i
  · subst h; simp [List.getD, hi]
  · rw [if_neg h]; simp [List.getD, List.getElem?_set, Ne.symm h]
theorem nth_out {L : List Int} {i : Nat} (h : L.length ≤ i) : nth L i = 0 := by
  unfold nth
  simp [List.getD, List.getElem?_eq_none h]
def raise (E : Nat → Edges) (L : List Int) (i : Nat) : List Int := if nth L i < need (E i) L then L.set i (need (E i) L) else L
theorem raise_len (E : Nat → Edges) (L : List Int) (i : Nat) : (raise E L i).length = L.length := by unfold raise; split <;> simp
theorem raise_ge (E : Nat → Edges) (L : List Int) (i j : Nat) : nth L j ≤ nth (raise E L i) j := by
  unfold raise
  split
  · rename_i h
    by_cases hi : i < L.length
    · rw [nth_set _ _ hi]; split
      · rename_i e; subst e; omega
      · omega
    · rw [List.set_eq_of_length_le (by omega)]; omega
  · omega
def rounds (E : Nat → Edges) (is : List Nat) (L : List Int) : List Int := is.foldl (raise E) L
theorem rounds_len (E : Nat → Edges) : ∀ (is : List Nat) (L : List Int), (rounds E is L).length = L.length
  | [], _ => rfl
  | i :: is, L => (rounds_len E is (raise E L i)).trans (raise_len E L i)
theorem rounds_ge (E : Nat → Edges) (j : Nat) : ∀ (is : List Nat) (L : List Int), nth L j ≤ nth (rounds E is L) j
  | [], _ => Int.le_refl _
  | i :: is, L => Int.le_trans (raise_ge E L i j) (rounds_ge E j is (raise E L i))
theorem ext_nth {L M : List Int} (hl : L.length = M.length) (h : ∀ j, nth L j = nth M j) : L = M := by
  apply List.ext_getElem hl
  intro i h1 h2
  have := h i
  simpa [nth, List.getD, h1, h2] using this
theorem rounds_fix (E : Nat → Edges) : ∀ (is : List Nat) (L : List Int), rounds E is L = L → ∀ i, i ∈ is → raise E L i = L
  | [], _, _, i, hi => by simp at hi
  | a :: is, L, h, i, hi => by
    have h1 : raise E L a = L := ext_nth (raise_len E L a) fun j => by
      have h2 := raise_ge E L a j
      have h3 := rounds_ge E j is (raise E L a)
      have h4 : nth (rounds E is (raise E L a)) j = nth L j := congrArg (nth · j) h
      omega
    rcases List.mem_cons.1 hi with rfl | hi
    · exact h1
    · refine rounds_fix E is L ?_ i hi
      have : rounds E is (raise E L a) = L := h
      rwa [h1] at this
theorem raise_rest {E : Nat → Edges} {L : List Int} {i : Nat} (hi : i < L.length) : raise E L i = L ↔ need (E i) L ≤ nth L i := by
  unfold raise
  constructor
  · intro h
    split at h
    · rename_i hlt
      have h2 : nth (L.set i (need (E i) L)) i = nth L i := by rw [h]
      rw [nth_set _ _ hi, if_pos rfl] at h2
      omega
    · omega
  · intro h
    rw [if_neg (by omega)]
theorem rounds_rest (E : Nat → Edges) : ∀ (is : List Nat) (L : List Int), (∀ i, i ∈ is → raise E L i = L) → rounds E is L = L
  | [], _, _ => rfl
  | a :: is, L, h => by
    show rounds E is (raise E L a) = L
    rw [h a List.mem_cons_self]
    exact rounds_rest E is L fun i hi => h i (List.mem_cons_of_mem _ hi)
def Sat (E : Nat → Edges) (n : Nat) (g : List Int) : Prop := ∀ i, i < n → need (E i) g ≤ nth g i
theorem raise_below {E : Nat → Edges} {n : Nat} {L g : List Int} {i : Nat} (hi : i < n) (hn : L.length = n) (hs : Sat E n g) (h : ∀ j, nth L j ≤ nth g j) : ∀ j, nth (raise E L i) j ≤ nth g j := by
  intro j
  unfold raise
  split
  · rw [nth_set _ _ (by omega)]
    split
    · rename_i e; subst e
      exact Int.le_trans (need_mono h) (hs j hi)
    · exact h j
  · exact h j
theorem rounds_below {E : Nat → Edges} {n : Nat} {g : List Int} (hs : Sat E n g) : ∀ (is : List Nat) (L : List Int), (∀ i, i ∈ is → i < n) → L.length = n → (∀ j, nth L j ≤ nth g j) → ∀ j, nth (rounds E is L) j ≤ nth g j
  | [], _, _, _, h => h
  | i :: is, L, hi, hn, h => rounds_below hs is (raise E L i) (fun k hk => hi k (List.mem_cons_of_mem _ hk)) ((raise_len E L i).trans hn) (raise_below (hi i List.mem_cons_self) hn hs h)
theorem pigeon : ∀ (m : Nat) (l : List Int), (∀ v : Nat, v < m → ((v : Nat) : Int) ∈ l) → m ≤ l.length
  | 0, _, _ => Nat.zero_le _
  | m + 1, l, h => by
    have hm := h m (by omega)
    have := pigeon m (l.erase (m : Int)) fun v hv => (List.mem_erase_of_ne (by omega)).2 (h v (by omega))
    rw [List.length_erase_of_mem hm] at this
    have : 0 < l.length := List.length_pos_of_mem hm
    omega
theorem nth_mem {L : List Int} {i : Nat} (h : i < L.length) : nth L i ∈ L := by
  have : nth L i = L[i] := by simp [nth, List.getD, h]
  rw [this]; exact List.getElem_mem h
theorem mem_nth {L : List Int} {x : Int} (h : x ∈ L) : ∃ i, i < L.length ∧ nth L i = x := by
  obtain ⟨i, hi, e⟩ := List.getElem_of_mem h
  exact ⟨i, hi, by rw [← e]; simp [nth, List.getD, hi]⟩
theorem nth_map {L : List Int} {f : Int → Int} {i : Nat} (h : i < L.length) : nth (L.map f) i = f (nth L i) := by simp [nth, List.getD, h]
theorem rest_small {E : Nat → Edges} {n : Nat} {f : List Int} (hw : ∀ i e, e ∈ E i → e.2 ≤ 1 ∧ e.1 < n) (hlen : f.length = n) (hs : Sat E n f) (hleast : ∀ g : List Int, g.length = n → Sat E n g → (∀ j, 0 ≤ nth g j) → ∀ j, nth f j ≤ nth g j) (h0 : ∀ j, 0 ≤ nth f j) :
    ∀ i, i < n → nth f i < (n : Int) := by
  intro i hi
  have hall : ∀ v : Nat, (v : Int) ≤ nth f i → ((v : Nat) : Int) ∈ f := fun v hv => by
    refine Classical.byContradiction fun hno => ?_
    have hne : ∀ j, j < n → nth f j ≠ v := fun j hj e => hno (e ▸ nth_mem (by omega))
    have hvi : (v : Int) < nth f i := by have := hne i hi; omega
    let g := f.map fun x => if (v : Int) < x then x - 1 else x
    have hg : ∀ j, j < n → nth g j = if (v : Int) < nth f j then nth f j - 1 else nth f j := fun j hj => nth_map (by omega)
    have hg0 : ∀ j, ¬ j < n → nth g j = 0 := fun j hj => nth_out (by simp only [g, List.length_map]; omega)
    have hf0 : ∀ j, ¬ j < n → nth f j = 0 := fun j hj => nth_out (by omega)
    have hpos : ∀ j, 0 ≤ nth g j := fun j => by
      by_cases hj : j < n
      · rw [hg j hj]; have := h0 j; split <;> omega
      · rw [hg0 j hj]; omega
    have := hleast g (by simp only [g, List.length_map]; exact hlen) (fun k hk => need_le.2 ⟨hpos k, fun e he => ?_⟩) hpos i
    · rw [hg i hi, if_pos hvi] at this; omega
    · have h1 := (need_le.1 (hs k hk)).2 e he
      obtain ⟨h2, hj⟩ := hw k e he
      have h3 := hne k hk
      rw [hg k hk]
      have h4 := hne e.1 hj
      rw [hg e.1 hj]
      split <;> split <;> omega
  have hp := pigeon ((nth f i).toNat + 1) f fun v hv => hall v (by have := h0 i; omega)
  have := h0 i
  omega
/-! ### rounds until rest -/
theorem sum_set : ∀ (L : List Int) (i : Nat) (x : Int), i < L.length → (L.set i x).sum = L.sum + (x - nth L i)
  | [], i, x, h => by simp at h
  | a :: L, 0, x, _ => by simp [nth]; omega
  | a :: L, i + 1, x, h => by
    have := sum_set L i x (by simpa using h)
    have e : nth (a :: L) (i + 1) = nth L i := rfl
    rw [e, List.set_cons_succ, List.sum_cons, List.sum_cons, this]
    omega
theorem sum_le : ∀ (L : List Int) (N : Int), (∀ x, x ∈ L → x ≤ N) → L.sum ≤ (L.length : Int) * N
  | [], N, _ => by simp
  | a :: L, N, h => by
    have h1 := sum_le L N fun x hx => h x (List.mem_cons_of_mem _ hx)
    have h2 := h a List.mem_cons_self
    rw [List.sum_cons, List.length_cons, Int.natCast_add, Int.add_mul]
    omega
theorem raise_sum {E : Nat → Edges} {L : List Int} {i : Nat} (hi : i < L.length) : L.sum ≤ (raise E L i).sum ∧ (raise E L i ≠ L → L.sum + 1 ≤ (raise E L i).sum) := by
  unfold raise
  split
  · rename_i h
    have := sum_set L i (need (E i) L) hi
    omega
  · exact ⟨Int.le_refl _, fun h => (h rfl).elim⟩
theorem rounds_sum {E : Nat → Edges} : ∀ (is : List Nat) (L : List Int), (∀ i, i ∈ is → i < L.length) → L.sum ≤ (rounds E is L).sum ∧ (rounds E is L ≠ L → L.sum + 1 ≤ (rounds E is L).sum)
  | [], L, _ => ⟨Int.le_refl _, fun h => (h rfl).elim⟩
  | i :: is, L, h => by
    obtain ⟨h1, h2⟩ := raise_sum (E := E) (h i List.mem_cons_self)
    obtain ⟨h3, h4⟩ := rounds_sum (E := E) is (raise E L i) fun k hk => by rw [raise_len]; exact h k (List.mem_cons_of_mem _ hk)
    show L.sum ≤ (rounds E is (raise E L i)).sum ∧ (rounds E is (raise E L i) ≠ L → L.sum + 1 ≤ (rounds E is (raise E L i)).sum)
    refine ⟨by omega, fun hn => ?_⟩
    by_cases e : raise E L i = L
    · have := h4 (by rw [e] at hn ⊢; exact hn)
      omega
    · have := h2 e
      omega
def crounds (E : Nat → Edges) (N : Int) : List Nat → Bool × List Int → Option (Bool × List Int)
  | [], s => some s
  | i :: is, s => if N < need (E i) s.2 then none else crounds E N is (if nth s.2 i < need (E i) s.2 then (true, s.2.set i (need (E i) s.2)) else s)
theorem crounds_some {E : Nat → Edges} {N : Int} : ∀ (is : List Nat) (c : Bool) (L : List Int) (s : Bool × List Int), (∀ i, i ∈ is → i < L.length) → crounds E N is (c, L) = some s → s.2 = rounds E is L ∧ (s.1 = true → c = true ∨ rounds E is L ≠ L) ∧ (s.1 = false → c = false ∧ rounds E is L = L) ∧ ((∀ j, nth L j ≤ N) → ∀ j, nth s.2 j ≤ N)
  | [], c, L, s, _, h => by
    obtain rfl := Option.some.inj h
    exact ⟨rfl, fun h => .inl h, fun h => ⟨h, rfl⟩, fun h => h⟩
  | i :: is, c, L, s, hi, h => by
    have hil := hi i List.mem_cons_self
    have hlen : ∀ k, k ∈ is → k < (raise E L i).length := fun k hk => by rw [raise_len]; exact hi k (List.mem_cons_of_mem _ hk)
    simp only [crounds] at h
    split at h
    · cases h
    · rename_i hN
      split at h
      · rename_i hlt
        have er : raise E L i = L.set i (need (E i) L) := by unfold raise; rw [if_pos hlt]
        rw [← er] at h
        obtain ⟨h1, h2, h3, h4⟩ := crounds_some is true (raise E L i) s hlen h
        have hne : rounds E (i :: is) L ≠ L := fun e => by
          have := (rounds_sum (E := E) is (raise E L i) hlen).1
          have h5 := (raise_sum (E := E) hil).2 fun e' => by
            have := (raise_rest hil).1 e'
            omega
          have h6 : (rounds E is (raise E L i)).sum = L.sum := congrArg List.sum e
          omega
        refine ⟨h1, fun _ => .inr hne, fun h => (by have := (h3 h).1; cases this), fun hb j => h4 (fun j => ?_) j⟩
        rw [er, nth_set _ _ hil]
        split
        · omega
        · exact hb j
      · rename_i hlt
        have er : raise E L i = L := by unfold raise; rw [if_neg hlt]
        have e2 : rounds E (i :: is) L = rounds E is L := by show rounds E is (raise E L i) = _; rw [er]
        rw [e2]
        exact crounds_some is c L s (fun k hk => hi k (List.mem_cons_of_mem _ hk)) h
theorem crounds_none {E : Nat → Edges} {N : Int} : ∀ (is : List Nat) (c : Bool) (L : List Int), crounds E N is (c, L) = none → ∃ pre i, (∀ k, k ∈ pre → k ∈ is) ∧ i ∈ is ∧ N < need (E i) (rounds E pre L)
  | [], c, L, h => by cases h
  | i :: is, c, L, h => by
    simp only [crounds] at h
    split at h
    · rename_i hN
      exact ⟨[], i, fun k hk => by simp at hk, List.mem_cons_self, hN⟩
    · have key : ∀ c' L', L' = raise E L i → crounds E N is (c', L') = none → ∃ pre k, (∀ x, x ∈ pre → x ∈ i :: is) ∧ k ∈ i :: is ∧ N < need (E k) (rounds E pre L) := fun c' L' e h => by
        obtain ⟨pre, k, h1, h2, h3⟩ := crounds_none is c' L' h
        subst e
        refine ⟨i :: pre, k, fun x hx => ?_, List.mem_cons_of_mem _ h2, h3⟩
        rcases List.mem_cons.1 hx with rfl | hx
        · exact List.mem_cons_self
        · exact List.mem_cons_of_mem _ (h1 x hx)
      split at h
      · rename_i hlt
        exact key true _ (by unfold raise; rw [if_pos hlt]) h
      · rename_i hlt
        exact key c _ (by unfold raise; rw [if_neg hlt]) h
def climb (E : Nat → Edges) (N : Int) (n : Nat) : Nat → Bool × List Int → Option (Option (List Int))
  | 0, _ => none
  | k + 1, s => match s.1 with
    | true => (match crounds E N (List.range n) (false, s.2) with
      | none => some none
      | some s' => climb E N n k s')
    | false => some (some s.2)
theorem range_lt {n i : Nat} (h : i ∈ List.range n) : i < n := List.mem_range.1 h
theorem climb_some {E : Nat → Edges} {n : Nat} : ∀ (k : Nat) (c : Bool) (L : List Int), L.length = n → (∀ j, nth L j ≤ (n : Int)) → (n : Int) * (n : Int) - L.sum + 2 ≤ (k : Int) → (climb E n n k (c, L)).isSome = true
  | 0, c, L, hl, hb, hk => by
    have := sum_le L n fun x hx => by obtain ⟨i, _, e⟩ := mem_nth hx; exact e ▸ hb i
    rw [hl] at this
    omega
  | k + 1, false, L, hl, hb, hk => rfl
  | k + 1, true, L, hl, hb, hk => by
    simp only [climb]
    cases hc : crounds E n (List.range n) (false, L) with
    | none => rfl
    | some s =>
      obtain ⟨h1, h2, h3, h4⟩ := crounds_some (List.range n) false L s (fun i hi => by rw [hl]; exact range_lt hi) hc
      obtain ⟨c', L'⟩ := s
      simp only at h1 h2 h3 h4 ⊢
      have hl' : L'.length = n := by rw [h1, rounds_len, hl]
      have hs := rounds_sum (E := E) (List.range n) L fun i hi => by rw [hl]; exact range_lt hi
      rw [← h1] at hs
      cases c' with
      | false =>
        cases k with
        | zero =>
          have := sum_le L n fun x hx => by obtain ⟨i, _, e⟩ := mem_nth hx; exact e ▸ hb i
          rw [hl] at this
          omega
        | succ k => rfl
      | true =>
        have hne : L' ≠ L := by
          rcases h2 rfl with h | h
          · cases h
          · rw [h1]; exact h
        have := hs.2 hne
        exact climb_some k true L' hl' (h4 hb) (by omega)
def after (E : Nat → Edges) (n : Nat) : Nat → List Int
  | 0 => List.replicate n 0
  | k + 1 => rounds E (List.range n) (after E n k)
theorem after_len (E : Nat → Edges) (n : Nat) : ∀ k, (after E n k).length = n
  | 0 => by simp [after]
  | k + 1 => by rw [after, rounds_len, after_len E n k]
def Rest (E : Nat → Edges) (n : Nat) (L : List Int) : Prop := rounds E (List.range n) L = L
theorem nth_zero (n j : Nat) : nth (List.replicate n (0 : Int)) j = 0 := by
  by_cases h : j < n
  · simp [nth, List.getD, h]
  · exact nth_out (by simp; omega)
theorem after_nonneg (E : Nat → Edges) (n j : Nat) : ∀ k, 0 ≤ nth (after E n k) j
  | 0 => by rw [after, nth_zero]; omega
  | k + 1 => Int.le_trans (after_nonneg E n j k) (rounds_ge E j _ _)
theorem rest_sat {E : Nat → Edges} {n : Nat} {L : List Int} (hl : L.length = n) (h : Rest E n L) : Sat E n L := fun i hi => (raise_rest (by omega)).1 (rounds_fix E _ L h i (List.mem_range.2 hi))
theorem after_below {E : Nat → Edges} {n : Nat} {g : List Int} (hs : Sat E n g) (h0 : ∀ j, 0 ≤ nth g j) : ∀ k j, nth (after E n k) j ≤ nth g j
  | 0, j => by rw [after, nth_zero]; exact h0 j
  | k + 1, j => rounds_below hs _ _ (fun i hi => range_lt hi) (after_len E n k) (after_below hs h0 k) j
theorem rest_stays {E : Nat → Edges} {n k : Nat} (h : Rest E n (after E n k)) : ∀ d, after E n (k + d) = after E n k
  | 0 => rfl
  | d + 1 => by
    show rounds E (List.range n) (after E n (k + d)) = _
    rw [rest_stays h d]
    exact h
theorem rest_same {E : Nat → Edges} {n k m : Nat} (hk : Rest E n (after E n k)) (hm : Rest E n (after E n m)) : after E n k = after E n m := by
  rcases Nat.le_total k m with h | h
  · have := rest_stays hk (m - k)
    rw [show k + (m - k) = m by omega] at this
    exact this.symm
  · have := rest_stays hm (k - m)
    rwa [show m + (k - m) = k by omega] at this
theorem no_rest_sum {E : Nat → Edges} {n : Nat} : ∀ k, (∀ j, j < k → ¬ Rest E n (after E n j)) → (k : Int) ≤ (after E n k).sum
  | 0, _ => by
    have : ∀ n : Nat, (List.replicate n (0 : Int)).sum = 0 := fun n => by simp
    rw [after, this]; omega
  | k + 1, h => by
    have h1 := no_rest_sum k fun j hj => h j (by omega)
    have h2 := (rounds_sum (E := E) (List.range n) (after E n k) fun i hi => by rw [after_len]; exact range_lt hi).2 (h k (by omega))
    show ((k + 1 : Nat) : Int) ≤ (rounds E (List.range n) (after E n k)).sum
    omega
variable {E : Nat → Edges} {n : Nat} (hw : ∀ i e, e ∈ E i → e.2 ≤ 1 ∧ e.1 < n)
include hw in
theorem rest_lt {k : Nat} (h : Rest E n (after E n k)) : ∀ i, i < n → nth (after E n k) i < (n : Int) :=
  rest_small hw (after_len E n k) (rest_sat (after_len E n k) h) (fun _ _ hs h0 => after_below hs h0 k) fun j => after_nonneg E n j k
include hw in
theorem rest_soon {k : Nat} (h : Rest E n (after E n k)) : Rest E n (after E n (n * n + 2)) := by
  have hex : ∃ j, j ≤ n * n + 1 ∧ Rest E n (after E n j) := Classical.byContradiction fun hno => by
    have h1 := no_rest_sum (E := E) (n := n) (n * n + 2) fun j hj hr => hno ⟨j, by omega, hr⟩
    have h2 := sum_le (after E n (n * n + 2)) n fun x hx => by
      obtain ⟨i, hi, e⟩ := mem_nth hx
      rw [after_len] at hi
      have h3 := after_below (rest_sat (after_len E n k) h) (fun j => after_nonneg E n j k) (n * n + 2) i
      have := rest_lt hw h i hi
      omega
    rw [after_len] at h2
    have h3 : ((n * n + 2 : Nat) : Int) = (n : Int) * (n : Int) + 2 := by rw [Int.natCast_add, Int.natCast_mul]; rfl
    omega
  obtain ⟨j, hj, hr⟩ := hex
  have := rest_stays hr (n * n + 2 - j)
  rw [show j + (n * n + 2 - j) = n * n + 2 by omega] at this
  rw [this]; exact hr
include hw in
theorem climb_eq : ∀ (k m : Nat) (c : Bool) (r : Option (List Int)), (c = false → Rest E n (after E n m)) → climb E n n k (c, after E n m) = some r →
    (∀ L, r = some L → Rest E n (after E n (n * n + 2)) ∧ L = after E n (n * n + 2)) ∧ (r = none → ¬ Rest E n (after E n (n * n + 2)))
  | 0, m, c, r, _, h => by cases h
  | k + 1, m, false, r, hc, h => by
    obtain rfl := Option.some.inj h
    have hr := hc rfl
    have hs := rest_soon hw hr
    refine ⟨fun L e => ⟨hs, ?_⟩, fun e => by cases e⟩
    obtain rfl := Option.some.inj e
    exact rest_same hr hs
  | k + 1, m, true, r, _, h => by
    simp only [climb] at h
    have hlt : ∀ i, i ∈ List.range n → i < (after E n m).length := fun i hi => by rw [after_len]; exact range_lt hi
    cases hcr : crounds E n (List.range n) (false, after E n m) with
    | none =>
      rw [hcr] at h
      obtain rfl := Option.some.inj h
      refine ⟨fun L e => (by cases e), fun _ hr => ?_⟩
      obtain ⟨pre, i, h1, h2, h3⟩ := crounds_none _ _ _ hcr
      have hsat := rest_sat (after_len E n _) hr
      have h4 := rounds_below hsat pre (after E n m) (fun i hi => range_lt (h1 i hi)) (after_len E n m) (after_below hsat (fun j => after_nonneg E n j _) m)
      have h5 := need_mono (E := E i) h4
      have h6 := hsat i (range_lt h2)
      have h7 := rest_lt hw hr i (range_lt h2)
      omega
    | some s =>
      rw [hcr] at h
      obtain ⟨h1, _, h3, _⟩ := crounds_some _ _ _ s hlt hcr
      obtain ⟨c', L'⟩ := s
      simp only at h1 h3 h
      have e : L' = after E n (m + 1) := h1
      subst e
      refine climb_eq k (m + 1) c' r (fun hc => ?_) h
      have h5 := (h3 hc).2
      show rounds E (List.range n) (after E n (m + 1)) = after E n (m + 1)
      have e2 : after E n (m + 1) = after E n m := h5
      rw [e2]; exact h5
omit hw
/-! ### the other way to raise: edge by edge -/
def bump (i : Nat) (L : List Int) (e : Nat × Int) : List Int := if nth L i < nth L e.1 + e.2 then L.set i (nth L e.1 + e.2) else L
def bumps (i : Nat) (E : Edges) (L : List Int) : List Int := E.foldl (bump i) L
theorem bump_len (i : Nat) (L : List Int) (e : Nat × Int) : (bump i L e).length = L.length := by unfold bump; split <;> simp
theorem bumps_len (i : Nat) : ∀ (E : Edges) (L : List Int), (bumps i E L).length = L.length
  | [], _ => rfl
  | e :: E, L => (bumps_len i E (bump i L e)).trans (bump_len i L e)
theorem bump_nth {i : Nat} {L : List Int} (e : Nat × Int) (hi : i < L.length) (j : Nat) : nth (bump i L e) j = if j = i then max (nth L i) (nth L e.1 + e.2) else nth L j := by
  unfold bump
  split
  · rw [nth_set _ _ hi]; split <;> omega
  · split
    · rename_i h; subst h; omega
    · rfl
theorem bumps_nth {i : Nat} : ∀ (E : Edges) {L M : List Int}, i < M.length → (∀ j, j ≠ i → nth M j = nth L j) → nth L i ≤ nth M i → (∀ e, e ∈ E → e.1 = i → e.2 ≤ 0) → ∀ j, nth (bumps i E M) j = if j = i then E.foldl (fun m e => max m (nth L e.1 + e.2)) (nth M i) else nth L j
  | [], L, M, hi, hj, h0, hs, j => by
    show nth M j = _
    split
    · rename_i e; subst e; rfl
    · rename_i e; exact hj j e
  | e :: E, L, M, hi, hj, h0, hs, j => by
    show nth (bumps i E (bump i M e)) j = _
    have hb := bump_nth e hi
    have hmax : nth (bump i M e) i = max (nth M i) (nth L e.1 + e.2) := by
      rw [hb, if_pos rfl]
      by_cases he : e.1 = i
      · have := hs e List.mem_cons_self he
        rw [he]; omega
      · rw [hj e.1 he]
    rw [bumps_nth E (L := L) (M := bump i M e) (by rw [bump_len]; exact hi) (fun k hk => by rw [hb, if_neg hk]; exact hj k hk) (by rw [hmax]; omega) (fun e' he' => hs e' (List.mem_cons_of_mem _ he')) j, hmax, List.foldl_cons]
theorem fold_max (L : List Int) : ∀ (E : Edges) (m : Int), 0 ≤ m → E.foldl (fun m e => max m (nth L e.1 + e.2)) m = max m (need E L) := fun E m hm => by
  have h1 := fold_max_le L (E.foldl (fun m e => max m (nth L e.1 + e.2)) m) E m
  have h2 := h1.1 (Int.le_refl _)
  have h3 : need E L ≤ E.foldl (fun m e => max m (nth L e.1 + e.2)) m := need_le.2 ⟨by omega, h2.2⟩
  have h4 := (fold_max_le L (max m (need E L)) E m).2 ⟨by omega, fun e he => by have := (need_le.1 (Int.le_refl (need E L))).2 e he; omega⟩
  omega
theorem bumps_eq {E : Nat → Edges} {L : List Int} {i : Nat} (hi : i < L.length) (h0 : 0 ≤ nth L i) (hs : ∀ e, e ∈ E i → e.1 = i → e.2 ≤ 0) : bumps i (E i) L = raise E L i :=
  ext_nth ((bumps_len i (E i) L).trans (raise_len E L i).symm) fun j => by
    rw [bumps_nth (E i) hi (fun _ _ => rfl) (Int.le_refl _) hs, fold_max _ _ _ h0]
    unfold raise
    by_cases hlt : nth L i < need (E i) L
    · rw [if_pos hlt, nth_set _ _ hi]; split <;> omega
    · rw [if_neg hlt]; split
      · rename_i e; subst e; omega
      · rfl
theorem bumps_ge {i : Nat} : ∀ (E : Edges) {L : List Int}, i < L.length → ∀ j, nth L j ≤ nth (bumps i E L) j
  | [], _, _, _ => Int.le_refl _
  | e :: E, L, hi, j => by
    have h1 := bumps_ge E (L := bump i L e) (by rw [bump_len]; exact hi) j
    have h2 := bump_nth e hi j
    show _ ≤ nth (bumps i E (bump i L e)) j
    split at h2
    · rename_i h; subst h; omega
    · omega
theorem bumps_self {i : Nat} : ∀ (E : Edges) {L : List Int}, i < L.length → (∃ e, e ∈ E ∧ e.1 = i ∧ 1 ≤ e.2) → nth L i + 1 ≤ nth (bumps i E L) i
  | [], _, _, ⟨e, he, _⟩ => by simp at he
  | e :: E, L, hi, ⟨e', he, h1, h2⟩ => by
    have h3 := bump_nth e hi i
    rw [if_pos rfl] at h3
    have hb := bumps_ge E (L := bump i L e) (by rw [bump_len]; exact hi) i
    show _ ≤ nth (bumps i E (bump i L e)) i
    rcases List.mem_cons.1 he with rfl | he
    · rw [h1] at h3; omega
    · have := bumps_self E (L := bump i L e) (by rw [bump_len]; exact hi) ⟨e', he, h1, h2⟩
      omega
def brounds (E : Nat → Edges) (is : List Nat) (L : List Int) : List Int := is.foldl (fun L i => bumps i (E i) L) L
theorem brounds_len (E : Nat → Edges) : ∀ (is : List Nat) (L : List Int), (brounds E is L).length = L.length
  | [], _ => rfl
  | i :: is, L => (brounds_len E is (bumps i (E i) L)).trans (bumps_len i _ L)
theorem brounds_eq {E : Nat → Edges} (hs : ∀ i e, e ∈ E i → e.1 = i → e.2 ≤ 0) : ∀ (is : List Nat) (L : List Int), (∀ i, i ∈ is → i < L.length) → (∀ j, 0 ≤ nth L j) → brounds E is L = rounds E is L
  | [], _, _, _ => rfl
  | i :: is, L, hi, h0 => by
    have hil := hi i List.mem_cons_self
    show brounds E is (bumps i (E i) L) = rounds E is (raise E L i)
    rw [bumps_eq hil (h0 i) (hs i)]
    exact brounds_eq hs is _ (fun k hk => by rw [raise_len]; exact hi k (List.mem_cons_of_mem _ hk)) fun j => Int.le_trans (h0 j) (raise_ge E L i j)
theorem brounds_ge {E : Nat → Edges} : ∀ (is : List Nat) (L : List Int), (∀ i, i ∈ is → i < L.length) → ∀ j, nth L j ≤ nth (brounds E is L) j
  | [], _, _, _ => Int.le_refl _
  | i :: is, L, hi, j => Int.le_trans (bumps_ge (E i) (hi i List.mem_cons_self) j) (brounds_ge is (bumps i (E i) L) (fun k hk => by rw [bumps_len]; exact hi k (List.mem_cons_of_mem _ hk)) j)
theorem brounds_self {E : Nat → Edges} {i : Nat} (he : ∃ e, e ∈ E i ∧ e.1 = i ∧ 1 ≤ e.2) : ∀ (is : List Nat) (L : List Int), (∀ i, i ∈ is → i < L.length) → i ∈ is → nth L i + 1 ≤ nth (brounds E is L) i
  | [], _, _, h => by simp at h
  | k :: is, L, hi, h => by
    have hk := hi k List.mem_cons_self
    have hl : ∀ x, x ∈ is → x < (bumps k (E k) L).length := fun x hx => by rw [bumps_len]; exact hi x (List.mem_cons_of_mem _ hx)
    show _ ≤ nth (brounds E is (bumps k (E k) L)) i
    have h1 := bumps_ge (E k) hk i
    have h2 := brounds_ge (E := E) is (bumps k (E k) L) hl i
    rcases List.mem_cons.1 h with rfl | h
    · have := bumps_self (E i) hk he
      omega
    · have := brounds_self he is (bumps k (E k) L) hl h
      omega
def bafter (E : Nat → Edges) (n : Nat) : Nat → List Int
  | 0 => List.replicate n 0
  | k + 1 => brounds E (List.range n) (bafter E n k)
theorem bafter_len (E : Nat → Edges) (n : Nat) : ∀ k, (bafter E n k).length = n
  | 0 => by simp [bafter]
  | k + 1 => by rw [bafter, brounds_len, bafter_len E n k]
theorem bafter_eq {E : Nat → Edges} {n : Nat} (hs : ∀ i e, e ∈ E i → e.1 = i → e.2 ≤ 0) : ∀ k, bafter E n k = after E n k
  | 0 => rfl
  | k + 1 => by
    rw [bafter, after, bafter_eq hs k]
    exact brounds_eq hs _ _ (fun i hi => by rw [after_len]; exact range_lt hi) fun j => after_nonneg E n j k
theorem strata_eq {E : Nat → Edges} {n : Nat} (hw : ∀ i e, e ∈ E i → e.2 ≤ 1 ∧ e.1 < n ∧ i < n) {k : Nat} {r : Option (List Int)} (h : climb E n n k (true, List.replicate n 0) = some r) :
    (brounds E (List.range n) (bafter E n (n * n + 2)) = bafter E n (n * n + 2) → r = some (bafter E n (n * n + 2))) ∧ (brounds E (List.range n) (bafter E n (n * n + 2)) ≠ bafter E n (n * n + 2) → r = none) := by
  have hw' : ∀ i e, e ∈ E i → e.2 ≤ 1 ∧ e.1 < n := fun i e he => ⟨(hw i e he).1, (hw i e he).2.1⟩
  obtain ⟨h1, h2⟩ := climb_eq hw' k 0 true r (fun e => by cases e) h
  by_cases hself : ∃ i, ∃ e, e ∈ E i ∧ e.1 = i ∧ 1 ≤ e.2
  · obtain ⟨i, e, he, hei, h3⟩ := hself
    have hi : i < n := (hw i e he).2.2
    have hne : brounds E (List.range n) (bafter E n (n * n + 2)) ≠ bafter E n (n * n + 2) := fun heq => by
      have := brounds_self (E := E) ⟨e, he, hei, h3⟩ (List.range n) (bafter E n (n * n + 2)) (fun k hk => by rw [bafter_len]; exact range_lt hk) (List.mem_range.2 hi)
      rw [heq] at this; omega
    refine ⟨fun h => (hne h).elim, fun _ => ?_⟩
    cases r with
    | none => rfl
    | some L =>
      obtain ⟨hr, _⟩ := h1 L rfl
      have h4 := rest_sat (after_len E n _) hr i hi
      have h5 := (need_le.1 h4).2 e he
      rw [hei] at h5
      omega
  · have hs : ∀ i e, e ∈ E i → e.1 = i → e.2 ≤ 0 := fun i e he hei => Classical.byContradiction fun hn => hself ⟨i, e, he, hei, by omega⟩
    rw [bafter_eq hs, brounds_eq hs _ _ (fun i hi => by rw [after_len]; exact range_lt hi) fun j => after_nonneg E n j _]
    refine ⟨fun hr => ?_, fun hr => ?_⟩
    · cases r with
      | none => exact (h2 rfl hr).elim
      | some L => rw [(h1 L rfl).2]
    · cases r with
      | none => rfl
      | some L => exact (hr (h1 L rfl).1).elim
end Go.Proofs.YtdakhddpcfimaaaGreatDoor

namespace Go.Proofs.YtdakhddpcfimaaaGreatDoor
open Go.RowKit
open GoE (enc wide)
theorem toList_inj {a b : ByteArray} : (a.toList == b.toList) = decide (a = b) := by
  rw [ByteArray.toList_eq, ByteArray.toList_eq, Bool.eq_iff_iff]
  simp only [beq_iff_eq, decide_eq_true_eq]
  exact ⟨fun h => ByteArray.ext (Array.ext' h), fun h => h ▸ rfl⟩
def placeS (l : List ByteArray) (s : ByteArray) : Nat := (l.takeWhile fun x => bl x s).length
theorem placeS_cons (a : ByteArray) (l : List ByteArray) (s : ByteArray) : placeS (a :: l) s = if bl a s = true then placeS l s + 1 else 0 := by
  unfold placeS
  rw [List.takeWhile_cons]
  cases bl a s <;> simp
theorem putS_eq (s : ByteArray) : ∀ l : List ByteArray, putS l s = bif (decide (((placeS l s : Nat) : Int) < (l.length : Int)) && ((nth l (placeS l s)).toList == s.toList)) then l else List.take (placeS l s) l ++ [s] ++ List.drop (placeS l s) l
  | [] => by simp [putS, placeS]
  | a :: l => by
    rw [placeS_cons, putS]
    cases h : bl a s with
    | true =>
      simp only [if_true]
      rw [putS_eq s l]
      have e : nth (a :: l) (placeS l s + 1) = nth l (placeS l s) := rfl
      rw [e, show decide ((((placeS l s + 1 : Nat)) : Int) < ((a :: l).length : Int)) = decide (((placeS l s : Nat) : Int) < (l.length : Int)) by
        rw [Bool.eq_iff_iff]; simp only [decide_eq_true_eq, List.length_cons]; omega]
      generalize (decide (((placeS l s : Nat) : Int) < (l.length : Int)) && ((nth l (placeS l s)).toList == s.toList)) = c
      cases c <;> simp
    | false =>
      have e : nth (a :: l) 0 = a := rfl
      simp only [Bool.false_eq_true, if_false]
      rw [e, toList_inj]
      by_cases hs : a = s
      · simp [hs]
      · simp [hs]
open GoE (enc wide)
end Go.Proofs.YtdakhddpcfimaaaGreatDoor
namespace Go.Proofs.YtdakhddpcfimaaaGreatDoor
open Go.RowKit
open GoE (enc wide)
open GoE (enc wide)
theorem forL_inv {α R S T : Type} {f : Nat → α → S → Rd R S T} {e : Nat → S → T} (I : S → Prop) (h : ∀ k a s, I s → ∃ s', f k a s = .next s' ∧ I s') : ∀ (l : List α) (k : Nat) (s : S), I s → ∃ s', forL f e l k s = .brk (e (k + l.length) s') ∧ I s'
  | [], k, s, hs => ⟨s, by simp [forL], hs⟩
  | a :: l, k, s, hs => by
    obtain ⟨s1, h1, h2⟩ := h k a s hs
    obtain ⟨s2, h3, h4⟩ := forL_inv I h l (k + 1) s1 h2
    refine ⟨s2, ?_, h4⟩
    simp only [forL, h1]
    rw [h3, List.length_cons, show k + 1 + l.length = k + (l.length + 1) by omega]
theorem need_app (E1 E2 : Edges) (L : List Int) : need (E1 ++ E2) L = max (need E1 L) (need E2 L) := by
  have h1 : need (E1 ++ E2) L ≤ max (need E1 L) (need E2 L) := need_le.2 ⟨by have := need_nonneg E1 L; omega, fun e he => by
    rcases List.mem_append.1 he with he | he
    · have := (need_le.1 (Int.le_refl (need E1 L))).2 e he; omega
    · have := (need_le.1 (Int.le_refl (need E2 L))).2 e he; omega⟩
  have h2 := need_le.1 (Int.le_refl (need (E1 ++ E2) L))
  have h3 : need E1 L ≤ need (E1 ++ E2) L := need_le.2 ⟨h2.1, fun e he => h2.2 e (List.mem_append_left _ he)⟩
  have h4 : need E2 L ≤ need (E1 ++ E2) L := need_le.2 ⟨h2.1, fun e he => h2.2 e (List.mem_append_right _ he)⟩
  omega
abbrev StepD := Nat → DirD → List Int × Bool → Rd (Rd (List Int × Bool) (List Int × Bool) (List Int)) (List Int × Bool) (List Int × Bool)
def endD : Option (List Int) → Out (List Int × Bool) (List Int)
  | none => .ret ([], false)
  | some L => .brk L
def LoopOk (d : List DirD) (f : StepD) (e : Nat → List Int × Bool → List Int × Bool) (F : List Int × Bool → Rd (List Int × Bool) (List Int × Bool) (List Int)) : Prop := ∀ s, F s = bif s.2 then (Out.on (forL f e d 0 (s.1, false)) fun y1 => .next (y1.1, y1.2)) else .brk s.1
theorem zeroL_ok (n : Nat) : (List.replicate n (0 : Int)).length = n ∧ ∀ j, 0 ≤ nth (List.replicate n (0 : Int)) j ∧ nth (List.replicate n (0 : Int)) j ≤ (n : Int) :=
  ⟨by simp, fun j => by rw [nth_zero]; omega⟩
open GoE (enc wide)
def Low (b : Int) (L : List Int) : Prop := ∀ j, 0 ≤ nth L j ∧ nth L j ≤ b
theorem bump_low {b w : Int} {i : Nat} {L : List Int} {p : Nat} (hi : i < L.length) (hw : 0 ≤ w ∧ w ≤ 1) (h : Low b L) : Low (b + w) (bump i L (p, w)) := fun j => by
  rw [bump_nth _ hi]
  have h1 := h j
  have h2 := h p
  have h3 := h i
  split
  · show 0 ≤ max (nth L i) (nth L p + w) ∧ max (nth L i) (nth L p + w) ≤ b + w; omega
  · omega
theorem bumps_app (i : Nat) (E1 E2 : Edges) (L : List Int) : bumps i (E1 ++ E2) L = bumps i E2 (bumps i E1 L) := List.foldl_append
open GoE (enc wide)
def implFieldKind_f0 (name : ByteArray) (_ : Nat) (a0 : FieldD) (_ : Unit) : Rd (Int) (Unit) (Unit) := (bif (a0.1.toList == name.toList) then (.ret a0.2) else (.next ()))
def implFieldKind_e0 (_ : Nat) (_ : Unit) : Unit := ()
def implFieldKind (s_ : (List FieldD)) (name : ByteArray) : Int := (Out.on (forL (implFieldKind_f0 name) implFieldKind_e0 s_ 0 ()) (fun _ => 0))
theorem implFieldKind_a (s_ : (List FieldD)) (name : ByteArray) : ACalls Tryz.prog 93 [.h s_, .s name] (.i (implFieldKind s_ name)) := by
  refine en tt_ok Tryz.func93 fun w0 F0 hG => ?_
  refine sn tt_ok [0, 1, 4] [] (p0) ?_
  refine awp_seq ?_
  refine tn tt_ok [1, 4, 7, 8, 9] [] (pl 1 s_ p0) ?_
  refine mz [(4, .i 0), (7, .h s_), (8, .i (s_.length : Int)), (9, .i 0)] [0] [] [] ?_
  refine wT 7 0 .sh s_ (fun hw1 hl2 => ?_)
  refine blL0 (implFieldKind_f0 name) implFieldKind_e0 s_ () (fun k0 _ => [(9, .i ((k0 : Nat) : Int))]) [9] (fun _ => []) [1, 7, 8, 9] (weak_fit (by kernel_rfl)) (fun k0 s0 hk0 hI0 => ?_) (fun k0 s0 hk0 hI0 => ?_) (fun y0 hD0 => ?_)
  ·
    obtain ⟨a0, hx0⟩ := get_some (l := s_) (i := k0) hk0
    refine sn tt_ok [1, 4, 7, 8, 9, 10] [] (pe 0 (av_bool (decide_eq_true (p := ((k0 : Nat) : Int) < (s_.length : Int)) (by omega))) p0) ?_
    refine awp_seq ?_
    refine ckT ?_
    refine awp_skip ?_
    refine awp_seq ?_
    refine awp_block ?_
    refine tn tt_ok [1, 4, 6, 7, 8, 9] [6] (pn 0 hx0 p0) ?_
    refine tu tt_ok [(6, .p 6 0), (16, .b (a0.1.toList == name.toList))] [] [(6, [.s a0.1, .i a0.2])] [] (p0) ?_
    refine ck (a0.1.toList == name.toList) (fun h3 => ?_) (fun h3 => ?_)
    ·
      refine sn tt_ok [1, 4, 7, 8, 9] [] (p0) ?_
      refine awp_ret ?_
      have hr4 : (forL (implFieldKind_f0 name) implFieldKind_e0 s_ 0 ()) = .ret a0.2 := forL_ret hx0 (bif_t h3 (rfl)) hI0
      exact pi [] (on_r hr4)
    ·
      refine awp_skip ?_
      refine rn tt_ok [1, 4, 7, 8, 9] [] (pe 0 (av_i (wrap_succ k0 (by omega))) p0) ?_
      exact Exists.intro _ (And.intro (weak_fit (by kernel_rfl)) (forL_next hx0 (bif_f h3 (rfl)) hI0))
  ·
    refine sn tt_ok [1, 4, 7, 8, 9, 10] [] (pe 0 (av_bool (decide_eq_false (p := ((k0 : Nat) : Int) < (s_.length : Int)) (by omega))) p0) ?_
    refine awp_seq ?_
    refine ckF ?_
    refine awp_exit ?_
    exact Exists.intro _ (And.intro (weak_fit (by kernel_rfl)) (forL_end hk0 (rfl) hI0))
  ·
    refine sn tt_ok [4] [] (p0) ?_
    refine awp_ret ?_
    exact pi [] (on_b hD0 (rfl))
def implMatchesSchema (s_ : (List FieldD)) (name : ByteArray) (v : ValueD) : Bool := ((implIsValidValue v) && ((v.1 != (0 : Int)) && (v.1 == (implFieldKind s_ name))))
theorem implMatchesSchema_a (s_ : (List FieldD)) (name : ByteArray) (v : ValueD) : ACalls Tryz.prog 78 [.h s_, .s name, .a [.i v.1, .i v.2.1, .s v.2.2]] (.b (implMatchesSchema s_ name v)) := by
  refine en tt_ok Tryz.func78 fun w0 F0 hG => ?_
  refine sn tt_ok [0, 1, 5, 6] [5] (p0) ?_
  refine awp_seq ?_
  refine mz [(5, .p 5 0), (6, .b false)] [2] [(5, [.i v.1, .i v.2.1, .s v.2.2])] [] ?_
  refine jn [(6, .b ((implIsValidValue v) && ((v.1 != (0 : Int)) && (v.1 == (implFieldKind s_ name)))))] [0, 1, 5, 6] [] [5] (implIsValidValue v) (fun h1 => ?_) (fun h1 => ?_) ?_
  ·
    refine awp_split (v.1 != (0 : Int)) (fun h2 => ?_) (fun h2 => ?_)
    ·
      have h2d := ne_of_bne h2
      refine rN tt_ok tt_mx [6] [] (pc 1 (cb h1 (implIsValidValue_a v)) (pt 5 h2 (pc 12 (implFieldKind_a s_ name) p0))) ?_
      exact ⟨rfl, weak_fit (by rw [h1, h2]; first | done | kernel_rfl)⟩
    ·
      have h2d := eq_of_bne h2
      refine rN tt_ok tt_mx [6] [] (pc 1 (cb h1 (implIsValidValue_a v)) (pf 5 h2 p0)) ?_
      exact ⟨rfl, weak_fit (by rw [h1, h2]; first | done | kernel_rfl)⟩
  ·
    refine rN tt_ok tt_mx [6] [] (pc 1 (cb h1 (implIsValidValue_a v)) p0) ?_
    exact ⟨rfl, weak_fit (by rw [h1]; first | done | kernel_rfl)⟩
  refine awp_ret ?_
  exact pb [] (show implMatchesSchema s_ name v = ((implIsValidValue v) && ((v.1 != (0 : Int)) && (v.1 == (implFieldKind s_ name)))) from rfl)
def implisUser (n : Int) : Bool := (implwithin n 0 2)
theorem implisUser_a (n : Int) : ACalls Tryz.prog 79 [.i n] (.b (implisUser n)) := by
  refine en tt_ok Tryz.func79 fun w0 F0 hG => ?_
  refine sn tt_ok [0, 2] [] (p0) ?_
  refine tn tt_ok [2] [] (pc 1 (implwithin_a n 0 2) p0) ?_
  refine awp_ret ?_
  exact pb [] (show implisUser n = (implwithin n 0 2) from rfl)
def implIsValidSchema_f0 (s_ : (List FieldD)) (k0 : Nat) (a0 : FieldD) (_ : Unit) : Rd (Bool) (Unit) (Unit) := (bif ((!(implIsValidAttrName a0.1)) || (bif (a0.2 != (1 : Int)) then ((a0.2 != (2 : Int)) || (decide (((k0 : Nat) : Int) > (0 : Int)) && (!(Op.bytesLess ((nth s_ (Int.toNat (((k0 : Nat) : Int) - 1))).1).toList a0.1.toList)))) else (decide (((k0 : Nat) : Int) > (0 : Int)) && (!(Op.bytesLess ((nth s_ (Int.toNat (((k0 : Nat) : Int) - 1))).1).toList a0.1.toList))))) then (.ret false) else (.next ()))
def implIsValidSchema_e0 (_ : Nat) (_ : Unit) : Unit := ()
def implIsValidSchema (s_ : (List FieldD)) : Bool := (Out.on (forL (implIsValidSchema_f0 s_) implIsValidSchema_e0 s_ 0 ()) (fun _ => decide ((s_.length : Int) ≤ (5 : Int))))
theorem implIsValidSchema_a (s_ : (List FieldD)) : ACalls Tryz.prog 52 [.h s_] (.b (implIsValidSchema s_)) := by
  refine en tt_ok Tryz.func52 fun w0 F0 hG => ?_
  refine sn tt_ok [0, 2] [] (p0) ?_
  refine awp_seq ?_
  refine tn tt_ok [0, 2, 5, 6, 7] [] (pl 1 s_ p0) ?_
  refine mz [(2, .b false), (5, .h s_), (6, .i (s_.length : Int)), (7, .i 0)] [] [] [] ?_
  refine wT 0 0 .sh s_ (fun hw1 hl2 => ?_)
  refine blL0 (implIsValidSchema_f0 s_) implIsValidSchema_e0 s_ () (fun k0 _ => [(7, .i ((k0 : Nat) : Int))]) [7] (fun _ => []) [5, 6, 7] (weak_fit (by kernel_rfl)) (fun k0 s0 hk0 hI0 => ?_) (fun k0 s0 hk0 hI0 => ?_) (fun y0 hD0 => ?_)
  ·
    obtain ⟨a0, hx0⟩ := get_some (l := s_) (i := k0) hk0
    refine sn tt_ok [0, 2, 5, 6, 7, 8] [] (pe 0 (av_bool (decide_eq_true (p := ((k0 : Nat) : Int) < (s_.length : Int)) (by omega))) p0) ?_
    refine awp_seq ?_
    refine ckT ?_
    refine awp_skip ?_
    refine awp_seq ?_
    refine awp_block ?_
    refine tn tt_ok [0, 2, 3, 4, 5, 6, 7] [4] (pn 1 hx0 p0) ?_
    refine awp_seq ?_
    refine mz [(3, .i ((k0 : Nat) : Int)), (4, .p 4 0)] [] [(4, [.s a0.1, .i a0.2])] [] ?_
    refine jn [(40, .b ((!(implIsValidAttrName a0.1)) || (bif (a0.2 != (1 : Int)) then ((a0.2 != (2 : Int)) || (decide (((k0 : Nat) : Int) > (0 : Int)) && (!(Op.bytesLess ((nth s_ (Int.toNat (((k0 : Nat) : Int) - 1))).1).toList a0.1.toList)))) else (decide (((k0 : Nat) : Int) > (0 : Int)) && (!(Op.bytesLess ((nth s_ (Int.toNat (((k0 : Nat) : Int) - 1))).1).toList a0.1.toList))))))] [3, 4] [] [4] (!(implIsValidAttrName a0.1)) (fun h3 => ?_) (fun h3 => ?_) ?_
    ·
      have h3n : (implIsValidAttrName a0.1) = false := bnot_t h3
      refine rN tt_ok tt_mx [0, 2, 5, 6, 7, 40] [] (pc 2 (cb h3n (implIsValidAttrName_a a0.1)) (pe 3 (show .b (!false) = .b true from rfl) p0)) ?_
      exact ⟨rfl, weak_fit (by rw [h3]; first | done | kernel_rfl)⟩
    ·
      have h3n : (implIsValidAttrName a0.1) = true := bnot_f h3
      refine awp_split (a0.2 != (1 : Int)) (fun h4 => ?_) (fun h4 => ?_)
      ·
        have h4d := ne_of_bne h4
        refine awp_split (a0.2 != (2 : Int)) (fun h5 => ?_) (fun h5 => ?_)
        ·
          have h5d := ne_of_bne h5
          refine rN tt_ok tt_mx [0, 2, 5, 6, 7, 40] [] (pc 2 (cb h3n (implIsValidAttrName_a a0.1)) (pe 3 (show .b (!true) = .b false from rfl) (pt 7 h4 (pt 11 h5 p0)))) ?_
          exact ⟨rfl, weak_fit (by rw [h3, h4, h5]; first | done | kernel_rfl)⟩
        ·
          have h5d := eq_of_bne h5
          refine awp_split (decide (((k0 : Nat) : Int) > (0 : Int))) (fun h6 => ?_) (fun h6 => ?_)
          ·
            have h6d := of_decide_eq_true h6
            have hx7 := ng s_ (Int.toNat (((k0 : Nat) : Int) - 1))
            refine rN tt_ok tt_mx [0, 2, 5, 6, 7, 40] [] (pc 2 (cb h3n (implIsValidAttrName_a a0.1)) (pe 3 (show .b (!true) = .b false from rfl) (pt 7 h4 (pf 11 h5 (pt 16 h6 (pe 20 (av_i (IntWalk.i64_in (((k0 : Nat) : Int) - 1) (by omega))) (pg 21 (((k0 : Nat) : Int) - 1) hx7 p0))))))) ?_
            exact ⟨rfl, weak_fit (by rw [h3, h4, h5, h6]; first | done | kernel_rfl)⟩
          ·
            have h6d := of_decide_eq_false h6
            refine rN tt_ok tt_mx [0, 2, 5, 6, 7, 40] [] (pc 2 (cb h3n (implIsValidAttrName_a a0.1)) (pe 3 (show .b (!true) = .b false from rfl) (pt 7 h4 (pf 11 h5 (pf 16 h6 p0))))) ?_
            exact ⟨rfl, weak_fit (by rw [h3, h4, h5, h6]; first | done | kernel_rfl)⟩
      ·
        have h4d := eq_of_bne h4
        refine awp_split (decide (((k0 : Nat) : Int) > (0 : Int))) (fun h8 => ?_) (fun h8 => ?_)
        ·
          have h8d := of_decide_eq_true h8
          have hx9 := ng s_ (Int.toNat (((k0 : Nat) : Int) - 1))
          refine rN tt_ok tt_mx [0, 2, 5, 6, 7, 40] [] (pc 2 (cb h3n (implIsValidAttrName_a a0.1)) (pe 3 (show .b (!true) = .b false from rfl) (pf 7 h4 (pt 16 h8 (pe 20 (av_i (IntWalk.i64_in (((k0 : Nat) : Int) - 1) (by omega))) (pg 21 (((k0 : Nat) : Int) - 1) hx9 p0)))))) ?_
          exact ⟨rfl, weak_fit (by rw [h3, h4, h8]; first | done | kernel_rfl)⟩
        ·
          have h8d := of_decide_eq_false h8
          refine rN tt_ok tt_mx [0, 2, 5, 6, 7, 40] [] (pc 2 (cb h3n (implIsValidAttrName_a a0.1)) (pe 3 (show .b (!true) = .b false from rfl) (pf 7 h4 (pf 16 h8 p0)))) ?_
          exact ⟨rfl, weak_fit (by rw [h3, h4, h8]; first | done | kernel_rfl)⟩
    refine ck ((!(implIsValidAttrName a0.1)) || (bif (a0.2 != (1 : Int)) then ((a0.2 != (2 : Int)) || (decide (((k0 : Nat) : Int) > (0 : Int)) && (!(Op.bytesLess ((nth s_ (Int.toNat (((k0 : Nat) : Int) - 1))).1).toList a0.1.toList)))) else (decide (((k0 : Nat) : Int) > (0 : Int)) && (!(Op.bytesLess ((nth s_ (Int.toNat (((k0 : Nat) : Int) - 1))).1).toList a0.1.toList))))) (fun h10 => ?_) (fun h10 => ?_)
    ·
      refine su tt_ok [] [40] [] [] (p0) ?_
      refine awp_ret ?_
      have hr11 : (forL (implIsValidSchema_f0 s_) implIsValidSchema_e0 s_ 0 ()) = .ret false := forL_ret hx0 (bif_t h10 (rfl)) hI0
      exact pb [] (on_r hr11)
    ·
      have h10l : ((!(implIsValidAttrName a0.1))) = false := or_l h10
      have h10ln : (implIsValidAttrName a0.1) = true := bnot_f h10l
      have h10r : ((bif (a0.2 != (1 : Int)) then ((a0.2 != (2 : Int)) || (decide (((k0 : Nat) : Int) > (0 : Int)) && (!(Op.bytesLess ((nth s_ (Int.toNat (((k0 : Nat) : Int) - 1))).1).toList a0.1.toList)))) else (decide (((k0 : Nat) : Int) > (0 : Int)) && (!(Op.bytesLess ((nth s_ (Int.toNat (((k0 : Nat) : Int) - 1))).1).toList a0.1.toList))))) = false := or_r h10
      refine awp_skip ?_
      refine rn tt_ok [0, 2, 5, 6, 7] [] (pe 0 (av_i (wrap_succ k0 (by omega))) p0) ?_
      exact Exists.intro _ (And.intro (weak_fit (by kernel_rfl)) (forL_next hx0 (bif_f h10 (rfl)) hI0))
  ·
    refine sn tt_ok [0, 2, 5, 6, 7, 8] [] (pe 0 (av_bool (decide_eq_false (p := ((k0 : Nat) : Int) < (s_.length : Int)) (by omega))) p0) ?_
    refine awp_seq ?_
    refine ckF ?_
    refine awp_exit ?_
    exact Exists.intro _ (And.intro (weak_fit (by kernel_rfl)) (forL_end hk0 (rfl) hI0))
  ·
    refine sn tt_ok [2] [] (pl 1 s_ p0) ?_
    refine awp_ret ?_
    exact pb [] (on_b hD0 (rfl))
def implIsValidFile_f0 (s_ : (List FieldD)) (f : FileD) (k0 : Nat) (a0 : AttrD) (_ : Unit) : Rd (Bool) (Unit) (Unit) := (bif (bif decide (((k0 : Nat) : Int) > (0 : Int)) then ((!(Op.bytesLess ((nth f.2.2.2.2 (Int.toNat (((k0 : Nat) : Int) - 1))).1).toList a0.1.toList)) || (!(implMatchesSchema s_ a0.1 a0.2))) else (!(implMatchesSchema s_ a0.1 a0.2))) then (.ret false) else (.next ()))
def implIsValidFile_e0 (_ : Nat) (_ : Unit) : Unit := ()
def implIsValidFile (s_ : (List FieldD)) (f : FileD) : Bool := (Out.on (forL (implIsValidFile_f0 s_ f) implIsValidFile_e0 f.2.2.2.2 0 ()) (fun _ => ((implwithin f.1 1 60) && ((implisUser f.2.1) && ((implwithin f.2.2.2.1 0 60) && (implIsValidSchema s_))))))
theorem implIsValidFile_a (s_ : (List FieldD)) (f : FileD) : ACalls Tryz.prog 51 [.h s_, .a [.i f.1, .i f.2.1, .b f.2.2.1, .i f.2.2.2.1, .h f.2.2.2.2]] (.b (implIsValidFile s_ f)) := by
  refine en tt_ok Tryz.func51 fun w0 F0 hG => ?_
  refine sn tt_ok [0, 3, 4] [3] (p0) ?_
  refine awp_seq ?_
  refine tn tt_ok [0, 3, 4, 8, 9, 10] [3] (pl 2 f.2.2.2.2 p0) ?_
  refine mz [(3, .p 3 0), (4, .b false), (8, .h f.2.2.2.2), (9, .i (f.2.2.2.2.length : Int)), (10, .i 0)] [1] [(3, [.i f.1, .i f.2.1, .b f.2.2.1, .i f.2.2.2.1, .h f.2.2.2.2])] [] ?_
  refine wT 8 0 .sh f.2.2.2.2 (fun hw1 hl2 => ?_)
  refine blL0 (implIsValidFile_f0 s_ f) implIsValidFile_e0 f.2.2.2.2 () (fun k0 _ => [(10, .i ((k0 : Nat) : Int))]) [10] (fun _ => []) [8, 9, 10] (weak_fit (by kernel_rfl)) (fun k0 s0 hk0 hI0 => ?_) (fun k0 s0 hk0 hI0 => ?_) (fun y0 hD0 => ?_)
  ·
    obtain ⟨a0, hx0⟩ := get_some (l := f.2.2.2.2) (i := k0) hk0
    refine su tt_ok [(11, .b true)] [] [] [] (pe 0 (av_bool (decide_eq_true (p := ((k0 : Nat) : Int) < (f.2.2.2.2.length : Int)) (by omega))) p0) ?_
    refine awp_seq ?_
    refine ckT ?_
    refine awp_skip ?_
    refine awp_seq ?_
    refine awp_block ?_
    refine sn tt_ok [0, 3, 4, 5, 6, 8, 9, 10] [3, 6] (pn 1 hx0 p0) ?_
    refine awp_seq ?_
    refine mz [(5, .i ((k0 : Nat) : Int)), (6, .p 6 0)] [11] [(6, [.s a0.1, .i a0.2.1, .i a0.2.2.1, .s a0.2.2.2])] [] ?_
    refine jn [(37, .b (bif decide (((k0 : Nat) : Int) > (0 : Int)) then ((!(Op.bytesLess ((nth f.2.2.2.2 (Int.toNat (((k0 : Nat) : Int) - 1))).1).toList a0.1.toList)) || (!(implMatchesSchema s_ a0.1 a0.2))) else (!(implMatchesSchema s_ a0.1 a0.2))))] [5, 6] [] [6] (decide (((k0 : Nat) : Int) > (0 : Int))) (fun h3 => ?_) (fun h3 => ?_) ?_
    ·
      have h3d := of_decide_eq_true h3
      refine awp_split (!(Op.bytesLess ((nth f.2.2.2.2 (Int.toNat (((k0 : Nat) : Int) - 1))).1).toList a0.1.toList)) (fun h4 => ?_) (fun h4 => ?_)
      ·
        have h4n : (Op.bytesLess ((nth f.2.2.2.2 (Int.toNat (((k0 : Nat) : Int) - 1))).1).toList a0.1.toList) = false := bnot_t h4
        have hx5 := ng f.2.2.2.2 (Int.toNat (((k0 : Nat) : Int) - 1))
        refine rN tt_ok tt_mx [0, 3, 4, 8, 9, 10, 37] [3] (pt 1 h3 (pe 6 (av_i (IntWalk.i64_in (((k0 : Nat) : Int) - 1) (by omega))) (pg 7 (((k0 : Nat) : Int) - 1) hx5 (pt 12 h4 p0)))) ?_
        exact ⟨rfl, weak_fit (by rw [h3, h4]; first | done | kernel_rfl)⟩
      ·
        have h4n : (Op.bytesLess ((nth f.2.2.2.2 (Int.toNat (((k0 : Nat) : Int) - 1))).1).toList a0.1.toList) = true := bnot_f h4
        have hx6 := ng f.2.2.2.2 (Int.toNat (((k0 : Nat) : Int) - 1))
        refine rN tt_ok tt_mx [0, 3, 4, 8, 9, 10, 37] [3] (pt 1 h3 (pe 6 (av_i (IntWalk.i64_in (((k0 : Nat) : Int) - 1) (by omega))) (pg 7 (((k0 : Nat) : Int) - 1) hx6 (pf 12 h4 (pc 20 (implMatchesSchema_a s_ a0.1 a0.2) p0))))) ?_
        exact ⟨rfl, weak_fit (by rw [h3, h4]; first | done | kernel_rfl)⟩
    ·
      have h3d := of_decide_eq_false h3
      refine rN tt_ok tt_mx [0, 3, 4, 8, 9, 10, 37] [3] (pf 1 h3 (pc 20 (implMatchesSchema_a s_ a0.1 a0.2) p0)) ?_
      exact ⟨rfl, weak_fit (by rw [h3]; first | done | kernel_rfl)⟩
    refine ck (bif decide (((k0 : Nat) : Int) > (0 : Int)) then ((!(Op.bytesLess ((nth f.2.2.2.2 (Int.toNat (((k0 : Nat) : Int) - 1))).1).toList a0.1.toList)) || (!(implMatchesSchema s_ a0.1 a0.2))) else (!(implMatchesSchema s_ a0.1 a0.2))) (fun h7 => ?_) (fun h7 => ?_)
    ·
      refine su tt_ok [] [37] [] [] (p0) ?_
      refine awp_ret ?_
      have hr8 : (forL (implIsValidFile_f0 s_ f) implIsValidFile_e0 f.2.2.2.2 0 ()) = .ret false := forL_ret hx0 (bif_t h7 (rfl)) hI0
      exact pb [] (on_r hr8)
    ·
      refine awp_skip ?_
      refine rn tt_ok [0, 3, 4, 8, 9, 10] [3] (pe 0 (av_i (wrap_succ k0 (by omega))) p0) ?_
      exact Exists.intro _ (And.intro (weak_fit (by kernel_rfl)) (forL_next hx0 (bif_f h7 (rfl)) hI0))
  ·
    refine su tt_ok [(11, .b false)] [] [] [] (pe 0 (av_bool (decide_eq_false (p := ((k0 : Nat) : Int) < (f.2.2.2.2.length : Int)) (by omega))) p0) ?_
    refine awp_seq ?_
    refine ckF ?_
    refine awp_exit ?_
    exact Exists.intro _ (And.intro (weak_fit (by kernel_rfl)) (forL_end hk0 (rfl) hI0))
  ·
    refine awp_seq ?_
    refine jn [(4, .b ((implwithin f.1 1 60) && ((implisUser f.2.1) && ((implwithin f.2.2.2.1 0 60) && (implIsValidSchema s_)))))] [0, 3, 4] [] [3] (implwithin f.1 1 60) (fun h9 => ?_) (fun h9 => ?_) ?_
    ·
      have h9w := within_iff.1 h9
      refine awp_split (implisUser f.2.1) (fun h10 => ?_) (fun h10 => ?_)
      ·
        refine awp_split (implwithin f.2.2.2.1 0 60) (fun h11 => ?_) (fun h11 => ?_)
        ·
          have h11w := within_iff.1 h11
          refine rn tt_ok [4] [] (pc 2 (cb h9 (implwithin_a f.1 1 60)) (pc 6 (cb h10 (implisUser_a f.2.1)) (pc 11 (cb h11 (implwithin_a f.2.2.2.1 0 60)) (pc 15 (implIsValidSchema_a s_) p0)))) ?_
          exact ⟨rfl, weak_fit (by rw [h9, h10, h11]; first | done | kernel_rfl)⟩
        ·
          refine rn tt_ok [4] [] (pc 2 (cb h9 (implwithin_a f.1 1 60)) (pc 6 (cb h10 (implisUser_a f.2.1)) (pc 11 (cb h11 (implwithin_a f.2.2.2.1 0 60)) p0))) ?_
          exact ⟨rfl, weak_fit (by rw [h9, h10, h11]; first | done | kernel_rfl)⟩
      ·
        refine rn tt_ok [4] [] (pc 2 (cb h9 (implwithin_a f.1 1 60)) (pc 6 (cb h10 (implisUser_a f.2.1)) p0)) ?_
        exact ⟨rfl, weak_fit (by rw [h9, h10]; first | done | kernel_rfl)⟩
    ·
      refine rn tt_ok [4] [] (pc 2 (cb h9 (implwithin_a f.1 1 60)) p0) ?_
      exact ⟨rfl, weak_fit (by rw [h9]; first | done | kernel_rfl)⟩
    refine awp_ret ?_
    exact pb [] (on_b hD0 (rfl))
def implIsValidStore_f0 (s_ : StoreD) (k0 : Nat) (a0 : FileD) (_ : Unit) : Rd (Bool) (Unit) (Unit) := (bif ((!(implIsValidFile s_.1 a0)) || (decide (a0.1 ≥ s_.2.2) || (decide (((k0 : Nat) : Int) > (0 : Int)) && decide ((nth s_.2.1 (Int.toNat (((k0 : Nat) : Int) - 1))).1 ≥ a0.1)))) then (.ret false) else (.next ()))
def implIsValidStore_e0 (_ : Nat) (_ : Unit) : Unit := ()
def implIsValidStore (s_ : StoreD) : Bool := (Out.on (forL (implIsValidStore_f0 s_) implIsValidStore_e0 s_.2.1 0 ()) (fun _ => ((implIsValidSchema s_.1) && (decide ((s_.2.1.length : Int) ≤ (12 : Int)) && (implwithin s_.2.2 1 61)))))
theorem implIsValidStore_a (s_ : StoreD) : ACalls Tryz.prog 26 [.a [.h s_.1, .h s_.2.1, .i s_.2.2]] (.b (implIsValidStore s_)) := by
  refine en tt_ok Tryz.func26 fun w0 F0 hG => ?_
  refine sn tt_ok [1, 2] [1] (p0) ?_
  refine awp_seq ?_
  refine tn tt_ok [1, 2, 6, 7, 8] [1] (pl 2 s_.2.1 p0) ?_
  refine mz [(1, .p 1 0), (2, .b false), (6, .h s_.2.1), (7, .i (s_.2.1.length : Int)), (8, .i 0)] [0] [(1, [.h s_.1, .h s_.2.1, .i s_.2.2])] [] ?_
  refine wT 6 0 .sh s_.2.1 (fun hw1 hl2 => ?_)
  refine blL0 (implIsValidStore_f0 s_) implIsValidStore_e0 s_.2.1 () (fun k0 _ => [(8, .i ((k0 : Nat) : Int))]) [8] (fun _ => []) [6, 7, 8] (weak_fit (by kernel_rfl)) (fun k0 s0 hk0 hI0 => ?_) (fun k0 s0 hk0 hI0 => ?_) (fun y0 hD0 => ?_)
  ·
    obtain ⟨a0, hx0⟩ := get_some (l := s_.2.1) (i := k0) hk0
    refine sn tt_ok [1, 2, 6, 7, 8, 9] [1] (pe 0 (av_bool (decide_eq_true (p := ((k0 : Nat) : Int) < (s_.2.1.length : Int)) (by omega))) p0) ?_
    refine awp_seq ?_
    refine ckT ?_
    refine awp_skip ?_
    refine awp_seq ?_
    refine awp_block ?_
    refine tn tt_ok [1, 2, 3, 4, 6, 7, 8] [1, 4] (pn 1 hx0 p0) ?_
    refine awp_seq ?_
    refine mz [(3, .i ((k0 : Nat) : Int)), (4, .p 4 0)] [] [(4, [.i a0.1, .i a0.2.1, .b a0.2.2.1, .i a0.2.2.2.1, .h a0.2.2.2.2])] [] ?_
    refine jn [(40, .b ((!(implIsValidFile s_.1 a0)) || (decide (a0.1 ≥ s_.2.2) || (decide (((k0 : Nat) : Int) > (0 : Int)) && decide ((nth s_.2.1 (Int.toNat (((k0 : Nat) : Int) - 1))).1 ≥ a0.1)))))] [3, 4] [] [4] (!(implIsValidFile s_.1 a0)) (fun h3 => ?_) (fun h3 => ?_) ?_
    ·
      have h3n : (implIsValidFile s_.1 a0) = false := bnot_t h3
      refine rN tt_ok tt_mx [1, 2, 6, 7, 8, 40] [1] (pc 3 (cb h3n (implIsValidFile_a s_.1 a0)) (pe 4 (show .b (!false) = .b true from rfl) p0)) ?_
      exact ⟨rfl, weak_fit (by rw [h3]; first | done | kernel_rfl)⟩
    ·
      have h3n : (implIsValidFile s_.1 a0) = true := bnot_f h3
      refine awp_split (decide (a0.1 ≥ s_.2.2)) (fun h4 => ?_) (fun h4 => ?_)
      ·
        have h4d := of_decide_eq_true h4
        refine rN tt_ok tt_mx [1, 2, 6, 7, 8, 40] [1] (pc 3 (cb h3n (implIsValidFile_a s_.1 a0)) (pe 4 (show .b (!true) = .b false from rfl) (pt 10 h4 p0))) ?_
        exact ⟨rfl, weak_fit (by rw [h3, h4]; first | done | kernel_rfl)⟩
      ·
        have h4d := of_decide_eq_false h4
        refine awp_split (decide (((k0 : Nat) : Int) > (0 : Int))) (fun h5 => ?_) (fun h5 => ?_)
        ·
          have h5d := of_decide_eq_true h5
          have hx6 := ng s_.2.1 (Int.toNat (((k0 : Nat) : Int) - 1))
          refine rN tt_ok tt_mx [1, 2, 6, 7, 8, 40] [1] (pc 3 (cb h3n (implIsValidFile_a s_.1 a0)) (pe 4 (show .b (!true) = .b false from rfl) (pf 10 h4 (pt 14 h5 (pe 19 (av_i (IntWalk.i64_in (((k0 : Nat) : Int) - 1) (by omega))) (pg 20 (((k0 : Nat) : Int) - 1) hx6 p0)))))) ?_
          exact ⟨rfl, weak_fit (by rw [h3, h4, h5]; first | done | kernel_rfl)⟩
        ·
          have h5d := of_decide_eq_false h5
          refine rN tt_ok tt_mx [1, 2, 6, 7, 8, 40] [1] (pc 3 (cb h3n (implIsValidFile_a s_.1 a0)) (pe 4 (show .b (!true) = .b false from rfl) (pf 10 h4 (pf 14 h5 p0)))) ?_
          exact ⟨rfl, weak_fit (by rw [h3, h4, h5]; first | done | kernel_rfl)⟩
    refine ck ((!(implIsValidFile s_.1 a0)) || (decide (a0.1 ≥ s_.2.2) || (decide (((k0 : Nat) : Int) > (0 : Int)) && decide ((nth s_.2.1 (Int.toNat (((k0 : Nat) : Int) - 1))).1 ≥ a0.1)))) (fun h7 => ?_) (fun h7 => ?_)
    ·
      refine su tt_ok [] [40] [] [] (p0) ?_
      refine awp_ret ?_
      have hr8 : (forL (implIsValidStore_f0 s_) implIsValidStore_e0 s_.2.1 0 ()) = .ret false := forL_ret hx0 (bif_t h7 (rfl)) hI0
      exact pb [] (on_r hr8)
    ·
      have h7l : ((!(implIsValidFile s_.1 a0))) = false := or_l h7
      have h7ln : (implIsValidFile s_.1 a0) = true := bnot_f h7l
      have h7r : ((decide (a0.1 ≥ s_.2.2) || (decide (((k0 : Nat) : Int) > (0 : Int)) && decide ((nth s_.2.1 (Int.toNat (((k0 : Nat) : Int) - 1))).1 ≥ a0.1)))) = false := or_r h7
      have h7rl : (decide (a0.1 ≥ s_.2.2)) = false := or_l h7r
      have h7rld := of_decide_eq_false h7rl
      have h7rr : ((decide (((k0 : Nat) : Int) > (0 : Int)) && decide ((nth s_.2.1 (Int.toNat (((k0 : Nat) : Int) - 1))).1 ≥ a0.1))) = false := or_r h7r
      refine awp_skip ?_
      refine rn tt_ok [1, 2, 6, 7, 8] [1] (pe 0 (av_i (wrap_succ k0 (by omega))) p0) ?_
      exact Exists.intro _ (And.intro (weak_fit (by kernel_rfl)) (forL_next hx0 (bif_f h7 (rfl)) hI0))
  ·
    refine sn tt_ok [1, 2, 6, 7, 8, 9] [1] (pe 0 (av_bool (decide_eq_false (p := ((k0 : Nat) : Int) < (s_.2.1.length : Int)) (by omega))) p0) ?_
    refine awp_seq ?_
    refine ckF ?_
    refine awp_exit ?_
    exact Exists.intro _ (And.intro (weak_fit (by kernel_rfl)) (forL_end hk0 (rfl) hI0))
  ·
    refine awp_seq ?_
    refine jn [(2, .b ((implIsValidSchema s_.1) && (decide ((s_.2.1.length : Int) ≤ (12 : Int)) && (implwithin s_.2.2 1 61))))] [1, 2] [] [1] (implIsValidSchema s_.1) (fun h9 => ?_) (fun h9 => ?_) ?_
    ·
      refine awp_split (decide ((s_.2.1.length : Int) ≤ (12 : Int))) (fun h10 => ?_) (fun h10 => ?_)
      ·
        have h10d := of_decide_eq_true h10
        refine rn tt_ok [2] [] (pc 2 (cb h9 (implIsValidSchema_a s_.1)) (pl 6 s_.2.1 (pt 7 h10 (pc 12 (implwithin_a s_.2.2 1 61) p0)))) ?_
        exact ⟨rfl, weak_fit (by rw [h9, h10]; first | done | kernel_rfl)⟩
      ·
        have h10d := of_decide_eq_false h10
        refine rn tt_ok [2] [] (pc 2 (cb h9 (implIsValidSchema_a s_.1)) (pl 6 s_.2.1 (pf 7 h10 p0))) ?_
        exact ⟨rfl, weak_fit (by rw [h9, h10]; first | done | kernel_rfl)⟩
    ·
      refine rn tt_ok [2] [] (pc 2 (cb h9 (implIsValidSchema_a s_.1)) p0) ?_
      exact ⟨rfl, weak_fit (by rw [h9]; first | done | kernel_rfl)⟩
    refine awp_ret ?_
    exact pb [] (on_b hD0 (rfl))
def specFieldKind_f0 (name : ByteArray) (_ : Nat) (a0 : FieldD) (_ : Unit) : Rd (Int) (Unit) (Unit) := (bif (a0.1.toList == name.toList) then (.ret a0.2) else (.next ()))
def specFieldKind_e0 (_ : Nat) (_ : Unit) : Unit := ()
def specFieldKind (s_ : (List FieldD)) (name : ByteArray) : Int := (Out.on (forL (specFieldKind_f0 name) specFieldKind_e0 s_ 0 ()) (fun _ => 0))
theorem specFieldKind_a (s_ : (List FieldD)) (name : ByteArray) : ACalls Tryz.prog 18 [.h s_, .s name] (.i (specFieldKind s_ name)) := by
  refine en tt_ok Tryz.func18 fun w0 F0 hG => ?_
  refine sn tt_ok [0, 1, 4] [] (p0) ?_
  refine awp_seq ?_
  refine tn tt_ok [0, 1, 4, 5] [] (p0) ?_
  refine mz [(4, .i 0), (5, .i 0)] [] [] [] ?_
  refine wT 0 0 .sh s_ (fun hw1 hl2 => ?_)
  refine blL0 (specFieldKind_f0 name) specFieldKind_e0 s_ () (fun k0 _ => [(5, .i ((k0 : Nat) : Int))]) [5] (fun _ => []) [0, 1, 5] (weak_fit (by kernel_rfl)) (fun k0 s0 hk0 hI0 => ?_) (fun k0 s0 hk0 hI0 => ?_) (fun y0 hD0 => ?_)
  ·
    obtain ⟨a0, hx0⟩ := get_some (l := s_) (i := k0) hk0
    refine awp_seq ?_
    refine sn tt_ok [0, 1, 4, 5, 9] [] (pl 2 s_ (pe 3 (av_bool (decide_eq_true (p := ((k0 : Nat) : Int) < (s_.length : Int)) (by omega))) p0)) ?_
    refine ckT ?_
    refine awp_skip ?_
    refine awp_seq ?_
    refine awp_block ?_
    refine tn tt_ok [0, 1, 4, 5, 18] [] (pn 2 hx0 p0) ?_
    refine ck (a0.1.toList == name.toList) (fun h3 => ?_) (fun h3 => ?_)
    ·
      refine tu tt_ok [(4, .i a0.2)] [4] [] [] (pn 2 hx0 p0) ?_
      refine awp_ret ?_
      have hr4 : (forL (specFieldKind_f0 name) specFieldKind_e0 s_ 0 ()) = .ret a0.2 := forL_ret hx0 (bif_t h3 (rfl)) hI0
      exact pi [] (on_r hr4)
    ·
      refine awp_skip ?_
      refine qu tt_ok [(5, .i ((k0 + 1 : Nat) : Int))] [5] [] [] (pe 1 (av_i (wrap_succ k0 (by omega))) p0) ?_
      exact Exists.intro _ (And.intro (weak_fit (by kernel_rfl)) (forL_next hx0 (bif_f h3 (rfl)) hI0))
  ·
    refine awp_seq ?_
    refine sn tt_ok [0, 1, 4, 5, 9] [] (pl 2 s_ (pe 3 (av_bool (decide_eq_false (p := ((k0 : Nat) : Int) < (s_.length : Int)) (by omega))) p0)) ?_
    refine ckF ?_
    refine awp_exit ?_
    exact Exists.intro _ (And.intro (weak_fit (by kernel_rfl)) (forL_end hk0 (rfl) hI0))
  ·
    refine sn tt_ok [4] [] (p0) ?_
    refine awp_ret ?_
    exact pi [] (on_b hD0 (rfl))
def specMatchesSchema (s_ : (List FieldD)) (name : ByteArray) (v : ValueD) : Bool := ((specIsValidValue v) && ((v.1 != (0 : Int)) && (v.1 == (specFieldKind s_ name))))
theorem specMatchesSchema_a (s_ : (List FieldD)) (name : ByteArray) (v : ValueD) : ACalls Tryz.prog 73 [.h s_, .s name, .a [.i v.1, .i v.2.1, .s v.2.2]] (.b (specMatchesSchema s_ name v)) := by
  refine en tt_ok Tryz.func73 fun w0 F0 hG => ?_
  refine sn tt_ok [0, 1, 5, 6] [5] (p0) ?_
  refine awp_seq ?_
  refine mz [(5, .p 5 0), (6, .b false)] [2] [(5, [.i v.1, .i v.2.1, .s v.2.2])] [] ?_
  refine jn [(6, .b ((specIsValidValue v) && ((v.1 != (0 : Int)) && (v.1 == (specFieldKind s_ name)))))] [0, 1, 5, 6] [] [5] (specIsValidValue v) (fun h1 => ?_) (fun h1 => ?_) ?_
  ·
    refine awp_split (v.1 != (0 : Int)) (fun h2 => ?_) (fun h2 => ?_)
    ·
      have h2d := ne_of_bne h2
      refine rN tt_ok tt_mx [6] [] (pc 1 (cb h1 (specIsValidValue_a v)) (pt 5 h2 (pc 12 (specFieldKind_a s_ name) p0))) ?_
      exact ⟨rfl, weak_fit (by rw [h1, h2]; first | done | kernel_rfl)⟩
    ·
      have h2d := eq_of_bne h2
      refine rN tt_ok tt_mx [6] [] (pc 1 (cb h1 (specIsValidValue_a v)) (pf 5 h2 p0)) ?_
      exact ⟨rfl, weak_fit (by rw [h1, h2]; first | done | kernel_rfl)⟩
  ·
    refine rN tt_ok tt_mx [6] [] (pc 1 (cb h1 (specIsValidValue_a v)) p0) ?_
    exact ⟨rfl, weak_fit (by rw [h1]; first | done | kernel_rfl)⟩
  refine awp_ret ?_
  exact pb [] (show specMatchesSchema s_ name v = ((specIsValidValue v) && ((v.1 != (0 : Int)) && (v.1 == (specFieldKind s_ name)))) from rfl)
def specIsValidSchema_f0 (s_ : (List FieldD)) (k0 : Nat) (a0 : FieldD) (_ : Unit) : Rd (Bool) (Unit) (Unit) := (bif ((!(specIsValidAttrName a0.1)) || ((!(specl01In a0.2 1 2)) || (decide (((k0 : Nat) : Int) > (0 : Int)) && (!(Op.bytesLess ((nth s_ (Int.toNat (((k0 : Nat) : Int) - 1))).1).toList a0.1.toList))))) then (.ret false) else (.next ()))
def specIsValidSchema_e0 (_ : Nat) (_ : Unit) : Unit := ()
def specIsValidSchema (s_ : (List FieldD)) : Bool := (Out.on (forL (specIsValidSchema_f0 s_) specIsValidSchema_e0 s_ 0 ()) (fun _ => decide ((s_.length : Int) ≤ (5 : Int))))
theorem specIsValidSchema_a (s_ : (List FieldD)) : ACalls Tryz.prog 41 [.h s_] (.b (specIsValidSchema s_)) := by
  refine en tt_ok Tryz.func41 fun w0 F0 hG => ?_
  refine sn tt_ok [0, 2] [] (p0) ?_
  refine awp_seq ?_
  refine tn tt_ok [0, 2, 3] [] (p0) ?_
  refine mz [(2, .b false), (3, .i 0)] [] [] [] ?_
  refine wT 0 0 .sh s_ (fun hw1 hl2 => ?_)
  refine blL0 (specIsValidSchema_f0 s_) specIsValidSchema_e0 s_ () (fun k0 _ => [(3, .i ((k0 : Nat) : Int))]) [3] (fun _ => []) [3] (weak_fit (by kernel_rfl)) (fun k0 s0 hk0 hI0 => ?_) (fun k0 s0 hk0 hI0 => ?_) (fun y0 hD0 => ?_)
  ·
    obtain ⟨a0, hx0⟩ := get_some (l := s_) (i := k0) hk0
    refine awp_seq ?_
    refine sn tt_ok [0, 2, 3, 7] [] (pl 2 s_ (pe 3 (av_bool (decide_eq_true (p := ((k0 : Nat) : Int) < (s_.length : Int)) (by omega))) p0)) ?_
    refine ckT ?_
    refine awp_skip ?_
    refine awp_seq ?_
    refine awp_block ?_
    refine awp_seq ?_
    refine mz [(7, .b true)] [] [] [] ?_
    refine jn [(43, .b ((!(specIsValidAttrName a0.1)) || ((!(specl01In a0.2 1 2)) || (decide (((k0 : Nat) : Int) > (0 : Int)) && (!(Op.bytesLess ((nth s_ (Int.toNat (((k0 : Nat) : Int) - 1))).1).toList a0.1.toList))))))] [7] [] [] (!(specIsValidAttrName a0.1)) (fun h3 => ?_) (fun h3 => ?_) ?_
    ·
      have h3n : (specIsValidAttrName a0.1) = false := bnot_t h3
      refine rN tt_ok tt_mx [0, 2, 3, 43] [] (pn 2 hx0 (pc 5 (cb h3n (specIsValidAttrName_a a0.1)) (pe 6 (show .b (!false) = .b true from rfl) p0))) ?_
      exact ⟨rfl, weak_fit (by rw [h3]; first | done | kernel_rfl)⟩
    ·
      have h3n : (specIsValidAttrName a0.1) = true := bnot_f h3
      refine awp_split (!(specl01In a0.2 1 2)) (fun h4 => ?_) (fun h4 => ?_)
      ·
        have h4n : (specl01In a0.2 1 2) = false := bnot_t h4
        refine rN tt_ok tt_mx [0, 2, 3, 43] [] (pn 2 hx0 (pc 5 (cb h3n (specIsValidAttrName_a a0.1)) (pe 6 (show .b (!true) = .b false from rfl) (pn 10 hx0 (pc 13 (cb h4n (specl01In_a a0.2 1 2)) (pe 14 (show .b (!false) = .b true from rfl) p0)))))) ?_
        exact ⟨rfl, weak_fit (by rw [h3, h4]; first | done | kernel_rfl)⟩
      ·
        have h4n : (specl01In a0.2 1 2) = true := bnot_f h4
        have h4nw := l01In_iff.1 h4n
        refine awp_split (decide (((k0 : Nat) : Int) > (0 : Int))) (fun h5 => ?_) (fun h5 => ?_)
        ·
          have h5d := of_decide_eq_true h5
          have hx6 := ng s_ (Int.toNat (((k0 : Nat) : Int) - 1))
          refine rN tt_ok tt_mx [0, 2, 3, 43] [] (pn 2 hx0 (pc 5 (cb h3n (specIsValidAttrName_a a0.1)) (pe 6 (show .b (!true) = .b false from rfl) (pn 10 hx0 (pc 13 (cb h4n (specl01In_a a0.2 1 2)) (pe 14 (show .b (!true) = .b false from rfl) (pt 18 h5 (pe 22 (av_i (IntWalk.i64_in (((k0 : Nat) : Int) - 1) (by omega))) (pg 23 (((k0 : Nat) : Int) - 1) hx6 (pn 28 hx0 p0)))))))))) ?_
          exact ⟨rfl, weak_fit (by rw [h3, h4, h5]; first | done | kernel_rfl)⟩
        ·
          have h5d := of_decide_eq_false h5
          refine rN tt_ok tt_mx [0, 2, 3, 43] [] (pn 2 hx0 (pc 5 (cb h3n (specIsValidAttrName_a a0.1)) (pe 6 (show .b (!true) = .b false from rfl) (pn 10 hx0 (pc 13 (cb h4n (specl01In_a a0.2 1 2)) (pe 14 (show .b (!true) = .b false from rfl) (pf 18 h5 p0))))))) ?_
          exact ⟨rfl, weak_fit (by rw [h3, h4, h5]; first | done | kernel_rfl)⟩
    refine ck ((!(specIsValidAttrName a0.1)) || ((!(specl01In a0.2 1 2)) || (decide (((k0 : Nat) : Int) > (0 : Int)) && (!(Op.bytesLess ((nth s_ (Int.toNat (((k0 : Nat) : Int) - 1))).1).toList a0.1.toList))))) (fun h7 => ?_) (fun h7 => ?_)
    ·
      refine sn tt_ok [0, 2, 3] [] (p0) ?_
      refine awp_ret ?_
      have hr8 : (forL (specIsValidSchema_f0 s_) specIsValidSchema_e0 s_ 0 ()) = .ret false := forL_ret hx0 (bif_t h7 (rfl)) hI0
      exact pb [] (on_r hr8)
    ·
      have h7l : ((!(specIsValidAttrName a0.1))) = false := or_l h7
      have h7ln : (specIsValidAttrName a0.1) = true := bnot_f h7l
      have h7r : (((!(specl01In a0.2 1 2)) || (decide (((k0 : Nat) : Int) > (0 : Int)) && (!(Op.bytesLess ((nth s_ (Int.toNat (((k0 : Nat) : Int) - 1))).1).toList a0.1.toList))))) = false := or_r h7
      have h7rl : ((!(specl01In a0.2 1 2))) = false := or_l h7r
      have h7rln : (specl01In a0.2 1 2) = true := bnot_f h7rl
      have h7rlnw := l01In_iff.1 h7rln
      have h7rr : ((decide (((k0 : Nat) : Int) > (0 : Int)) && (!(Op.bytesLess ((nth s_ (Int.toNat (((k0 : Nat) : Int) - 1))).1).toList a0.1.toList)))) = false := or_r h7r
      refine awp_skip ?_
      refine rn tt_ok [0, 2, 3] [] (pe 1 (av_i (wrap_succ k0 (by omega))) p0) ?_
      exact Exists.intro _ (And.intro (weak_fit (by kernel_rfl)) (forL_next hx0 (bif_f h7 (rfl)) hI0))
  ·
    refine awp_seq ?_
    refine sn tt_ok [0, 2, 3, 7] [] (pl 2 s_ (pe 3 (av_bool (decide_eq_false (p := ((k0 : Nat) : Int) < (s_.length : Int)) (by omega))) p0)) ?_
    refine ckF ?_
    refine awp_exit ?_
    exact Exists.intro _ (And.intro (weak_fit (by kernel_rfl)) (forL_end hk0 (rfl) hI0))
  ·
    refine sn tt_ok [2] [] (pl 1 s_ p0) ?_
    refine awp_ret ?_
    exact pb [] (on_b hD0 (rfl))
def specIsValidFile_f0 (s_ : (List FieldD)) (f : FileD) (k0 : Nat) (a0 : AttrD) (_ : Unit) : Rd (Bool) (Unit) (Unit) := (bif ((!(specMatchesSchema s_ a0.1 a0.2)) || (decide (((k0 : Nat) : Int) > (0 : Int)) && (!(Op.bytesLess ((nth f.2.2.2.2 (Int.toNat (((k0 : Nat) : Int) - 1))).1).toList a0.1.toList)))) then (.ret false) else (.next ()))
def specIsValidFile_e0 (_ : Nat) (_ : Unit) : Unit := ()
def specIsValidFile (s_ : (List FieldD)) (f : FileD) : Bool := (Out.on (forL (specIsValidFile_f0 s_ f) specIsValidFile_e0 f.2.2.2.2 0 ()) (fun _ => ((specIsValidSchema s_) && ((specl01In f.1 1 60) && ((specl01In f.2.1 0 2) && (specl01In f.2.2.2.1 0 60))))))
theorem specIsValidFile_a (s_ : (List FieldD)) (f : FileD) : ACalls Tryz.prog 40 [.h s_, .a [.i f.1, .i f.2.1, .b f.2.2.1, .i f.2.2.2.1, .h f.2.2.2.2]] (.b (specIsValidFile s_ f)) := by
  refine en tt_ok Tryz.func40 fun w0 F0 hG => ?_
  refine sn tt_ok [0, 3, 4] [3] (p0) ?_
  refine awp_seq ?_
  refine tn tt_ok [0, 3, 4, 5] [3] (p0) ?_
  refine mz [(3, .p 3 0), (4, .b false), (5, .i 0)] [1] [(3, [.i f.1, .i f.2.1, .b f.2.2.1, .i f.2.2.2.1, .h f.2.2.2.2])] [] ?_
  refine wB 3 4 .sh f.2.2.2.2 (fun hw1 hl2 => ?_)
  refine blL0 (specIsValidFile_f0 s_ f) specIsValidFile_e0 f.2.2.2.2 () (fun k0 _ => [(5, .i ((k0 : Nat) : Int))]) [5] (fun _ => []) [5] (weak_fit (by kernel_rfl)) (fun k0 s0 hk0 hI0 => ?_) (fun k0 s0 hk0 hI0 => ?_) (fun y0 hD0 => ?_)
  ·
    obtain ⟨a0, hx0⟩ := get_some (l := f.2.2.2.2) (i := k0) hk0
    refine awp_seq ?_
    refine sn tt_ok [0, 3, 4, 5, 10] [3] (pl 3 f.2.2.2.2 (pe 4 (av_bool (decide_eq_true (p := ((k0 : Nat) : Int) < (f.2.2.2.2.length : Int)) (by omega))) p0)) ?_
    refine ckT ?_
    refine awp_skip ?_
    refine awp_seq ?_
    refine awp_block ?_
    refine awp_seq ?_
    refine mz [(10, .b true)] [] [] [] ?_
    refine jn [(47, .b ((!(specMatchesSchema s_ a0.1 a0.2)) || (decide (((k0 : Nat) : Int) > (0 : Int)) && (!(Op.bytesLess ((nth f.2.2.2.2 (Int.toNat (((k0 : Nat) : Int) - 1))).1).toList a0.1.toList)))))] [10] [] [] (!(specMatchesSchema s_ a0.1 a0.2)) (fun h3 => ?_) (fun h3 => ?_) ?_
    ·
      have h3n : (specMatchesSchema s_ a0.1 a0.2) = false := bnot_t h3
      refine rN tt_ok tt_mx [0, 3, 4, 5, 47] [3] (pn 4 hx0 (pn 10 hx0 (pc 13 (cb h3n (specMatchesSchema_a s_ a0.1 a0.2)) (pe 14 (show .b (!false) = .b true from rfl) p0)))) ?_
      exact ⟨rfl, weak_fit (by rw [h3]; first | done | kernel_rfl)⟩
    ·
      have h3n : (specMatchesSchema s_ a0.1 a0.2) = true := bnot_f h3
      refine awp_split (decide (((k0 : Nat) : Int) > (0 : Int))) (fun h4 => ?_) (fun h4 => ?_)
      ·
        have h4d := of_decide_eq_true h4
        have hx5 := ng f.2.2.2.2 (Int.toNat (((k0 : Nat) : Int) - 1))
        refine rN tt_ok tt_mx [0, 3, 4, 5, 47] [3] (pn 4 hx0 (pn 10 hx0 (pc 13 (cb h3n (specMatchesSchema_a s_ a0.1 a0.2)) (pe 14 (show .b (!true) = .b false from rfl) (pt 17 h4 (pe 22 (av_i (IntWalk.i64_in (((k0 : Nat) : Int) - 1) (by omega))) (pg 23 (((k0 : Nat) : Int) - 1) hx5 (pn 29 hx0 p0)))))))) ?_
        exact ⟨rfl, weak_fit (by rw [h3, h4]; first | done | kernel_rfl)⟩
      ·
        have h4d := of_decide_eq_false h4
        refine rN tt_ok tt_mx [0, 3, 4, 5, 47] [3] (pn 4 hx0 (pn 10 hx0 (pc 13 (cb h3n (specMatchesSchema_a s_ a0.1 a0.2)) (pe 14 (show .b (!true) = .b false from rfl) (pf 17 h4 p0))))) ?_
        exact ⟨rfl, weak_fit (by rw [h3, h4]; first | done | kernel_rfl)⟩
    refine ck ((!(specMatchesSchema s_ a0.1 a0.2)) || (decide (((k0 : Nat) : Int) > (0 : Int)) && (!(Op.bytesLess ((nth f.2.2.2.2 (Int.toNat (((k0 : Nat) : Int) - 1))).1).toList a0.1.toList)))) (fun h6 => ?_) (fun h6 => ?_)
    ·
      refine su tt_ok [] [47] [] [] (p0) ?_
      refine awp_ret ?_
      have hr7 : (forL (specIsValidFile_f0 s_ f) specIsValidFile_e0 f.2.2.2.2 0 ()) = .ret false := forL_ret hx0 (bif_t h6 (rfl)) hI0
      exact pb [] (on_r hr7)
    ·
      have h6l : ((!(specMatchesSchema s_ a0.1 a0.2))) = false := or_l h6
      have h6ln : (specMatchesSchema s_ a0.1 a0.2) = true := bnot_f h6l
      have h6r : ((decide (((k0 : Nat) : Int) > (0 : Int)) && (!(Op.bytesLess ((nth f.2.2.2.2 (Int.toNat (((k0 : Nat) : Int) - 1))).1).toList a0.1.toList)))) = false := or_r h6
      refine awp_skip ?_
      refine rn tt_ok [0, 3, 4, 5] [3] (pe 1 (av_i (wrap_succ k0 (by omega))) p0) ?_
      exact Exists.intro _ (And.intro (weak_fit (by kernel_rfl)) (forL_next hx0 (bif_f h6 (rfl)) hI0))
  ·
    refine awp_seq ?_
    refine sn tt_ok [0, 3, 4, 5, 10] [3] (pl 3 f.2.2.2.2 (pe 4 (av_bool (decide_eq_false (p := ((k0 : Nat) : Int) < (f.2.2.2.2.length : Int)) (by omega))) p0)) ?_
    refine ckF ?_
    refine awp_exit ?_
    exact Exists.intro _ (And.intro (weak_fit (by kernel_rfl)) (forL_end hk0 (rfl) hI0))
  ·
    refine awp_seq ?_
    refine jn [(4, .b ((specIsValidSchema s_) && ((specl01In f.1 1 60) && ((specl01In f.2.1 0 2) && (specl01In f.2.2.2.1 0 60)))))] [0, 3, 4] [] [3] (specIsValidSchema s_) (fun h8 => ?_) (fun h8 => ?_) ?_
    ·
      refine awp_split (specl01In f.1 1 60) (fun h9 => ?_) (fun h9 => ?_)
      ·
        have h9w := l01In_iff.1 h9
        refine awp_split (specl01In f.2.1 0 2) (fun h10 => ?_) (fun h10 => ?_)
        ·
          have h10w := l01In_iff.1 h10
          refine rn tt_ok [4] [] (pc 1 (cb h8 (specIsValidSchema_a s_)) (pc 5 (cb h9 (specl01In_a f.1 1 60)) (pc 10 (cb h10 (specl01In_a f.2.1 0 2)) (pc 15 (specl01In_a f.2.2.2.1 0 60) p0)))) ?_
          exact ⟨rfl, weak_fit (by rw [h8, h9, h10]; first | done | kernel_rfl)⟩
        ·
          refine rn tt_ok [4] [] (pc 1 (cb h8 (specIsValidSchema_a s_)) (pc 5 (cb h9 (specl01In_a f.1 1 60)) (pc 10 (cb h10 (specl01In_a f.2.1 0 2)) p0))) ?_
          exact ⟨rfl, weak_fit (by rw [h8, h9, h10]; first | done | kernel_rfl)⟩
      ·
        refine rn tt_ok [4] [] (pc 1 (cb h8 (specIsValidSchema_a s_)) (pc 5 (cb h9 (specl01In_a f.1 1 60)) p0)) ?_
        exact ⟨rfl, weak_fit (by rw [h8, h9]; first | done | kernel_rfl)⟩
    ·
      refine rn tt_ok [4] [] (pc 1 (cb h8 (specIsValidSchema_a s_)) p0) ?_
      exact ⟨rfl, weak_fit (by rw [h8]; first | done | kernel_rfl)⟩
    refine awp_ret ?_
    exact pb [] (on_b hD0 (rfl))
def specIsValidStore_f0 (s_ : StoreD) (k0 : Nat) (a0 : FileD) (_ : Unit) : Rd (Bool) (Unit) (Unit) := (bif ((!(specIsValidFile s_.1 a0)) || (decide (a0.1 ≥ s_.2.2) || (decide (((k0 : Nat) : Int) > (0 : Int)) && decide ((nth s_.2.1 (Int.toNat (((k0 : Nat) : Int) - 1))).1 ≥ a0.1)))) then (.ret false) else (.next ()))
def specIsValidStore_e0 (_ : Nat) (_ : Unit) : Unit := ()
def specIsValidStore (s_ : StoreD) : Bool := (Out.on (forL (specIsValidStore_f0 s_) specIsValidStore_e0 s_.2.1 0 ()) (fun _ => ((specIsValidSchema s_.1) && (decide ((s_.2.1.length : Int) ≤ (12 : Int)) && (specl01In s_.2.2 1 61)))))
theorem specIsValidStore_a (s_ : StoreD) : ACalls Tryz.prog 17 [.a [.h s_.1, .h s_.2.1, .i s_.2.2]] (.b (specIsValidStore s_)) := by
  refine en tt_ok Tryz.func17 fun w0 F0 hG => ?_
  refine sn tt_ok [1, 2] [1] (p0) ?_
  refine awp_seq ?_
  refine tn tt_ok [1, 2, 3] [1] (p0) ?_
  refine mz [(1, .p 1 0), (2, .b false), (3, .i 0)] [0] [(1, [.h s_.1, .h s_.2.1, .i s_.2.2])] [] ?_
  refine wB 1 1 .sh s_.2.1 (fun hw1 hl2 => ?_)
  refine blL0 (specIsValidStore_f0 s_) specIsValidStore_e0 s_.2.1 () (fun k0 _ => [(3, .i ((k0 : Nat) : Int))]) [3] (fun _ => []) [3] (weak_fit (by kernel_rfl)) (fun k0 s0 hk0 hI0 => ?_) (fun k0 s0 hk0 hI0 => ?_) (fun y0 hD0 => ?_)
  ·
    obtain ⟨a0, hx0⟩ := get_some (l := s_.2.1) (i := k0) hk0
    refine awp_seq ?_
    refine sn tt_ok [1, 2, 3, 8] [1] (pl 3 s_.2.1 (pe 4 (av_bool (decide_eq_true (p := ((k0 : Nat) : Int) < (s_.2.1.length : Int)) (by omega))) p0)) ?_
    refine ckT ?_
    refine awp_skip ?_
    refine awp_seq ?_
    refine awp_block ?_
    refine awp_seq ?_
    refine mz [(8, .b true)] [] [] [] ?_
    refine jn [(50, .b ((!(specIsValidFile s_.1 a0)) || (decide (a0.1 ≥ s_.2.2) || (decide (((k0 : Nat) : Int) > (0 : Int)) && decide ((nth s_.2.1 (Int.toNat (((k0 : Nat) : Int) - 1))).1 ≥ a0.1)))))] [8] [] [] (!(specIsValidFile s_.1 a0)) (fun h3 => ?_) (fun h3 => ?_) ?_
    ·
      have h3n : (specIsValidFile s_.1 a0) = false := bnot_t h3
      refine rN tt_ok tt_mx [1, 2, 3, 50] [1] (pn 5 hx0 (pc 7 (cb h3n (specIsValidFile_a s_.1 a0)) (pe 8 (show .b (!false) = .b true from rfl) p0))) ?_
      exact ⟨rfl, weak_fit (by rw [h3]; first | done | kernel_rfl)⟩
    ·
      have h3n : (specIsValidFile s_.1 a0) = true := bnot_f h3
      refine awp_split (decide (a0.1 ≥ s_.2.2)) (fun h4 => ?_) (fun h4 => ?_)
      ·
        have h4d := of_decide_eq_true h4
        refine rN tt_ok tt_mx [1, 2, 3, 50] [1] (pn 5 hx0 (pc 7 (cb h3n (specIsValidFile_a s_.1 a0)) (pe 8 (show .b (!true) = .b false from rfl) (pn 13 hx0 (pt 18 h4 p0))))) ?_
        exact ⟨rfl, weak_fit (by rw [h3, h4]; first | done | kernel_rfl)⟩
      ·
        have h4d := of_decide_eq_false h4
        refine awp_split (decide (((k0 : Nat) : Int) > (0 : Int))) (fun h5 => ?_) (fun h5 => ?_)
        ·
          have h5d := of_decide_eq_true h5
          have hx6 := ng s_.2.1 (Int.toNat (((k0 : Nat) : Int) - 1))
          refine rN tt_ok tt_mx [1, 2, 3, 50] [1] (pn 5 hx0 (pc 7 (cb h3n (specIsValidFile_a s_.1 a0)) (pe 8 (show .b (!true) = .b false from rfl) (pn 13 hx0 (pf 18 h4 (pt 22 h5 (pe 27 (av_i (IntWalk.i64_in (((k0 : Nat) : Int) - 1) (by omega))) (pg 28 (((k0 : Nat) : Int) - 1) hx6 (pn 34 hx0 p0))))))))) ?_
          exact ⟨rfl, weak_fit (by rw [h3, h4, h5]; first | done | kernel_rfl)⟩
        ·
          have h5d := of_decide_eq_false h5
          refine rN tt_ok tt_mx [1, 2, 3, 50] [1] (pn 5 hx0 (pc 7 (cb h3n (specIsValidFile_a s_.1 a0)) (pe 8 (show .b (!true) = .b false from rfl) (pn 13 hx0 (pf 18 h4 (pf 22 h5 p0)))))) ?_
          exact ⟨rfl, weak_fit (by rw [h3, h4, h5]; first | done | kernel_rfl)⟩
    refine ck ((!(specIsValidFile s_.1 a0)) || (decide (a0.1 ≥ s_.2.2) || (decide (((k0 : Nat) : Int) > (0 : Int)) && decide ((nth s_.2.1 (Int.toNat (((k0 : Nat) : Int) - 1))).1 ≥ a0.1)))) (fun h7 => ?_) (fun h7 => ?_)
    ·
      refine su tt_ok [] [50] [] [] (p0) ?_
      refine awp_ret ?_
      have hr8 : (forL (specIsValidStore_f0 s_) specIsValidStore_e0 s_.2.1 0 ()) = .ret false := forL_ret hx0 (bif_t h7 (rfl)) hI0
      exact pb [] (on_r hr8)
    ·
      have h7l : ((!(specIsValidFile s_.1 a0))) = false := or_l h7
      have h7ln : (specIsValidFile s_.1 a0) = true := bnot_f h7l
      have h7r : ((decide (a0.1 ≥ s_.2.2) || (decide (((k0 : Nat) : Int) > (0 : Int)) && decide ((nth s_.2.1 (Int.toNat (((k0 : Nat) : Int) - 1))).1 ≥ a0.1)))) = false := or_r h7
      have h7rl : (decide (a0.1 ≥ s_.2.2)) = false := or_l h7r
      have h7rld := of_decide_eq_false h7rl
      have h7rr : ((decide (((k0 : Nat) : Int) > (0 : Int)) && decide ((nth s_.2.1 (Int.toNat (((k0 : Nat) : Int) - 1))).1 ≥ a0.1))) = false := or_r h7r
      refine awp_skip ?_
      refine rn tt_ok [1, 2, 3] [1] (pe 1 (av_i (wrap_succ k0 (by omega))) p0) ?_
      exact Exists.intro _ (And.intro (weak_fit (by kernel_rfl)) (forL_next hx0 (bif_f h7 (rfl)) hI0))
  ·
    refine awp_seq ?_
    refine sn tt_ok [1, 2, 3, 8] [1] (pl 3 s_.2.1 (pe 4 (av_bool (decide_eq_false (p := ((k0 : Nat) : Int) < (s_.2.1.length : Int)) (by omega))) p0)) ?_
    refine ckF ?_
    refine awp_exit ?_
    exact Exists.intro _ (And.intro (weak_fit (by kernel_rfl)) (forL_end hk0 (rfl) hI0))
  ·
    refine awp_seq ?_
    refine jn [(2, .b ((specIsValidSchema s_.1) && (decide ((s_.2.1.length : Int) ≤ (12 : Int)) && (specl01In s_.2.2 1 61))))] [1, 2] [] [1] (specIsValidSchema s_.1) (fun h9 => ?_) (fun h9 => ?_) ?_
    ·
      refine awp_split (decide ((s_.2.1.length : Int) ≤ (12 : Int))) (fun h10 => ?_) (fun h10 => ?_)
      ·
        have h10d := of_decide_eq_true h10
        refine rn tt_ok [2] [] (pc 2 (cb h9 (specIsValidSchema_a s_.1)) (pl 6 s_.2.1 (pt 7 h10 (pc 12 (specl01In_a s_.2.2 1 61) p0)))) ?_
        exact ⟨rfl, weak_fit (by rw [h9, h10]; first | done | kernel_rfl)⟩
      ·
        have h10d := of_decide_eq_false h10
        refine rn tt_ok [2] [] (pc 2 (cb h9 (specIsValidSchema_a s_.1)) (pl 6 s_.2.1 (pf 7 h10 p0))) ?_
        exact ⟨rfl, weak_fit (by rw [h9, h10]; first | done | kernel_rfl)⟩
    ·
      refine rn tt_ok [2] [] (pc 2 (cb h9 (specIsValidSchema_a s_.1)) p0) ?_
      exact ⟨rfl, weak_fit (by rw [h9]; first | done | kernel_rfl)⟩
    refine awp_ret ?_
    exact pb [] (on_b hD0 (rfl))
theorem kind_eq (s : List FieldD) (n : ByteArray) : specFieldKind s n = implFieldKind s n := rfl
theorem matchSchema_eq (s : List FieldD) (n : ByteArray) (v : ValueD) : specMatchesSchema s n v = implMatchesSchema s n v := by
  unfold specMatchesSchema implMatchesSchema
  rw [vval_eq, kind_eq]
theorem schema_eq (s : List FieldD) : specIsValidSchema s = implIsValidSchema s := by
  unfold specIsValidSchema implIsValidSchema
  rw [forL_ext (f := specIsValidSchema_f0 s) (g := implIsValidSchema_f0 s) (e := specIsValidSchema_e0) (e' := implIsValidSchema_e0) (fun k a u => by
    unfold specIsValidSchema_f0 implIsValidSchema_f0
    rw [vname_eq]
    have h : (!(specl01In a.2 1 2)) = ((a.2 != 1) && (a.2 != 2)) := by
      unfold specl01In
      rw [Bool.eq_iff_iff]; simp; omega
    rw [h]
    generalize (!(Op.bytesLess ((nth s (Int.toNat (((k : Nat) : Int) - 1))).1).toList a.1.toList)) = x
    cases specIsValidAttrName a.1 <;> cases (a.2 != (1 : Int)) <;> cases (a.2 != (2 : Int)) <;> cases decide (((k : Nat) : Int) > (0 : Int)) <;> cases x <;> rfl) (fun _ _ => rfl)]
theorem file_eq (s : List FieldD) (f : FileD) : specIsValidFile s f = implIsValidFile s f := by
  unfold specIsValidFile implIsValidFile
  rw [forL_ext (f := specIsValidFile_f0 s f) (g := implIsValidFile_f0 s f) (e := specIsValidFile_e0) (e' := implIsValidFile_e0) (fun k a u => by
    unfold specIsValidFile_f0 implIsValidFile_f0
    rw [matchSchema_eq]
    generalize (!(Op.bytesLess ((nth f.2.2.2.2 (Int.toNat (((k : Nat) : Int) - 1))).1).toList a.1.toList)) = x
    cases implMatchesSchema s a.1 a.2 <;> cases decide (((k : Nat) : Int) > (0 : Int)) <;> cases x <;> rfl) (fun _ _ => rfl), schema_eq]
  congr 1
  funext y
  unfold implisUser
  simp only [← within_in]
  cases implIsValidSchema s <;> cases implwithin f.1 1 60 <;> cases implwithin f.2.1 0 2 <;> cases implwithin f.2.2.2.1 0 60 <;> rfl
theorem store_eq (s : StoreD) : specIsValidStore s = implIsValidStore s := by
  unfold specIsValidStore implIsValidStore
  rw [forL_ext (f := specIsValidStore_f0 s) (g := implIsValidStore_f0 s) (e := specIsValidStore_e0) (e' := implIsValidStore_e0) (fun k a u => by
    unfold specIsValidStore_f0 implIsValidStore_f0
    rw [file_eq]) (fun _ _ => rfl), schema_eq]
  rfl
open GoE (enc wide)
end Go.Proofs.YtdakhddpcfimaaaGreatDoor
namespace Go.Proofs.YtdakhddpcfimaaaGreatDoor
section
variable {φ : Type} (fs : List φ) (idOf : φ → Int)
def sel (p : φ → Bool) : List Int := (fs.filter p).map idOf
theorem filter_grow {p q : φ → Bool} : ∀ (l : List φ), (∀ f, f ∈ l → p f = true → q f = true) → (l.filter p).length ≤ (l.filter q).length ∧ ((l.filter q).length ≤ (l.filter p).length → l.filter p = l.filter q)
  | [], _ => ⟨Nat.le_refl _, fun _ => rfl⟩
  | f :: l, h => by
    obtain ⟨h1, h2⟩ := filter_grow l fun g hg => h g (List.mem_cons_of_mem _ hg)
    have h0 := h f (List.mem_cons_self ..)
    cases hp : p f with
    | true =>
      have hq := h0 hp
      simp only [List.filter_cons, hp, hq, if_true, List.length_cons]
      exact ⟨by omega, fun hl => by rw [h2 (by omega)]⟩
    | false =>
      cases hq : q f with
      | true =>
        simp only [List.filter_cons, hp, hq, if_true, List.length_cons, Bool.false_eq_true, if_false]
        exact ⟨by omega, fun hl => absurd hl (by omega)⟩
      | false =>
        simp only [List.filter_cons, hp, hq, Bool.false_eq_true, if_false]
        exact ⟨h1, h2⟩
theorem sel_len (p : φ → Bool) : (sel fs idOf p).length ≤ fs.length := by
  unfold sel; rw [List.length_map]; exact List.length_filter_le _ _
variable {fs idOf}
theorem sel_grow {p q : φ → Bool} (h : ∀ f, f ∈ fs → p f = true → q f = true) (hn : sel fs idOf p ≠ sel fs idOf q) : (sel fs idOf p).length + 1 ≤ (sel fs idOf q).length := by
  obtain ⟨h1, h2⟩ := filter_grow fs h
  unfold sel at hn ⊢
  rw [List.length_map, List.length_map]
  refine Nat.lt_of_le_of_ne h1 fun e => hn ?_
  rw [h2 (by omega)]
theorem sel_sub {p q : φ → Bool} (h : ∀ f, f ∈ fs → p f = true → q f = true) {x : Int} (hx : x ∈ sel fs idOf p) : x ∈ sel fs idOf q := by
  unfold sel at hx ⊢
  obtain ⟨f, hf, rfl⟩ := List.mem_map.1 hx
  obtain ⟨h1, h2⟩ := List.mem_filter.1 hf
  exact List.mem_map.2 ⟨f, List.mem_filter.2 ⟨h1, h f h1 h2⟩, rfl⟩
end
abbrev CD := ByteArray × List Int
def putC (out : List CD) (k : Nat) (ids : List Int) : List CD := out.set k ((nth out k).1, ids)
theorem nth_setC {out : List CD} {k : Nat} (x : CD) (hk : k < out.length) (j : Nat) : nth (out.set k x) j = if j = k then x else nth out j := by
  unfold nth
  simp only [List.getD_eq_getElem?_getD, List.getElem?_set]
  by_cases h : k = j
  · subst h; simp [hk]
  · simp [h, Ne.symm h]
theorem nth_map1 {out : List CD} {k : Nat} (hk : k < out.length) : nth (out.map (·.1)) k = (nth out k).1 := by
  simp [nth, List.getD, hk]
theorem putC_names {out : List CD} {k : Nat} (ids : List Int) (hk : k < out.length) : (putC out k ids).map (·.1) = out.map (·.1) := by
  unfold putC
  rw [List.map_set]
  refine List.ext_getElem (by simp) fun i h1 h2 => ?_
  rw [List.getElem_set]
  split
  · rename_i h; subst h; simp [nth, List.getD, hk]
  · rfl
def room (B : Nat) (act : Nat → Bool) : Nat → List CD → Nat
  | _, [] => 0
  | k, r :: l => (bif act k then B - r.2.length else 0) + room B act (k + 1) l
theorem room_le (B : Nat) (act : Nat → Bool) : ∀ (l : List CD) (k : Nat), room B act k l ≤ l.length * B
  | [], k => by simp [room]
  | r :: l, k => by
    have := room_le B act l (k + 1)
    simp only [room, List.length_cons, Nat.add_mul, Nat.one_mul]
    cases act k with
    | true => simp only [cond_true]; omega
    | false => simp only [cond_false]; omega
theorem room_set (B : Nat) (act : Nat → Bool) (x : CD) : ∀ (l : List CD) (k i : Nat), i < l.length → act (k + i) = true → (nth l i).2.length + 1 ≤ x.2.length → x.2.length ≤ B → room B act k (l.set i x) + 1 ≤ room B act k l
  | [], k, i, hi, _, _, _ => by simp at hi
  | r :: l, k, 0, _, ha, h1, h2 => by
    have e : nth (r :: l) 0 = r := rfl
    rw [e] at h1
    rw [Nat.add_zero] at ha
    simp only [List.set, room, ha, cond_true]
    omega
  | r :: l, k, i + 1, hi, ha, h1, h2 => by
    have := room_set B act x l (k + 1) i (by simpa using hi) (by rwa [show k + 1 + i = k + (i + 1) by omega]) h1 h2
    simp only [List.set, room]
    omega
section
variable {φ : Type} {fs : List φ} {idOf : φ → Int} (m : Nat → List CD → φ → Bool) (act : Nat → Bool)
def LeC (a b : List CD) : Prop := ∀ j, (∀ x, x ∈ (nth a j).2 → x ∈ (nth b j).2) ∧ (act j = false → (nth a j).2 = (nth b j).2)
variable (fs idOf)
def GoodC (out : List CD) : Prop := ∀ k, k < out.length → act k = true → ∃ p : φ → Bool, (nth out k).2 = sel fs idOf p ∧ ∀ f, f ∈ fs → p f = true → m k out f = true
def MonoC (nm : List ByteArray) : Prop := ∀ a b : List CD, a.map (·.1) = nm → b.map (·.1) = nm → LeC act a b → ∀ k, k < nm.length → act k = true → ∀ f, f ∈ fs → m k a f = true → m k b f = true
def stepC (s : List CD × Bool) (k : Nat) : List CD × Bool := bif act k then (if sel fs idOf (m k s.1) = (nth s.1 k).2 then s else (putC s.1 k (sel fs idOf (m k s.1)), true)) else s
def passC (ks : List Nat) (s : List CD × Bool) : List CD × Bool := ks.foldl (stepC fs idOf m act) s
variable {fs idOf m act} {nm : List ByteArray}
structure StateC (fs : List φ) (idOf : φ → Int) (m : Nat → List CD → φ → Bool) (act : Nat → Bool) (nm : List ByteArray) (o out : List CD) : Prop where
  names : out.map (·.1) = nm
  good : GoodC fs idOf m act out
  rest : ∀ j, act j = false → nth out j = nth o j
theorem stepC_ok (hm : MonoC fs m act nm) {o : List CD} {s : List CD × Bool} (h : StateC fs idOf m act nm o s.1) {k : Nat} (hk : k < nm.length) :
    StateC fs idOf m act nm o (stepC fs idOf m act s k).1 ∧ room fs.length act 0 (stepC fs idOf m act s k).1 ≤ room fs.length act 0 s.1 ∧ ((stepC fs idOf m act s k).2 = true → s.2 = true ∨ room fs.length act 0 (stepC fs idOf m act s k).1 + 1 ≤ room fs.length act 0 s.1) := by
  unfold stepC
  cases ha : act k with
  | false => exact ⟨h, Nat.le_refl _, .inl⟩
  | true =>
    simp only [cond_true]
    split
    · exact ⟨h, Nat.le_refl _, .inl⟩
    · rename_i hne
      have hlen : nm.length = s.1.length := by rw [← h.names, List.length_map]
      have hk' : k < s.1.length := by omega
      obtain ⟨p, hp1, hp2⟩ := h.good k hk' ha
      rw [hp1] at hne
      have hgrow := sel_grow (idOf := idOf) hp2 (Ne.symm hne)
      have hnames : (putC s.1 k (sel fs idOf (m k s.1))).map (·.1) = nm := by rw [putC_names _ hk', h.names]
      have hle : LeC act s.1 (putC s.1 k (sel fs idOf (m k s.1))) := fun j => by
        unfold putC
        rw [nth_setC _ hk']
        by_cases hj : j = k
        · subst hj
          rw [if_pos rfl]
          exact ⟨fun x hx => sel_sub hp2 (hp1 ▸ hx), fun hf => absurd ha (by simp [hf])⟩
        · rw [if_neg hj]
          exact ⟨fun _ hx => hx, fun _ => rfl⟩
      have hmono := hm _ _ h.names hnames hle
      have hr : room fs.length act 0 (putC s.1 k (sel fs idOf (m k s.1))) + 1 ≤ room fs.length act 0 s.1 :=
        room_set _ _ _ _ 0 k hk' (by rw [Nat.zero_add]; exact ha) (by rw [hp1]; exact hgrow) (sel_len _ _ _)
      refine ⟨⟨hnames, fun j hj hja => ?_, fun j hj => ?_⟩, Nat.le_of_succ_le hr, fun _ => .inr hr⟩
      · have hj' : j < s.1.length := by unfold putC at hj; rwa [List.length_set] at hj
        by_cases e : j = k
        · subst e
          refine ⟨m j s.1, ?_, fun f hf hmf => hmono j (by omega) hja f hf hmf⟩
          unfold putC; rw [nth_setC _ hk', if_pos rfl]
        · obtain ⟨p', h1, h2⟩ := h.good j hj' hja
          refine ⟨p', ?_, fun f hf hpf => hmono j (by omega) hja f hf (h2 f hf hpf)⟩
          unfold putC; rw [nth_setC _ hk', if_neg e]; exact h1
      · have e : j ≠ k := fun e => absurd ha (by simp [← e, hj])
        unfold putC; rw [nth_setC _ hk', if_neg e]; exact h.rest j hj
theorem passC_ok (hm : MonoC fs m act nm) {o : List CD} : ∀ (ks : List Nat) (s : List CD × Bool), (∀ k, k ∈ ks → k < nm.length) → StateC fs idOf m act nm o s.1 →
    StateC fs idOf m act nm o (passC fs idOf m act ks s).1 ∧ room fs.length act 0 (passC fs idOf m act ks s).1 ≤ room fs.length act 0 s.1 ∧ ((passC fs idOf m act ks s).2 = true → s.2 = true ∨ room fs.length act 0 (passC fs idOf m act ks s).1 + 1 ≤ room fs.length act 0 s.1)
  | [], s, _, h => ⟨h, Nat.le_refl _, .inl⟩
  | k :: ks, s, hks, h => by
    obtain ⟨h1, h2, h3⟩ := stepC_ok hm h (hks k (List.mem_cons_self ..))
    obtain ⟨g1, g2, g3⟩ := passC_ok hm ks _ (fun j hj => hks j (List.mem_cons_of_mem _ hj)) h1
    refine ⟨g1, Nat.le_trans g2 h2, fun hc => ?_⟩
    rcases g3 hc with hc | hc
    · rcases h3 hc with hc | hc
      · exact .inl hc
      · exact .inr (Nat.le_trans (Nat.add_le_add_right g2 1) hc)
    · exact .inr (Nat.le_trans hc h2)
theorem whlC {R S T : Type} {F : S → Rd R S T} {out : S → List CD} {ch : S → Bool} {n : Nat} (hn : n = nm.length)
    (hF : ∀ s, ch s = true → ∃ s', F s = .next s' ∧ (out s', ch s') = passC fs idOf m act (List.range n) (out s, false))
    (hE : ∀ s, ch s = false → ∃ t, F s = .brk t)
    (hm : MonoC fs m act nm) {o : List CD} : ∀ (k : Nat) (s : S), StateC fs idOf m act nm o (out s) → room fs.length act 0 (out s) + (bif ch s then 2 else 1) ≤ k →
    ∃ s', StateC fs idOf m act nm o (out s') ∧ ch s' = false ∧ ∃ t, F s' = .brk t ∧ whl F k s = some (.brk t)
  | 0, s, _, hk => by cases hc : ch s <;> simp [hc] at hk
  | k + 1, s, h, hk => by
    cases hc : ch s with
    | false =>
      obtain ⟨t, ht⟩ := hE s hc
      exact ⟨s, h, hc, t, ht, by simp only [whl, ht]⟩
    | true =>
      rw [hc] at hk
      simp only [cond_true] at hk
      obtain ⟨s', h1, h2⟩ := hF s hc
      obtain ⟨g1, g2, g3⟩ := passC_ok hm (o := o) (List.range n) (out s, false) (fun j hj => by rw [← hn]; exact List.mem_range.1 hj) h
      rw [← h2] at g1 g2 g3
      simp only [whl, h1]
      refine whlC hn hF hE hm k s' g1 ?_
      simp only [Bool.false_eq_true, false_or] at g3
      cases hc' : ch s' with
      | false => simp only [cond_false]; have : room fs.length act 0 (out s') ≤ room fs.length act 0 (out s) := g2; omega
      | true => simp only [cond_true]; have : room fs.length act 0 (out s') + 1 ≤ room fs.length act 0 (out s) := g3 hc'; omega
end
/-! ### a slice that is nil, handed on -/
open Go.RowKit in
def ArgLe (a b : AV) : Prop := ∀ (J : Inj) (w : World) (v : Value), AR J w v a → AR J w v b
theorem ArgLe.rfl (a : AV) : ArgLe a a := fun _ _ _ h => h
theorem ArgLe.nil (n : Nat) : ArgLe (.one (.slc .sh 0 [])) (.one (.slc .sh n [])) := fun J w v h => by
  have h' : VV J.F w v (.slc 0 []) := h
  show VV J.F w v (.slc n [])
  generalize hp : PV.slc 0 ([] : List (List PV)) = p at h'
  cases h' with
  | int | bool | str | any => cases hp
  | emp oa m hc => exact .emp oa n hc
  | @slc b off cap m cs l hx hcells hr hle hcap =>
    cases hp
    exact .emp _ n hcap.1
theorem acalls_args {P : Program} {f : Nat} {r : AV} {args args' : List AV} (h : All2 ArgLe args args') (c : ACalls P f args' r) : ACalls P f args r := ⟨c.1, fun w hg F vals hF hall => c.2 w hg F vals hF (by
  clear c
  induction h generalizing vals with
  | nil => exact hall
  | cons h1 h2 ih =>
    cases hall with
    | cons g1 g2 => exact .cons (h1 _ _ _ g1) (ih _ g2))⟩
/-! ### a flat row of ours, handed back -/
theorem weak_promote {s : St} {t k n : Nat} {l : List (List PV)} (ht : get s.tm t = some (.one (.slc (.own false k) n l))) (hf : RowsLike l) : Weak s ⟨[(t, .one (.slc (.own true k) n l))], []⟩ := fun N w0 F0 J a w h =>
  ⟨J, { h with
    bo := fun k c hc => by simp [get] at hc
    bi := fun k k' c c' hc => by simp [get] at hc
    tm := fun t' v hv => by
      have h1 := h.tm t _ ht
      by_cases e : t' = t
      · subst e
        obtain rfl : AV.one (.slc (.own true k) n l) = v := by simpa [get] using hv
        exact flat_deep h1 hf
      · simp [get, Ne.symm e] at hv }⟩
theorem awp_promote {P : Program} {N : Nat} {w0 : Base} {F0 : Nat → Prop} {Q : Exit → St → Prop} {s : St} {c : Code} (t : Nat) {k n : Nat} {l : List (List PV)} (ht : get s.tm t = some (.one (.slc (.own false k) n l))) (hf : RowsLike l) (h : AWP P N w0 F0 c Q ⟨[(t, .one (.slc (.own true k) n l))], []⟩) : AWP P N w0 F0 c Q s := awp_weak (weak_promote ht hf) h
end Go.Proofs.YtdakhddpcfimaaaGreatDoor
namespace Go.Proofs.YtdakhddpcfimaaaGreatDoor
open Go.RowKit
/-! ### each node but the last is named once -/
def isRef (n : NodeD) (c : Int) : Bool := ((n.2.1 == c) && (n.1 == 6 || n.1 == 7 || n.1 == 5)) || ((n.2.2.1 == c) && (n.1 == 6 || n.1 == 7))
theorem two_of {α : Type} {p : α → Bool} {l : List α} {i j : Nat} {a b : α} (hij : i < j) (hi : l[i]? = some a) (hj : l[j]? = some b) (ha : p a = true) (hb : p b = true) : 2 ≤ (l.filter p).length := by
  have e : l = l.take j ++ l.drop j := (List.take_append_drop j l).symm
  rw [e, List.filter_append, List.length_append]
  have h1 : 1 ≤ ((l.take j).filter p).length := List.length_pos_of_mem (a := a) (List.mem_filter.2 ⟨List.mem_of_getElem? (i := i) (by rw [List.getElem?_take, if_pos hij]; exact hi), ha⟩)
  have h2 : 1 ≤ ((l.drop j).filter p).length := List.length_pos_of_mem (a := b) (List.mem_filter.2 ⟨List.mem_of_getElem? (i := 0) (by rw [List.getElem?_drop]; exact hj), hb⟩)
  omega
/-! ### below a negation -/
theorem nth_setB {L : List Bool} {i : Nat} (x : Bool) (hi : i < L.length) (j : Nat) : nth (L.set i x) j = if j = i then x else nth L j := by
  unfold nth
  simp only [List.getD_eq_getElem?_getD, List.getElem?_set]
  by_cases h : i = j
  · subst h; simp [hi]
  · simp [h, Ne.symm h]
def NegOk (q : List NodeD) (k : Nat) (s : List Bool) : Prop := s.length = q.length ∧ ∀ i, q.length ≤ i + k → i < q.length → ∀ c : Nat, isRef (nth q i) (c : Int) = true → nth s c = (nth s i || ((nth q i).1 == 5))
/-! ### what a node says -/
/-! ### strata that hold -/
structure EvS (d : List DirD) (L : List Int) (on : Nat → Bool) (fs : List FileD) (k : Int) (o : List ResultD) : Prop where
  names : o.map (·.1) = d.map (·.1)
  none : ∀ j, k ≤ nth L j → on j = true → (nth o j).2 = []
  some_ : ∀ j, j < d.length → on j = true → ∃ p : FileD → Bool, (nth o j).2 = sel fs (fun f => f.1) p
def actD (L : List Int) (on : Nat → Bool) (k : Int) (j : Nat) : Bool := (nth L j == k) && on j
theorem evS_len {d : List DirD} {L : List Int} {on : Nat → Bool} {fs : List FileD} {k : Int} {o : List ResultD} (h : EvS d L on fs k o) : List.length o = List.length d := by have := congrArg List.length h.names; simpa using this
theorem ev_start {R T : Type} {d : List DirD} {L : List Int} {on : Nat → Bool} {fs : List FileD} {g : DirD → List Int} {f : Nat → DirD → List ResultD → Rd R (List ResultD) T} {e : Nat → List ResultD → T} (hf : ∀ k a s, f k a s = .next (s ++ [(a.1, g a)])) (hg : ∀ j, j < d.length → on j = true → g (nth d j) = []) :
    forL f e d 0 [] = .brk (e d.length (d.map fun a => (a.1, g a))) ∧ EvS d L on fs 0 (d.map fun a => (a.1, g a)) := by
  refine ⟨by rw [forL_map (g := fun a => ((a.1, g a) : ResultD)) hf]; simp, ?_, fun j _ hj => ?_, fun j hj hon => ?_⟩
  · rw [List.map_map]; rfl
  · by_cases hjl : j < d.length
    · have : nth (d.map fun a => ((a.1, g a) : ResultD)) j = ((nth d j).1, g (nth d j)) := by simp [nth, List.getD, hjl]
      rw [this]; exact hg j hjl hj
    · have : nth (d.map fun a => ((a.1, g a) : ResultD)) j = default := by simp [nth, List.getD, hjl]
      rw [this]; rfl
  · have : nth (d.map fun a => ((a.1, g a) : ResultD)) j = ((nth d j).1, g (nth d j)) := by simp [nth, List.getD, hj]
    exact ⟨fun _ => false, by rw [this, hg j hj hon]; simp [sel]⟩
open GoE (enc wide)
/-! ### the greatest stratum -/
/-! ### the evaluation -/
def takenJ (G : Nat → Prop) (L : List Nat) : Inj := ⟨G, fun k => if k = 63 then L else [], fun _ => 0⟩
theorem atake_of {P : Program} {tt : List (Nat × TI)} (htt : ttOk P tt = true) {f : Nat} {fn : Func} {c : Code} (hf : P.funcs[f]? = some fn) (hb : fn.body = some c) (hok : FnOk P f) {n : Nat} {l l' : List (List PV)} {args : List AV}
    (hn : args.length + 1 ≤ fn.ntmps) (hk : ∀ x, x ∈ args → ∀ c, c ∈ x.cells → c.key = none ∧ c.bkeys = []) {t : Nat} (hr : fn.results.toList = [.tmp t])
    (h : ∀ w0 F0, GoodAt P w0 → AWP P fn.ntmps w0 F0 c (fun e s => (e = .ret ∨ e = .normal) ∧ ∃ k, get s.tm t = some (.one (.slc (.own false k) n l'))) (entry (.one (.slc (.own false 63) n l) :: args))) : ATake P f n l args true false l' := by
  refine ⟨hok, fun w F G L v vals hgood hFG hGF hGs hnd hLG hrow hargs => calls_of_wp hf hb ?_⟩
  have hlen := hargs.length
  have hGF := hGF rfl
  have hL0 : (takenJ G L).L 63 = L := by show (if 63 = 63 then L else []) = L; simp
  refine wp_mono (h ⟨w, fun b => b ∈ L, none⟩ G hgood (takenJ G L) _ w ?_) ?_
  · have hLk : ∀ k b, b ∈ (takenJ G L).L k → k = 63 ∧ b ∈ L := fun k b hm => by
      have hm : b ∈ (if k = 63 then L else []) := hm
      split at hm
      · rename_i e; exact ⟨e, hm⟩
      · simp at hm
    refine { below := Base.Keeps.refl _, nodef := rfl, size := ?_, fl := fun b hb => ⟨hGs b hb, .inl hb⟩, f0 := fun b hb => hb, nd := fun k => ?_, lo := fun k b hb => ⟨.inr (hLk k b hb).2, hLG b (hLk k b hb).2⟩, dj := fun k k' b hb hb' => (hLk k b hb).1.trans (hLk k' b hb').1.symm, bo := fun k c hc => by simp [entry, get] at hc, nb := .inl rfl, cb := (fun b hb => by cases hb), bi := fun k k' c c' hc => by simp [entry, get] at hc, tm := fun t v' hv => ?_ }
    · simp; omega
    · show (if k = 63 then L else [] : List Nat).Nodup
      split
      · exact hnd
      · exact List.nodup_nil
    · obtain ⟨_, ht⟩ := get_entry hv
      have hall : All2 (AR (takenJ G L) w) (v :: vals) (.one (.slc (.own false 63) n l) :: args) := by
        refine .cons ?_ ?_
        · show OwnTop G ((takenJ G L).L 63) w v n l
          rw [hL0]
          exact OwnTop.keep hrow (fun b hb => ⟨hFG b hb, rfl⟩) fun _ _ => rfl
        · have key : ∀ {vs : List Value} {ys : List AV}, All2 (AR (argJ G) w) vs ys → (∀ x, x ∈ ys → ∀ c, c ∈ x.cells → c.key = none ∧ c.bkeys = []) → All2 (AR (takenJ G L) w) vs ys := by
            intro vs ys ha
            induction ha with
            | nil => intro _; exact .nil
            | cons h1 _ ih =>
              intro hx
              refine .cons (h1.keep fun c hc => ?_) (ih fun x hm => hx x (List.mem_cons_of_mem _ hm))
              obtain ⟨e1, e2⟩ := hx _ (List.mem_cons_self ..) c hc
              exact ⟨fun b hb => ⟨hb, rfl⟩, (fun k hk => by rw [e1] at hk; cases hk), (fun k hk => by rw [e2] at hk; simp at hk)⟩
          exact key hargs hk
      obtain ⟨u, hu, hr⟩ := hall.get' ht
      have hlt : t < (v :: vals).length := (List.getElem?_eq_some_iff.1 hu).1
      have : ((v :: vals).toArray ++ Array.replicate (fn.ntmps - (v :: vals).toArray.size) undef).getD t undef = u := by
        rw [Array.getD_eq_getD_getElem?, Array.getElem?_append_left (by simpa using hlt)]
        simp at hu ⊢
        rw [hu]; rfl
      rw [this]
      exact hr
  · rintro e a' w' ⟨J', s', hR, he, k, hkk⟩
    have hres : ∃ u, (results fn a'.tmps).run P w' = .ok u w' ∧ AR J' w' u (.one (.slc (.own false k) n l')) := by
      obtain ⟨us, hrun, hall⟩ := resOf_ok (P := P) htt hR (rs := [.tmp t]) (vs := [.one (.slc (.own false k) n l')]) (by simp [resOf, hkk])
      rw [← hr] at hrun
      have hm : (fn.results.mapM (resRun a'.tmps)).run P w' = .ok us.toArray w' := by
        rw [Array.mapM_eq_mapM_toList]
        simp [hrun]
      have hgen : (results fn a'.tmps).run P w' = .ok (if h : us.toArray.size = 1 then us.toArray[0] else .tuple us.toArray) w' := by
        rw [results_eq]
        simp only [Sem.run_bind, hm, Result.andThen_ok, Sem.run_pure]
      cases hall with
      | cons h1 h2 =>
        cases h2
        exact ⟨_, by rw [hgen]; simp, h1⟩
    obtain ⟨u, h1, h2⟩ := hres
    have hT : TRet F L w n false l' (.returned u) w' := by
      refine ⟨u, rfl, fun m hm hmL => ⟨hR.below.os, hR.below.tape, hR.below.output, hR.below.size, fun j hj => hR.below.block j (by show j < w.heap.size; omega) fun hx => by have := hmL j hx; omega⟩, fun b hb hn => hR.below.block b hb hn, J'.L k, hR.nd k, fun b hb => ?_, ?_⟩
      · obtain ⟨h3, h4, _⟩ := hR.lo k b hb
        exact ⟨h4, h3⟩
      · have h2 : OwnTop J'.F (J'.L k) w' u n l' := h2
        refine OwnTop.keep h2 (fun b hb => ⟨?_, rfl⟩) fun _ _ => rfl
        obtain ⟨h3, h4⟩ := hR.fl b hb
        rcases h4 with h4 | h4 | h4
        · exact .inl (hGF b h4)
        · exact .inr ⟨.inl h4, h3, fun hm => (hR.lo k b hm).2.2 hb⟩
        · exact .inr ⟨.inr h4, h3, fun hm => (hR.lo k b hm).2.2 hb⟩
    rcases he with rfl | rfl
    · exact ⟨hR.nodef, u, h1, hT⟩
    · exact ⟨hR.nodef, u, h1, hT⟩
theorem getD_put' {a : Act} {t u : Nat} {v : Value} (ht : t < a.tmps.size) : (a.put (some t) v).tmps.getD u undef = if u = t then v else a.tmps.getD u undef := by
  simp only [Act.put, Array.getD_eq_getD_getElem?, Array.getElem?_setIfInBounds]
  by_cases h : u = t
  · subst h; simp [ht]
  · simp [h, Ne.symm h]
theorem nbeq_false {a b : Nat} : Nat.beq a b = false ↔ ¬ a = b := by
  cases h : Nat.beq a b with
  | true => simp [Nat.eq_of_beq_eq_true h]
  | false => simp; exact Nat.ne_of_beq_eq_false h
theorem put_self {a : Act} {t : Nat} {v : Value} (h : a.tmps.getD t undef = v) (ht : t < a.tmps.size) : a.put (some t) v = a := by
  have e : a.tmps.setIfInBounds t v = a.tmps := by
    apply Array.ext
    · simp
    · intro i h1 h2
      rw [Array.getElem_setIfInBounds]
      split
      · rename_i e; subst e; rw [← h, Array.getD_eq_getD_getElem?, Array.getElem?_eq_getElem ht]; rfl
      · rfl
  show ({ a with tmps := a.tmps.setIfInBounds t v } : Act) = a
  rw [e]
theorem zeros_vc : ∀ {vs : List Value} {cs : List C}, zerosOk vs cs = true → ∃ ps : List PV, ps.length = vs.length ∧ ∀ (X : Nat → Prop) (w : World), VC X w vs ps
  | [], [], _ => ⟨[], rfl, fun _ _ => .nil⟩
  | [], _ :: _, h => by simp [zerosOk] at h
  | _ :: _, [], h => by simp [zerosOk] at h
  | v :: vs, c :: cs, h => by
    simp only [zerosOk, Bool.and_eq_true] at h
    obtain ⟨ps, h1, h2⟩ := zeros_vc h.2
    have hz := h.1
    unfold zeroOk at hz
    split at hz
    · rename_i k _ _ _
      simp only [Bool.and_eq_true, decide_eq_true_eq] at hz
      obtain ⟨⟨rfl, rfl⟩, rfl⟩ := hz
      exact ⟨.int k 0 :: ps, by simp [h1], fun X w => .cons (.int (by cases k <;> simp [InR, IntKind.min, IntKind.max, IntKind.bits, IntKind.signed])) (h2 X w)⟩
    · rename_i b _
      exact ⟨.bool b :: ps, by simp [h1], fun X w => .cons (.bool b) (h2 X w)⟩
    · rename_i s _
      have hs : s.size = 0 := by simp only [Bool.and_eq_true] at hz; exact Nat.eq_of_beq_eq_true hz.1
      exact ⟨.str s :: ps, by simp [h1], fun X w => .cons (.str (by rw [hs]; exact Nat.zero_le _)) (h2 X w)⟩
    · rename_i n
      exact ⟨.slc n [] :: ps, by simp [h1], fun X w => .cons (.emp none n (Nat.zero_le _)) (h2 X w)⟩
    · cases hz
theorem vr_zeros {X : Nat → Prop} {w : World} {n : Nat} {vs : List Value} {ps : List PV} (h : VC X w vs ps) (hn : ps.length = n) : ∀ m, VR X w n (List.replicate m vs).flatten (List.replicate m ps)
  | 0 => .nil n
  | m + 1 => by
    rw [List.replicate_succ, List.replicate_succ, List.flatten_cons]
    exact .cons h hn (vr_zeros h hn m)
theorem zero_cells {z : Array Value} {m : Nat} : (Builtin.zeroCells z m).toList = (List.replicate m z.toList).flatten := by
  have key : ∀ (l : List Value) (m : Nat), (List.range (m * l.length)).map (fun i => l[i % l.length]!) = (List.replicate m l).flatten := by
    intro l m
    induction m with
    | zero => simp
    | succ m ih =>
      rw [Nat.succ_mul, List.range_add, List.map_append, ih, List.replicate_succ', List.flatten_append]
      congr 1
      simp only [List.map_map, List.flatten_cons, List.flatten_nil, List.append_nil]
      apply List.ext_getElem
      · simp
      · intro i h1 h2
        simp only [List.length_map, List.length_range] at h1
        simp [Nat.mul_add_mod_self_right, Nat.mod_eq_of_lt h1, h2]
  rw [← key z.toList m]
  unfold Builtin.zeroCells
  rw [Array.toList_map, Array.toList_range]
  apply List.map_congr_left
  intro i _
  simp only [Array.length_toList, getElem!_def, Array.getElem?_toList]
theorem zero_one {vs : List Value} {cs : List C} (h : zerosOk vs cs = true) : ∀ v, v ∈ vs → v.oneCell' = true := by
  induction vs generalizing cs with
  | nil => intro v hv; simp at hv
  | cons v vs ih =>
    cases cs with
    | nil => simp [zerosOk] at h
    | cons c cs =>
      simp only [zerosOk, Bool.and_eq_true] at h
      intro u hu
      rcases List.mem_cons.1 hu with rfl | hu
      · have hz := h.1
        unfold zeroOk at hz
        split at hz <;> first | rfl | cases hz
      · exact ih h.2 u hu
section
variable {P : Program} {N : Nat} {w0 : Base} {F0 : Nat → Prop} {J : Inj} {a : Act} {w : World} {s : St} {Q : Exit → St → Prop}
theorem Rel.aside (h : Rel N w0 F0 J a w s) {d : Nat} (hd : d < N) (hn : get s.tm d = none) (v : Value) : Rel N w0 F0 J (a.put (some d) v) w s :=
  (h.pure (some d) (fun d' e => by cases e; exact hd) (.one .dead) v (fun _ => trivial)).less (fun t x hx => by
    show get (ins d _ s.tm) t = some x
    rw [get_ins, if_neg (fun e => by subst e; rw [hn] at hx; cases hx)]
    exact hx) (fun _ _ h => h)
theorem clear_run {tt : List (Nat × TI)} (htt : ttOk P tt = true) {sty ety z1 : Nat} {z2 : List C} {z3 : List LK} {ti : TI} (g1 : get tt sty = some ⟨.sli ety, z1, z2, z3⟩) (g2 : get tt ety = some ti)
    {g cap m i n : Nat} {cur : Array Value} {e : TypeId} (hn : ti.size = n) (hg : w.heap[g]? = some (.cells cur e (0, 0))) (hs : cur.size = cap * n) (hi : i < m) (hm : m ≤ cap) (ty : TypeId) :
    ∃ zs : List Value, ∃ ps : List PV, zs.length = n ∧ ps.length = n ∧ (∀ (X : Nat → Prop) (w : World), VC X w zs ps) ∧
      (Builtin.clear_ #[sty] ty #[.slice (some ⟨g, i * n, none⟩) (m - i) (cap - i)]).run P w = .ok (.tuple #[]) (w.setRow g (cur.toList.take (i * n) ++ (List.replicate (m - i) zs).flatten ++ cur.toList.drop (i * n + (m - i) * n)).toArray) := by
  obtain ⟨inf, z, hI, hsz, _, hz, hzs, hzo⟩ := (ttOk_get htt g2).info
  obtain ⟨ps, p1, p2⟩ := zeros_vc hzo
  have hu := (ttOk_get htt g1).sli
  have hzl : z.cells.toList.length = n := by simpa [hn] using hzs
  refine ⟨z.cells.toList, ps, hzl, by rw [p1, hzl], p2, ?_⟩
  obtain ⟨q, hq⟩ : ∃ q, m - i = q + 1 := ⟨m - i - 1, by omega⟩
  have hfl : ((List.replicate (m - i) z.cells.toList).flatten).length = (m - i) * n := by
    rw [List.length_flatten, List.map_replicate, hzl]; simp
  have h3 : i * n + (m - i) * n ≤ cap * n := by rw [← Nat.add_mul]; exact Nat.mul_le_mul_right n (by omega)
  have hst := run_storeCells_at P g (i * n) e ((List.replicate (m - i) z.cells.toList).flatten) 0 cur w hg (by rw [hfl, hs]; simpa using h3) (fun v hv => by
    obtain ⟨l, hl, hv⟩ := List.mem_flatten.1 hv
    rw [List.eq_of_mem_replicate hl] at hv
    exact zero_one hzo v hv)
  simp only [Nat.add_zero, hfl] at hst
  rw [hq] at hst ⊢
  simp [Builtin.clear_, run_underlying hu, zeroValue, typeInfo_run hI, hz, zero_cells, hst]
theorem awp_clear {tt : List (Nat × TI)} (htt : ttOk P tt = true) {id : Nat} {ops : Array Oper} {t0 t5 d1 d2 d3 sty ety z1 : Nat} {z2 : List C} {z3 : List LK} {ti : TI} {y1 y2 y3 y4 : TypeId} {q1 q2 q3 q4 : String} {f1 f2 f3 f4 : Array Edge}
    (hops : ops = #[⟨some d1, .move (.tmp t0), y1, q1, f1, none⟩, ⟨some d2, .move (.tmp t5), y2, q2, f2, none⟩, ⟨some d3, .slice sty (.tmp d1) (some (.tmp d2)) none none, y3, q3, f3, none⟩, ⟨none, .call { callee := .builtin .clear, args := #[.tmp d3], argTypes := #[sty] }, y4, q4, f4, none⟩])
    (hN : (Nat.blt d1 N && Nat.blt d2 N && Nat.blt d3 N && Nat.blt t0 N && !(Nat.beq d1 t0) && !(Nat.beq d1 t5) && !(Nat.beq d2 t0) && !(Nat.beq d2 t5) && !(Nat.beq d3 t0) && !(Nat.beq d3 t5) && !(Nat.beq d1 d2) && !(Nat.beq t0 t5)) = true)
    (g1 : get tt sty = some ⟨.sli ety, z1, z2, z3⟩) (g2 : get tt ety = some ti) {k n : Nat} {l : List (List PV)} (hk : get s.tm t0 = some (.one (.slc (.own false k) n l))) (hn : ti.size = n) {i : Int} (hi : get s.tm t5 = some (.one (.int .i64 i))) (h0 : 0 ≤ i) (hl : i < l.length)
    (hQ : ∀ l', l'.length = l.length → l'.take i.toNat = l.take i.toNat → Q .normal ⟨[(t0, .one (.slc (.own false (64 * t0)) n l')), (t5, .one (.int .i64 i))], []⟩) : AWP P N w0 F0 (.region id ops false) Q s := fun J a w hr => by
  simp only [Bool.and_eq_true, Nat.blt_eq, Bool.not_eq_true', nbeq_false] at hN
  obtain ⟨⟨⟨⟨⟨⟨⟨⟨⟨⟨⟨m1, m2⟩, m3⟩, m0⟩, n1⟩, n2⟩, n3⟩, n4⟩, n5⟩, n6⟩, n7⟩, n8⟩ := hN
  obtain ⟨j, rfl⟩ : ∃ j : Nat, i = (j : Int) := ⟨i.toNat, by omega⟩
  have hj : j < l.length := by omega
  have e0 : CR J w (a.tmps.getD t0 undef) (.slc (.own false k) n l) := hr.tm t0 _ hk
  have e5 : CR J w (a.tmps.getD t5 undef) (.int .i64 (j : Int)) := hr.tm t5 _ hi
  obtain ⟨e5, _⟩ := e5
  rcases (show OwnTop J.F (J.L k) w _ n l from e0) with ⟨e, _⟩ | ⟨g, cap, cur, e, hL, e0, hg, hs, hvr, hlc, hcap⟩
  · rw [e] at hj; simp at hj
  obtain ⟨zs, ps, hzl, hpl, hzv, hrun⟩ := clear_run (P := P) (w := w) htt g1 g2 hn hg hs hj hlc y4
  have hu := (ttOk_get htt g1).sli
  have hsz := sizeOf_run (P := P) (ttOk_get htt g2) w
  rw [hn] at hsz
  have hr5 : Rel N w0 F0 J a w ⟨[(t5, .one (.int .i64 (j : Int)))], []⟩ := hr.less (fun t v hv => by
    simp only [get] at hv
    split at hv
    · rename_i e; subst e; rw [hi]; exact hv
    · cases hv) (fun k c hc => by cases hc)
  have no : ∀ d, ¬ d = t5 → get (⟨[(t5, .one (.int .i64 (j : Int)))], []⟩ : St).tm d = none := fun d hd => by
    show (if t5 = d then _ else _) = none
    rw [if_neg (fun e => hd e.symm)]; rfl
  have s0 := hr.size
  have hr1 := (hr5.aside m1 (no _ n2) (.slice (some ⟨g, 0, none⟩) l.length cap)).aside m2 (no _ n4) (.int .i64 (j : Int))
  have hr3 := hr1.aside m3 (no _ n6) (.slice (some ⟨g, 0 + j * n, none⟩) (l.length - j) (cap - j))
  subst hops
  refine wp_region ?_
  show wpOps P _ (QX N w0 F0 Q) [0, 1, 2, 3] a w
  rw [wpOps_cons]; unfold wpOp
  simp only [List.getElem?_toArray, List.getElem?_cons_zero]
  rw [if_pos (by simp [Region.wanted])]
  refine .inl (wp_of_run (v := .slice (some ⟨g, 0, none⟩) l.length cap) (w' := w) (by simp [execOp, e0, Act.eval]) ?_)
  rw [wpOps_cons]; unfold wpOp
  simp only [List.getElem?_toArray, List.getElem?_cons_succ, List.getElem?_cons_zero]
  rw [if_pos (by simp [Region.wanted])]
  have e5' : (a.put (some d1) (.slice (some ⟨g, 0, none⟩) l.length cap)).tmps.getD t5 undef = .int .i64 (j : Int) := (getD_put' (by omega)).trans ((if_neg (fun e => n2 e.symm)).trans e5)
  refine .inl (wp_of_run (v := .int .i64 (j : Int)) (w' := w) (by simp [execOp, e5', Act.eval]) ?_)
  rw [wpOps_cons]; unfold wpOp
  simp only [List.getElem?_toArray, List.getElem?_cons_succ, List.getElem?_cons_zero]
  rw [if_pos (by simp [Region.wanted])]
  have hs1 : (a.put (some d1) (.slice (some ⟨g, 0, none⟩) l.length cap)).tmps.size = N := by simp [Act.put, s0]
  have ea : ((a.put (some d1) (.slice (some ⟨g, 0, none⟩) l.length cap)).put (some d2) (.int .i64 (j : Int))).eval (.tmp d1) = .slice (some ⟨g, 0, none⟩) l.length cap := (getD_put' (by omega)).trans ((if_neg n7).trans ((getD_put' (by omega)).trans (if_pos rfl)))
  have eb : ((a.put (some d1) (.slice (some ⟨g, 0, none⟩) l.length cap)).put (some d2) (.int .i64 (j : Int))).eval (.tmp d2) = .int .i64 (j : Int) := (getD_put' (by omega)).trans (if_pos rfl)
  have hsb : (Instr.sliceBounds true l.length cap (some (.int .i64 (j : Int))) none none).run P w = .ok (j, l.length, cap) w := by
    have e4 : ∀ c, (Instr.sliceBound (.int .i64 (j : Int)) l.length c).run P w = .ok j w := fun c => by
      have := bound_ok (P := P) (w := w) (k := .i64) (lo := (j : Int)) (code := c) (y := l.length) (by omega) (by omega)
      simpa using this
    unfold Instr.sliceBounds
    simp only [Sem.run_bind, Sem.run_pure, Result.andThen_ok]
    simp [e4]
  refine .inl (wp_of_run (v := .slice (some ⟨g, 0 + j * n, none⟩) (l.length - j) (cap - j)) (w' := w) (by
    have hca : cap ≠ j := by omega
    simp [execOp, ea, eb, Instr.sliceAt, run_underlying hu, Instr.slice, hsb, hsz, hca, Addr.add_lit]) ?_)
  rw [wpOps_cons]; unfold wpOp
  simp only [List.getElem?_toArray, List.getElem?_cons_succ, List.getElem?_cons_zero]
  rw [if_pos (by simp [Region.wanted])]
  generalize ha2 : ((a.put (some d1) (.slice (some ⟨g, 0, none⟩) l.length cap)).put (some d2) (.int .i64 (j : Int))) = a2 at *
  have s2 : a2.tmps.size = N := hr1.size
  have ec : (a2.put (some d3) (.slice (some ⟨g, 0 + j * n, none⟩) (l.length - j) (cap - j))).eval (.tmp d3) = .slice (some ⟨g, j * n, none⟩) (l.length - j) (cap - j) := (getD_put' (by omega)).trans ((if_pos rfl).trans (by simp))
  have ec := ec
  simp only [Nat.zero_add] at ec
  refine .inl (wp_of_run (v := .tuple #[]) (w' := w.setRow g (cur.toList.take (j * n) ++ (List.replicate (l.length - j) zs).flatten ++ cur.toList.drop (j * n + (l.length - j) * n)).toArray) (by
    simp [execOp, resolve, invoke, builtin, ec, hrun]) ?_)
  generalize ha3 : a2.put (some d3) (.slice (some ⟨g, 0 + j * n, none⟩) (l.length - j) (cap - j)) = a3 at *
  show QX N w0 F0 Q .normal a3 _
  have e03 : a3.tmps.getD t0 undef = .slice (some ⟨g, 0, none⟩) l.length cap := by
    rw [← ha3]
    refine (getD_put' (by omega)).trans ((if_neg (fun e => n5 e.symm)).trans ?_)
    rw [← ha2]
    exact (getD_put' (by omega)).trans ((if_neg (fun e => n3 e.symm)).trans ((getD_put' (by omega)).trans ((if_neg (fun e => n1 e.symm)).trans e0)))
  have hgk : g ∈ J.L k := by rw [hL]; exact List.mem_cons_self
  have hgF : ¬ J.F g := (hr.lo k g hgk).2.2
  generalize hw' : w.setRow g (cur.toList.take (j * n) ++ (List.replicate (l.length - j) zs).flatten ++ cur.toList.drop (j * n + (l.length - j) * n)).toArray = w'
  have hgw : w'.heap[g]? = some (.cells (cur.toList.take (j * n) ++ (List.replicate (l.length - j) zs).flatten ++ cur.toList.drop (j * n + (l.length - j) * n)).toArray e (0, 0)) := by rw [← hw']; exact setRow_heap w g cur _ e (0, 0) hg
  have hother : ∀ b, b ≠ g → w'.heap[b]? = w.heap[b]? := fun b hb => by rw [← hw']; exact setRow_other w g b _ hb
  have hsize : w'.heap.size = w.heap.size := by rw [← hw']; simp [World.setRow]
  have hbelow : w0.Keeps w' := by
    refine hr.below.step (by rw [← hw']; rfl) (by rw [← hw']; rfl) (by rw [← hw']; rfl) (by omega) fun b _ hnl => hother b fun e => ?_
    exact hnl (e ▸ (hr.lo k g hgk).1)
  have hfl : ((List.replicate (l.length - j) zs).flatten).length = (l.length - j) * n := by
    rw [List.length_flatten, List.map_replicate, hzl]; simp
  have hsum : j * n + (l.length - j) * n = l.length * n := by rw [← Nat.add_mul]; congr 1; omega
  have hle : l.length * n ≤ cap * n := Nat.mul_le_mul_right n hlc
  have hcl : cur.toList.length = cap * n := by simpa using hs
  have hjn : j * n ≤ cap * n := Nat.mul_le_mul_right n (by omega)
  have htl : (l.take j ++ List.replicate (l.length - j) ps).length = l.length := by simp; omega
  have hown : OwnTop (takeJ J w w' (64 * t0) k [] [g]).F [g] w' (.slice (some ⟨g, 0, none⟩) l.length cap) n (l.take j ++ List.replicate (l.length - j) ps) := by
    refine .inr ⟨g, cap, _, e, rfl, by rw [htl], hgw, ?_, ?_, by rw [htl]; exact hlc, by rw [htl]; exact hcap⟩
    · simp only [List.size_toArray, List.length_append, hfl, List.length_take, List.length_drop, hcl]
      omega
    · rw [htl]
      have : ((cur.toList.take (j * n) ++ (List.replicate (l.length - j) zs).flatten ++ cur.toList.drop (j * n + (l.length - j) * n)).toArray.toList.take (l.length * n)) = cur.toList.take (j * n) ++ (List.replicate (l.length - j) zs).flatten := by
        show ((_ : List Value) ++ _ ++ _).take _ = _
        have hln : (cur.toList.take (j * n) ++ (List.replicate (l.length - j) zs).flatten).length = l.length * n := by
          simp only [List.length_append, hfl, List.length_take, hcl]; omega
        rw [List.take_append_of_le_length (by omega), List.take_of_length_le (by omega)]
      rw [this]
      refine VR.append (vr_zeros (hzv _ _) hpl _) (VR.keep (X := J.F) (w := w) (fun b hb => ⟨.inl hb, hother b fun e => hgF (e ▸ hb)⟩) ?_)
      have h3 := hvr.take j
      rwa [List.take_take, Nat.min_eq_left (by omega)] at h3
  have hR := take_step hr3 (t := t0) (k := k) (n := n) m0 (frz := []) (L' := [g]) (by simp) (w' := w') (u := .slice (some ⟨g, 0, none⟩) l.length cap) (l' := l.take j ++ List.replicate (l.length - j) ps) (d := false) hbelow (by omega) (fun b hb hn => hother b fun e => hn (e ▸ hgk)) (by simp) (fun b hb => by
    obtain rfl := List.mem_singleton.1 hb
    exact ⟨by have := (hr.lo k b hgk).2.1; omega, .inr hgk⟩) (by
      show OwnTop _ ((takeJ J w w' (64 * t0) k [] [g]).L (64 * t0)) _ _ _ _
      rw [show (takeJ J w w' (64 * t0) k [] [g]).L (64 * t0) = [g] from if_pos rfl]
      exact hown)
  rw [put_self e03 (by rw [hr3.size]; exact m0)] at hR
  refine ⟨_, _, hR.less (s' := ⟨[(t0, .one (.slc (.own false (64 * t0)) n (l.take j ++ List.replicate (l.length - j) ps))), (t5, .one (.int .i64 (j : Int)))], []⟩) (fun t v hv => ?_) (fun k c hc => by cases hc), hQ _ htl (by simp [List.take_append, List.take_take]; omega)⟩
  show get (ins t0 _ [(t5, AV.one (.int .i64 (j : Int)))]) t = some v
  rw [get_ins]
  simp only [get] at hv ⊢
  exact hv
end
end Go.Proofs.YtdakhddpcfimaaaGreatDoor
namespace Go.Proofs.YtdakhddpcfimaaaGreatDoor
open Go.RowKit
section
variable {P : Program}
theorem copy_run (w : World) (dT sT ty elem : TypeId) (inf : TypeInfo) (b o dLen dCap : Nat) (a : Addr) (sLen sCap : Nat) (cs : List Value) (hu : P.underlying dT = some (.slice elem)) (hi : P.info? elem = some inf)
    (hn : cs.length = Nat.min sLen dLen * inf.size) (hsrc : ∀ j v, cs[j]? = some v → w.cell? (a.add j) = some v) {cur : Array Value} {e : TypeId} (hg : w.heap[b]? = some (.cells cur e (0, 0))) (hfit : o + cs.length ≤ cur.size) (h1 : ∀ v ∈ cs, v.oneCell' = true) :
    (Builtin.copy_ #[dT, sT] ty #[.slice (some ⟨b, o, none⟩) dLen dCap, .slice (some a) sLen sCap]).run P w = .ok (goInt (Nat.min sLen dLen)) (w.setCells b o cs) := by
  have hl := run_loadCells_list (P := P) w a cs hsrc
  have hc : ∀ j, j < cs.length → (w.cell? ⟨b, o + j, none⟩).isSome = true := fun j hj => by
    have : o + j < cur.size := by omega
    simp [World.cell?, hg, this]
  have hf : ∀ j, j < cs.length → w.frozen? ⟨b, o + j, none⟩ = false := fun j hj => by simp [World.frozen?, hg]
  have hst := run_storeCells_cells (P := P) b o cs 0 w (by simpa using hc) (by simpa using hf) h1
  simp [Builtin.copy_, run_underlying hu, Builtin.lenOf, Builtin.firstCells, sizeOf, typeInfo, hi, ← hn, hl, hst]
theorem overlaps_run (w : World) (tS tR e : TypeId) (ht : P.underlying tS = some (.slice e)) (size : Nat) (hz : ∀ w, (Go.sizeOf e).run P w = .ok size w) (a b : Addr) (la ca lb cb : Nat) (hne : a.block ≠ b.block)
    {arrA : Array Value} {tA : TypeId} {frA : Nat × Nat} (hA : w.heap[a.block]? = some (.cells arrA tA frA)) {arrB : Array Value} {tB : TypeId} (hB : w.heap[b.block]? = some (.cells arrB tB (0, 0))) (hpos : 0 < arrB.size) (hposA : 0 < arrA.size) :
    (Extern.SlicesOverlaps.overlaps #[tS, tS] #[tR] #[.slice (some a) la ca, .slice (some b) lb cb]).run P w = .ok (.bool false) w := by
  have hsa : w.shape? a.block = some (tA, arrA.size) := by simp [World.shape?, hA]
  have hsb : w.shape? b.block = some (tB, arrB.size) := by simp [World.shape?, hB]
  have hfb : ∀ o, w.frozen? ⟨b.block, o, none⟩ = false := fun o => by simp [World.frozen?, hB]
  have hfb' : w.frozen? b = false := by simp [World.frozen?, hB]
  have hnb : (a.block != b.block) = true := by simpa using hne
  have hnb' : (a.block == b.block) = false := by simpa using hne
  obtain ⟨kb, hkb⟩ : ∃ kb, arrB.size = kb + 1 := ⟨arrB.size - 1, by omega⟩
  rw [hkb] at hsb
  obtain ⟨ka, hka⟩ : ∃ ka, arrA.size = ka + 1 := ⟨arrA.size - 1, by omega⟩
  rw [hka] at hsa
  change Sem.run P (underlying tS >>= _) w = _
  by_cases h0 : la = 0 ∨ lb = 0 ∨ size = 0
  · simp [run_underlying ht, hz, h0]
  · cases hfa : w.frozen? a with
    | true => simp [run_underlying ht, hz, h0, hnb, hnb', frozen, noView, viewAt, mayBeOne, stringish, shape, Sem.run, hsa, hsb, hfa, hfb, hfb']
    | false =>
      cases hfa2 : w.frozen? { block := a.block, off := ka + 1 } with
      | true => simp [run_underlying ht, hz, h0, hnb, hnb', frozen, noView, viewAt, mayBeOne, stringish, shape, Sem.run, hsa, hsb, hfa, hfb, hfb', hfa2]
      | false => simp [run_underlying ht, hz, h0, hnb, hnb', frozen, noView, viewAt, mayBeOne, stringish, shape, Sem.run, hsa, hsb, hfa, hfb, hfb', hfa2]
structure RowAt (w : World) (n : Nat) (oa : Option Addr) (m cap : Nat) (olds : List Value) : Prop where
  len : olds.length = m * n
  row : (oa = oa ∧ m = 0 ∧ cap = 0) ∨ ∃ g cur e, oa = some ⟨g, 0, none⟩ ∧ w.heap[g]? = some (.cells cur e (0, 0)) ∧ cur.size = cap * n ∧ cur.toList.take (m * n) = olds
  le : m ≤ cap
  cap : cap ≤ maxLen
  lim : m < 1073741824
  ones : ∀ u, u ∈ olds → u.oneCell' = true
structure Turned (w w' : World) (n : Nat) (oa : Option Addr) (cap : Nat) (u : Value) (m' : Nat) (news : List Value) : Prop where
  os : w'.os = w.os
  tape : w'.tape = w.tape
  output : w'.output = w.output
  size : w.heap.size ≤ w'.heap.size
  row : ∃ g' cap' cur' e', u = .slice (some ⟨g', 0, none⟩) m' cap' ∧ w'.heap[g']? = some (.cells cur' e' (0, 0)) ∧ cur'.size = cap' * n ∧ cur'.toList.take (m' * n) = news ∧ m' ≤ cap' ∧ cap' ≤ maxLen ∧
    ((oa = some ⟨g', 0, none⟩ ∧ 0 < cap ∧ ∀ b, b ≠ g' → w'.heap[b]? = w.heap[b]?) ∨ (w.heap.size ≤ g' ∧ g' < w'.heap.size ∧ ∀ b, b < w.heap.size → w'.heap[b]? = w.heap[b]?))
def InsTo (w : World) (n i : Nat) (oa : Option Addr) (m cap : Nat) (olds vs : List Value) (e : Ending) (w' : World) : Prop :=
  ∃ u, e = .returned u ∧ Turned w w' n oa cap u (m + 1) (olds.take (i * n) ++ vs ++ olds.drop (i * n))
structure OneAt (w : World) (n : Nat) (oa : Option Addr) (cap : Nat) (vb voff : Nat) (vs : List Value) : Prop where
  len : vs.length = n
  cells : ∀ j u, vs[j]? = some u → w.cell? ⟨vb, voff + j, none⟩ = some u
  ones : ∀ u, u ∈ vs → u.oneCell' = true
  ne : ∀ g, oa = some ⟨g, 0, none⟩ → 0 < cap → vb ≠ g
theorem rowTop {F : Nat → Prop} {L : List Nat} {w : World} {v : Value} {n : Nat} {l : List (List PV)} (h : OwnTop F L w v n l) (hl : l.length < 1073741824) :
    ∃ oa cap olds, v = .slice oa l.length cap ∧ RowAt w n oa l.length cap olds ∧ VR F w n olds l ∧ (0 < cap → ∃ g, oa = some ⟨g, 0, none⟩ ∧ L = [g]) := by
  rcases h with ⟨rfl, oa, rfl⟩ | ⟨g, cap, cur, e, rfl, rfl, hg, hs, hr, h1, h2⟩
  · exact ⟨oa, 0, [], rfl, ⟨by simp, .inl ⟨rfl, rfl, rfl⟩, Nat.le_refl _, Nat.zero_le _, by simp, by simp⟩, .nil n, fun h => by omega⟩
  · exact ⟨some ⟨g, 0, none⟩, cap, _, rfl, ⟨hr.length, .inr ⟨g, cur, e, rfl, hg, hs, rfl⟩, h1, h2.1, hl, hr.ones⟩, hr, fun _ => ⟨g, rfl, rfl⟩⟩
theorem Turned.ret {F G : Nat → Prop} {L : List Nat} {w w' : World} {n : Nat} {oa : Option Addr} {cap : Nat} {u : Value} {m' : Nat} {news : List Value} (h : Turned w w' n oa cap u m' news) (hF : ∀ b, F b → b < w.heap.size ∧ b ∉ L) (hL : 0 < cap → ∃ g, oa = some ⟨g, 0, none⟩ ∧ L = [g]) (hLs : ∀ b, b ∈ L → b < w.heap.size)
    {l' : List (List PV)} (hv : VR F w n news l') (hm : l'.length = m') (hlim : m' ≤ 1073741824) : TRet F L w n false l' (.returned u) w' := by
  obtain ⟨g', cap', cur', e', rfl, hg, hs, ht, h1, h2, h3⟩ := h.row
  have hsame : ∀ b, b < w.heap.size → b ∉ L → w'.heap[b]? = w.heap[b]? := fun b hb hn => by
    rcases h3 with ⟨h3, hc, h4⟩ | ⟨_, _, h4⟩
    · obtain ⟨g, h5, rfl⟩ := hL hc
      rw [h3] at h5
      obtain rfl : g' = g := by simpa using h5
      exact h4 b fun e => hn (by simp [e])
    · exact h4 b hb
  refine ⟨_, rfl, fun m hm hmL => ⟨h.os, h.tape, h.output, h.size, fun b hb => hsame b (by omega) fun hx => by have := hmL b hx; omega⟩, hsame, [g'], by simp, fun b hb => ?_, ?_⟩
  · obtain rfl := List.mem_singleton.1 hb
    refine ⟨block_lt_of_heap hg, ?_⟩
    rcases h3 with ⟨h3, hc, _⟩ | ⟨h3, _, _⟩
    · obtain ⟨g, h5, rfl⟩ := hL hc
      rw [h3] at h5
      obtain rfl : b = g := by simpa using h5
      exact .inr (by simp)
    · exact .inl h3
  · refine .inr ⟨g', cap', cur', e', rfl, by rw [hm], hg, hs, ?_, by rw [hm]; exact h1, h2, by rw [hm]; exact hlim⟩
    rw [hm, ht]
    exact hv.keep fun b hb => ⟨.inl hb, hsame b (hF b hb).1 (hF b hb).2⟩
theorem atake_ins {f n : Nat} (hok : FnOk P f) (h0 : 0 < n)
    (hrun : ∀ w oa m cap olds i vb voff vc vs, RowAt w n oa m cap olds → OneAt w n oa cap vb voff vs → i ≤ m → Calls P f #[.slice oa m cap, .int .i64 (i : Int), .slice (some ⟨vb, voff, none⟩) 1 vc] w (InsTo w n i oa m cap olds vs))
    {l : List (List PV)} {x : List PV} {i : Int} {j : Nat} (hij : i = (j : Int)) (hj : j ≤ l.length) (hl : l.length < 1073741824) : ATake P f n l [.one (.int .i64 i), .one (.slc .sh n [x])] true false (l.take j ++ [x] ++ l.drop j) := by
  subst hij
  refine ⟨hok, fun w F G L v vals _ hFG hGF hGs hnd hLG hrow hargs => ?_⟩
  have hGF := hGF rfl
  cases hargs with
  | cons a1 ha =>
  cases ha with
  | cons a2 ha =>
  cases ha
  obtain ⟨rfl, _⟩ : _ = Value.int .i64 (j : Int) ∧ InR .i64 (j : Int) := a1
  have a2 : VV G w _ (.slc n [x]) := a2
  obtain ⟨oa, cap, olds, rfl, hR, hV, hL⟩ := rowTop hrow hl
  generalize hp : PV.slc n [x] = p at a2
  cases a2 with
  | int | bool | str | any => cases hp
  | emp => cases hp
  | @slc vb voff vc n' cs l1 hb hc hr h1 h2 =>
    obtain ⟨rfl, rfl⟩ : n = n' ∧ [x] = l1 := by simpa using hp
    have hcl : cs.length = n := by rw [hr.length]; simp
    have hone : OneAt w n oa cap vb voff cs := ⟨hcl, hc, hr.ones, fun g hg hcap e => by
      obtain ⟨g', h5, rfl⟩ := hL hcap
      rw [hg] at h5
      obtain rfl : g = g' := by simpa using h5
      exact (hLG g (by simp)).2 (e ▸ hb)⟩
    refine (hrun w oa l.length cap olds j vb voff vc cs hR hone hj).mono ?_
    rintro e w' ⟨u, rfl, hT⟩
    refine hT.ret (G := G) (fun b hb => ⟨hGs b (hFG b hb), fun hm => (hLG b hm).2 (hFG b hb)⟩) hL (fun b hb => (hLG b hb).1) ?_ ?_ (by omega)
    · exact VR.append (hV.drop j) (VR.append (hr.keep fun b hb => ⟨hGF b hb, rfl⟩) (hV.take j))
    · simp; omega
def DelTo (w : World) (n i : Nat) (oa : Option Addr) (m cap : Nat) (olds : List Value) (e : Ending) (w' : World) : Prop :=
  ∃ u, e = .returned u ∧ Turned w w' n oa cap u (m - 1) (olds.take (i * n) ++ olds.drop ((i + 1) * n))
theorem atake_del {f n : Nat} (hok : FnOk P f)
    (hrun : ∀ w oa m cap olds i, RowAt w n oa m cap olds → i < m → Calls P f #[.slice oa m cap, .int .i64 (i : Int), .int .i64 ((i : Int) + 1)] w (DelTo w n i oa m cap olds))
    {l : List (List PV)} {i k : Int} {j : Nat} (hij : i = (j : Int)) (hk : k = (j : Int) + 1) (hj : j < l.length) (hl : l.length < 1073741824) : ATake P f n l [.one (.int .i64 i), .one (.int .i64 k)] true false (l.take j ++ l.drop (j + 1)) := by
  subst hij
  subst hk
  refine ⟨hok, fun w F G L v vals _ hFG hGF hGs hnd hLG hrow hargs => ?_⟩
  cases hargs with
  | cons a1 ha =>
  cases ha with
  | cons a2 ha =>
  cases ha
  obtain ⟨rfl, _⟩ : _ = Value.int .i64 (j : Int) ∧ InR .i64 (j : Int) := a1
  obtain ⟨rfl, _⟩ : _ = Value.int .i64 ((j : Int) + 1) ∧ InR .i64 ((j : Int) + 1) := a2
  obtain ⟨oa, cap, olds, rfl, hR, hV, hL⟩ := rowTop hrow hl
  refine (hrun w oa l.length cap olds j hR hj).mono ?_
  rintro e w' ⟨u, rfl, hT⟩
  refine hT.ret (G := G) (fun b hb => ⟨hGs b (hFG b hb), fun hm => (hLG b hm).2 (hFG b hb)⟩) hL (fun b hb => (hLG b hb).1) ?_ ?_ (by omega)
  · exact VR.append (hV.drop (j + 1)) (hV.take j)
  · simp; omega
end
end Go.Proofs.YtdakhddpcfimaaaGreatDoor
namespace Go.Proofs.YtdakhddpcfimaaaGreatDoor
open Go.RowKit
section
variable {P : Program} {t e : TypeId} {ei : TI} {w : World} {oa : Option Addr} {m cap i vb voff vc : Nat} {olds vs : List Value}
theorem goIdx {i m n : Nat} (hi : i < m) : (i + 1) * n = i * n + n ∧ i * n + n ≤ m * n ∧ (m - i) * n = m * n - i * n ∧ (m + 1) * n = m * n + n := by
  have h1 : (i + 1) * n ≤ m * n := Nat.mul_le_mul_right n (by omega)
  have h2 : (i + 1) * n = i * n + n := by rw [Nat.add_mul, Nat.one_mul]
  exact ⟨h2, by omega, Nat.sub_mul .., by rw [Nat.add_mul, Nat.one_mul]⟩
theorem OneAt.block {n : Nat} (h : OneAt w n oa cap vb voff vs) (h0 : 0 < n) : vb < w.heap.size ∧ ∃ arr tA fr, w.heap[vb]? = some (.cells arr tA fr) ∧ 0 < arr.size := by
  have hl : 0 < vs.length := by rw [h.len]; exact h0
  have hc := h.cells 0 vs[0] (List.getElem?_eq_getElem hl)
  unfold World.cell? at hc
  split at hc
  · rename_i arr tA fr hh
    refine ⟨block_lt_of_heap hh, arr, tA, fr, hh, ?_⟩
    have hc : arr[voff + 0]? = some vs[0] := by simpa using hc
    have := (Array.getElem?_eq_some_iff.1 hc).1
    omega
  · cases hc
theorem wpList_copy_rn {w : World} {ops : Array Oper} {rest : List Oper} {o : Oper} {a : Act} {Q : Exit → Act → World → Prop} (hgd : o.guard = none) (d s : Operand) (t t' : TypeId)
    (ho : o.op = .call { callee := .builtin .copy, args := #[d, s], argTypes := #[t, t'] }) (v u : Value) (hd : a.eval d = v) (hs : a.eval s = u) {v' : Value} {w' : World}
    (hr : (Builtin.copy_ #[t, t'] o.type #[v, u]).run P w = .ok v' w') (h : wpList P ops Q rest (a.put o.dst v') w') : wpList P ops Q (o :: rest) a w :=
  wpList_plain hgd fun K hK => by
    unfold Oper.wp execOp
    simp only [ho, resolve, invoke, builtin, Sem.run_bind, Sem.run_pure, Result.andThen_ok, List.map_toArray, List.map_cons, List.map_nil, hd, hs, hr]
    exact hK _ _ h
theorem step_copy_rn {w : World} {ops : Array Oper} {o : Oper} {a : Act} {K : Act → World → Prop} {Q : Exit → Act → World → Prop} {E : Prop}
    (hg : o.guard = none) (d x : Operand) (dT sT : TypeId) (hop : o.op = .call { callee := .builtin .copy, args := #[d, x], argTypes := #[dT, sT] })
    (v u : Value) (hd : a.eval d = v) (hx : a.eval x = u) {v' : Value} {w' : World} (hr : (Builtin.copy_ #[dT, sT] o.type #[v, u]).run P w = .ok v' w') (hK : K (a.put o.dst v') w') :
    if Region.wanted o (yielded ops a.tmps) = true then Oper.wp P o a w K Q else E := by
  rw [if_pos (by simp [Region.wanted, hg])]
  unfold Oper.wp execOp
  simp only [hop, resolve, invoke, builtin, Sem.run_bind, Sem.run_pure, Result.andThen_ok, List.map_toArray, List.map_cons, List.map_nil, hd, hx, hr]
  exact hK
theorem step_append_rn {w : World} {ops : Array Oper} {o : Oper} {a : Act} {K : Act → World → Prop} {Q : Exit → Act → World → Prop} {E : Prop}
    (hg : o.guard = none) (d x : Operand) (dT sT : TypeId) (hop : o.op = .call { callee := .builtin .append, args := #[d, x], argTypes := #[dT, sT] })
    (v u : Value) (hd : a.eval d = v) (hx : a.eval x = u) {v' : Value} {w' : World} (hr : (Builtin.append_ #[dT, sT] o.type #[v, u]).run P w = .ok v' w') (hK : K (a.put o.dst v') w') :
    if Region.wanted o (yielded ops a.tmps) = true then Oper.wp P o a w K Q else E := by
  rw [if_pos (by simp [Region.wanted, hg])]
  unfold Oper.wp execOp
  simp only [hop, resolve, invoke, builtin, Sem.run_bind, Sem.run_pure, Result.andThen_ok, List.map_toArray, List.map_cons, List.map_nil, hd, hx, hr]
  exact hK
theorem heap_drew_setCells (g : Nat) : ∀ (vs : List Value) (o : Nat) (w : World), (w.drew.setCells g o vs).heap = (w.setCells g o vs).heap
  | [], _, _ => rfl
  | v :: vs, o, w => heap_drew_setCells g vs (o + 1) (w.setCell ⟨g, o, none⟩ v)
theorem src_one (hu : P.underlying t = some (.slice e)) (hO : OneAt w ei.size oa cap vb voff vs) : Src P ei.size t (.slice (some ⟨vb, voff, none⟩) 1 vc) 1 vs w :=
  Src.ofSlice w hu _ _ _ _ (by rw [hO.len]; omega) (fun j u hj => by rw [Addr.add_lit]; exact hO.cells j u hj) hO.ones
theorem road_end (hu : P.underlying t = some (.slice e)) (hei : TiOk P e ei) (hn : 0 < ei.size) (hR : RowAt w ei.size oa m cap olds) (hO : OneAt w ei.size oa cap vb voff vs) :
    ∃ u w', (∀ ty, (Builtin.append_ #[t, t] ty #[.slice oa m cap, .slice (some ⟨vb, voff, none⟩) 1 vc]).run P w = .ok u w') ∧ InsTo w ei.size m oa m cap olds vs (.returned u) w' := by
  have hold : ∀ ad, oa = some ad → ∀ (j : Nat) (u : Value), olds[j]? = some u → w.cell? (ad.add j) = some u := fun ad had j u hj => by
    rcases hR.row with ⟨_, h0, _⟩ | ⟨g, cur, e0, h1, h2, h3, h4⟩
    · have := hR.len
      rw [h0, Nat.zero_mul] at this
      rw [List.length_eq_zero_iff.1 this] at hj
      simp at hj
    · rw [had] at h1
      obtain rfl := Option.some.inj h1
      rw [← h4] at hj
      exact row_reads h2 _ j u hj
  obtain ⟨g', cap', cur', e', w', hr, h1, h2, h3, h4, h5, h6, h7, h8, h9, h10⟩ := append_run (ty := 0) hu hei hn hR.len hold (fun h => by
      rcases hR.row with ⟨_, h0, _⟩ | ⟨g, cur, e0, h1, _⟩
      · exact h0
      · rw [h] at h1; cases h1) (hR.row.imp (fun h => h.2.2) fun h => h) hR.le (src_one (vc := vc) hu hO) (by have := hR.lim; omega) (fun _ => by omega) hR.cap
  refine ⟨_, w', fun ty => hr, _, rfl, ⟨h6, h7, h8, h9, g', cap', cur', e', rfl, h1, h2, ?_, h4, h5, ?_⟩⟩
  · rw [h3, List.take_of_length_le (by rw [hR.len]; omega), List.drop_of_length_le (by rw [hR.len]; omega), List.append_nil]
  · exact h10.imp (fun ⟨cur, e0, h1, h2, h3, h4⟩ => ⟨h1, by omega, h4⟩) fun ⟨h1, h2, h3⟩ => ⟨by omega, h2, h3⟩
variable {g : Nat} {cur : Array Value} {e0 : TypeId}
theorem olds_cell (hg : w.heap[g]? = some (.cells cur e0 (0, 0))) (htk : cur.toList.take (m * ei.size) = olds) {k : Nat} : ∀ (j : Nat) (u : Value), (olds.drop k)[j]? = some u → w.cell? ((⟨g, k, none⟩ : Addr).add j) = some u := fun j u hj => by
  rw [List.getElem?_drop, ← htk] at hj
  have := row_reads hg _ _ u hj
  rw [Addr.add_lit, Nat.zero_add] at this
  rw [Addr.add_lit]
  exact this
theorem heap_os_setCells (g : Nat) : ∀ (vs : List Value) (o : Nat) (w : World), (w.setCells g o vs).os = w.os ∧ (w.setCells g o vs).tape = w.tape ∧ (w.setCells g o vs).output = w.output
  | [], _, _ => ⟨rfl, rfl, rfl⟩
  | v :: vs, o, w => heap_os_setCells g vs (o + 1) (w.setCell ⟨g, o, none⟩ v)
theorem road_room (hu : P.underlying t = some (.slice e)) (hei : TiOk P e ei) (hn : 0 < ei.size) (hg : w.heap[g]? = some (.cells cur e0 (0, 0))) (hcs : cur.size = cap * ei.size) (htk : cur.toList.take (m * ei.size) = olds)
    (hR : RowAt w ei.size (some ⟨g, 0, none⟩) m cap olds) (hO : OneAt w ei.size (some ⟨g, 0, none⟩) cap vb voff vs) (hi : i < m) (hroom : m + 1 ≤ cap) :
    (∀ ty dc sc, (Builtin.copy_ #[t, t] ty #[.slice (some ⟨g, (i + 1) * ei.size, none⟩) (m + 1 - (i + 1)) dc, .slice (some ⟨g, i * ei.size, none⟩) (m + 1 - i) sc]).run P w = .ok (goInt (Nat.min (m + 1 - i) (m + 1 - (i + 1)))) (w.setCells g ((i + 1) * ei.size) (olds.drop (i * ei.size)))) ∧
    (∀ W : World, W.heap = (w.setCells g ((i + 1) * ei.size) (olds.drop (i * ei.size))).heap → ∀ ty dc, (Builtin.copy_ #[t, t] ty #[.slice (some ⟨g, i * ei.size, none⟩) (m + 1 - i) dc, .slice (some ⟨vb, voff, none⟩) 1 vc]).run P W = .ok (goInt (Nat.min 1 (m + 1 - i))) (W.setCells g (i * ei.size) vs)) ∧
    (∀ W : World, W.heap = (w.setCells g ((i + 1) * ei.size) (olds.drop (i * ei.size))).heap → W.os = w.os → W.tape = w.tape → W.output = w.output → InsTo w ei.size i (some ⟨g, 0, none⟩) m cap olds vs (.returned (.slice (some ⟨g, 0, none⟩) (m + 1) cap)) (W.setCells g (i * ei.size) vs)) := by
  obtain ⟨inf, z, hI, hsz, _⟩ := hei.info
  obtain ⟨k1, k2, k3, k4⟩ := goIdx (n := ei.size) hi
  have k5 : m * ei.size + ei.size ≤ cap * ei.size := by rw [← k4]; exact Nat.mul_le_mul_right _ hroom
  have hdl : (olds.drop (i * ei.size)).length = (m - i) * ei.size := by rw [List.length_drop, hR.len, k3]
  have hfit1 : (i + 1) * ei.size + (olds.drop (i * ei.size)).length ≤ cur.size := by rw [hdl]; omega
  have hmin : Nat.min (m + 1 - i) (m + 1 - (i + 1)) = m - i := by simp only [Nat.min_def]; split <;> omega
  have hmin1 : Nat.min 1 (m + 1 - i) = 1 := by simp only [Nat.min_def]; split <;> omega
  have hvb : vb ≠ g := hO.ne g rfl (by omega)
  have hg1 := heap_setCells_of g (olds.drop (i * ei.size)) ((i + 1) * ei.size) w hg
  have hfit2 : i * ei.size + vs.length ≤ (putCells cur ((i + 1) * ei.size) (olds.drop (i * ei.size))).size := by rw [size_putCells, hO.len]; omega
  refine ⟨fun ty dc sc => ?_, fun W hW ty dc => ?_, fun W hW ho ht hu' => ?_⟩
  · exact copy_run w t t ty e inf g _ _ dc ⟨g, i * ei.size, none⟩ _ sc _ hu hI (by rw [hmin, hdl, hsz]) (olds_cell hg htk) hg hfit1 fun v hv => hR.ones v (List.mem_of_mem_drop hv)
  · refine copy_run W t t ty e inf g _ _ dc ⟨vb, voff, none⟩ _ vc _ hu hI (by rw [hmin1, hO.len, hsz, Nat.one_mul]) (fun j v hj => ?_) (hW ▸ hg1) hfit2 hO.ones
    rw [Addr.add_lit, World.cell?_of_block (w := w) (by rw [hW]; exact heap_setCells_ne g hvb _ _ _)]
    exact hO.cells j v hj
  · obtain ⟨p1, p2, p3⟩ := heap_os_setCells g vs (i * ei.size) W
    have hg2 := heap_setCells_of g vs (i * ei.size) W (hW ▸ hg1)
    refine ⟨_, rfl, ⟨p1.trans ho, p2.trans ht, p3.trans hu', ?_, g, cap, _, e0, rfl, hg2, by rw [size_putCells, size_putCells]; exact hcs, ?_, hroom, hR.cap, .inl ⟨rfl, by omega, fun b hb => ?_⟩⟩⟩
    · rw [size_setCells, hW, size_setCells]; exact Nat.le_refl _
    · have hci : cur.toList.take (i * ei.size) = olds.take (i * ei.size) := by
        rw [← htk, List.take_take]; congr 1; omega
      have hA : ((cur.toList.take ((i + 1) * ei.size) ++ olds.drop (i * ei.size)) ++ cur.toList.drop ((i + 1) * ei.size + (olds.drop (i * ei.size)).length)).take (i * ei.size) = olds.take (i * ei.size) := by
        have hl : (cur.toList.take ((i + 1) * ei.size)).length = (i + 1) * ei.size := by rw [List.length_take, Array.length_toList]; omega
        rw [List.append_assoc, List.take_append_of_le_length (by rw [hl]; omega), List.take_take, ← hci]; congr 1; omega
      have hB : ((cur.toList.take ((i + 1) * ei.size) ++ olds.drop (i * ei.size)) ++ cur.toList.drop ((i + 1) * ei.size + (olds.drop (i * ei.size)).length)).drop (i * ei.size + vs.length) = olds.drop (i * ei.size) ++ cur.toList.drop ((i + 1) * ei.size + (olds.drop (i * ei.size)).length) := by
        have hl : (cur.toList.take ((i + 1) * ei.size)).length = i * ei.size + vs.length := by rw [List.length_take, Array.length_toList, hO.len]; omega
        rw [List.append_assoc, ← hl, List.drop_left]
      rw [putCells_list hfit2, putCells_list hfit1, hA, hB]
      have hl3 : (olds.take (i * ei.size) ++ vs ++ olds.drop (i * ei.size)).length = (m + 1) * ei.size := by
        rw [List.length_append, List.length_append, hdl, hO.len, List.length_take, hR.len, k3]; omega
      rw [← List.append_assoc, ← hl3, List.take_left]
    · rw [heap_setCells_ne g hb, hW, heap_setCells_ne g hb]
theorem road_grow {tn : TypeId} (hu : P.underlying t = some (.slice e)) (htn : P.underlying tn = some (.int .i64)) (hei : TiOk P e ei) (hn : 0 < ei.size) (hg : w.heap[g]? = some (.cells cur e0 (0, 0))) (hcs : cur.size = cap * ei.size) (htk : cur.toList.take (m * ei.size) = olds)
    (hR : RowAt w ei.size (some ⟨g, 0, none⟩) m cap olds) (hO : OneAt w ei.size (some ⟨g, 0, none⟩) cap vb voff vs) (hvw : vb < w.heap.size) (hi : i < m) (hroom : cap < m + 1) :
    ∃ G W1, m + 1 ≤ G ∧ G ≤ maxLen ∧ (∀ ty k, k = ((m + 1 - i : Nat) : Int) → (Builtin.append_ #[t, tn] ty #[.slice (some ⟨g, 0, none⟩) i cap, .int .i64 k]).run P w = .ok (.slice (some ⟨w.heap.size, 0, none⟩) (m + 1) G) W1) ∧
    (∀ W : World, W.heap = W1.heap → ∀ ty dc, (Builtin.copy_ #[t, t] ty #[.slice (some ⟨w.heap.size, i * ei.size, none⟩) (m + 1 - i) dc, .slice (some ⟨vb, voff, none⟩) 1 vc]).run P W = .ok (goInt (Nat.min 1 (m + 1 - i))) (W.setCells w.heap.size (i * ei.size) vs)) ∧
    (∀ W : World, W.heap = (W1.setCells w.heap.size (i * ei.size) vs).heap → ∀ ty dc sc, (Builtin.copy_ #[t, t] ty #[.slice (some ⟨w.heap.size, (i + 1) * ei.size, none⟩) (m + 1 - (i + 1)) dc, .slice (some ⟨g, i * ei.size, none⟩) (m - i) sc]).run P W = .ok (goInt (Nat.min (m - i) (m + 1 - (i + 1)))) (W.setCells w.heap.size ((i + 1) * ei.size) (olds.drop (i * ei.size)))) ∧
    (∀ W : World, W.heap = (W1.setCells w.heap.size (i * ei.size) vs).heap → W.os = w.os → W.tape = w.tape → W.output = w.output → InsTo w ei.size i (some ⟨g, 0, none⟩) m cap olds vs (.returned (.slice (some ⟨w.heap.size, 0, none⟩) (m + 1) G)) (W.setCells w.heap.size ((i + 1) * ei.size) (olds.drop (i * ei.size)))) ∧
    W1.os = w.os ∧ W1.tape = w.tape ∧ W1.output = w.output := by
  obtain ⟨inf, z, hI, hsz, hby, hz, hzs, _⟩ := hei.info
  obtain ⟨k1, k2, k3, k4⟩ := goIdx (n := ei.size) hi
  have hlim := hR.lim
  have hle := hR.le
  have hgw : g < w.heap.size := block_lt_of_heap hg
  have hdl : (olds.drop (i * ei.size)).length = (m - i) * ei.size := by rw [List.length_drop, hR.len, k3]
  have htl : (olds.take (i * ei.size)).length = i * ei.size := by rw [List.length_take, hR.len]; omega
  have hmin : Nat.min (m - i) (m + 1 - (i + 1)) = m - i := by simp only [Nat.min_def]; split <;> omega
  have hmin1 : Nat.min 1 (m + 1 - i) = 1 := by simp only [Nat.min_def]; split <;> omega
  have hold : (Builtin.firstCells inf.size i (.slice (some ⟨g, 0, none⟩) i cap)).run P w.drew = .ok (olds.take (i * ei.size)).toArray w.drew := by
    refine run_firstCells_some w.drew inf.size i ⟨g, 0, none⟩ i cap _ (by rw [htl, hsz]) fun j u hj => ?_
    rw [List.getElem?_take] at hj
    split at hj
    · rw [← htk] at hj
      exact row_reads hg _ j u hj
    · cases hj
  have hik : i + (m + 1 - i) = m + 1 := by omega
  have hbytes : ((m + 1) + (m + 1) / 4 + 192) * inf.bytes ≤ 281474976710656 := Nat.le_trans (Nat.mul_le_mul (show _ ≤ 1342177472 by omega) hby) (by decide)
  have hkb : (m + 1 - i) * inf.bytes ≤ 281474976710656 := Nat.le_trans (Nat.mul_le_mul_right _ (by omega)) hbytes
  have hap : ∀ ty, (Builtin.append_ #[t, tn] ty #[.slice (some ⟨g, 0, none⟩) i cap, .int .i64 ((m + 1 - i : Nat) : Int)]).run P w = _ := fun ty =>
    Lib.run_append_grow_zeros w t tn ty e inf z .i64 .i64 hu htn hI hz (some ⟨g, 0, none⟩) i cap (olds.take (i * ei.size)) hold (m + 1 - i) (by omega) (by omega) (by omega) (by omega) hkb (by rw [hik]; exact growslice_fits_wide hroom hbytes)
  rw [hik] at hap
  obtain ⟨G, hG⟩ : ∃ G, G = grownCap w (m + 1) cap e := ⟨_, rfl⟩
  have hGn : m + 1 ≤ G := by rw [hG]; exact grownCap_ge w _ _ _
  have hGm : G ≤ maxLen := by rw [hG]; exact grownCap_le_maxLen w _ _ _ (by unfold maxLen; omega)
  rw [← hG] at hap
  obtain ⟨ROW, hROW⟩ : ∃ ROW : Array Value, ROW = (olds.take (i * ei.size)).toArray ++ Builtin.zeroCells z.cells (m + 1 - i) ++ Builtin.zeroCells z.cells (G - (m + 1)) := ⟨_, rfl⟩
  rw [← hROW] at hap
  have hRs : ROW.size = G * ei.size := by
    rw [hROW]
    simp only [Array.size_append, List.size_toArray, size_zeroCells, hzs, htl, ← Nat.add_mul]
    congr 1
    omega
  have hRt : ROW.toList.take (i * ei.size) = olds.take (i * ei.size) := by
    rw [hROW, Array.toList_append, Array.toList_append, List.append_assoc]
    show (olds.take (i * ei.size) ++ _).take _ = _
    rw [List.take_append_of_le_length (by rw [htl]; omega), List.take_of_length_le (by rw [htl]; omega)]
  have hGe : (m + 1) * ei.size ≤ G * ei.size := Nat.mul_le_mul_right _ hGn
  obtain ⟨W1, hW1⟩ : ∃ W1, W1 = w.drew.alloc (.cells ROW e) := ⟨_, rfl⟩
  rw [← hW1] at hap
  have hn1 : W1.heap[w.heap.size]? = some (.cells ROW e (0, 0)) := by rw [hW1]; exact heap_alloc_new w.drew _
  have ho1 : ∀ b, b < w.heap.size → W1.heap[b]? = w.heap[b]? := fun b hb => by rw [hW1]; exact heap_alloc_old w.drew _ hb
  have hs1 : W1.heap.size = w.heap.size + 1 := by rw [hW1]; simp
  have hfitA : i * ei.size + vs.length ≤ ROW.size := by rw [hO.len, hRs]; omega
  have hg2 := heap_setCells_of w.heap.size vs (i * ei.size) W1 hn1
  have hfitB : (i + 1) * ei.size + (olds.drop (i * ei.size)).length ≤ (putCells ROW (i * ei.size) vs).size := by rw [size_putCells, hdl, hRs]; omega
  refine ⟨G, W1, hGn, hGm, fun ty k hk => by subst hk; exact hap ty, fun W hW ty dc => ?_, fun W hW ty dc sc => ?_, fun W hW ho ht hu' => ?_, by rw [hW1]; rfl, by rw [hW1]; rfl, by rw [hW1]; rfl⟩
  · refine copy_run W t t ty e inf _ _ _ dc ⟨vb, voff, none⟩ _ vc _ hu hI (by rw [hmin1, hO.len, hsz, Nat.one_mul]) (fun j v hj => ?_) (hW ▸ hn1) hfitA hO.ones
    rw [Addr.add_lit, World.cell?_of_block (w := w) (by rw [hW]; exact ho1 _ hvw)]
    exact hO.cells j v hj
  · refine copy_run W t t ty e inf _ _ _ dc ⟨g, i * ei.size, none⟩ _ sc _ hu hI (by rw [hmin, hdl, hsz]) (fun j v hj => ?_) (hW ▸ hg2) hfitB fun v hv => hR.ones v (List.mem_of_mem_drop hv)
    have := olds_cell hg htk j v hj
    rw [Addr.add_lit] at this ⊢
    rw [World.cell?_of_block (w := w) (by rw [hW]; exact (heap_setCells_ne w.heap.size (show g ≠ w.heap.size by omega) _ _ _).trans (ho1 _ hgw))]
    exact this
  · obtain ⟨p1, p2, p3⟩ := heap_os_setCells w.heap.size (olds.drop (i * ei.size)) ((i + 1) * ei.size) W
    have hg3 := heap_setCells_of w.heap.size (olds.drop (i * ei.size)) ((i + 1) * ei.size) W (hW ▸ hg2)
    have hsz3 : (W.setCells w.heap.size ((i + 1) * ei.size) (olds.drop (i * ei.size))).heap.size = w.heap.size + 1 := by rw [size_setCells, hW, size_setCells, hs1]
    refine ⟨_, rfl, ⟨p1.trans ho, p2.trans ht, p3.trans hu', by omega, w.heap.size, G, _, e, rfl, hg3, by rw [size_putCells, size_putCells]; exact hRs, ?_, hGn, hGm, .inr ⟨Nat.le_refl _, by omega, fun b hb => ?_⟩⟩⟩
    · rw [putCells_list hfitB, putCells_list hfitA, hRt]
      have hl : (olds.take (i * ei.size) ++ vs).length = (i + 1) * ei.size := by rw [List.length_append, htl, hO.len]; omega
      rw [show ((olds.take (i * ei.size) ++ vs ++ ROW.toList.drop (i * ei.size + vs.length)).take ((i + 1) * ei.size)) = olds.take (i * ei.size) ++ vs from by rw [← hl, List.take_left]]
      have hl3 : (olds.take (i * ei.size) ++ vs ++ olds.drop (i * ei.size)).length = (m + 1) * ei.size := by
        rw [List.length_append, List.length_append, hdl, hO.len, htl, k3]; omega
      rw [← hl3, List.take_left]
    · rw [heap_setCells_ne _ (show b ≠ w.heap.size by omega), hW, heap_setCells_ne _ (show b ≠ w.heap.size by omega)]
      exact ho1 b hb
theorem road_del {z1 : Nat} {z2 : List C} {z3 : List LK} {tt : List (Nat × TI)} (htt : ttOk P tt = true) (g1 : get tt t = some ⟨.sli e, z1, z2, z3⟩) (g2 : get tt e = some ei) (hn : 0 < ei.size) (hg : w.heap[g]? = some (.cells cur e0 (0, 0))) (hcs : cur.size = cap * ei.size) (htk : cur.toList.take (m * ei.size) = olds)
    (hR : RowAt w ei.size (some ⟨g, 0, none⟩) m cap olds) (hi : i < m) :
    ∃ W1, (∀ ty ad, (cap = i + 1 ∨ ad = ⟨g, (i + 1) * ei.size, none⟩) → (Builtin.append_ #[t, t] ty #[.slice (some ⟨g, 0, none⟩) i cap, .slice (some ad) (m - (i + 1)) (cap - (i + 1))]).run P w = .ok (.slice (some ⟨g, 0, none⟩) (m - 1) cap) W1) ∧ W1.os = w.os ∧ W1.tape = w.tape ∧ W1.output = w.output ∧
    ∀ W : World, W.heap = W1.heap → W.os = w.os → W.tape = w.tape → W.output = w.output → ∃ W2 : World, (∀ ty, (Builtin.clear_ #[t] ty #[.slice (some ⟨g, (m - 1) * ei.size, none⟩) (m - (m - 1)) (cap - (m - 1))]).run P W = .ok (.tuple #[]) W2) ∧
      ∀ W3 : World, W3.heap = W2.heap → W3.os = W2.os → W3.tape = W2.tape → W3.output = W2.output → DelTo w ei.size i (some ⟨g, 0, none⟩) m cap olds (.returned (.slice (some ⟨g, 0, none⟩) (m - 1) cap)) W3 := by
  have hei := ttOk_get htt g2
  have hu := (ttOk_get htt g1).sli
  obtain ⟨inf, z, hI, hsz, hby, hz, hzs, _⟩ := hei.info
  obtain ⟨k1, k2, k3, k4⟩ := goIdx (n := ei.size) hi
  have hle := hR.le
  have hlim := hR.lim
  have k6 : m * ei.size ≤ cap * ei.size := Nat.mul_le_mul_right _ hle
  have k7 : (m - 1) * ei.size = m * ei.size - ei.size := by rw [Nat.sub_mul, Nat.one_mul]
  have k8 : (m - (i + 1)) * ei.size = m * ei.size - (i + 1) * ei.size := Nat.sub_mul ..
  have hdl : (olds.drop ((i + 1) * ei.size)).length = (m - (i + 1)) * ei.size := by rw [List.length_drop, hR.len, k8]
  have hfit : i * ei.size + (olds.drop ((i + 1) * ei.size)).length ≤ cur.size := by rw [hdl, hcs]; omega
  have hg1 := heap_setCells_of g (olds.drop ((i + 1) * ei.size)) (i * ei.size) w hg
  have hcs1 : (putCells cur (i * ei.size) (olds.drop ((i + 1) * ei.size))).size = cap * ei.size := by rw [size_putCells]; exact hcs
  obtain ⟨q1, q2, q3⟩ := heap_os_setCells g (olds.drop ((i + 1) * ei.size)) (i * ei.size) w
  have hlist : (putCells cur (i * ei.size) (olds.drop ((i + 1) * ei.size))).toList.take ((m - 1) * ei.size) = olds.take (i * ei.size) ++ olds.drop ((i + 1) * ei.size) := by
    have hci : cur.toList.take (i * ei.size) = olds.take (i * ei.size) := by
      rw [← htk, List.take_take]; congr 1; omega
    have hl : (olds.take (i * ei.size) ++ olds.drop ((i + 1) * ei.size)).length = (m - 1) * ei.size := by
      rw [List.length_append, hdl, List.length_take, hR.len]; omega
    rw [putCells_list hfit, hci, ← hl, List.take_left]
  refine ⟨w.setCells g (i * ei.size) (olds.drop ((i + 1) * ei.size)), fun ty ad had => ?_, q1, q2, q3, fun W hW ho ht hu' => ?_⟩
  · have hs : Src P inf.size t (.slice (some ad) (m - (i + 1)) (cap - (i + 1))) (m - (i + 1)) (olds.drop ((i + 1) * ei.size)) w := by
      refine Src.ofSlice w hu _ _ _ _ (by rw [hdl, hsz]) (fun j u hj => ?_) fun u hu => hR.ones u (List.mem_of_mem_drop hu)
      rcases had with had | rfl
      · have : (olds.drop ((i + 1) * ei.size)).length = 0 := by rw [hdl, show m - (i + 1) = 0 by omega, Nat.zero_mul]
        rw [List.length_eq_zero_iff.1 this] at hj
        simp at hj
      · exact olds_cell hg htk j u hj
    have hr := run_append_room_src (P := P) w t t ty e inf hu hI g 0 i cap _ _ _ hs (by omega) (fun j hj => by
      rw [hsz]
      have : 0 + i * ei.size + j < cur.size := by omega
      simp only [World.cell?, hg, Array.getElem?_eq_getElem this]; rfl) (fun j hj => by simp [World.frozen?, hg])
    rw [hsz, Nat.zero_add, show i + (m - (i + 1)) = m - 1 by omega] at hr
    exact hr
  · obtain ⟨zs, ps, hzl, hpl, hzv, hrun⟩ := clear_run (P := P) (w := W) (m := m) (i := m - 1) htt g1 g2 rfl (hW ▸ hg1) hcs1 (by omega) hle 0
    refine ⟨_, fun ty => hrun, fun W3 h3 o3 t3 u3 => ?_⟩
    have hgw := setRow_heap W g _ ((putCells cur (i * ei.size) (olds.drop ((i + 1) * ei.size))).toList.take ((m - 1) * ei.size) ++ (List.replicate (m - (m - 1)) zs).flatten ++ (putCells cur (i * ei.size) (olds.drop ((i + 1) * ei.size))).toList.drop ((m - 1) * ei.size + (m - (m - 1)) * ei.size)).toArray e0 (0, 0) (hW ▸ hg1)
    rw [← h3] at hgw
    have hfl : ((List.replicate (m - (m - 1)) zs).flatten).length = (m - (m - 1)) * ei.size := by
      rw [List.length_flatten, List.map_replicate, hzl]; simp
    have h5 : (m - (m - 1)) * ei.size = ei.size := by rw [show m - (m - 1) = 1 by omega, Nat.one_mul]
    refine ⟨_, rfl, ⟨o3.trans ho, t3.trans ht, u3.trans hu', ?_, g, cap, _, e0, rfl, hgw, ?_, ?_, by omega, hR.cap, .inl ⟨rfl, by omega, fun b hb => ?_⟩⟩⟩
    · rw [h3]; simp only [World.setRow, Array.size_modify]; rw [hW, size_setCells]; exact Nat.le_refl _
    · simp only [List.size_toArray, List.length_append, hfl, List.length_take, List.length_drop, Array.length_toList, hcs1]
      omega
    · show ((_ : List Value) ++ _ ++ _).take _ = _
      have hl : ((putCells cur (i * ei.size) (olds.drop ((i + 1) * ei.size))).toList.take ((m - 1) * ei.size)).length = (m - 1) * ei.size := by
        rw [List.length_take, Array.length_toList, hcs1]; omega
      rw [List.append_assoc, List.take_append_of_le_length (by rw [hl]; omega), List.take_of_length_le (by rw [hl]; omega), hlist]
    · rw [h3, setRow_other W g b _ hb, hW, heap_setCells_ne g hb]
def insAt {α : Type} (l : List α) (j : Nat) (y : α) : List α := l.take j ++ [y] ++ l.drop j
def delAt {α : Type} (l : List α) (j : Nat) : List α := l.take j ++ l.drop (j + 1)
theorem insAt_len {α : Type} {l : List α} {j : Nat} {y : α} (h : j ≤ l.length) : (insAt l j y).length = l.length + 1 := by simp [insAt]; omega
theorem delAt_len {α : Type} {l : List α} {j : Nat} (h : j < l.length) : (delAt l j).length + 1 = l.length := by simp [delAt]; omega
theorem atake_insT {α : Type} [GoE α] {f n : Nat} (hok : FnOk P f) (h0 : 0 < n)
    (hrun : ∀ w oa m cap olds i vb voff vc vs, RowAt w n oa m cap olds → OneAt w n oa cap vb voff vs → i ≤ m → Calls P f #[.slice oa m cap, .int .i64 (i : Int), .slice (some ⟨vb, voff, none⟩) 1 vc] w (InsTo w n i oa m cap olds vs))
    (l : List α) (y : α) {i : Int} (hi : 0 ≤ i) (hj : i ≤ l.length) (hl : l.length < 1073741824) : ATake P f n (eL l) [.one (.int .i64 i), .one (.slc .sh n (eL [y]))] true false (eL (insAt l i.toNat y)) := by
  have h := atake_ins hok h0 hrun (l := eL l) (x := GoE.enc y) (i := i) (j := i.toNat) (by omega) (by simp [eL]; omega) (by simpa [eL] using hl)
  rw [show eL (insAt l i.toNat y) = (eL l).take i.toNat ++ [GoE.enc y] ++ (eL l).drop i.toNat by simp [insAt, eL, List.map_take, List.map_drop]]
  exact h
theorem atake_delT {α : Type} [GoE α] {f n : Nat} (hok : FnOk P f)
    (hrun : ∀ w oa m cap olds i, RowAt w n oa m cap olds → i < m → Calls P f #[.slice oa m cap, .int .i64 (i : Int), .int .i64 ((i : Int) + 1)] w (DelTo w n i oa m cap olds))
    (l : List α) {i k : Int} (hi : 0 ≤ i) (hk : k = i + 1) (hj : i < l.length) (hl : l.length < 1073741824) : ATake P f n (eL l) [.one (.int .i64 i), .one (.int .i64 k)] true false (eL (delAt l i.toNat)) := by
  have h := atake_del hok hrun (l := eL l) (i := i) (k := k) (j := i.toNat) (by omega) (by omega) (by simp [eL]; omega) (by simpa [eL] using hl)
  rw [show eL (delAt l i.toNat) = (eL l).take i.toNat ++ (eL l).drop (i.toNat + 1) by simp [delAt, eL, List.map_take, List.map_drop]]
  exact h
end
end Go.Proofs.YtdakhddpcfimaaaGreatDoor
namespace Go.Proofs.YtdakhddpcfimaaaGreatDoor
open Go.RowKit
theorem atake_flat {P : Program} {f n : Nat} {l l' : List (List PV)} {args : List AV} (h : ATake P f n l args true false l') (hf : RowsLike l') : ATake P f n l args false false l' := by
  refine ⟨h.1, fun w F G L v vals hok hFG _ hGs hnd hLG hrow hargs => ?_⟩
  refine (h.2 w G G L v vals hok (fun _ h => h) (fun _ _ h => h) hGs hnd hLG (OwnTop.keep hrow (fun b hb => ⟨hFG b hb, rfl⟩) fun _ _ => rfl) hargs).mono ?_
  rintro e w' ⟨u, rfl, h1, h2, L', h3, h4, h5⟩
  refine ⟨u, rfl, h1, h2, L', h3, h4, ?_⟩
  rcases h5 with h5 | ⟨g, cap, cur, e, rfl, rfl, hg, hs, hr, h5, h6⟩
  · exact .inl h5
  · exact .inr ⟨g, cap, cur, e, rfl, rfl, hg, hs, OR.vr (VR.orr (w' := w') hr hf) fun b hb => (by simp at hb), h5, h6⟩
theorem rng_lc {n : Nat} {hi : Int} (h0 : 0 ≤ hi) (h1 : hi ≤ (n : Int)) : (0 : Int) ≤ 0 ∧ 0 ≤ hi ∧ hi ≤ (n : Int) := ⟨Int.le_refl _, h0, h1⟩
section
variable {α : Type} {p : α → Bool}
def ixF (p : α → Bool) : List α → Int
  | [] => -1
  | a :: l => bif p a then 0 else bif ixF p l == -1 then -1 else ixF p l + 1
theorem ixF_bd (p : α → Bool) : ∀ l : List α, -1 ≤ ixF p l ∧ ixF p l < l.length
  | [] => by simp [ixF]
  | a :: l => by
    have ih := ixF_bd p l
    simp only [ixF, List.length_cons]
    cases p a with
    | true => simp only [cond_true]; omega
    | false =>
      simp only [cond_false]
      cases h : (ixF p l == -1) with
      | true => simp only [cond_true]; omega
      | false => simp only [cond_false]; omega
theorem idx_go {f : Nat → α → Unit → Rd Int Unit Unit} {e : Nat → Unit → Unit} (hf : ∀ k a s, f k a s = bif p a then .ret ((k : Nat) : Int) else .next ()) : ∀ (l : List α) (k : Nat), forL f e l k () = bif ixF p l == -1 then .brk () else .ret ((k : Int) + ixF p l)
  | [], k => rfl
  | a :: l, k => by
    simp only [forL, hf, ixF]
    cases p a with
    | true => simp only [cond_true]; rw [show ((0 : Int) == -1) = false from rfl, cond_false, Int.add_zero]
    | false =>
      simp only [cond_false]
      rw [idx_go hf l (k + 1)]
      have hb := ixF_bd p l
      cases h : (ixF p l == -1) with
      | true => simp only [cond_true]; rfl
      | false =>
        have hne : ixF p l ≠ -1 := by simpa using h
        simp only [cond_false]
        rw [show (ixF p l + 1 == -1) = false by simp; omega, cond_false]
        congr 1; omega
theorem idx_eq {f : Nat → α → Unit → Rd Int Unit Unit} {e : Nat → Unit → Unit} (hf : ∀ k a s, f k a s = bif p a then .ret ((k : Nat) : Int) else .next ()) (l : List α) : Out.on (forL f e l 0 ()) (fun _ => -1) = ixF p l := by
  rw [idx_go hf]
  cases h : (ixF p l == -1) with
  | true => simp only [cond_true, Out.on]; exact (by simpa using h : ixF p l = -1).symm
  | false => simp only [cond_false, Out.on]; omega
theorem ixF_none {l : List α} (h : ixF p l = -1) : ∀ a, a ∈ l → p a = false := by
  induction l with
  | nil => intro a ha; simp at ha
  | cons b l ih =>
    intro a ha
    have hb := ixF_bd p l
    simp only [ixF] at h
    cases hp : p b with
    | true => rw [hp] at h; simp at h
    | false =>
      rw [hp] at h
      simp only [cond_false] at h
      cases h2 : (ixF p l == -1) with
      | true => rcases List.mem_cons.1 ha with rfl | ha
                · exact hp
                · exact ih (by simpa using h2) a ha
      | false => rw [h2] at h; simp only [cond_false] at h; omega
theorem ixF_some {l : List α} {i : Nat} (h : ixF p l = (i : Int)) : (l.take i).filter (fun a => !p a) = l.take i ∧ ∃ a, l[i]? = some a ∧ p a = true := by
  induction l generalizing i with
  | nil => simp [ixF] at h
  | cons b l ih =>
    have hb := ixF_bd p l
    simp only [ixF] at h
    cases hp : p b with
    | true =>
      rw [hp] at h
      simp only [cond_true] at h
      obtain rfl : i = 0 := by omega
      exact ⟨rfl, b, rfl, hp⟩
    | false =>
      rw [hp] at h
      simp only [cond_false] at h
      cases h2 : (ixF p l == -1) with
      | true => rw [h2] at h; simp only [cond_true] at h; omega
      | false =>
        rw [h2] at h
        simp only [cond_false] at h
        have : ixF p l ≠ -1 := by simpa using h2
        obtain ⟨j, rfl⟩ : ∃ j, i = j + 1 := ⟨i - 1, by omega⟩
        obtain ⟨h3, a, h4, h5⟩ := ih (i := j) (by omega)
        exact ⟨by simp [hp, h3], a, by simpa using h4, h5⟩
theorem whl_more {R S T : Type} {f : S → Rd R S T} : ∀ {n m : Nat} {s : S} {x : Out R T}, whl f n s = some x → n ≤ m → whl f m s = some x
  | 0, _, _, _, h, _ => by simp [whl] at h
  | n + 1, 0, _, _, _, hm => absurd hm (Nat.not_succ_le_zero n)
  | n + 1, m + 1, s, x, h, hm => by
    simp only [whl] at h ⊢
    cases hf : f s with
    | brk t => rw [hf] at h; exact h
    | ret r => rw [hf] at h; exact h
    | next s' => rw [hf] at h; exact whl_more h (by omega)
variable [Inhabited α]
def DelStep {R : Type} (f : List α × Int × Int → Rd R (List α × Int × Int) (List α × Int)) (p : α → Bool) : Prop :=
  ∀ (s : List α) (i j : Nat), i < j → j ≤ 1073741824 → f (s, (i : Int), (j : Int)) = bif decide ((j : Int) < (s.length : Int)) then (bif p (nth s j) then .next (s, (i : Int), ((j + 1 : Nat) : Int)) else .next (s.set i (nth s j), ((i + 1 : Nat) : Int), ((j + 1 : Nat) : Int))) else .brk (s, (i : Int))
theorem del_run {R : Type} {f : List α × Int × Int → Rd R (List α × Int × Int) (List α × Int)} (hf : DelStep f p) (o : List α) (ho : o.length ≤ 1073741824) : ∀ (n : Nat) (s : List α) (i j : Nat), j + n = o.length → i < j → s.length = o.length → s.take i = (o.take j).filter (fun a => !p a) → s.drop j = o.drop j →
    ∃ s' i', whl f (n + 1) (s, (i : Int), (j : Int)) = some (.brk (s', ((i' : Nat) : Int))) ∧ s'.take i' = o.filter (fun a => !p a) ∧ i' < o.length ∧ s'.length = o.length
  | 0, s, i, j, hn, hij, hl, ht, hd => by
    refine ⟨s, i, ?_, ?_, by omega, hl⟩
    · simp only [whl, hf s i j hij (by omega)]
      rw [decide_eq_false (by omega)]
      rfl
    · rw [ht, List.take_of_length_le (by omega)]
  | n + 1, s, i, j, hn, hij, hl, ht, hd => by
    have hj : j < s.length := by omega
    have hjo : j < o.length := by omega
    have hx : nth s j = o[j] := by
      have h1 : s[j]? = o[j]? := by
        have := congrArg (fun l => l[0]?) hd
        simpa [List.getElem?_drop] using this
      rw [List.getElem?_eq_getElem hjo] at h1
      simp [nth, List.getD, h1]
    have htj : o.take (j + 1) = o.take j ++ [o[j]] := by rw [List.take_add_one, List.getElem?_eq_getElem hjo]; rfl
    have hd1 : ∀ s2 : List α, s2.drop (j + 1) = s.drop (j + 1) → s2.drop (j + 1) = o.drop (j + 1) := fun s2 h2 => by
      have := congrArg (List.drop 1) hd
      rw [List.drop_drop, List.drop_drop] at this
      exact h2.trans this
    have hst : f (s, (i : Int), (j : Int)) = _ := hf s i j hij (by omega)
    rw [decide_eq_true (by omega), hx] at hst
    simp only [cond_true] at hst
    cases hp : p o[j] with
    | true =>
      rw [hp] at hst
      simp only [whl, hst, cond_true]
      exact del_run hf o ho n s i (j + 1) (by omega) (by omega) hl (by rw [ht, htj, List.filter_append]; simp [hp]) (hd1 s rfl)
    | false =>
      rw [hp] at hst
      simp only [whl, hst, cond_false]
      refine del_run hf o ho n (s.set i o[j]) (i + 1) (j + 1) (by omega) (by omega) (by simpa using hl) ?_ (hd1 _ (List.drop_set_of_lt (by omega)))
      rw [htj, List.filter_append, ← ht]
      rw [List.take_add_one, List.take_set_of_le (Nat.le_refl i), List.getElem?_set_self (by omega)]
      simp [hp]
theorem del_main {R : Type} {f : List α × Int × Int → Rd R (List α × Int × Int) (List α × Int)} (hf : DelStep f p) {o : List α} (ho : o.length ≤ 1073741824) {ix : Int} (hix : ix = ixF p o) (hne : ix ≠ -1) :
    ∃ s' i', whl f (o.length + 1) (o, ix, ix + 1) = some (.brk (s', ((i' : Nat) : Int))) ∧ s'.take i' = o.filter (fun a => !p a) ∧ i' < o.length ∧ s'.length = o.length := by
  have hb := ixF_bd p o
  obtain ⟨i, hi⟩ : ∃ i : Nat, ix = (i : Int) := ⟨ix.toNat, by omega⟩
  obtain ⟨h1, a, h2, h3⟩ := ixF_some (p := p) (l := o) (i := i) (by omega)
  have hio : i < o.length := by omega
  obtain ⟨s', i', h4, h5⟩ := del_run hf o ho (o.length - (i + 1)) o i (i + 1) (by omega) (by omega) rfl (by
    rw [List.take_add_one, h2, List.filter_append, h1]; simp [h3]) rfl
  refine ⟨s', i', ?_, h5⟩
  subst hi
  exact whl_more h4 (by omega)
theorem del_some {R : Type} {f : List α × Int × Int → Rd R (List α × Int × Int) (List α × Int)} (hf : DelStep f p) {o : List α} (ho : o.length ≤ 1073741824) {ix : Int} (hix : ix = ixF p o) (hne : ix ≠ -1) : (whl f (o.length + 1) (o, ix, ix + 1)).isSome = true := by
  obtain ⟨s', i', h, _⟩ := del_main hf ho hix hne
  rw [h]; rfl
theorem del_eq {f : List α × Int × Int → Rd (List α) (List α × Int × Int) (List α × Int)} (hf : DelStep f p) {o : List α} (ho : o.length ≤ 1073741824) {ix : Int} (hix : ix = ixF p o) :
    (bif (ix == (-1 : Int)) then o else Out.on (whlD f (o.length + 1) (o, ix, ix + 1)) (fun y => List.take (Int.toNat y.2) y.1)) = o.filter (fun a => !p a) := by
  cases h : (ix == (-1 : Int)) with
  | true =>
    have h : ix = -1 := by simpa using h
    simp only [cond_true]
    exact (List.filter_eq_self.2 fun a ha => by simp [ixF_none (hix ▸ h) a ha]).symm
  | false =>
    obtain ⟨s', i', h1, h2, _⟩ := del_main hf ho hix (by simpa using h)
    simp only [cond_false, whlD, h1]
    simpa [Out.on] using h2
end
open GoE (enc wide)
end Go.Proofs.YtdakhddpcfimaaaGreatDoor
