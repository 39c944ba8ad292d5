/- Rows of integers that a function owns: what they are, append of a whole slice to one, the sort's and the compaction's new rows. No program in sight. -/
import Derived.Test.YtonniokonadkfaaFk
import Derived.Test.YtonniokonadkfaaMk
import Derived.Sort.Grow
namespace Go.Proofs.Ytonniokonadkfaa
open Go.RowKit
open GoD (rd own)

/-- v is a slice of integers over a row of its own, no older than the blocks below B -/
def IRow (e : TypeId) (B : Nat) (w : World) (v : Value) (l : List Int) : Prop :=
  (∀ x, x ∈ l → I64 x) ∧ ((v = .slice none 0 0 ∧ l = []) ∨ ∃ (g cap : Nat) (cur : Array Value), v = .slice (some ⟨g, 0, none⟩) l.length cap ∧ B ≤ g ∧ w.heap[g]? = some (.cells cur e (0, 0)) ∧ l.length ≤ cap ∧ cap ≤ maxLen ∧ cur.size = cap ∧ cur.toList.take l.length = l.map (Value.int .i64))

theorem IRow.keep {e : TypeId} {B : Nat} {w w' : World} {v : Value} {l : List Int} (h : IRow e B w v l) (hb : Below w.heap.size w w') : IRow e B w' v l := by
  refine ⟨h.1, ?_⟩
  rcases h.2 with h | ⟨g, cap, cur, hv, hB, hg, h1, h2, h3, h4⟩
  · exact .inl h
  · exact .inr ⟨g, cap, cur, hv, hB, (hb.block g (block_lt_of_heap hg)).trans hg, h1, h2, h3, h4⟩
theorem IRow.mono {e : TypeId} {B B' : Nat} {w : World} {v : Value} {l : List Int} (h : IRow e B w v l) (hb : B' ≤ B) : IRow e B' w v l := by
  refine ⟨h.1, ?_⟩
  rcases h.2 with h | ⟨g, cap, cur, hv, hB, hg, h1, h2, h3, h4⟩
  · exact .inl h
  · exact .inr ⟨g, cap, cur, hv, Nat.le_trans hb hB, hg, h1, h2, h3, h4⟩
theorem IRow.slice {e : TypeId} {B : Nat} {w : World} {v : Value} {l : List Int} (h : IRow e B w v l) : ∃ oa cap, v = .slice oa l.length cap := by
  rcases h.2 with ⟨rfl, rfl⟩ | ⟨g, cap, cur, rfl, _⟩
  · exact ⟨_, _, rfl⟩
  · exact ⟨_, _, rfl⟩
theorem IRow.row {e : TypeId} {B : Nat} {w : World} {v : Value} {l : List Int} (h : IRow e B w v l) : w.ownsRow B e 1 v l.length (l.map (Value.int .i64)) := by
  refine ⟨by simp, ?_⟩
  rcases h.2 with ⟨rfl, rfl⟩ | ⟨g, cap, cur, rfl, hB, hg, h1, h2, h3, h4⟩
  · exact .inl ⟨rfl, rfl⟩
  · exact .inr ⟨g, cap, cur, rfl, hB, hg, h1, h2, by rw [h3, Nat.mul_one], by rw [Nat.mul_one, h4]⟩
theorem IRow.of_row {e : TypeId} {B n : Nat} {w : World} {v : Value} {l : List Int} (h : w.ownsRow B e 1 v n (l.map (Value.int .i64))) (hi : ∀ x, x ∈ l → I64 x) : IRow e B w v l := by
  have hn : l.length = n := by have := h.1; simpa using this
  subst hn
  refine ⟨hi, ?_⟩
  rcases h.2 with ⟨h1, h2⟩ | ⟨g, cap, cur, h1, hB, hg, h2, h3, h4, h5⟩
  · refine .inl ⟨h1, ?_⟩
    first
      | (simpa using h2)
      | (cases l with | nil => rfl | cons a l => simp at h2)
  · exact .inr ⟨g, cap, cur, h1, hB, hg, h2, h3, by rw [h4, Nat.mul_one], by rw [Nat.mul_one] at h5; exact h5⟩
theorem IRow.own {e : TypeId} {B : Nat} {w : World} {v : Value} {l : List Int} (h : IRow e B w v l) : ∃ L, own L w [v] l ∧ (∀ b, b ∈ L → B ≤ b ∧ b < w.heap.size) ∧ L = v.ownBlock.toList := by
  obtain ⟨hi, h⟩ := h
  rcases h with ⟨rfl, rfl⟩ | ⟨g, cap, cur, rfl, hB, hg, h1, h2, h3, h4⟩
  · exact ⟨[], ⟨by simp, .inl ⟨rfl, rfl, none, rfl⟩⟩, by simp, rfl⟩
  · refine ⟨[g], ⟨by simp, .inr ⟨g, cap, cur, e, List.replicate l.length [], rfl, hg, h1, h2, by show cur.size = cap * 1; omega, by simp, by simp, ?_⟩⟩, fun b hb => ?_, rfl⟩
    · intro i Li a hLi ha
      have hL0 : Li = [] := (List.mem_replicate.1 (List.mem_of_getElem? hLi)).2
      subst hL0
      have hil : i < l.length := (List.getElem?_eq_some_iff.1 ha).1
      refine ⟨rfl, ?_, hi a (List.mem_of_getElem? ha)⟩
      have hc : cur.toList[i]? = some (Value.int .i64 a) := by
        have h5 : (cur.toList.take l.length)[i]? = (l.map (Value.int .i64))[i]? := by rw [h4]
        rw [List.getElem?_take, if_pos hil, List.getElem?_map, ha] at h5
        exact h5
      show (cur.toList.drop (i * 1)).take 1 = _
      rw [Nat.mul_one]
      obtain ⟨hlt, he⟩ := List.getElem?_eq_some_iff.1 hc
      rw [List.drop_eq_getElem_cons hlt, he]
      rfl
    · obtain rfl : b = g := by simpa using hb
      exact ⟨hB, block_lt_of_heap hg⟩
theorem IRow.rd {e : TypeId} {B : Nat} {w : World} {v : Value} {l : List Int} (h : IRow e B w v l) : GoD.rd w [v] l := by
  obtain ⟨L, ho, _⟩ := h.own
  exact GoD.own_rd ho
theorem IRow.fresh {e : TypeId} {B : Nat} (w : World) (hB : B ≤ w.heap.size) : IRow e B (w.alloc (.cells #[] e)) (.slice (some ⟨w.heap.size, 0, none⟩) 0 0) [] :=
  ⟨by simp, .inr ⟨w.heap.size, 0, #[], rfl, hB, heap_alloc_new w _, Nat.le_refl _, Nat.zero_le _, rfl, rfl⟩⟩
theorem IRow.nil {e : TypeId} {B : Nat} (w : World) : IRow e B w (.slice none 0 0) [] := ⟨by simp, .inl ⟨rfl, rfl⟩⟩

/-- the integers of a slice that is read -/
theorem rd_i64 {w : World} {v : Value} {l : List Int} (h : GoD.rd w [v] l) : ∀ x, x ∈ l → I64 x := by
  obtain ⟨oa, cap, _, _, _, hel⟩ := h
  intro x hx
  obtain ⟨i, hi, rfl⟩ := List.getElem_of_mem hx
  obtain ⟨b, off, ce, _, _, _, h2⟩ := hel i _ (List.getElem?_eq_getElem hi)
  exact h2.2
theorem rd_ints {w : World} {oa : Option Addr} {cap : Nat} {l : List Int} (h : GoD.rd w [.slice oa l.length cap] l) : l = [] ∨ ∃ (b off : Nat), oa = some ⟨b, off, none⟩ ∧ ∀ j, j < l.length → w.cell? ⟨b, off + j, none⟩ = some (.int .i64 (l.getD j 0)) := by
  obtain ⟨oa', cap', e, hl, hm, hel⟩ := h
  obtain ⟨rfl, rfl⟩ : oa = oa' ∧ cap = cap' := by simpa using e
  cases hcase : l with
  | nil => exact .inl rfl
  | cons a0 l0 =>
    right
    obtain ⟨b, off, _, rfl, _⟩ := hel 0 a0 (by simp [hcase])
    rw [← hcase]
    refine ⟨b, off, rfl, fun j hj => ?_⟩
    obtain ⟨b', off', ce, e', hcl, hcc, hr⟩ := hel j _ (List.getElem?_eq_getElem hj)
    obtain ⟨rfl, rfl⟩ : b = b' ∧ off = off' := by simpa using e'
    have := hcc 0 (.int .i64 l[j]) (by rw [hr.1]; rfl)
    rw [List.getD_eq_getElem?_getD, List.getElem?_eq_getElem hj]
    simpa [show GoD.n Int = 1 from rfl] using this

section
variable {α : Type} [GoD α]
theorem rd_take {w : World} {oa : Option Addr} {cap : Nat} {l : List α} (h : GoD.rd w [.slice oa l.length cap] l) {k : Nat} (hk : k ≤ l.length) : GoD.rd w [.slice oa k cap] (l.take k) := by
  obtain ⟨oa', cap', e, hl, hm, hel⟩ := h
  obtain ⟨rfl, rfl⟩ : oa = oa' ∧ cap = cap' := by simpa using e
  have hlen : (l.take k).length = k := by rw [List.length_take]; omega
  refine ⟨oa, cap, by rw [hlen], by omega, hm, fun i a hi => ?_⟩
  have hik : i < k := by have := (List.getElem?_eq_some_iff.1 hi).1; omega
  rw [List.getElem?_take, if_pos hik] at hi
  exact hel i a hi
theorem rd_drop {w : World} {b off cap : Nat} {l : List α} (h : GoD.rd w [.slice (some ⟨b, off, none⟩) l.length cap] l) {k : Nat} (hk : k ≤ l.length) : GoD.rd w [.slice (some ⟨b, off + k * GoD.n α, none⟩) (l.length - k) (cap - k)] (l.drop k) := by
  obtain ⟨oa', cap', e, hl, hm, hel⟩ := h
  obtain ⟨rfl, rfl⟩ : some ⟨b, off, none⟩ = oa' ∧ cap = cap' := by simpa using e
  have hlen : (l.drop k).length = l.length - k := by rw [List.length_drop]
  refine ⟨_, cap - k, by rw [hlen], by omega, by omega, fun i a hi => ?_⟩
  rw [List.getElem?_drop] at hi
  obtain ⟨b', off', ce, e', hcl, hcc, hr⟩ := hel (k + i) a hi
  obtain ⟨rfl, rfl⟩ : b = b' ∧ off = off' := by simpa using e'
  refine ⟨b, off + k * GoD.n α, ce, rfl, hcl, fun j v hj => ?_, hr⟩
  have := hcc j v hj
  rw [Nat.add_mul] at this
  rw [show off + k * GoD.n α + i * GoD.n α + j = off + (k * GoD.n α + i * GoD.n α) + j by omega]
  exact this
theorem rd_none {w : World} {oa : Option Addr} {cap : Nat} (hc : cap ≤ maxLen) : GoD.rd w [.slice oa 0 cap] ([] : List α) := ⟨oa, cap, rfl, Nat.zero_le _, hc, fun i a hi => by simp at hi⟩
theorem rd_cap {w : World} {oa : Option Addr} {cap : Nat} {l : List α} (h : GoD.rd w [.slice oa l.length cap] l) : l.length ≤ cap ∧ cap ≤ maxLen := by
  obtain ⟨oa', cap', e, hl, hm, hel⟩ := h
  obtain ⟨rfl, rfl⟩ : oa = oa' ∧ cap = cap' := by simpa using e
  exact ⟨hl, hm⟩
end
theorem rd_one {w : World} {g c : Nat} {x : Int} (hc : w.cell? ⟨g, 0, none⟩ = some (.int .i64 x)) (h1 : 1 ≤ c) (h2 : c ≤ maxLen) (hx : I64 x) : GoD.rd w [.slice (some ⟨g, 0, none⟩) 1 c] [x] := by
  refine ⟨_, c, rfl, h1, h2, fun i a hi => ?_⟩
  cases i with
  | succ i => simp at hi
  | zero =>
    obtain rfl : x = a := by simpa using hi
    refine ⟨g, 0, [.int .i64 x], rfl, rfl, fun j v hj => ?_, rfl, hx⟩
    cases j with
    | succ j => simp at hj
    | zero =>
      obtain rfl : Value.int .i64 x = v := by simpa using hj
      simpa using hc

/-! ### append of a whole slice of integers -/
theorem run_appInts {P : Program} (w : World) (B : Nat) (t ty e : TypeId) (ht : P.underlying t = some (.slice e))
    (hinf : (P.info? e).map (fun i => (i.zero.map (·.cells.size), i.size, decide (i.bytes ≤ 1000))) = some (some 1, 1, true)) (hB : B ≤ w.heap.size)
    {v y : Value} {l l2 : List Int} (hv : IRow e B w v l) (hr : GoD.rd w [y] l2) (hl : l.length + l2.length ≤ 1073741824) :
    ∃ v' w', (Builtin.append_ #[t, t] ty #[v, y]).run P w = .ok v' w' ∧ IRow e B w' v' (l ++ l2) ∧ Chg v.ownBlock.toList w w' ∧ (∀ g, v'.ownBlock = some g → v.ownBlock = some g ∨ w.heap.size ≤ g) := by
  obtain ⟨i, z, hi, hz, hsize, hzn, hb⟩ := info_ok hinf
  obtain ⟨oa, cap, rfl⟩ := slice_of_rd hr
  have hi2 := rd_i64 hr
  rcases rd_ints hr with rfl | ⟨b, off, rfl, hcells⟩
  · refine ⟨v, w, ?_, by rw [List.append_nil]; exact hv, Chg.refl _ _, fun g hg => .inl hg⟩
    obtain ⟨oa', cap', hs⟩ := hv.slice
    rcases hv.2 with ⟨rfl, rfl⟩ | ⟨g, c0, cur, rfl, _, _, h1, _⟩
    · cases oa <;> simp [Builtin.append_, run_underlying ht, sizeOf, typeInfo, hi, Builtin.lenOf, Builtin.firstCells, loadCells, loadCellsFrom, storeCells]
    · cases oa <;> simp [Builtin.append_, run_underlying ht, sizeOf, typeInfo, hi, Builtin.lenOf, Builtin.firstCells, loadCells, loadCellsFrom, storeCells, h1]
  · have hi1 := hv.1
    obtain ⟨v', w', hr', hw, hgr, hvb, _⟩ := run_app (P := P) w B t ty e i z ht hi hz (by rw [hsize]; exact hzn) (by rw [hsize]; exact Nat.one_pos) hb (by rw [hsize]; exact hv.row) ⟨b, off, none⟩ l2.length cap (l2.map (Value.int .i64)) (by simp [hsize]) (fun j u hj => by
        rw [List.getElem?_map] at hj
        obtain ⟨x, hx, rfl⟩ := Option.map_eq_some_iff.1 hj
        have hjl : j < l2.length := (List.getElem?_eq_some_iff.1 hx).1
        have := hcells j hjl
        rw [List.getD_eq_getElem?_getD, hx] at this
        unfold Addr.add
        by_cases hj0 : j = 0
        · subst hj0; simpa using this
        · simpa [hj0] using this) (by intro u hu; obtain ⟨x, _, rfl⟩ := List.mem_map.1 hu; simp [Value.oneCell']) (by omega) hB
    rw [hsize, ← List.map_append] at hw
    refine ⟨v', w', hr', IRow.of_row hw (fun x hx => ?_), ⟨hgr.os, hgr.tape, hgr.output, hgr.size, fun k hk hn => hgr.block k hk (fun e => hn (by rw [← e]; simp))⟩, hvb⟩
    rcases List.mem_append.1 hx with h | h
    · exact hi1 x h
    · exact hi2 x h

/-- nothing older than B turns -/
theorem IRow.below {e : TypeId} {B : Nat} {w w' : World} {v : Value} {l : List Int} (h : IRow e B w v l) (hc : Chg v.ownBlock.toList w w') (hB : B ≤ w.heap.size) : Below B w w' :=
  hc.below hB fun b hb => by
    rcases h.2 with ⟨rfl, rfl⟩ | ⟨g, cap, cur, rfl, hg, _⟩
    · simp [Value.ownBlock] at hb
    · obtain rfl : b = g := by simpa [Value.ownBlock] using hb
      exact hg

theorem wpList_appInts {P : Program} {w : World} {ops : Array Oper} {rest : List Oper} {o : Oper} {a : Act} {Q : Exit → Act → World → Prop} (s x : Operand) (t e : TypeId) (B : Nat) {v y : Value} {l l2 : List Int}
    (hv : IRow e B w v l) (hr : GoD.rd w [y] l2) (hl : l.length + l2.length ≤ 1073741824) (hB : B ≤ w.heap.size)
    (hgd : o.guard = none) (ho : o.op = .call { callee := .builtin .append, args := #[s, x], argTypes := #[t, t] }) (ht : P.underlying t = some (.slice e))
    (hinf : (P.info? e).map (fun i => (i.zero.map (·.cells.size), i.size, decide (i.bytes ≤ 1000))) = some (some 1, 1, true)) (hs : a.eval s = v) (hx : a.eval x = y)
    (k : ∀ v' w', IRow e B w' v' (l ++ l2) → Below B w w' → w.heap.size ≤ w'.heap.size → wpList P ops Q rest (a.put o.dst v') w') : wpList P ops Q (o :: rest) a w := by
  refine wpList_plain hgd fun _ hK => ?_
  obtain ⟨v', w', hr', h1, h2, _⟩ := run_appInts (P := P) w B t o.type e ht hinf hB hv hr hl
  unfold Oper.wp execOp
  simp only [ho, resolve, invoke, builtin, Sem.run_bind, Sem.run_pure, Result.andThen_ok, List.map_toArray, List.map_cons, List.map_nil, hs, hx, hr']
  exact hK _ _ (k v' w' h1 (hv.below h2 hB) h2.size)

/-! ### rows that the library writes over -/
open Go.Sort in
theorem heap_putRow {w : World} {g : Nat} {cur : Array Value} {e : TypeId} (hg : w.heap[g]? = some (.cells cur e (0, 0))) (q : Nat) (d : Array Int) (os : Array Obj) :
    (grow (putRow (Value.int .i64) (Sort.ahead w q) g 0 d) os).heap[g]? = some (.cells (Go.Sort.putCells (Value.int .i64) 0 d cur) e (0, 0)) := by
  have hlt : g < w.heap.size := block_lt_of_heap hg
  unfold grow putRow mapBlock Sort.ahead
  simp only [Array.getElem?_append, Array.size_modify]
  rw [if_pos hlt, Array.getElem?_modify, if_pos rfl, hg]
  rfl
open Go.Sort in
theorem chg_putRow (w : World) (g q : Nat) (d : Array Int) (os : Array Obj) : Chg [g] w (grow (putRow (Value.int .i64) (Sort.ahead w q) g 0 d) os) := by
  refine ⟨rfl, rfl, rfl, ?_, fun b hb hn => ?_⟩
  · unfold grow putRow mapBlock Sort.ahead
    simp
  · unfold grow putRow mapBlock Sort.ahead
    simp only [Array.getElem?_append, Array.size_modify]
    rw [if_pos hb, Array.getElem?_modify, if_neg (fun e => hn (by simp [e]))]
open Go.Sort in
theorem take_putCells (d : Array Int) (cur : Array Value) (k : Nat) (h : d.size ≤ cur.size) (hk : k ≤ d.size) : (Go.Sort.putCells (Value.int .i64) 0 d cur).toList.take k = (d.toList.take k).map (Value.int .i64) := by
  apply List.ext_getElem?
  intro j
  rw [List.getElem?_take, List.getElem?_map, List.getElem?_take]
  by_cases hj : j < k
  · rw [if_pos hj, if_pos hj]
    have h1 : j < d.size := by omega
    unfold Go.Sort.putCells
    rw [Array.getElem?_toList, Array.getElem?_mapIdx, Array.getElem?_eq_getElem (by omega : j < cur.size), Array.getElem?_toList, Array.getElem?_eq_getElem h1]
    simp only [Option.map_some]
    rw [if_pos ⟨Nat.zero_le _, by omega⟩, Nat.sub_zero, getElem!_pos d j h1]
  · rw [if_neg hj, if_neg hj]; rfl
open Go.Sort in
theorem IRow.put {e : TypeId} {B g cap : Nat} {w : World} {cur : Array Value} (hB : B ≤ g) (hg : w.heap[g]? = some (.cells cur e (0, 0))) (hcap : cap ≤ maxLen) (hcs : cur.size = cap) (q : Nat) (d : Array Int) (os : Array Obj) (hd : d.size ≤ cap)
    (k : List Int) (hk : k = d.toList.take k.length) (hi : ∀ x, x ∈ k → I64 x) :
    IRow e B (grow (putRow (Value.int .i64) (Sort.ahead w q) g 0 d) os) (.slice (some ⟨g, 0, none⟩) k.length cap) k := by
  have hkl : k.length ≤ d.size := by
    have h := List.length_take_le' k.length d.toList
    rw [← hk, Array.length_toList] at h
    exact h
  refine ⟨hi, .inr ⟨g, cap, _, rfl, hB, heap_putRow hg q d os, by omega, hcap, ?_, ?_⟩⟩
  · simp [Go.Sort.putCells, hcs]
  · rw [take_putCells d cur k.length (by omega) hkl, ← hk]
open Go.Sort in
theorem IRow.holds {e : TypeId} {g : Nat} {w : World} {cur : Array Value} {l : List Int} (hg : w.heap[g]? = some (.cells cur e (0, 0))) (ht : cur.toList.take l.length = l.map (Value.int .i64)) : Holds (Value.int .i64) w g 0 l.toArray := by
  intro j hj
  have hjl : j < l.length := by simpa using hj
  have hc : cur[j]? = some (Value.int .i64 l[j]) := by
    have h5 : (cur.toList.take l.length)[j]? = (l.map (Value.int .i64))[j]? := by rw [ht]
    rw [List.getElem?_take, if_pos hjl, List.getElem?_map, List.getElem?_eq_getElem hjl, Array.getElem?_toList] at h5
    exact h5
  refine ⟨?_, ?_⟩
  · rw [Nat.zero_add]
    simp only [World.cell?, hg]
    rw [getElem!_pos _ j hj]
    simpa using hc
  · rw [Nat.zero_add]
    simp [World.frozen?, hg]
end Go.Proofs.Ytonniokonadkfaa
