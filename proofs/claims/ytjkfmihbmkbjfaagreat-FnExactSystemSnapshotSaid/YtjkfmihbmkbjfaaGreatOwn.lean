/- Ownership: rows under construction, what a store does, what a call that hands back memory of its own says. No program in sight. -/
import Derived.Test.YtjkfmihbmkbjfaaGreatBase
import Derived.Laws.IdiomCopy
import Derived.OwnWalk
import Derived.Handy
import Derived.Deep.Light
import Derived.Deep.DeepMust
namespace Go.Proofs.YtjkfmihbmkbjfaaGreat
open Go.RowKit
open GoD (rd own)

theorem bcell {W w1 : World} (hb : Below W.heap.size W w1) : ∀ b o, b < W.heap.size → w1.cell? ⟨b, o, none⟩ = W.cell? ⟨b, o, none⟩ := fun b o h => hb.cell (p := ⟨b, o, none⟩) h
theorem bfroz {W w1 : World} (hb : Below W.heap.size W w1) : ∀ b o, b < W.heap.size → w1.frozen? ⟨b, o, none⟩ = W.frozen? ⟨b, o, none⟩ := fun b o h => hb.frozen (p := ⟨b, o, none⟩) h
theorem below_via {w W w' : World} (h1 : Below w.heap.size w W) (hb : Below W.heap.size W w') : Below w.heap.size w w' := h1.trans (hb.mono h1.size)

/-- what stands when a callee has handed back: 'w': the world when the caller began -/
structure Back (w W w' : World) : Prop where
  here : Below W.heap.size W w'
  all : Below w.heap.size w w'

theorem call_ret {P : Program} {f : FuncId} {args : Array Value} {W w : World} {v : Value} {R : Ending → World → Prop} (hc : Calls P f args W (Ret W v)) (h0 : Below w.heap.size w W)
    (k : ∀ w', Below w.heap.size w w' → Below W.heap.size W w' → w.heap.size ≤ w'.heap.size → W.heap.size ≤ w'.heap.size → R (.returned v) w') : Calls P f args W R :=
  hc.mono fun e w' ⟨he, hb⟩ => by
    subst he
    have h1 := below_via h0 hb
    exact k w' h1 hb h1.size hb.size

section
variable {α β : Type} [GoD α] [GoD β]

/-- hands back a value of several cells, its memory new -/
def RetA (w : World) (a : α) (e : Ending) (w' : World) : Prop := ∃ cs L, e = .returned (.agg cs.toArray) ∧ Below w.heap.size w w' ∧ own L w' cs a ∧ ∀ b, b ∈ L → w.heap.size ≤ b
/-- hands back a value of one cell, its memory new -/
def RetS (w : World) (a : α) (e : Ending) (w' : World) : Prop := ∃ v L, e = .returned v ∧ Below w.heap.size w w' ∧ own L w' [v] a ∧ ∀ b, b ∈ L → w.heap.size ≤ b

theorem call_retA {P : Program} {f : FuncId} {args : Array Value} {W w : World} {a : α} {R : Ending → World → Prop} (hc : Calls P f args W (RetA W a)) (h0 : Below w.heap.size w W)
    (k : ∀ w' cs L, Below w.heap.size w w' → Below W.heap.size W w' → w.heap.size ≤ w'.heap.size → W.heap.size ≤ w'.heap.size → own L w' cs a → (∀ b, b ∈ L → W.heap.size ≤ b) → R (.returned (.agg cs.toArray)) w') : Calls P f args W R :=
  hc.mono fun e w' ⟨cs, L, he, hb, ho, hL⟩ => by
    subst he
    have h1 := below_via h0 hb
    exact k w' cs L h1 hb h1.size hb.size ho hL
theorem call_retS {P : Program} {f : FuncId} {args : Array Value} {W w : World} {a : α} {R : Ending → World → Prop} (hc : Calls P f args W (RetS W a)) (h0 : Below w.heap.size w W)
    (k : ∀ w' v L, Below w.heap.size w w' → Below W.heap.size W w' → w.heap.size ≤ w'.heap.size → W.heap.size ≤ w'.heap.size → own L w' [v] a → (∀ b, b ∈ L → W.heap.size ≤ b) → R (.returned v) w') : Calls P f args W R :=
  hc.mono fun e w' ⟨v, L, he, hb, ho, hL⟩ => by
    subst he
    have h1 := below_via h0 hb
    exact k w' v L h1 hb h1.size hb.size ho hL

/-- hands back a value that may share memory with what was there: of several cells, of one -/
def RetRA (w : World) (a : α) (e : Ending) (w' : World) : Prop := ∃ cs, e = .returned (.agg cs.toArray) ∧ Below w.heap.size w w' ∧ rd w' cs a
def RetRS (w : World) (a : α) (e : Ending) (w' : World) : Prop := ∃ v, e = .returned v ∧ Below w.heap.size w w' ∧ rd w' [v] a
theorem RetA.rd {w : World} {a : α} {e : Ending} {w' : World} (h : RetA w a e w') : RetRA w a e w' :=
  let ⟨cs, _, he, hb, ho, _⟩ := h
  ⟨cs, he, hb, GoD.own_rd ho⟩
theorem RetS.rd {w : World} {a : α} {e : Ending} {w' : World} (h : RetS w a e w') : RetRS w a e w' :=
  let ⟨v, _, he, hb, ho, _⟩ := h
  ⟨v, he, hb, GoD.own_rd ho⟩
theorem call_rdA {P : Program} {f : FuncId} {args : Array Value} {W w : World} {a : α} {R : Ending → World → Prop} (hc : Calls P f args W (RetRA W a)) (h0 : Below w.heap.size w W)
    (k : ∀ w' cs, Below w.heap.size w w' → Below W.heap.size W w' → w.heap.size ≤ w'.heap.size → W.heap.size ≤ w'.heap.size → GoD.rd w' cs a → R (.returned (.agg cs.toArray)) w') : Calls P f args W R :=
  hc.mono fun e w' ⟨cs, he, hb, ho⟩ => by
    subst he
    have h1 := below_via h0 hb
    exact k w' cs h1 hb h1.size hb.size ho
theorem call_rdS {P : Program} {f : FuncId} {args : Array Value} {W w : World} {a : α} {R : Ending → World → Prop} (hc : Calls P f args W (RetRS W a)) (h0 : Below w.heap.size w W)
    (k : ∀ w' v, Below w.heap.size w w' → Below W.heap.size W w' → w.heap.size ≤ w'.heap.size → W.heap.size ≤ w'.heap.size → GoD.rd w' [v] a → R (.returned v) w') : Calls P f args W R :=
  hc.mono fun e w' ⟨v, he, hb, ho⟩ => by
    subst he
    have h1 := below_via h0 hb
    exact k w' v h1 hb h1.size hb.size ho

/-! ### stores -/
theorem heap_setCell_of (w : World) (g o : Nat) (v : Value) {cur : Array Value} {e : TypeId} {fr : Nat × Nat} (h : w.heap[g]? = some (.cells cur e fr)) :
    (w.setCell ⟨g, o, none⟩ v).heap[g]? = some (.cells (cur.setIfInBounds o v) e fr) := by
  simp [World.setCell, Array.getElem?_modify, h]
theorem heap_setCell_ne (w : World) (g o : Nat) (v : Value) {b : Nat} (h : b ≠ g) : (w.setCell ⟨g, o, none⟩ v).heap[b]? = w.heap[b]? := by
  simp only [World.setCell, Array.getElem?_modify]
  rw [if_neg (by omega)]
def putCells (cur : Array Value) : Nat → List Value → Array Value
  | _, [] => cur
  | o, v :: r => putCells (cur.setIfInBounds o v) (o + 1) r
theorem heap_setCells_of (g : Nat) : ∀ (vs : List Value) (o : Nat) (w : World) {cur : Array Value} {e : TypeId} {fr : Nat × Nat}, w.heap[g]? = some (.cells cur e fr) →
    (w.setCells g o vs).heap[g]? = some (.cells (putCells cur o vs) e fr)
  | [], _, _, _, _, _, h => h
  | v :: r, o, w, _, _, _, h => heap_setCells_of g r (o + 1) _ (heap_setCell_of w g o v h)
theorem heap_setCells_ne (g : Nat) {b : Nat} (hb : b ≠ g) : ∀ (vs : List Value) (o : Nat) (w : World), (w.setCells g o vs).heap[b]? = w.heap[b]?
  | [], _, _ => rfl
  | v :: r, o, w => (heap_setCells_ne g hb r (o + 1) _).trans (heap_setCell_ne w g o v hb)
theorem size_setCells (g : Nat) : ∀ (vs : List Value) (o : Nat) (w : World), (w.setCells g o vs).heap.size = w.heap.size
  | [], _, _ => rfl
  | v :: r, o, w => (size_setCells g r (o + 1) _).trans (World.size_setCell ..)
theorem size_putCells : ∀ (vs : List Value) (o : Nat) (cur : Array Value), (putCells cur o vs).size = cur.size
  | [], _, _ => rfl
  | v :: r, o, cur => (size_putCells r (o + 1) _).trans (by simp)
theorem putCells_out : ∀ (vs : List Value) (o : Nat) (cur : Array Value) (j : Nat), (j < o ∨ o + vs.length ≤ j) → (putCells cur o vs)[j]? = cur[j]?
  | [], _, _, _, _ => rfl
  | v :: r, o, cur, j, h => by
    rw [putCells, putCells_out r (o + 1) _ j (by simp at h; omega), Array.getElem?_setIfInBounds, if_neg (by simp at h; omega)]
theorem putCells_in : ∀ (vs : List Value) (o : Nat) (cur : Array Value) (j : Nat), o + vs.length ≤ cur.size → j < vs.length → (putCells cur o vs)[o + j]? = vs[j]?
  | v :: r, o, cur, 0, h, _ => by
    rw [putCells, putCells_out r (o + 1) _ _ (by omega), Array.getElem?_setIfInBounds, if_pos (by omega), if_pos (by simp at h; omega)]
    rfl
  | v :: r, o, cur, j + 1, h, hj => by
    rw [putCells, show o + (j + 1) = o + 1 + j by omega, putCells_in r (o + 1) _ j (by simp at h ⊢; omega) (by simpa using hj)]
    simp
theorem take_drop_get {l : List Value} {o n j : Nat} (hj : j < n) : ((l.drop o).take n)[j]? = l[o + j]? := by
  rw [List.getElem?_take, if_pos hj, List.getElem?_drop]
theorem slice_put {cur : Array Value} {o : Nat} {vs : List Value} (h : o + vs.length ≤ cur.size) : ((putCells cur o vs).toList.drop o).take vs.length = vs := by
  apply List.ext_getElem?
  intro j
  by_cases hj : j < vs.length
  · rw [take_drop_get hj, Array.getElem?_toList, putCells_in vs o cur j h hj]
  · rw [List.getElem?_take, if_neg hj, List.getElem?_eq_none (by omega)]
theorem slice_put_ne {cur : Array Value} {o o' n : Nat} {vs : List Value} (h : o' + n ≤ o ∨ o + vs.length ≤ o') : ((putCells cur o vs).toList.drop o').take n = (cur.toList.drop o').take n := by
  apply List.ext_getElem?
  intro j
  by_cases hj : j < n
  · rw [take_drop_get hj, take_drop_get hj, Array.getElem?_toList, Array.getElem?_toList, putCells_out vs o cur _ (by omega)]
  · rw [List.getElem?_take, if_neg hj, List.getElem?_take, if_neg hj]
theorem own_setCell {L : List Nat} {w : World} {cs : List Value} {a : α} {g o : Nat} {v : Value} (h : own L w cs a) (hg : g ∉ L) : own L (w.setCell ⟨g, o, none⟩ v) cs a :=
  GoD.own_same h fun b hb => heap_setCell_ne w g o v (fun e => hg (e ▸ hb))
theorem own_alloc {L : List Nat} {w : World} {cs : List Value} {a : α} {o : Obj} (h : own L w cs a) : own L (w.alloc o) cs a :=
  GoD.own_same h fun b hb => Below.heap_alloc w o b (GoD.own_lt h b hb)
theorem own_drew {L : List Nat} {w : World} {cs : List Value} {a : α} (h : own L w cs a) : own L w.drew cs a := GoD.own_same h fun _ _ => rfl
theorem not_mem_of_le {L : List Nat} {B g : Nat} (h : ∀ b, b ∈ L → B ≤ b) (hg : g < B) : g ∉ L := fun hm => by have := h g hm; omega

theorem own_pair {L1 L2 : List Nat} {w : World} {c1 c2 : List Value} {a : α} {b : β} (h1 : own L1 w c1 a) (h2 : own L2 w c2 b) (hd : ∀ x, x ∈ L1 → x ∉ L2) : own (L1 ++ L2) w (c1 ++ c2) (a, b) :=
  ⟨List.nodup_append.2 ⟨GoD.own_nd h1, GoD.own_nd h2, fun x hx y hy e => hd x hx (e ▸ hy)⟩, c1, c2, L1, L2, rfl, rfl, h1, h2⟩
theorem own_i (w : World) {a : Int} (h : I64 a) : own [] w [.int .i64 a] a := ⟨rfl, rfl, h⟩
theorem own_b (w : World) (a : Bool) : own [] w [.bool a] a := ⟨rfl, rfl⟩
theorem own_s (w : World) {a : ByteArray} (h : a.size ≤ maxLen) : own [] w [.string a] a := ⟨rfl, rfl, h⟩

/-! ### a row of elements in the making -/
/-- block g holds room for 'cap' elements; the first k are those of l -/
def Part (w : World) (g cap : Nat) (e : TypeId) (l : List α) (k : Nat) : Prop :=
  ∃ (cur : Array Value) (Ls : List (List Nat)), w.heap[g]? = some (.cells cur e (0, 0)) ∧ cur.size = cap * GoD.n α ∧ Ls.length = k ∧ Ls.flatten.Nodup ∧ (∀ b, b ∈ Ls.flatten → g < b) ∧
    ∀ i Li a, Ls[i]? = some Li → l[i]? = some a → own Li w ((cur.toList.drop (i * GoD.n α)).take (GoD.n α)) a

theorem Part.start {w : World} {g cap : Nat} {e : TypeId} {cur : Array Value} (h : w.heap[g]? = some (.cells cur e (0, 0))) (hs : cur.size = cap * GoD.n α) (l : List α) : Part w g cap e l 0 :=
  ⟨cur, [], h, hs, rfl, by simp, by simp, by simp⟩
theorem Part.block {w : World} {g cap : Nat} {e : TypeId} {l : List α} {k : Nat} (h : Part w g cap e l k) : ∃ cur, w.heap[g]? = some (.cells cur e (0, 0)) ∧ cur.size = cap * GoD.n α :=
  let ⟨cur, _, h1, h2, _⟩ := h; ⟨cur, h1, h2⟩
theorem Part.lt {w : World} {g cap : Nat} {e : TypeId} {l : List α} {k : Nat} (h : Part w g cap e l k) : g < w.heap.size := by
  obtain ⟨cur, h1, _⟩ := h.block
  exact block_lt_of_heap h1
theorem Part.step {wr w2 : World} {g cap : Nat} {e : TypeId} {l : List α} {k : Nat} {L : List Nat} {ce : List Value} {a : α} (h : Part wr g cap e l k) (hb : Below wr.heap.size wr w2) (hk : k < cap) (hl : k ≤ l.length)
    (ha : l[k]? = some a) (ho : own L w2 ce a) (hL : ∀ b, b ∈ L → wr.heap.size ≤ b) : Part (w2.setCells g (k * GoD.n α) ce) g cap e l (k + 1) := by
  obtain ⟨cur, Ls, hg, hs, hlen, hnd, hgt, hel⟩ := h
  have hglt : g < wr.heap.size := block_lt_of_heap hg
  have hin : ∀ b, b ∈ Ls.flatten → b < wr.heap.size := fun b hb' => by
    obtain ⟨Li, hLi, hm⟩ := List.mem_flatten.1 hb'
    obtain ⟨i, hi, rfl⟩ := List.getElem_of_mem hLi
    exact GoD.own_lt (hel i _ _ (List.getElem?_eq_getElem hi) (List.getElem?_eq_getElem (by omega : i < l.length))) b hm
  have hcl : ce.length = GoD.n α := GoD.rd_len (GoD.own_rd ho)
  have hroom : k * GoD.n α + GoD.n α ≤ cap * GoD.n α := by
    have := Nat.mul_le_mul_right (GoD.n α) (show k + 1 ≤ cap by omega)
    rwa [Nat.add_mul, Nat.one_mul] at this
  refine ⟨putCells cur (k * GoD.n α) ce, Ls ++ [L], heap_setCells_of g ce _ _ ((hb.block g hglt).trans hg), by rw [size_putCells]; exact hs, by simp [hlen], ?_, ?_, ?_⟩
  · rw [List.flatten_append]
    simp only [List.flatten_cons, List.flatten_nil, List.append_nil]
    exact List.nodup_append.2 ⟨hnd, GoD.own_nd ho, fun x hx y hy e => by have := hin x hx; have := hL y hy; omega⟩
  · intro b hb'
    rw [List.flatten_append] at hb'
    simp only [List.flatten_cons, List.flatten_nil, List.append_nil, List.mem_append] at hb'
    rcases hb' with hb' | hb'
    · exact hgt b hb'
    · have := hL b hb'; omega
  · intro i Li x hi hx
    have keep : ∀ {M : List Nat} {cs : List Value} {y : α}, own M w2 cs y → g ∉ M → own M (w2.setCells g (k * GoD.n α) ce) cs y := fun h hg' =>
      GoD.own_same h fun b hb' => heap_setCells_ne g (fun e => hg' (e ▸ hb')) _ _ _
    by_cases hik : i < k
    · rw [List.getElem?_append_left (by omega)] at hi
      rw [slice_put_ne (.inl (by
        have := Nat.mul_le_mul_right (GoD.n α) (show i + 1 ≤ k by omega)
        rwa [Nat.add_mul, Nat.one_mul] at this))]
      refine keep (GoD.own_same (hel i Li x hi hx) fun b hb' => hb.block b (hin b (mem_flatten_of_get hi hb'))) (fun hm => ?_)
      have := hgt g (mem_flatten_of_get hi hm)
      omega
    · have hile : i < (Ls ++ [L]).length := (List.getElem?_eq_some_iff.1 hi).1
      simp [hlen] at hile
      obtain rfl : i = k := by omega
      rw [List.getElem?_append_right (by omega), hlen] at hi
      simp at hi
      subst hi
      rw [ha] at hx
      obtain rfl : a = x := by simpa using hx
      rw [show GoD.n α = ce.length from hcl.symm] at hroom ⊢
      rw [slice_put (by rw [hs, ← hcl]; exact hroom)]
      rw [hcl]
      exact keep ho (not_mem_of_le hL hglt)
theorem Part.done {w : World} {g : Nat} {e : TypeId} {l : List α} (h : Part w g l.length e l l.length) (hm : l.length ≤ maxLen) : ∃ L, own L w [.slice (some ⟨g, 0, none⟩) l.length l.length] l ∧ ∀ b, b ∈ L → g ≤ b := by
  obtain ⟨cur, Ls, hg, hs, hlen, hnd, hgt, hel⟩ := h
  refine ⟨g :: Ls.flatten, ⟨List.nodup_cons.2 ⟨fun hm => by have := hgt g hm; omega, hnd⟩, .inr ⟨g, l.length, cur, e, Ls, rfl, hg, Nat.le_refl _, hm, hs, rfl, hlen, hel⟩⟩, fun b hb => ?_⟩
  rcases List.mem_cons.1 hb with rfl | hb
  · exact Nat.le_refl _
  · exact Nat.le_of_lt (hgt b hb)
theorem cells_of_heap {w : World} {g : Nat} {cur : Array Value} {e : TypeId} {fr : Nat × Nat} (h : w.heap[g]? = some (.cells cur e fr)) (o : Nat) (ho : o < cur.size) : w.cell? ⟨g, o, none⟩ = some cur[o] := by
  simp [World.cell?, h, ho]
theorem free_of_heap {w : World} {g : Nat} {cur : Array Value} {e : TypeId} (h : w.heap[g]? = some (.cells cur e (0, 0))) (o : Nat) : w.frozen? ⟨g, o, none⟩ = false := by
  simp [World.frozen?, h]
end

theorem slice_of_rd {α : Type} [GoD α] {w : World} {v : Value} {l : List α} (h : rd w [v] l) : ∃ oa cap, v = .slice oa l.length cap := by
  obtain ⟨oa, cap, e, _⟩ := h
  exact ⟨oa, cap, by simpa using e⟩
theorem slice_of_own {α : Type} [GoD α] {L : List Nat} {w : World} {v : Value} {l : List α} (h : own L w [v] l) : ∃ oa cap, v = .slice oa l.length cap := slice_of_rd (GoD.own_rd h)

/-! ### sizes -/
def szq (t : Nat) (left r : Int) : Prop := (r = left - t ∧ 0 ≤ left - t) ∨ (r = -1 ∧ left - t < 0)
def RetSz (w : World) (t : Nat) (left : Int) (e : Ending) (w' : World) : Prop := ∃ r, e = .returned (.int .i64 r) ∧ szq t left r ∧ Below w.heap.size w w'
theorem call_sz {P : Program} {f : FuncId} {args : Array Value} {W w : World} {t : Nat} {left : Int} {R : Ending → World → Prop} (hc : Calls P f args W (RetSz W t left)) (h0 : Below w.heap.size w W)
    (k : ∀ w' r, Below w.heap.size w w' → Below W.heap.size W w' → w.heap.size ≤ w'.heap.size → W.heap.size ≤ w'.heap.size → szq t left r → (-1 ≤ r ∧ (r ≤ left ∨ r < 0)) → R (.returned (.int .i64 r)) w') : Calls P f args W R :=
  hc.mono fun e w' ⟨r, he, hr, hb⟩ => by
    subst he
    have h1 := below_via h0 hb
    exact k w' r h1 hb h1.size hb.size hr (by unfold szq at hr; omega)
section
variable {α : Type} [GoD α]
theorem size_list (l : List α) : GoD.size l = l.length + (l.map GoD.size).sum := rfl
theorem size_list_len (l : List α) : l.length ≤ GoD.size l := by rw [size_list]; omega
theorem sum_take {l : List α} {i : Nat} {a : α} (h : l[i]? = some a) : ((l.take (i + 1)).map GoD.size).sum = ((l.take i).map GoD.size).sum + GoD.size a := by
  rw [List.take_add_one, h]
  simp
theorem sum_take_le' (l : List α) (i : Nat) : ((l.take i).map GoD.size).sum ≤ (l.map GoD.size).sum := by
  have h : (l.map GoD.size).sum = ((l.take i).map GoD.size).sum + ((l.drop i).map GoD.size).sum := by
    rw [← List.sum_append_nat, ← List.map_append, List.take_append_drop]
  omega
theorem sum_take_le {l : List α} {i : Nat} {a : α} (h : l[i]? = some a) : ((l.take i).map GoD.size).sum + GoD.size a ≤ (l.map GoD.size).sum := by
  rw [← sum_take h]
  exact sum_take_le' l _
theorem size_list_get {l : List α} {i : Nat} {a : α} (h : l[i]? = some a) : GoD.size a ≤ GoD.size l := by
  have := sum_take_le h
  rw [size_list]
  omega
theorem sum_zero (l : List α) (h : ∀ a : α, GoD.size a = 0) : (l.map GoD.size).sum = 0 := by
  induction l with
  | nil => rfl
  | cons a l ih => simp [h a, ih]
end

/-! ### make -/
theorem info_ok {P : Program} {e : TypeId} {n : Nat} (h : (P.info? e).map (fun i => (i.zero.map (·.cells.size), i.size, decide (i.bytes ≤ 1000))) = some (some n, n, true)) :
    ∃ i z, P.info? e = some i ∧ i.zero = some z ∧ i.size = n ∧ z.cells.size = n ∧ i.bytes ≤ 1000 := by
  obtain ⟨i, hi, h⟩ := Option.map_eq_some_iff.1 h
  simp only [Prod.mk.injEq, decide_eq_true_eq] at h
  obtain ⟨h1, h2, h3⟩ := h
  obtain ⟨z, hz, hzn⟩ := Option.map_eq_some_iff.1 h1
  exact ⟨i, z, hi, hz, h2, hzn, h3⟩

theorem wp_make {P : Program} (w0 : World) {w : World} {ops : Array Oper} {rest : List Oper} {o : Oper} {a : Act} {Q : Exit → Act → World → Prop}
    (l c : Operand) (t e : TypeId) (sz n : Nat) (hg : o.guard = none) (hop : o.op = Op.makeSlice t l c) (h1 : P.underlying t = some (.slice e))
    (h2 : (P.info? e).map (fun i => (i.zero.map (·.cells.size), i.size, decide (i.bytes ≤ 1000))) = some (some sz, sz, true)) (hl : a.eval l = .int .i64 n) (hc : a.eval c = .int .i64 n) (hn : n ≤ 1073741824) (h0 : Below w0.heap.size w0 w)
    (hK : ∀ w' cur, w'.heap[w.heap.size]? = some (.cells cur e (0, 0)) → cur.size = n * sz → Below w0.heap.size w0 w' → Below w.heap.size w w' → w.heap.size < w'.heap.size → wpList P ops Q rest (a.put o.dst (.slice (some ⟨w.heap.size, 0, none⟩) n n)) w') :
    wpList P ops Q (o :: rest) a w := by
  obtain ⟨i, z, hi, hz, hs, hzn, hb⟩ := info_ok h2
  refine wpList_make_full w hg l c t hop w.heap.size e i z sz h1 hi hz hs .i64 .i64 n n n hl hc rfl rfl ?_ ?_ (Nat.le_refl _) ?_
  · calc i.bytes * n ≤ 1000 * 1073741824 := Nat.mul_le_mul hb hn
      _ ≤ _ := by decide
  · unfold maxLen; omega
  · intro w' hown hgr
    have hbel : Below w.heap.size w w' := (Below.refl _ _).grown hgr (Nat.le_refl _) (fun k hk => by cases hk)
    rcases hown.2 with ⟨h, _⟩ | ⟨g, cap, cur, hv, _, hh, _, _, hsz, _⟩
    · cases h
    · simp only [Value.slice.injEq, Option.some.injEq, Addr.mk.injEq, and_true] at hv
      obtain ⟨rfl, _, rfl⟩ := hv
      exact hK w' cur hh hsz (below_via h0 hbel) hbel (block_lt_of_heap hh)

end Go.Proofs.YtjkfmihbmkbjfaaGreat
