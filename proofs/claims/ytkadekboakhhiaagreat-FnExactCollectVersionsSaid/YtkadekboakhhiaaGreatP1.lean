/- Texts of this proof, put together by a program: Za, Rd, Reg. -/
import Derived.WalkKit
import Derived.ProofKit
import Derived.OpenShut
import Derived.Lib.QuietBelow
import Derived.Lib.Hide
import Derived.WalkLawsBesides
import Derived.WalkSpells
import Derived.Deep.Slices
import Derived.Laws.IdiomCopy
import Derived.OwnWalk
import Derived.Handy
import Derived.Deep.Light
import Derived.Deep.DeepMust
import Derived.IntWalk
import Derived.Calls
import Derived.Laws.StructEq
import Derived.ChangeArms
import Derived.ChangeSlices
import Derived.WideShapes
import Derived.Carry
import Derived.Below
import Derived.Still
import Derived.Deep.QuietTactic
set_option linter.unusedVariables false
set_option linter.unusedSimpArgs false
namespace Go.Proofs.YtkadekboakhhiaaGreat
section
open Go.RowKit
def I64 (n : Int) : Prop := -9223372036854775808 ≤ n ∧ n ≤ 9223372036854775807
def digs : Nat → Nat → List UInt8
  | 0, _ => []
  | f + 1, k => if k = 0 then [] else digs f (k / 10) ++ [UInt8.ofNat (48 + k % 10)]
def markB (k : Nat) : ByteArray := ⟨(109 :: (if k = 0 then [48] else digs k k)).toArray⟩
class GoD (α : Type) where
  n : Nat
  rd : World → List Value → α → Prop
  own : List Nat → World → List Value → α → Prop
  size : α → Nat
  mark : α → Nat → α × Nat
  markT : α → Nat → α × Nat
  rd_len : ∀ {w cs a}, rd w cs a → cs.length = n
  rd_same : ∀ {w w' : World} {cs a}, rd w cs a → (∀ b, b < w.heap.size → w'.heap[b]? = w.heap[b]?) → rd w' cs a
  own_same : ∀ {L} {w w' : World} {cs a}, own L w cs a → (∀ b, b ∈ L → w'.heap[b]? = w.heap[b]?) → own L w' cs a
  own_rd : ∀ {L w cs a}, own L w cs a → rd w cs a
  own_lt : ∀ {L} {w : World} {cs a}, own L w cs a → ∀ b, b ∈ L → b < w.heap.size
  own_nd : ∀ {L w cs a}, own L w cs a → L.Nodup
  deq : DecidableEq α
  mk_le : ∀ (a : α) (k : Nat), k ≤ (mark a k).2
  mkT_le : ∀ (a : α) (k : Nat), k ≤ (markT a k).2
  lv : Nat
  lvm : Nat
  mk_bd : ∀ (a : α) (k : Nat), (mark a k).2 ≤ k + lv + lvm * size a
  mkT_bd : ∀ (a : α) (k : Nat), (markT a k).2 ≤ k + lvm * size a
open GoD (rd own)
theorem rd_below {α : Type} [GoD α] {w w' : World} {cs : List Value} {a : α} (h : rd w cs a) (hb : Below w.heap.size w w') : rd w' cs a :=
  GoD.rd_same h hb.block
theorem own_below {α : Type} [GoD α] {L : List Nat} {w w' : World} {cs : List Value} {a : α} (h : own L w cs a) (hb : Below w.heap.size w w') : own L w' cs a :=
  GoD.own_same h (fun b hb' => hb.block b (GoD.own_lt h b hb'))
instance instGoDInt : GoD Int where
  n := 1
  rd _ cs a := cs = [.int .i64 a] ∧ I64 a
  own L _ cs a := L = [] ∧ cs = [.int .i64 a] ∧ I64 a
  size _ := 0
  mark _ k := ((k : Int), k + 1)
  markT a k := (a, k)
  rd_len h := by rw [h.1]; rfl
  rd_same h _ := h
  own_same h _ := h
  own_rd h := h.2
  own_lt h := by rw [h.1]; simp
  own_nd h := by rw [h.1]; simp
  deq := inferInstance
  mk_le _ k := Nat.le_succ k
  mkT_le _ k := Nat.le_refl k
  lv := 1
  lvm := 0
  mk_bd _ k := by simp
  mkT_bd _ k := by simp
instance instGoDBool : GoD Bool where
  n := 1
  rd _ cs a := cs = [.bool a]
  own L _ cs a := L = [] ∧ cs = [.bool a]
  size _ := 0
  mark _ k := (k % 3 == 0, k + 1)
  markT a k := (a, k)
  rd_len h := by rw [h]; rfl
  rd_same h _ := h
  own_same h _ := h
  own_rd h := h.2
  own_lt h := by rw [h.1]; simp
  own_nd h := by rw [h.1]; simp
  deq := inferInstance
  mk_le _ k := Nat.le_succ k
  mkT_le _ k := Nat.le_refl k
  lv := 1
  lvm := 0
  mk_bd _ k := by simp
  mkT_bd _ k := by simp
instance instGoDStr : GoD ByteArray where
  n := 1
  rd _ cs a := cs = [.string a] ∧ a.size ≤ maxLen
  own L _ cs a := L = [] ∧ cs = [.string a] ∧ a.size ≤ maxLen
  size a := a.size
  mark _ k := (markB k, k + 1)
  markT a k := (a, k)
  rd_len h := by rw [h.1]; rfl
  rd_same h _ := h
  own_same h _ := h
  own_rd h := h.2
  own_lt h := by rw [h.1]; simp
  own_nd h := by rw [h.1]; simp
  deq := inferInstance
  mk_le _ k := Nat.le_succ k
  mkT_le _ k := Nat.le_refl k
  lv := 1
  lvm := 0
  mk_bd _ k := by simp
  mkT_bd _ k := by simp
section
variable {α β : Type} [GoD α] [GoD β]
def rdP (w : World) (cs : List Value) (p : α × β) : Prop := ∃ c1 c2, cs = c1 ++ c2 ∧ rd w c1 p.1 ∧ rd w c2 p.2
def ownP (L : List Nat) (w : World) (cs : List Value) (p : α × β) : Prop := L.Nodup ∧ ∃ c1 c2 L1 L2, cs = c1 ++ c2 ∧ L = L1 ++ L2 ∧ own L1 w c1 p.1 ∧ own L2 w c2 p.2
instance instGoDProd : GoD (α × β) where
  n := GoD.n α + GoD.n β
  rd := rdP
  own := ownP
  size p := GoD.size p.1 + GoD.size p.2
  mark p k := (((GoD.mark p.1 k).1, (GoD.mark p.2 (GoD.mark p.1 k).2).1), (GoD.mark p.2 (GoD.mark p.1 k).2).2)
  markT p k := (((GoD.markT p.1 k).1, (GoD.markT p.2 (GoD.markT p.1 k).2).1), (GoD.markT p.2 (GoD.markT p.1 k).2).2)
  rd_len := by
    rintro w cs a ⟨c1, c2, rfl, h1, h2⟩
    simp [GoD.rd_len h1, GoD.rd_len h2]
  rd_same := by
    rintro w w' cs a ⟨c1, c2, rfl, h1, h2⟩ hb
    exact ⟨c1, c2, rfl, GoD.rd_same h1 hb, GoD.rd_same h2 hb⟩
  own_same := by
    rintro L w w' cs a ⟨hn, c1, c2, L1, L2, rfl, rfl, h1, h2⟩ hb
    exact ⟨hn, c1, c2, L1, L2, rfl, rfl, GoD.own_same h1 (fun b hm => hb b (by simp [hm])), GoD.own_same h2 (fun b hm => hb b (by simp [hm]))⟩
  own_rd := by
    rintro L w cs a ⟨hn, c1, c2, L1, L2, rfl, rfl, h1, h2⟩
    exact ⟨c1, c2, rfl, GoD.own_rd h1, GoD.own_rd h2⟩
  own_lt := by
    rintro L w cs a ⟨hn, c1, c2, L1, L2, rfl, rfl, h1, h2⟩ b hb
    rcases List.mem_append.1 hb with h | h
    · exact GoD.own_lt h1 b h
    exact GoD.own_lt h2 b h
  own_nd h := h.1
  deq := @instDecidableEqProd _ _ GoD.deq GoD.deq
  mk_le _ _ := Nat.le_trans (GoD.mk_le _ _) (GoD.mk_le _ _)
  mkT_le _ _ := Nat.le_trans (GoD.mkT_le _ _) (GoD.mkT_le _ _)
  lv := GoD.lv α + GoD.lv β
  lvm := max (GoD.lvm α) (GoD.lvm β)
  mk_bd p k := by
    have h1 := GoD.mk_bd p.1 k
    have h2 := GoD.mk_bd p.2 (GoD.mark p.1 k).2
    have e1 := Nat.mul_le_mul_right (GoD.size p.1) (Nat.le_max_left (GoD.lvm α) (GoD.lvm β))
    have e2 := Nat.mul_le_mul_right (GoD.size p.2) (Nat.le_max_right (GoD.lvm α) (GoD.lvm β))
    rw [Nat.mul_add]
    omega
  mkT_bd p k := by
    have h1 := GoD.mkT_bd p.1 k
    have h2 := GoD.mkT_bd p.2 (GoD.markT p.1 k).2
    have e1 := Nat.mul_le_mul_right (GoD.size p.1) (Nat.le_max_left (GoD.lvm α) (GoD.lvm β))
    have e2 := Nat.mul_le_mul_right (GoD.size p.2) (Nat.le_max_right (GoD.lvm α) (GoD.lvm β))
    rw [Nat.mul_add]
    omega
def rdS (w : World) (cs : List Value) (l : List α) : Prop :=
  ∃ oa cap, cs = [.slice oa l.length cap] ∧ l.length ≤ cap ∧ cap ≤ maxLen ∧
    ∀ i a, l[i]? = some a → ∃ b off ce, oa = some ⟨b, off, none⟩ ∧ ce.length = GoD.n α ∧
      (∀ j v, ce[j]? = some v → w.cell? ⟨b, off + i * GoD.n α + j, none⟩ = some v) ∧ rd w ce a
def ownS (L : List Nat) (w : World) (cs : List Value) (l : List α) : Prop :=
  L.Nodup ∧ ((l = [] ∧ L = [] ∧ ∃ oa, cs = [.slice oa 0 0]) ∨
  ∃ (g cap : Nat) (cur : Array Value) (e : TypeId) (Ls : List (List Nat)), cs = [.slice (some ⟨g, 0, none⟩) l.length cap] ∧ w.heap[g]? = some (.cells cur e (0, 0)) ∧ l.length ≤ cap ∧ cap ≤ maxLen ∧
    cur.size = cap * GoD.n α ∧ L = g :: Ls.flatten ∧ Ls.length = l.length ∧
    ∀ i Li a, Ls[i]? = some Li → l[i]? = some a → own Li w ((cur.toList.drop (i * GoD.n α)).take (GoD.n α)) a)
def markS : List α → Nat → List α × Nat
  | [], k => ([], k)
  | a :: l, k => ((GoD.mark a k).1 :: (markS l (GoD.mark a k).2).1, (markS l (GoD.mark a k).2).2)
theorem markS_le : ∀ (l : List α) (k : Nat), k ≤ (markS l k).2
  | [], k => Nat.le_refl k
  | a :: l, k => Nat.le_trans (GoD.mk_le a k) (markS_le l _)
theorem markS_bd : ∀ (l : List α) (k : Nat), (markS l k).2 ≤ k + max (GoD.lv α) (GoD.lvm α) * (l.length + (l.map GoD.size).sum)
  | [], k => by simp [markS]
  | a :: l, k => by
    have h1 := GoD.mk_bd a k
    have h2 := markS_bd l (GoD.mark a k).2
    have e1 := Nat.le_max_left (GoD.lv α) (GoD.lvm α)
    have e2 := Nat.mul_le_mul_right (GoD.size a) (Nat.le_max_right (GoD.lv α) (GoD.lvm α))
    have e3 : max (GoD.lv α) (GoD.lvm α) * ((a :: l).length + ((a :: l).map GoD.size).sum) = max (GoD.lv α) (GoD.lvm α) * (l.length + (l.map GoD.size).sum) + max (GoD.lv α) (GoD.lvm α) * GoD.size a + max (GoD.lv α) (GoD.lvm α) := by
      simp only [List.length_cons, List.map_cons, List.sum_cons]
      rw [← Nat.mul_add, ← Nat.mul_succ]
      congr 1
      omega
    rw [e3]
    simp only [markS]
    omega
theorem markS_append : ∀ (l l' : List α) (k : Nat), markS (l ++ l') k = ((markS l k).1 ++ (markS l' (markS l k).2).1, (markS l' (markS l k).2).2)
  | [], _, _ => rfl
  | a :: l, l', k => by simp [markS, markS_append l l']
theorem block_lt_of_heap {w : World} {g : Nat} {o : Obj} (h : w.heap[g]? = some o) : g < w.heap.size := (Array.getElem?_eq_some_iff.1 h).1
theorem ownS_rdS {L : List Nat} {w : World} {cs : List Value} {l : List α} (h : ownS L w cs l) : rdS w cs l := by
  obtain ⟨_, ⟨rfl, rfl, oa, rfl⟩ | ⟨g, cap, cur, e, Ls, rfl, hg, hl, hm, hs, rfl, hLs, hel⟩⟩ := h
  · exact ⟨oa, 0, rfl, Nat.le_refl _, Nat.zero_le _, fun i a hi => by simp at hi⟩
  refine ⟨_, cap, rfl, hl, hm, fun i a hi => ⟨g, 0, (cur.toList.drop (i * GoD.n α)).take (GoD.n α), rfl, ?_, ?_, ?_⟩⟩
  · have hi' : i < l.length := (List.getElem?_eq_some_iff.1 hi).1
    simp only [List.length_take, List.length_drop, Array.length_toList, hs]
    have : i * GoD.n α + GoD.n α ≤ cap * GoD.n α := by
      have := Nat.mul_le_mul_right (GoD.n α) (show i + 1 ≤ cap by omega)
      rwa [Nat.add_mul, Nat.one_mul] at this
    omega
  · intro j v hj
    rw [List.getElem?_take] at hj
    split at hj
    · rw [List.getElem?_drop] at hj
      simp only [World.cell?, hg]
      simpa [Nat.add_comm] using hj
    cases hj
  obtain ⟨Li, hLi⟩ : ∃ Li, Ls[i]? = some Li := by
    have hi' : i < l.length := (List.getElem?_eq_some_iff.1 hi).1
    exact ⟨_, List.getElem?_eq_getElem (by omega)⟩
  exact GoD.own_rd (hel i Li a hLi hi)
theorem mem_flatten_of_get {Ls : List (List Nat)} {i : Nat} {Li : List Nat} (h : Ls[i]? = some Li) {b : Nat} (hb : b ∈ Li) : b ∈ Ls.flatten :=
  List.mem_flatten.2 ⟨Li, List.mem_of_getElem? h, hb⟩
instance instGoDList : GoD (List α) where
  n := 1
  rd := rdS
  own := ownS
  size l := l.length + (l.map GoD.size).sum
  mark := markS
  markT := markS
  rd_len := by
    rintro w cs a ⟨oa, cap, rfl, _⟩
    rfl
  rd_same := by
    rintro w w' cs l ⟨oa, cap, rfl, hl, hm, hel⟩ hb
    refine ⟨oa, cap, rfl, hl, hm, fun i a hi => ?_⟩
    obtain ⟨b, off, ce, rfl, hlen, hc, hr⟩ := hel i a hi
    refine ⟨b, off, ce, rfl, hlen, fun j v hj => ?_, GoD.rd_same hr hb⟩
    have h1 := hc j v hj
    rw [World.cell?_of_block (hb b (World.block_lt_of_cell? _ _ h1))]
    exact h1
  own_same := by
    rintro L w w' cs l ⟨hn, h⟩ hb
    refine ⟨hn, ?_⟩
    rcases h with h | ⟨g, cap, cur, e, Ls, rfl, hg, hl, hm, hs, rfl, hLs, hel⟩
    · exact .inl h
    refine .inr ⟨g, cap, cur, e, Ls, rfl, (hb g (by simp)).trans hg, hl, hm, hs, rfl, hLs, fun i Li a hLi hi => ?_⟩
    exact GoD.own_same (hel i Li a hLi hi) (fun b hm => hb b (List.mem_cons_of_mem _ (mem_flatten_of_get hLi hm)))
  own_rd := ownS_rdS
  own_lt := by
    rintro L w cs l ⟨hn, h⟩ b hb
    rcases h with ⟨_, rfl, _⟩ | ⟨g, cap, cur, e, Ls, rfl, hg, hl, hm, hs, rfl, hLs, hel⟩
    · simp at hb
    rcases List.mem_cons.1 hb with rfl | hb
    · exact block_lt_of_heap hg
    obtain ⟨Li, hLi, hm⟩ := List.mem_flatten.1 hb
    obtain ⟨i, hi, rfl⟩ := List.getElem_of_mem hLi
    exact GoD.own_lt (hel i _ _ (List.getElem?_eq_getElem hi) (List.getElem?_eq_getElem (by omega : i < l.length))) b hm
  own_nd h := h.1
  deq := @instDecidableEqList _ GoD.deq
  mk_le := markS_le
  mkT_le := markS_le
  lv := 0
  lvm := max (GoD.lv α) (GoD.lvm α)
  mk_bd := markS_bd
  mkT_bd := markS_bd
end
def Ret (w : World) (v : Value) (e : Ending) (w' : World) : Prop := e = .returned v ∧ Below w.heap.size w w'
end
section
open Go.RowKit
open GoD (rd own)
theorem bcell {W w1 : World} (hb : Below W.heap.size W w1) : ∀ b o, b < W.heap.size → w1.cell? ⟨b, o, none⟩ = W.cell? ⟨b, o, none⟩ := fun b o h => hb.cell (p := ⟨b, o, none⟩) h
theorem bfroz {W w1 : World} (hb : Below W.heap.size W w1) : ∀ b o, b < W.heap.size → w1.frozen? ⟨b, o, none⟩ = W.frozen? ⟨b, o, none⟩ := fun b o h => hb.frozen (p := ⟨b, o, none⟩) h
theorem below_via {w W w' : World} (h1 : Below w.heap.size w W) (hb : Below W.heap.size W w') : Below w.heap.size w w' := h1.trans (hb.mono h1.size)
structure Back (w W w' : World) : Prop where
  here : Below W.heap.size W w'
  all : Below w.heap.size w w'
theorem call_ret {P : Program} {f : FuncId} {args : Array Value} {W w : World} {v : Value} {R : Ending → World → Prop} (hc : Calls P f args W (Ret W v)) (h0 : Below w.heap.size w W)
    (k : ∀ w', Below w.heap.size w w' → Below W.heap.size W w' → w.heap.size ≤ w'.heap.size → W.heap.size ≤ w'.heap.size → R (.returned v) w') : Calls P f args W R :=
  hc.mono fun e w' ⟨he, hb⟩ => by
    subst he
    have h1 := below_via h0 hb
    exact k w' h1 hb h1.size hb.size
section
variable {α β : Type} [GoD α] [GoD β]
def RetA (w : World) (a : α) (e : Ending) (w' : World) : Prop := ∃ cs L, e = .returned (.agg cs.toArray) ∧ Below w.heap.size w w' ∧ own L w' cs a ∧ ∀ b, b ∈ L → w.heap.size ≤ b
def RetS (w : World) (a : α) (e : Ending) (w' : World) : Prop := ∃ v L, e = .returned v ∧ Below w.heap.size w w' ∧ own L w' [v] a ∧ ∀ b, b ∈ L → w.heap.size ≤ b
theorem call_retA {P : Program} {f : FuncId} {args : Array Value} {W w : World} {a : α} {R : Ending → World → Prop} (hc : Calls P f args W (RetA W a)) (h0 : Below w.heap.size w W)
    (k : ∀ w' cs L, Below w.heap.size w w' → Below W.heap.size W w' → w.heap.size ≤ w'.heap.size → W.heap.size ≤ w'.heap.size → own L w' cs a → (∀ b, b ∈ L → W.heap.size ≤ b) → R (.returned (.agg cs.toArray)) w') : Calls P f args W R :=
  hc.mono fun e w' ⟨cs, L, he, hb, ho, hL⟩ => by
    subst he
    have h1 := below_via h0 hb
    exact k w' cs L h1 hb h1.size hb.size ho hL
theorem call_retS {P : Program} {f : FuncId} {args : Array Value} {W w : World} {a : α} {R : Ending → World → Prop} (hc : Calls P f args W (RetS W a)) (h0 : Below w.heap.size w W)
    (k : ∀ w' v L, Below w.heap.size w w' → Below W.heap.size W w' → w.heap.size ≤ w'.heap.size → W.heap.size ≤ w'.heap.size → own L w' [v] a → (∀ b, b ∈ L → W.heap.size ≤ b) → R (.returned v) w') : Calls P f args W R :=
  hc.mono fun e w' ⟨v, L, he, hb, ho, hL⟩ => by
    subst he
    have h1 := below_via h0 hb
    exact k w' v L h1 hb h1.size hb.size ho hL
def RetRA (w : World) (a : α) (e : Ending) (w' : World) : Prop := ∃ cs, e = .returned (.agg cs.toArray) ∧ Below w.heap.size w w' ∧ rd w' cs a
def RetRS (w : World) (a : α) (e : Ending) (w' : World) : Prop := ∃ v, e = .returned v ∧ Below w.heap.size w w' ∧ rd w' [v] a
theorem RetA.rd {w : World} {a : α} {e : Ending} {w' : World} (h : RetA w a e w') : RetRA w a e w' :=
  let ⟨cs, _, he, hb, ho, _⟩ := h
  ⟨cs, he, hb, GoD.own_rd ho⟩
theorem RetS.rd {w : World} {a : α} {e : Ending} {w' : World} (h : RetS w a e w') : RetRS w a e w' :=
  let ⟨v, _, he, hb, ho, _⟩ := h
  ⟨v, he, hb, GoD.own_rd ho⟩
/-! ### stores -/
theorem heap_setCell_of (w : World) (g o : Nat) (v : Value) {cur : Array Value} {e : TypeId} {fr : Nat × Nat} (h : w.heap[g]? = some (.cells cur e fr)) :
    (w.setCell ⟨g, o, none⟩ v).heap[g]? = some (.cells (cur.setIfInBounds o v) e fr) := by
  simp [World.setCell, Array.getElem?_modify, h]
theorem heap_setCell_ne (w : World) (g o : Nat) (v : Value) {b : Nat} (h : b ≠ g) : (w.setCell ⟨g, o, none⟩ v).heap[b]? = w.heap[b]? := by
  simp only [World.setCell, Array.getElem?_modify]
  rw [if_neg (by omega)]
def putCells (cur : Array Value) : Nat → List Value → Array Value
  | _, [] => cur
  | o, v :: r => putCells (cur.setIfInBounds o v) (o + 1) r
theorem heap_setCells_of (g : Nat) : ∀ (vs : List Value) (o : Nat) (w : World) {cur : Array Value} {e : TypeId} {fr : Nat × Nat}, w.heap[g]? = some (.cells cur e fr) →
    (w.setCells g o vs).heap[g]? = some (.cells (putCells cur o vs) e fr)
  | [], _, _, _, _, _, h => h
  | v :: r, o, w, _, _, _, h => heap_setCells_of g r (o + 1) _ (heap_setCell_of w g o v h)
theorem heap_setCells_ne (g : Nat) {b : Nat} (hb : b ≠ g) : ∀ (vs : List Value) (o : Nat) (w : World), (w.setCells g o vs).heap[b]? = w.heap[b]?
  | [], _, _ => rfl
  | v :: r, o, w => (heap_setCells_ne g hb r (o + 1) _).trans (heap_setCell_ne w g o v hb)
theorem size_setCells (g : Nat) : ∀ (vs : List Value) (o : Nat) (w : World), (w.setCells g o vs).heap.size = w.heap.size
  | [], _, _ => rfl
  | v :: r, o, w => (size_setCells g r (o + 1) _).trans (World.size_setCell ..)
theorem size_putCells : ∀ (vs : List Value) (o : Nat) (cur : Array Value), (putCells cur o vs).size = cur.size
  | [], _, _ => rfl
  | v :: r, o, cur => (size_putCells r (o + 1) _).trans (by simp)
theorem putCells_out : ∀ (vs : List Value) (o : Nat) (cur : Array Value) (j : Nat), (j < o ∨ o + vs.length ≤ j) → (putCells cur o vs)[j]? = cur[j]?
  | [], _, _, _, _ => rfl
  | v :: r, o, cur, j, h => by
    rw [putCells, putCells_out r (o + 1) _ j (by simp at h; omega), Array.getElem?_setIfInBounds, if_neg (by simp at h; omega)]
theorem putCells_in : ∀ (vs : List Value) (o : Nat) (cur : Array Value) (j : Nat), o + vs.length ≤ cur.size → j < vs.length → (putCells cur o vs)[o + j]? = vs[j]?
  | v :: r, o, cur, 0, h, _ => by
    rw [putCells, putCells_out r (o + 1) _ _ (by omega), Array.getElem?_setIfInBounds, if_pos (by omega), if_pos (by simp at h; omega)]
    rfl
  | v :: r, o, cur, j + 1, h, hj => by
    rw [putCells, show o + (j + 1) = o + 1 + j by omega, putCells_in r (o + 1) _ j (by simp at h ⊢; omega) (by simpa using hj)]
    simp
theorem take_drop_get {l : List Value} {o n j : Nat} (hj : j < n) : ((l.drop o).take n)[j]? = l[o + j]? := by
  rw [List.getElem?_take, if_pos hj, List.getElem?_drop]
theorem slice_put {cur : Array Value} {o : Nat} {vs : List Value} (h : o + vs.length ≤ cur.size) : ((putCells cur o vs).toList.drop o).take vs.length = vs := by
  apply List.ext_getElem?
  intro j
  by_cases hj : j < vs.length
  · rw [take_drop_get hj, Array.getElem?_toList, putCells_in vs o cur j h hj]
  rw [List.getElem?_take, if_neg hj, List.getElem?_eq_none (by omega)]
theorem slice_put_ne {cur : Array Value} {o o' n : Nat} {vs : List Value} (h : o' + n ≤ o ∨ o + vs.length ≤ o') : ((putCells cur o vs).toList.drop o').take n = (cur.toList.drop o').take n := by
  apply List.ext_getElem?
  intro j
  by_cases hj : j < n
  · rw [take_drop_get hj, take_drop_get hj, Array.getElem?_toList, Array.getElem?_toList, putCells_out vs o cur _ (by omega)]
  rw [List.getElem?_take, if_neg hj, List.getElem?_take, if_neg hj]
theorem own_setCell {L : List Nat} {w : World} {cs : List Value} {a : α} {g o : Nat} {v : Value} (h : own L w cs a) (hg : g ∉ L) : own L (w.setCell ⟨g, o, none⟩ v) cs a :=
  GoD.own_same h fun b hb => heap_setCell_ne w g o v (fun e => hg (e ▸ hb))
theorem own_alloc {L : List Nat} {w : World} {cs : List Value} {a : α} {o : Obj} (h : own L w cs a) : own L (w.alloc o) cs a :=
  GoD.own_same h fun b hb => Below.heap_alloc w o b (GoD.own_lt h b hb)
theorem own_drew {L : List Nat} {w : World} {cs : List Value} {a : α} (h : own L w cs a) : own L w.drew cs a := GoD.own_same h fun _ _ => rfl
theorem not_mem_of_le {L : List Nat} {B g : Nat} (h : ∀ b, b ∈ L → B ≤ b) (hg : g < B) : g ∉ L := fun hm => by have := h g hm; omega
theorem own_pair {L1 L2 : List Nat} {w : World} {c1 c2 : List Value} {a : α} {b : β} (h1 : own L1 w c1 a) (h2 : own L2 w c2 b) (hd : ∀ x, x ∈ L1 → x ∉ L2) : own (L1 ++ L2) w (c1 ++ c2) (a, b) :=
  ⟨List.nodup_append.2 ⟨GoD.own_nd h1, GoD.own_nd h2, fun x hx y hy e => hd x hx (e ▸ hy)⟩, c1, c2, L1, L2, rfl, rfl, h1, h2⟩
theorem own_i (w : World) {a : Int} (h : I64 a) : own [] w [.int .i64 a] a := ⟨rfl, rfl, h⟩
theorem own_b (w : World) (a : Bool) : own [] w [.bool a] a := ⟨rfl, rfl⟩
theorem own_s (w : World) {a : ByteArray} (h : a.size ≤ maxLen) : own [] w [.string a] a := ⟨rfl, rfl, h⟩
/-! ### a row of elements in the making -/
def Part (w : World) (g cap : Nat) (e : TypeId) (l : List α) (k : Nat) : Prop :=
  ∃ (cur : Array Value) (Ls : List (List Nat)), w.heap[g]? = some (.cells cur e (0, 0)) ∧ cur.size = cap * GoD.n α ∧ Ls.length = k ∧ Ls.flatten.Nodup ∧ (∀ b, b ∈ Ls.flatten → g < b) ∧
    ∀ i Li a, Ls[i]? = some Li → l[i]? = some a → own Li w ((cur.toList.drop (i * GoD.n α)).take (GoD.n α)) a
theorem Part.start {w : World} {g cap : Nat} {e : TypeId} {cur : Array Value} (h : w.heap[g]? = some (.cells cur e (0, 0))) (hs : cur.size = cap * GoD.n α) (l : List α) : Part w g cap e l 0 :=
  ⟨cur, [], h, hs, rfl, by simp, by simp, by simp⟩
theorem Part.block {w : World} {g cap : Nat} {e : TypeId} {l : List α} {k : Nat} (h : Part w g cap e l k) : ∃ cur, w.heap[g]? = some (.cells cur e (0, 0)) ∧ cur.size = cap * GoD.n α :=
  let ⟨cur, _, h1, h2, _⟩ := h; ⟨cur, h1, h2⟩
theorem Part.lt {w : World} {g cap : Nat} {e : TypeId} {l : List α} {k : Nat} (h : Part w g cap e l k) : g < w.heap.size := by
  obtain ⟨cur, h1, _⟩ := h.block
  exact block_lt_of_heap h1
theorem Part.step {wr w2 : World} {g cap : Nat} {e : TypeId} {l : List α} {k : Nat} {L : List Nat} {ce : List Value} {a : α} (h : Part wr g cap e l k) (hb : Below wr.heap.size wr w2) (hk : k < cap) (hl : k ≤ l.length)
    (ha : l[k]? = some a) (ho : own L w2 ce a) (hL : ∀ b, b ∈ L → wr.heap.size ≤ b) : Part (w2.setCells g (k * GoD.n α) ce) g cap e l (k + 1) := by
  obtain ⟨cur, Ls, hg, hs, hlen, hnd, hgt, hel⟩ := h
  have hglt : g < wr.heap.size := block_lt_of_heap hg
  have hin : ∀ b, b ∈ Ls.flatten → b < wr.heap.size := fun b hb' => by
    obtain ⟨Li, hLi, hm⟩ := List.mem_flatten.1 hb'
    obtain ⟨i, hi, rfl⟩ := List.getElem_of_mem hLi
    exact GoD.own_lt (hel i _ _ (List.getElem?_eq_getElem hi) (List.getElem?_eq_getElem (by omega : i < l.length))) b hm
  have hcl : ce.length = GoD.n α := GoD.rd_len (GoD.own_rd ho)
  have hroom : k * GoD.n α + GoD.n α ≤ cap * GoD.n α := by
    have := Nat.mul_le_mul_right (GoD.n α) (show k + 1 ≤ cap by omega)
    rwa [Nat.add_mul, Nat.one_mul] at this
  refine ⟨putCells cur (k * GoD.n α) ce, Ls ++ [L], heap_setCells_of g ce _ _ ((hb.block g hglt).trans hg), by rw [size_putCells]; exact hs, by simp [hlen], ?_, ?_, ?_⟩
  · rw [List.flatten_append]
    simp only [List.flatten_cons, List.flatten_nil, List.append_nil]
    exact List.nodup_append.2 ⟨hnd, GoD.own_nd ho, fun x hx y hy e => by have := hin x hx; have := hL y hy; omega⟩
  · intro b hb'
    rw [List.flatten_append] at hb'
    simp only [List.flatten_cons, List.flatten_nil, List.append_nil, List.mem_append] at hb'
    rcases hb' with hb' | hb'
    · exact hgt b hb'
    have := hL b hb'; omega
  intro i Li x hi hx
  have keep : ∀ {M : List Nat} {cs : List Value} {y : α}, own M w2 cs y → g ∉ M → own M (w2.setCells g (k * GoD.n α) ce) cs y := fun h hg' =>
    GoD.own_same h fun b hb' => heap_setCells_ne g (fun e => hg' (e ▸ hb')) _ _ _
  by_cases hik : i < k
  · rw [List.getElem?_append_left (by omega)] at hi
    rw [slice_put_ne (.inl (by
      have := Nat.mul_le_mul_right (GoD.n α) (show i + 1 ≤ k by omega)
      rwa [Nat.add_mul, Nat.one_mul] at this))]
    refine keep (GoD.own_same (hel i Li x hi hx) fun b hb' => hb.block b (hin b (mem_flatten_of_get hi hb'))) (fun hm => ?_)
    have := hgt g (mem_flatten_of_get hi hm)
    omega
  have hile : i < (Ls ++ [L]).length := (List.getElem?_eq_some_iff.1 hi).1
  simp [hlen] at hile
  obtain rfl : i = k := by omega
  rw [List.getElem?_append_right (by omega), hlen] at hi
  simp at hi
  subst hi
  rw [ha] at hx
  obtain rfl : a = x := by simpa using hx
  rw [show GoD.n α = ce.length from hcl.symm] at hroom ⊢
  rw [slice_put (by rw [hs, ← hcl]; exact hroom)]
  rw [hcl]
  exact keep ho (not_mem_of_le hL hglt)
theorem Part.done {w : World} {g : Nat} {e : TypeId} {l : List α} (h : Part w g l.length e l l.length) (hm : l.length ≤ maxLen) : ∃ L, own L w [.slice (some ⟨g, 0, none⟩) l.length l.length] l ∧ ∀ b, b ∈ L → g ≤ b := by
  obtain ⟨cur, Ls, hg, hs, hlen, hnd, hgt, hel⟩ := h
  refine ⟨g :: Ls.flatten, ⟨List.nodup_cons.2 ⟨fun hm => by have := hgt g hm; omega, hnd⟩, .inr ⟨g, l.length, cur, e, Ls, rfl, hg, Nat.le_refl _, hm, hs, rfl, hlen, hel⟩⟩, fun b hb => ?_⟩
  rcases List.mem_cons.1 hb with rfl | hb
  · exact Nat.le_refl _
  exact Nat.le_of_lt (hgt b hb)
theorem cells_of_heap {w : World} {g : Nat} {cur : Array Value} {e : TypeId} {fr : Nat × Nat} (h : w.heap[g]? = some (.cells cur e fr)) (o : Nat) (ho : o < cur.size) : w.cell? ⟨g, o, none⟩ = some cur[o] := by
  simp [World.cell?, h, ho]
theorem free_of_heap {w : World} {g : Nat} {cur : Array Value} {e : TypeId} (h : w.heap[g]? = some (.cells cur e (0, 0))) (o : Nat) : w.frozen? ⟨g, o, none⟩ = false := by
  simp [World.frozen?, h]
end
theorem slice_of_rd {α : Type} [GoD α] {w : World} {v : Value} {l : List α} (h : rd w [v] l) : ∃ oa cap, v = .slice oa l.length cap := by
  obtain ⟨oa, cap, e, _⟩ := h
  exact ⟨oa, cap, by simpa using e⟩
theorem slice_of_own {α : Type} [GoD α] {L : List Nat} {w : World} {v : Value} {l : List α} (h : own L w [v] l) : ∃ oa cap, v = .slice oa l.length cap := slice_of_rd (GoD.own_rd h)
/-! ### sizes -/
def szq (t : Nat) (left r : Int) : Prop := (r = left - t ∧ 0 ≤ left - t) ∨ (r = -1 ∧ left - t < 0)
def RetSz (w : World) (t : Nat) (left : Int) (e : Ending) (w' : World) : Prop := ∃ r, e = .returned (.int .i64 r) ∧ szq t left r ∧ Below w.heap.size w w'
theorem call_sz {P : Program} {f : FuncId} {args : Array Value} {W w : World} {t : Nat} {left : Int} {R : Ending → World → Prop} (hc : Calls P f args W (RetSz W t left)) (h0 : Below w.heap.size w W)
    (k : ∀ w' r, Below w.heap.size w w' → Below W.heap.size W w' → w.heap.size ≤ w'.heap.size → W.heap.size ≤ w'.heap.size → szq t left r → (-1 ≤ r ∧ (r ≤ left ∨ r < 0)) → R (.returned (.int .i64 r)) w') : Calls P f args W R :=
  hc.mono fun e w' ⟨r, he, hr, hb⟩ => by
    subst he
    have h1 := below_via h0 hb
    exact k w' r h1 hb h1.size hb.size hr (by unfold szq at hr; omega)
section
variable {α : Type} [GoD α]
theorem size_list (l : List α) : GoD.size l = l.length + (l.map GoD.size).sum := rfl
theorem size_list_len (l : List α) : l.length ≤ GoD.size l := by rw [size_list]; omega
theorem sum_take {l : List α} {i : Nat} {a : α} (h : l[i]? = some a) : ((l.take (i + 1)).map GoD.size).sum = ((l.take i).map GoD.size).sum + GoD.size a := by
  rw [List.take_add_one, h]
  simp
theorem sum_take_le' (l : List α) (i : Nat) : ((l.take i).map GoD.size).sum ≤ (l.map GoD.size).sum := by
  have h : (l.map GoD.size).sum = ((l.take i).map GoD.size).sum + ((l.drop i).map GoD.size).sum := by
    rw [← List.sum_append_nat, ← List.map_append, List.take_append_drop]
  omega
theorem sum_take_le {l : List α} {i : Nat} {a : α} (h : l[i]? = some a) : ((l.take i).map GoD.size).sum + GoD.size a ≤ (l.map GoD.size).sum := by
  rw [← sum_take h]
  exact sum_take_le' l _
theorem size_list_get {l : List α} {i : Nat} {a : α} (h : l[i]? = some a) : GoD.size a ≤ GoD.size l := by
  have := sum_take_le h
  rw [size_list]
  omega
end
/-! ### make -/
theorem info_ok {P : Program} {e : TypeId} {n : Nat} (h : (P.info? e).map (fun i => (i.zero.map (·.cells.size), i.size, decide (i.bytes ≤ 1000))) = some (some n, n, true)) :
    ∃ i z, P.info? e = some i ∧ i.zero = some z ∧ i.size = n ∧ z.cells.size = n ∧ i.bytes ≤ 1000 := by
  obtain ⟨i, hi, h⟩ := Option.map_eq_some_iff.1 h
  simp only [Prod.mk.injEq, decide_eq_true_eq] at h
  obtain ⟨h1, h2, h3⟩ := h
  obtain ⟨z, hz, hzn⟩ := Option.map_eq_some_iff.1 h1
  exact ⟨i, z, hi, hz, h2, hzn, h3⟩
theorem wp_make {P : Program} (w0 : World) {w : World} {ops : Array Oper} {rest : List Oper} {o : Oper} {a : Act} {Q : Exit → Act → World → Prop}
    (l c : Operand) (t e : TypeId) (sz n : Nat) (hg : o.guard = none) (hop : o.op = Op.makeSlice t l c) (h1 : P.underlying t = some (.slice e))
    (h2 : (P.info? e).map (fun i => (i.zero.map (·.cells.size), i.size, decide (i.bytes ≤ 1000))) = some (some sz, sz, true)) (hl : a.eval l = .int .i64 n) (hc : a.eval c = .int .i64 n) (hn : n ≤ 1073741824) (h0 : Below w0.heap.size w0 w)
    (hK : ∀ w' cur, w'.heap[w.heap.size]? = some (.cells cur e (0, 0)) → cur.size = n * sz → Below w0.heap.size w0 w' → Below w.heap.size w w' → w.heap.size < w'.heap.size → wpList P ops Q rest (a.put o.dst (.slice (some ⟨w.heap.size, 0, none⟩) n n)) w') :
    wpList P ops Q (o :: rest) a w := by
  obtain ⟨i, z, hi, hz, hs, hzn, hb⟩ := info_ok h2
  refine wpList_make_full w hg l c t hop w.heap.size e i z sz h1 hi hz hs .i64 .i64 n n n hl hc rfl rfl ?_ ?_ (Nat.le_refl _) ?_
  · calc i.bytes * n ≤ 1000 * 1073741824 := Nat.mul_le_mul hb hn
      _ ≤ _ := by decide
  · unfold maxLen; omega
  intro w' hown hgr
  have hbel : Below w.heap.size w w' := (Below.refl _ _).grown hgr (Nat.le_refl _) (fun k hk => by cases hk)
  rcases hown.2 with ⟨h, _⟩ | ⟨g, cap, cur, hv, _, hh, _, _, hsz, _⟩
  · cases h
  simp only [Value.slice.injEq, Option.some.injEq, Addr.mk.injEq, and_true] at hv
  obtain ⟨rfl, _, rfl⟩ := hv
  exact hK w' cur hh hsz (below_via h0 hbel) hbel (block_lt_of_heap hh)
end
section
open Go.RowKit
def Cap (m cap : Nat) : Prop := cap ≤ maxLen ∧ m ≤ 1073741824
inductive PV where
  | int (k : IntKind) (n : Int)
  | bool (b : Bool)
  | str (s : ByteArray)
  | slc (n : Nat) (l : List (List PV))
  | any
  | raw (v : Value)
def InR (k : IntKind) (n : Int) : Prop := k.min ≤ n ∧ n ≤ k.max
theorem inR_wrap (k : IntKind) (n : Int) : InR k (k.wrap n) := by
  cases k <;> simp [InR, IntKind.wrap, IntKind.min, IntKind.max, IntKind.bits, IntKind.signed] <;> (try split) <;> omega
theorem inR_i64 (n : Int) : InR .i64 n ↔ I64 n := by
  simp [InR, I64, IntKind.min, IntKind.max, IntKind.bits, IntKind.signed]
section
variable (X : Nat → Prop) (w : World)
mutual
inductive VV : Value → PV → Prop
  | int {k : IntKind} {n : Int} : InR k n → VV (.int k n) (.int k n)
  | bool (b : Bool) : VV (.bool b) (.bool b)
  | str {s : ByteArray} : s.size ≤ maxLen → VV (.string s) (.str s)
  | emp (oa : Option Addr) {cap : Nat} (n : Nat) : cap ≤ maxLen → VV (.slice oa 0 cap) (.slc n [])
  | any {v : Value} : v.cells = #[v] → v.oneCell' = true → VV v .any
  | raw {v : Value} : v.cells = #[v] → v.oneCell' = true → VV v (.raw v)
  | slc {b off cap n : Nat} {cs : List Value} {l : List (List PV)} : X b → (∀ j u, cs[j]? = some u → w.cell? ⟨b, off + j, none⟩ = some u) → VR n cs l → l.length ≤ cap → Cap l.length cap →
      VV (.slice (some ⟨b, off, none⟩) l.length cap) (.slc n l)
inductive VC : List Value → List PV → Prop
  | nil : VC [] []
  | cons {v : Value} {p : PV} {vs : List Value} {ps : List PV} : VV v p → VC vs ps → VC (v :: vs) (p :: ps)
inductive VR : Nat → List Value → List (List PV) → Prop
  | nil (n : Nat) : VR n [] []
  | cons {n : Nat} {ce cs : List Value} {r : List PV} {l : List (List PV)} : VC ce r → r.length = n → VR n cs l → VR n (ce ++ cs) (r :: l)
end
mutual
inductive OV : List Nat → Value → PV → Prop
  | int {k : IntKind} {n : Int} : InR k n → OV [] (.int k n) (.int k n)
  | bool (b : Bool) : OV [] (.bool b) (.bool b)
  | str {s : ByteArray} : s.size ≤ maxLen → OV [] (.string s) (.str s)
  | emp (oa : Option Addr) (n : Nat) : OV [] (.slice oa 0 0) (.slc n [])
  | any {v : Value} : v.cells = #[v] → v.oneCell' = true → OV [] v .any
  | raw {v : Value} : v.cells = #[v] → v.oneCell' = true → OV [] v (.raw v)
  | slc {g cap n : Nat} {cur : Array Value} {e : TypeId} {L : List Nat} {l : List (List PV)} : w.heap[g]? = some (.cells cur e (0, 0)) → cur.size = cap * n → OR n L (cur.toList.take (l.length * n)) l → l.length ≤ cap → Cap l.length cap →
      OV (g :: L) (.slice (some ⟨g, 0, none⟩) l.length cap) (.slc n l)
inductive OC : List Nat → List Value → List PV → Prop
  | nil : OC [] [] []
  | cons {L1 L2 : List Nat} {v : Value} {p : PV} {vs : List Value} {ps : List PV} : OV L1 v p → OC L2 vs ps → OC (L1 ++ L2) (v :: vs) (p :: ps)
inductive OR : Nat → List Nat → List Value → List (List PV) → Prop
  | nil (n : Nat) : OR n [] [] []
  | cons {n : Nat} {L1 L2 : List Nat} {ce cs : List Value} {r : List PV} {l : List (List PV)} : OC L1 ce r → r.length = n → OR n L2 cs l → OR n (L1 ++ L2) (ce ++ cs) (r :: l)
end
end
/-! ### shared -/
section
variable {X X' : Nat → Prop} {w w' : World}
mutual
theorem VV.keep (hX : ∀ b, X b → X' b ∧ w'.heap[b]? = w.heap[b]?) : ∀ {v : Value} {p : PV}, VV X w v p → VV X' w' v p
  | _, _, .int h => .int h
  | _, _, .bool b => .bool b
  | _, _, .str h => .str h
  | _, _, .emp oa n h => .emp oa n h
  | _, _, .any h1 h2 => .any h1 h2
  | _, _, .raw h1 h2 => .raw h1 h2
  | _, _, .slc hb hc hr h1 h2 => .slc (hX _ hb).1 (fun j u hj => by rw [World.cell?_of_block (hX _ hb).2]; exact hc j u hj) (VR.keep hX hr) h1 h2
theorem VC.keep (hX : ∀ b, X b → X' b ∧ w'.heap[b]? = w.heap[b]?) : ∀ {vs : List Value} {ps : List PV}, VC X w vs ps → VC X' w' vs ps
  | _, _, .nil => .nil
  | _, _, .cons h1 h2 => .cons (VV.keep hX h1) (VC.keep hX h2)
theorem VR.keep (hX : ∀ b, X b → X' b ∧ w'.heap[b]? = w.heap[b]?) : ∀ {n : Nat} {cs : List Value} {l : List (List PV)}, VR X w n cs l → VR X' w' n cs l
  | _, _, _, .nil n => .nil n
  | _, _, _, .cons h1 h2 h3 => .cons (VC.keep hX h1) h2 (VR.keep hX h3)
end
theorem VV.anyOf {v : Value} {p : PV} (h : VV X w v p) : VV X' w' v .any := by
  cases h with
  | any h1 h2 => exact .any h1 h2
  | raw h1 h2 => exact .any h1 h2
  | _ => exact .any rfl rfl
theorem VC.anys : ∀ {vs : List Value} {ps : List PV}, VC X w vs ps → VC X' w' vs (ps.map fun _ => .any)
  | _, _, .nil => .nil
  | _, _, .cons h1 h2 => .cons h1.anyOf (VC.anys h2)
theorem VC.length {vs : List Value} {ps : List PV} : VC X w vs ps → vs.length = ps.length
  | .nil => rfl
  | .cons _ h => congrArg (· + 1) (VC.length h)
theorem VR.length : ∀ {n : Nat} {cs : List Value} {l : List (List PV)}, VR X w n cs l → cs.length = l.length * n
  | _, _, _, .nil n => by simp
  | _, _, _, .cons h1 h2 h3 => by rw [List.length_append, VC.length h1, VR.length h3, h2, List.length_cons, Nat.add_mul, Nat.one_mul, Nat.add_comm]
theorem VC.append {vs vs' : List Value} {ps ps' : List PV} (h' : VC X w vs' ps') : VC X w vs ps → VC X w (vs ++ vs') (ps ++ ps')
  | .nil => h'
  | .cons h1 h2 => .cons h1 (VC.append h' h2)
theorem VR.append {cs' : List Value} {l' : List (List PV)} : ∀ {n : Nat} {cs : List Value} {l : List (List PV)}, VR X w n cs' l' → VR X w n cs l → VR X w n (cs ++ cs') (l ++ l')
  | _, _, _, h', .nil _ => h'
  | _, _, _, h', .cons h1 h2 h3 => by rw [List.append_assoc]; exact .cons h1 h2 (VR.append h' h3)
theorem VC.drop : ∀ (k : Nat) {vs : List Value} {ps : List PV}, VC X w vs ps → VC X w (vs.drop k) (ps.drop k)
  | 0, _, _, h => h
  | _ + 1, _, _, .nil => .nil
  | k + 1, _, _, .cons _ h => VC.drop k h
theorem VC.take : ∀ (k : Nat) {vs : List Value} {ps : List PV}, VC X w vs ps → VC X w (vs.take k) (ps.take k)
  | 0, _, _, _ => .nil
  | _ + 1, _, _, .nil => .nil
  | k + 1, _, _, .cons h1 h => .cons h1 (VC.take k h)
theorem VR.drop : ∀ (k : Nat) {n : Nat} {cs : List Value} {l : List (List PV)}, VR X w n cs l → VR X w n (cs.drop (k * n)) (l.drop k)
  | 0, _, _, _, h => by simpa using h
  | _ + 1, _, _, _, .nil n => by simpa using VR.nil n
  | k + 1, _, _, _, .cons (n := n) (ce := ce) (cs := cs) h1 h2 h3 => by
    have hl : (k + 1) * n = ce.length + k * n := by rw [VC.length h1, h2, Nat.add_mul, Nat.one_mul, Nat.add_comm]
    rw [hl, List.drop_length_add_append, List.drop_succ_cons]
    exact VR.drop k h3
theorem VR.take : ∀ (k : Nat) {n : Nat} {cs : List Value} {l : List (List PV)}, VR X w n cs l → VR X w n (cs.take (k * n)) (l.take k)
  | 0, _, _, _, _ => by simpa using VR.nil _
  | _ + 1, _, _, _, .nil n => by simpa using VR.nil n
  | k + 1, _, _, _, .cons (n := n) (ce := ce) (cs := cs) h1 h2 h3 => by
    have hl : (k + 1) * n = ce.length + k * n := by rw [VC.length h1, h2, Nat.add_mul, Nat.one_mul, Nat.add_comm]
    rw [hl, List.take_length_add_append, List.take_succ_cons]
    exact .cons h1 h2 (VR.take k h3)
theorem VR.get {n : Nat} {cs : List Value} {l : List (List PV)} (h : VR X w n cs l) {i : Nat} {r : List PV} (hi : l[i]? = some r) : VC X w ((cs.drop (i * n)).take n) r ∧ r.length = n := by
  have hd := VR.drop i h
  obtain ⟨hlt, rfl⟩ := List.getElem?_eq_some_iff.1 hi
  rw [List.drop_eq_getElem_cons hlt] at hd
  generalize hr : l[i] = r at hd ⊢
  generalize hc : cs.drop (i * n) = c at hd ⊢
  cases hd with
  | cons h1 h2 h3 =>
    have hl := VC.length h1
    rw [h2] at hl
    rw [← hl, List.take_left]
    exact ⟨h1, h2.trans hl.symm⟩
end
/-! ### owned -/
section
variable {w w' : World}
mutual
theorem OV.keep : ∀ {L : List Nat} {v : Value} {p : PV}, OV w L v p → (∀ b, b ∈ L → w'.heap[b]? = w.heap[b]?) → OV w' L v p
  | _, _, _, .int h, _ => .int h
  | _, _, _, .bool b, _ => .bool b
  | _, _, _, .str h, _ => .str h
  | _, _, _, .emp oa n, _ => .emp oa n
  | _, _, _, .any h1 h2, _ => .any h1 h2
  | _, _, _, .raw h1 h2, _ => .raw h1 h2
  | _, _, _, .slc hg hs hr h1 h2, hL => .slc ((hL _ (List.mem_cons_self)).trans hg) hs (OR.keep hr fun b hb => hL b (List.mem_cons_of_mem _ hb)) h1 h2
theorem OC.keep : ∀ {L : List Nat} {vs : List Value} {ps : List PV}, OC w L vs ps → (∀ b, b ∈ L → w'.heap[b]? = w.heap[b]?) → OC w' L vs ps
  | _, _, _, .nil, _ => .nil
  | _, _, _, .cons h1 h2, hL => .cons (OV.keep h1 fun b hb => hL b (List.mem_append_left _ hb)) (OC.keep h2 fun b hb => hL b (List.mem_append_right _ hb))
theorem OR.keep : ∀ {n : Nat} {L : List Nat} {cs : List Value} {l : List (List PV)}, OR w n L cs l → (∀ b, b ∈ L → w'.heap[b]? = w.heap[b]?) → OR w' n L cs l
  | _, _, _, _, .nil n, _ => .nil n
  | _, _, _, _, .cons h1 h2 h3, hL => .cons (OC.keep h1 fun b hb => hL b (List.mem_append_left _ hb)) h2 (OR.keep h3 fun b hb => hL b (List.mem_append_right _ hb))
end
mutual
theorem OV.vv {X : Nat → Prop} : ∀ {L : List Nat} {v : Value} {p : PV}, OV w L v p → (∀ b, b ∈ L → X b) → VV X w v p
  | _, _, _, .int h, _ => .int h
  | _, _, _, .bool b, _ => .bool b
  | _, _, _, .str h, _ => .str h
  | _, _, _, .emp oa n, _ => .emp oa n (Nat.zero_le _)
  | _, _, _, .any h1 h2, _ => .any h1 h2
  | _, _, _, .raw h1 h2, _ => .raw h1 h2
  | _, _, _, .slc hg hs hr h1 h2, hL => .slc (hL _ (List.mem_cons_self)) (fun j u hj => by
      rw [List.getElem?_take] at hj
      split at hj
      · rw [Array.getElem?_toList] at hj
        simp [World.cell?, hg, hj]
      cases hj) (OR.vr hr fun b hb => hL b (List.mem_cons_of_mem _ hb)) h1 h2
theorem OC.vc {X : Nat → Prop} : ∀ {L : List Nat} {vs : List Value} {ps : List PV}, OC w L vs ps → (∀ b, b ∈ L → X b) → VC X w vs ps
  | _, _, _, .nil, _ => .nil
  | _, _, _, .cons h1 h2, hL => .cons (OV.vv h1 fun b hb => hL b (List.mem_append_left _ hb)) (OC.vc h2 fun b hb => hL b (List.mem_append_right _ hb))
theorem OR.vr {X : Nat → Prop} : ∀ {n : Nat} {L : List Nat} {cs : List Value} {l : List (List PV)}, OR w n L cs l → (∀ b, b ∈ L → X b) → VR X w n cs l
  | _, _, _, _, .nil n, _ => .nil n
  | _, _, _, _, .cons h1 h2 h3, hL => .cons (OC.vc h1 fun b hb => hL b (List.mem_append_left _ hb)) h2 (OR.vr h3 fun b hb => hL b (List.mem_append_right _ hb))
end
mutual
theorem OV.lt : ∀ {L : List Nat} {v : Value} {p : PV}, OV w L v p → ∀ b, b ∈ L → b < w.heap.size
  | _, _, _, .int _, b, hb => by simp at hb
  | _, _, _, .bool _, b, hb => by simp at hb
  | _, _, _, .str _, b, hb => by simp at hb
  | _, _, _, .emp _ _, b, hb => by simp at hb
  | _, _, _, .any _ _, b, hb => by simp at hb
  | _, _, _, .raw _ _, b, hb => by simp at hb
  | _, _, _, .slc hg hs hr h1 h2, b, hb => by
    rcases List.mem_cons.1 hb with rfl | hb
    · exact block_lt_of_heap hg
    exact OR.lt hr b hb
theorem OC.lt : ∀ {L : List Nat} {vs : List Value} {ps : List PV}, OC w L vs ps → ∀ b, b ∈ L → b < w.heap.size
  | _, _, _, .nil, b, hb => by simp at hb
  | _, _, _, .cons h1 h2, b, hb => (List.mem_append.1 hb).elim (OV.lt h1 b) (OC.lt h2 b)
theorem OR.lt : ∀ {n : Nat} {L : List Nat} {cs : List Value} {l : List (List PV)}, OR w n L cs l → ∀ b, b ∈ L → b < w.heap.size
  | _, _, _, _, .nil n, b, hb => by simp at hb
  | _, _, _, _, .cons h1 h2 h3, b, hb => (List.mem_append.1 hb).elim (OC.lt h1 b) (OR.lt h3 b)
end
theorem OC.append {L' : List Nat} {vs' : List Value} {ps' : List PV} (h' : OC w L' vs' ps') : ∀ {L : List Nat} {vs : List Value} {ps : List PV}, OC w L vs ps → OC w (L ++ L') (vs ++ vs') (ps ++ ps')
  | _, _, _, .nil => h'
  | _, _, _, .cons h1 h2 => by rw [List.append_assoc]; exact .cons h1 (OC.append h' h2)
theorem OR.append {L' : List Nat} {cs' : List Value} {l' : List (List PV)} : ∀ {n : Nat} {L : List Nat} {cs : List Value} {l : List (List PV)}, OR w n L' cs' l' → OR w n L cs l → OR w n (L ++ L') (cs ++ cs') (l ++ l')
  | _, _, _, _, h', .nil _ => h'
  | _, _, _, _, h', .cons h1 h2 h3 => by rw [List.append_assoc, List.append_assoc]; exact .cons h1 h2 (OR.append h' h3)
def PV.flat : PV → Prop
  | .slc _ _ => False
  | .any => False
  | .raw _ => False
  | _ => True
theorem VV.ov {X : Nat → Prop} {v : Value} {p : PV} (h : VV X w v p) (hp : p.flat) : OV w' [] v p := by
  cases h with
  | int h => exact .int h
  | bool b => exact .bool b
  | str h => exact .str h
  | emp oa n h => exact hp.elim
  | any => exact hp.elim
  | raw => exact hp.elim
  | slc => exact hp.elim
theorem VC.oc {X : Nat → Prop} : ∀ {vs : List Value} {ps : List PV}, VC X w vs ps → (∀ p, p ∈ ps → p.flat) → OC w' [] vs ps
  | _, _, .nil, _ => .nil
  | _, _, .cons h1 h2, hp => OC.cons (L1 := []) (L2 := []) (VV.ov h1 (hp _ List.mem_cons_self)) (VC.oc h2 fun p hm => hp p (List.mem_cons_of_mem _ hm))
theorem VR.orr {X : Nat → Prop} : ∀ {n : Nat} {cs : List Value} {l : List (List PV)}, VR X w n cs l → (∀ r, r ∈ l → ∀ p, p ∈ r → p.flat) → OR w' n [] cs l
  | _, _, _, .nil n, _ => .nil n
  | _, _, _, .cons h1 h2 h3, hp => OR.cons (L1 := []) (L2 := []) (VC.oc h1 (hp _ List.mem_cons_self)) h2 (VR.orr h3 fun r hm => hp r (List.mem_cons_of_mem _ hm))
theorem OR.length {n : Nat} {L : List Nat} {cs : List Value} {l : List (List PV)} (h : OR w n L cs l) : cs.length = l.length * n := VR.length (X := fun b => b ∈ L) (OR.vr h fun _ hb => hb)
theorem OC.length {L : List Nat} {vs : List Value} {ps : List PV} (h : OC w L vs ps) : vs.length = ps.length := VC.length (X := fun b => b ∈ L) (OC.vc h fun _ hb => hb)
end
end
section
open Go.RowKit
inductive Tok where
  | sh
  | emp
  | own (d : Bool) (k : Nat)
  | vw (k : Nat)
  | put (d : Bool) (m i o : Nat) (cs : List PV)
inductive C where
  | int (k : IntKind) (n : Int)
  | bool (b : Bool)
  | str (s : ByteArray)
  | slc (t : Tok) (n : Nat) (l : List (List PV))
  | ptr (k off : Nat)
  | rptr (t : Tok) (cs : List PV)
  | ept (d : Bool) (k n i o : Nat) (cs : List PV)
  | fn (f : Nat) (caps : List (Nat × Nat))
  | fnr (f : Nat) (caps : List (List PV))
  | raw (v : Value)
  | dead
inductive AV where
  | one (c : C)
  | agg (cs : List C)
  | tup (vs : List (Bool × List C))
structure Inj where
  F : Nat → Prop
  L : Nat → List Nat
  B : Nat → Nat
def Tok.key : Tok → Option Nat
  | .own _ k => some k
  | .vw k => some k
  | _ => none
def C.key : C → Option Nat
  | .slc t _ _ => t.key
  | .rptr t _ => t.key
  | .ept _ k _ _ _ _ => some k
  | _ => none
def C.bkeys : C → List Nat
  | .ptr k _ => [k]
  | .fn _ caps => caps.map (·.1)
  | _ => []
def eptTok : Bool → Nat → Tok
  | true, k => .vw k
  | false, _ => .sh
def Inj.X (J : Inj) : Tok → Nat → Prop
  | .sh, b => J.F b
  | .vw k, b => b ∈ J.L k ∨ J.F b
  | _, _ => False
def OwnTop (F : Nat → Prop) (L : List Nat) (w : World) (v : Value) (n : Nat) (l : List (List PV)) : Prop :=
  (l = [] ∧ ∃ oa, v = .slice oa 0 0) ∨ ∃ (g cap : Nat) (cur : Array Value) (e : TypeId), L = [g] ∧ v = .slice (some ⟨g, 0, none⟩) l.length cap ∧ w.heap[g]? = some (.cells cur e (0, 0)) ∧ cur.size = cap * n ∧ VR F w n (cur.toList.take (l.length * n)) l ∧ l.length ≤ cap ∧ Cap l.length cap
def OwnDeep (L : List Nat) (w : World) (v : Value) (n : Nat) (l : List (List PV)) : Prop :=
  ∃ L', OV w L' v (.slc n l) ∧ L'.Nodup ∧ (∀ b, b ∈ L' → b ∈ L) ∧ (L' = [] ∨ ∃ g r r', L' = g :: r ∧ L = g :: r')
theorem OwnDeep.of {L : List Nat} {w : World} {v : Value} {n : Nat} {l : List (List PV)} (h : OV w L v (.slc n l)) (hn : L.Nodup) : OwnDeep L w v n l := by
  refine ⟨L, h, hn, fun _ h => h, ?_⟩
  cases L with
  | nil => exact .inl rfl
  | cons g r => exact .inr ⟨g, r, r, rfl, rfl⟩
theorem OwnDeep.keep {L : List Nat} {w w' : World} {v : Value} {n : Nat} {l : List (List PV)} (h : OwnDeep L w v n l) (hL : ∀ b, b ∈ L → w'.heap[b]? = w.heap[b]?) : OwnDeep L w' v n l := by
  obtain ⟨L', h1, h2, h3, h4⟩ := h
  exact ⟨L', OV.keep h1 fun b hb => hL b (h3 b hb), h2, h3, h4⟩
theorem OwnDeep.vv {X : Nat → Prop} {L : List Nat} {w w' : World} {v : Value} {n : Nat} {l : List (List PV)} (h : OwnDeep L w v n l) (hL : ∀ b, b ∈ L → X b ∧ w'.heap[b]? = w.heap[b]?) : VV X w' v (.slc n l) := by
  obtain ⟨L', h1, _, h3, _⟩ := h
  exact (OV.keep h1 fun b hb => (hL b (h3 b hb)).2).vv fun b hb => (hL b (h3 b hb)).1
def Reads (X : Nat → Prop) (w : World) (v : Value) (cs : List PV) : Prop :=
  ∃ b off vs, v = .pointer (some ⟨b, off, none⟩) ∧ X b ∧ VC X w vs cs ∧ ∀ (j : Nat) (u : Value), vs[j]? = some u → w.cell? ⟨b, off + j, none⟩ = some u
inductive All2 {α β : Type} (R : α → β → Prop) : List α → List β → Prop
  | nil : All2 R [] []
  | cons {a : α} {b : β} {l : List α} {m : List β} : R a b → All2 R l m → All2 R (a :: l) (b :: m)
def CR (J : Inj) (w : World) (v : Value) : C → Prop
  | .int k n => v = .int k n ∧ InR k n
  | .bool b => v = .bool b
  | .str s => v = .string s ∧ s.size ≤ maxLen
  | .slc .sh n l => VV J.F w v (.slc n l)
  | .slc .emp _ l => l = [] ∧ ∃ oa, v = .slice oa 0 0
  | .slc (.own true k) n l => OwnDeep (J.L k) w v n l
  | .slc (.own false k) n l => OwnTop J.F (J.L k) w v n l
  | .slc (.vw k) n l => VV (J.X (.vw k)) w v (.slc n l)
  | .slc (.put _ _ _ _ _) _ _ => False
  | .ptr k off => v = .pointer (some ⟨J.B k, off, none⟩)
  | .rptr t cs => Reads (J.X t) w v cs
  | .ept d k n i o cs => ∃ g r vs, J.L k = g :: r ∧ v = .pointer (some ⟨g, i * n + o, none⟩) ∧ VC (J.X (eptTok d k)) w vs cs ∧ (∀ (j : Nat) (u : Value), vs[j]? = some u → w.cell? ⟨g, i * n + o + j, none⟩ = some u) ∧ ∃ arr e, w.heap[g]? = some (.cells arr e (0, 0))
  | .fn f caps => v = .func (.func f) #[] (caps.map fun c => .pointer (some ⟨J.B c.1, c.2, none⟩)).toArray
  | .fnr f caps => ∃ vs : List Value, v = .func (.func f) #[] vs.toArray ∧ All2 (Reads J.F w) vs caps
  | .raw u => v = u ∧ v.cells = #[v] ∧ v.oneCell' = true
  | .dead => True
def VA (J : Inj) (w : World) (v : Value) : Bool × List C → Prop
  | (true, cs) => ∃ vs : List Value, v = .agg vs.toArray ∧ All2 (CR J w) vs cs
  | (false, cs) => ∃ c, cs = [c] ∧ CR J w v c
def AR (J : Inj) (w : World) (v : Value) : AV → Prop
  | .one c => CR J w v c
  | .agg cs => ∃ vs : List Value, v = .agg vs.toArray ∧ All2 (CR J w) vs cs
  | .tup l => ∃ vs : List Value, v = .tuple vs.toArray ∧ All2 (VA J w) vs l
def AV.cells : AV → List C
  | .one c => [c]
  | .agg cs => cs
  | .tup l => l.flatMap (·.2)
def AV.map (f : C → C) : AV → AV
  | .one c => .one (f c)
  | .agg cs => .agg (cs.map f)
  | .tup l => .tup (l.map fun p => (p.1, p.2.map f))
/-! ### All2 -/
section
variable {α β : Type} {R R' : α → β → Prop}
theorem All2.imp {l : List α} {m : List β} (h : All2 R l m) (hi : ∀ a b, b ∈ m → R a b → R' a b) : All2 R' l m := by
  induction h with
  | nil => exact .nil
  | cons h1 _ ih => exact .cons (hi _ _ List.mem_cons_self h1) (ih fun a b hb => hi a b (List.mem_cons_of_mem _ hb))
theorem All2.length {l : List α} {m : List β} (h : All2 R l m) : l.length = m.length := by
  induction h with
  | nil => rfl
  | cons _ _ ih => simp [ih]
theorem All2.append {l l' : List α} {m m' : List β} (h : All2 R l m) (h' : All2 R l' m') : All2 R (l ++ l') (m ++ m') := by
  induction h with
  | nil => exact h'
  | cons h1 _ ih => exact .cons h1 ih
theorem All2.drop {l : List α} {m : List β} (h : All2 R l m) : ∀ k, All2 R (l.drop k) (m.drop k) := by
  induction h with
  | nil => intro k; simp; exact .nil
  | cons h1 h2 ih => intro k; cases k with
    | zero => exact .cons h1 h2
    | succ k => exact ih k
theorem All2.take {l : List α} {m : List β} (h : All2 R l m) : ∀ k, All2 R (l.take k) (m.take k) := by
  induction h with
  | nil => intro k; simp; exact .nil
  | cons h1 h2 ih => intro k; cases k with
    | zero => exact .nil
    | succ k => exact .cons h1 (ih k)
theorem All2.get {l : List α} {m : List β} (h : All2 R l m) : ∀ {i : Nat} {a : α}, l[i]? = some a → ∃ b, m[i]? = some b ∧ R a b := by
  induction h with
  | nil => intro i a h; simp at h
  | cons h1 h2 ih => intro i a h; cases i with
    | zero => exact ⟨_, rfl, by simp at h; exact h ▸ h1⟩
    | succ i => exact ih (by simpa using h)
theorem All2.get' {l : List α} {m : List β} (h : All2 R l m) : ∀ {i : Nat} {b : β}, m[i]? = some b → ∃ a, l[i]? = some a ∧ R a b := by
  induction h with
  | nil => intro i a h; simp at h
  | cons h1 h2 ih => intro i a h; cases i with
    | zero => exact ⟨_, rfl, by simp at h; exact h ▸ h1⟩
    | succ i => exact ih (by simpa using h)
theorem All2.map {γ : Type} {Q : α → γ → Prop} (f : β → γ) {l : List α} {m : List β} (h : All2 R l m) (hi : ∀ a b, b ∈ m → R a b → Q a (f b)) : All2 Q l (m.map f) := by
  induction h with
  | nil => exact .nil
  | cons h1 _ ih => exact .cons (hi _ _ List.mem_cons_self h1) (ih fun a b hb => hi a b (List.mem_cons_of_mem _ hb))
end
theorem VC.all2 {X : Nat → Prop} {w : World} : ∀ {vs : List Value} {ps : List PV}, VC X w vs ps → All2 (VV X w) vs ps
  | _, _, .nil => .nil
  | _, _, .cons h1 h2 => .cons h1 (VC.all2 h2)
/-! ### what keeps the relation -/
theorem Reads.keep {X X' : Nat → Prop} {w w' : World} {v : Value} {cs : List PV} (h : Reads X w v cs) (hX : ∀ b, X b → X' b ∧ w'.heap[b]? = w.heap[b]?) : Reads X' w' v cs := by
  obtain ⟨b, off, vs, rfl, hb, hv, hc⟩ := h
  exact ⟨b, off, vs, rfl, (hX b hb).1, hv.keep hX, fun j u hj => by rw [World.cell?_of_block (hX b hb).2]; exact hc j u hj⟩
theorem OwnTop.keep {F F' : Nat → Prop} {L : List Nat} {w w' : World} {v : Value} {n : Nat} {l : List (List PV)} (h : OwnTop F L w v n l) (hF : ∀ b, F b → F' b ∧ w'.heap[b]? = w.heap[b]?) (hL : ∀ b, b ∈ L → w'.heap[b]? = w.heap[b]?) : OwnTop F' L w' v n l := by
  rcases h with h | ⟨g, cap, cur, e, rfl, hv, hg, hs, hr, h1, h2⟩
  · exact .inl h
  exact .inr ⟨g, cap, cur, e, rfl, hv, (hL g (by simp)).trans hg, hs, hr.keep hF, h1, h2⟩
structure Keeps (J J' : Inj) (w w' : World) (c : C) : Prop where
  F : ∀ b, J.F b → J'.F b ∧ w'.heap[b]? = w.heap[b]?
  L : ∀ k, c.key = some k → J'.L k = J.L k ∧ ∀ b, b ∈ J.L k → w'.heap[b]? = w.heap[b]?
  B : ∀ k, k ∈ c.bkeys → J'.B k = J.B k
theorem Keeps.X {J J' : Inj} {w w' : World} {t : Tok} (hF : ∀ b, J.F b → J'.F b ∧ w'.heap[b]? = w.heap[b]?) (hL : ∀ k, t.key = some k → J'.L k = J.L k ∧ ∀ b, b ∈ J.L k → w'.heap[b]? = w.heap[b]?) :
    ∀ b, J.X t b → J'.X t b ∧ w'.heap[b]? = w.heap[b]? := by
  intro b hb
  cases t with
  | sh => exact hF b hb
  | emp => exact hb.elim
  | own d k => exact hb.elim
  | put => exact hb.elim
  | vw k =>
    obtain ⟨h1, h2⟩ := hL k rfl
    rcases hb with hb | hb
    · exact ⟨.inl (by rw [h1]; exact hb), h2 b hb⟩
    exact ⟨.inr (hF b hb).1, (hF b hb).2⟩
theorem CR.keep {J J' : Inj} {w w' : World} {v : Value} {c : C} (h : CR J w v c) (hk : Keeps J J' w w' c) : CR J' w' v c := by
  cases c with
  | int | bool | str | raw | dead => exact h
  | slc t n l =>
    cases t with
    | sh => exact VV.keep hk.F h
    | emp => exact h
    | own d k =>
      obtain ⟨h1, h2⟩ := hk.L k rfl
      cases d with
      | true => show OwnDeep (J'.L k) w' v n l; rw [h1]; exact OwnDeep.keep h h2
      | false => show OwnTop J'.F (J'.L k) w' v n l; rw [h1]; exact OwnTop.keep h hk.F h2
    | vw k => exact VV.keep (Keeps.X (t := .vw k) hk.F hk.L) h
    | put => exact h.elim
  | ept d k n i o cs =>
    obtain ⟨g, r, vs, h1, h2, h3, h4, arr, ty, h5⟩ := h
    obtain ⟨e, hs⟩ := hk.L k rfl
    have hg := hs g (by rw [h1]; exact List.mem_cons_self)
    refine ⟨g, r, vs, e.trans h1, h2, h3.keep (Keeps.X (t := eptTok d k) hk.F fun k' hk' => ?_), fun j u hj => by rw [World.cell?_of_block hg]; exact h4 j u hj, arr, ty, hg.trans h5⟩
    cases d with
    | true => obtain rfl : k = k' := by simpa [eptTok, Tok.key] using hk'
              exact ⟨e, hs⟩
    | false => cases hk'
  | ptr k off => show v = _; rw [hk.B k (by simp [C.bkeys])]; exact h
  | rptr t cs => exact Reads.keep h (Keeps.X (t := t) hk.F hk.L)
  | fn f caps =>
    have : caps.map (fun c => Value.pointer (some ⟨J'.B c.1, c.2, none⟩)) = caps.map (fun c => Value.pointer (some ⟨J.B c.1, c.2, none⟩)) :=
      List.map_congr_left fun c hc => by rw [hk.B c.1 (by simp [C.bkeys]; exact ⟨_, hc⟩)]
    show v = _
    rw [this]
    exact h
  | fnr f caps =>
    obtain ⟨vs, rfl, ha⟩ := h
    exact ⟨vs, rfl, ha.imp fun a b _ h => h.keep hk.F⟩
theorem VA.keep {J J' : Inj} {w w' : World} {v : Value} {x : Bool × List C} (h : VA J w v x) (hk : ∀ c, c ∈ x.2 → Keeps J J' w w' c) : VA J' w' v x := by
  obtain ⟨b, cs⟩ := x
  cases b with
  | true => obtain ⟨vs, rfl, ha⟩ := h; exact ⟨vs, rfl, ha.imp fun a c hc h => h.keep (hk c hc)⟩
  | false => obtain ⟨c, rfl, hc⟩ := h; exact ⟨c, rfl, hc.keep (hk c (by simp))⟩
theorem AR.keep {J J' : Inj} {w w' : World} {v : Value} {x : AV} (h : AR J w v x) (hk : ∀ c, c ∈ x.cells → Keeps J J' w w' c) : AR J' w' v x := by
  cases x with
  | one c => exact CR.keep h (hk c (by simp [AV.cells]))
  | agg cs => obtain ⟨vs, rfl, ha⟩ := h; exact ⟨vs, rfl, ha.imp fun a c hc h => h.keep (hk c hc)⟩
  | tup l =>
    obtain ⟨vs, rfl, ha⟩ := h
    exact ⟨vs, rfl, ha.imp fun a x hx h => h.keep fun c hc => hk c (by simp only [AV.cells, List.mem_flatMap]; exact ⟨x, hx, hc⟩)⟩
theorem VA.map {J J' : Inj} {w w' : World} {v : Value} {x : Bool × List C} (f : C → C) (h : VA J w v x) (hk : ∀ u c, c ∈ x.2 → CR J w u c → CR J' w' u (f c)) : VA J' w' v (x.1, x.2.map f) := by
  obtain ⟨b, cs⟩ := x
  cases b with
  | true => obtain ⟨vs, rfl, ha⟩ := h; exact ⟨vs, rfl, ha.map f fun a c hc h => hk a c hc h⟩
  | false => obtain ⟨c, rfl, hc⟩ := h; exact ⟨f c, rfl, hk v c (by simp) hc⟩
theorem AR.map {J J' : Inj} {w w' : World} {v : Value} {x : AV} (f : C → C) (h : AR J w v x) (hk : ∀ u c, c ∈ x.cells → CR J w u c → CR J' w' u (f c)) : AR J' w' v (x.map f) := by
  cases x with
  | one c => exact hk v c (by simp [AV.cells]) h
  | agg cs => obtain ⟨vs, rfl, ha⟩ := h; exact ⟨vs, rfl, ha.map f fun a c hc h => hk a c hc h⟩
  | tup l =>
    obtain ⟨vs, rfl, ha⟩ := h
    exact ⟨vs, rfl, ha.map (fun p => (p.1, p.2.map f)) fun a x hx h => h.map f fun u c hc => hk u c (by simp only [AV.cells, List.mem_flatMap]; exact ⟨x, hx, hc⟩)⟩
/-! ### states -/
structure St where
  tm : List (Nat × AV)
  bx : List (Nat × List C)
def get {α : Type} : List (Nat × α) → Nat → Option α
  | [], _ => none
  | (k, a) :: r, t => if k = t then some a else get r t
def ins {α : Type} (t : Nat) (x : α) : List (Nat × α) → List (Nat × α)
  | [] => [(t, x)]
  | (k, a) :: r => if k = t then (t, x) :: r else (k, a) :: ins t x r
theorem get_ins {α : Type} (t : Nat) (x : α) (u : Nat) : ∀ l : List (Nat × α), get (ins t x l) u = if t = u then some x else get l u
  | [] => by simp [ins, get]
  | (k, a) :: r => by
    simp only [ins]
    by_cases hk : k = t
    · subst hk
      rw [if_pos rfl]
      simp only [get]
      split <;> rfl
    rw [if_neg hk]
    simp only [get, get_ins t x u r]
    by_cases hu : k = u
    · subst hu
      rw [if_pos rfl, if_pos rfl, if_neg (fun e => hk e.symm)]
    rw [if_neg hu, if_neg hu]
theorem get_map {α β : Type} (f : α → β) (u : Nat) : ∀ l : List (Nat × α), get (l.map fun p => (p.1, f p.2)) u = (get l u).map f
  | [] => rfl
  | (k, a) :: r => by
    simp only [List.map_cons, get, get_map f u r]
    split <;> rfl
def St.map (f : C → C) (s : St) : St := ⟨s.tm.map fun p => (p.1, p.2.map f), s.bx.map fun p => (p.1, p.2.map f)⟩
/-! ### what a frame starts from: the world, and the blocks of the caller's that it may turn -/
structure Base where
  w : World
  X : Nat → Prop
  c : Option Nat
abbrev bxK : Nat := 60000
def Base.lo (b : Base) (k : Nat) : Prop := b.w.heap.size ≤ k ∨ b.X k
structure Base.Keeps (b : Base) (w : World) : Prop where
  os : w.os = b.w.os
  tape : w.tape = b.w.tape
  output : w.output = b.w.output
  size : b.w.heap.size ≤ w.heap.size
  block : ∀ k, k < b.w.heap.size → ¬ b.X k → w.heap[k]? = b.w.heap[k]?
theorem Base.Keeps.refl (b : Base) : b.Keeps b.w := ⟨rfl, rfl, rfl, Nat.le_refl _, fun _ _ _ => rfl⟩
theorem Base.Keeps.trans {b : Base} {w w' : World} (h : b.Keeps w) (k : Below b.w.heap.size w w') : b.Keeps w' :=
  ⟨k.os.trans h.os, k.tape.trans h.tape, k.output.trans h.output, Nat.le_trans h.size k.size, fun i hi hx => (k.block i hi).trans (h.block i hi hx)⟩
theorem Base.Keeps.step {b : Base} {w w' : World} (h : b.Keeps w) (ho : w'.os = w.os) (ht : w'.tape = w.tape) (hu : w'.output = w.output) (hs : w.heap.size ≤ w'.heap.size) (hb : ∀ k, k < w.heap.size → ¬ b.lo k → w'.heap[k]? = w.heap[k]?) : b.Keeps w' :=
  ⟨ho.trans h.os, ht.trans h.tape, hu.trans h.output, Nat.le_trans h.size hs, fun k hk hx => (hb k (Nat.lt_of_lt_of_le hk h.size) (fun hl => hl.elim (fun hl => by omega) hx)).trans (h.block k hk hx)⟩
theorem Base.Keeps.alloc {b : Base} {w : World} (h : b.Keeps w) (_ : b.w.heap.size ≤ w.heap.size) (o : Obj) : b.Keeps (w.alloc o) := h.trans ((Below.refl _ _).alloc h.size o)
structure Rel (N : Nat) (w0 : Base) (F0 : Nat → Prop) (J : Inj) (a : Act) (w : World) (s : St) : Prop where
  below : w0.Keeps w
  nodef : a.defers = []
  size : a.tmps.size = N
  fl : ∀ b, J.F b → b < w.heap.size ∧ (F0 b ∨ w0.lo (b))
  f0 : ∀ b, F0 b → J.F b
  nd : ∀ k, (J.L k).Nodup
  lo : ∀ k b, b ∈ J.L k → w0.lo (b) ∧ b < w.heap.size ∧ ¬ J.F b
  dj : ∀ k k' b, b ∈ J.L k → b ∈ J.L k' → k = k'
  bo : ∀ k c, get s.bx k = some c → w0.lo (J.B k) ∧ ¬ J.F (J.B k) ∧ (∀ k', J.B k ∉ J.L k') ∧ ∃ arr e, w.heap[J.B k]? = some (.cells arr e (0, 0)) ∧ All2 (CR J w) arr.toList c
  nb : w0.c = none ∨ N ≤ bxK
  cb : ∀ b, w0.c = some b → J.B bxK = b
  bi : ∀ k k' c c', get s.bx k = some c → get s.bx k' = some c' → J.B k = J.B k' → k = k'
  tm : ∀ t v, get s.tm t = some v → AR J w (a.tmps.getD t undef) v
def St.eqv (s s' : St) : Prop := (∀ t, get s.tm t = get s'.tm t) ∧ ∀ k, get s.bx k = get s'.bx k
theorem Rel.eqv {N : Nat} {w0 : Base} {F0 : Nat → Prop} {J : Inj} {a : Act} {w : World} {s s' : St} (h : Rel N w0 F0 J a w s) (he : s.eqv s') : Rel N w0 F0 J a w s' :=
  { h with bo := fun k c hc => h.bo k c ((he.2 k).trans hc), bi := fun k k' c c' h1 h2 => h.bi k k' c c' ((he.2 k).trans h1) ((he.2 k').trans h2), tm := fun t v hv => h.tm t v ((he.1 t).trans hv) }
theorem Rel.less {N : Nat} {w0 : Base} {F0 : Nat → Prop} {J : Inj} {a : Act} {w : World} {s s' : St} (h : Rel N w0 F0 J a w s) (h1 : ∀ t v, get s'.tm t = some v → get s.tm t = some v) (h2 : ∀ k c, get s'.bx k = some c → get s.bx k = some c) : Rel N w0 F0 J a w s' :=
  { h with bo := fun k c hc => h.bo k c (h2 k c hc), bi := fun k k' c c' e1 e2 => h.bi k k' c c' (h2 _ _ e1) (h2 _ _ e2), tm := fun t v hv => h.tm t v (h1 t v hv) }
end
section
open Go.RowKit
def relT (rl : List (Nat × Option Tok)) (t : Tok) : Option Tok :=
  match t.key with
  | none => some t
  | some k => match get rl k with
    | none => some t
    | some x => x
def hasKey (k : Nat) : List (Nat × Nat) → Bool
  | [] => false
  | c :: r => Nat.beq c.1 k || hasKey k r
def setRow : List (List PV) → Nat → Nat → List PV → List (List PV)
  | [], _, _, _ => []
  | r :: l, 0, o, cs => (r.take o ++ cs ++ r.drop (o + cs.length)) :: l
  | r :: l, i + 1, o, cs => r :: setRow l i o cs
def setAll (l : List (List PV)) (cs : List PV) : List (List PV) := (cs.take l.length).map (fun c => [c]) ++ l.drop cs.length
def putR (l : List (List PV)) (i o : Nat) (cs : List PV) : List (List PV) := bif Nat.beq o 4294967296 then setAll l cs else setRow l i o cs
def sameB : Bool → Bool → Bool
  | true, true => true
  | false, false => true
  | _, _ => false
theorem sameB_eq {a b : Bool} (h : sameB a b = true) : a = b := by cases a <;> cases b <;> first | rfl | cases h
def putSlc (t : Tok) (n : Nat) (l : List (List PV)) : Tok → C
  | .put d m i o cs => (match t with
    | .own d0 k => bif sameB d0 d && Nat.beq n m then .slc (.own d0 k) n (putR l i o cs) else .dead
    | .put _ _ _ _ _ => .slc t n l
    | _ => .dead)
  | t' => .slc t' n l
def putRp (t : Tok) (cs : List PV) : Tok → C
  | .put _ _ _ _ _ => (match t with
    | .put _ _ _ _ _ => .rptr t cs
    | _ => .dead)
  | t' => .rptr t' cs
def relC (rl : List (Nat × Option Tok)) (kb : Option Nat) : C → C
  | .slc t n l => match relT rl t with
    | some t' => putSlc t n l t'
    | none => .dead
  | .rptr t cs => match relT rl t with
    | some t' => putRp t cs t'
    | none => .dead
  | .ept d k n i o cs => match get rl k with
    | none => .ept d k n i o cs
    | some (some t') => (match t' with
      | .sh => .rptr .sh cs
      | .vw k' => .rptr (.vw k') cs
      | .put true _ _ _ [.any] => .ept d k n i o (cs.map fun _ => .any)
      | _ => .dead)
    | some none => .dead
  | .ptr k off => match kb with
    | none => .ptr k off
    | some k' => bif Nat.beq k k' then .dead else .ptr k off
  | .fn f caps => match kb with
    | none => .fn f caps
    | some k' => bif hasKey k' caps then .dead else .fn f caps
  | c => c
structure Res where
  av : AV
  rl : List (Nat × Option Tok)
  kb : Option Nat
  bx : Option (Nat × List C)
def St.step (s : St) (dst : Option Nat) (r : Res) : St :=
  let s' := match r.rl, r.kb with
    | [], none => s
    | rl, kb => s.map (relC rl kb)
  ⟨match dst with
    | some d => ins d r.av s'.tm
    | none => s'.tm,
   match r.bx with
    | some (k, cs) => ins k cs s'.bx
    | none => s'.bx⟩
structure Turns (J J' : Inj) (w w' : World) (rl : List (Nat × Option Tok)) (kb : Option Nat) : Prop where
  F : ∀ b, J.F b → J'.F b ∧ w'.heap[b]? = w.heap[b]?
  stay : ∀ k, get rl k = none → J'.L k = J.L k ∧ ∀ b, b ∈ J.L k → w'.heap[b]? = w.heap[b]?
  sh : ∀ k, get rl k = some (some .sh) → ∀ b, b ∈ J.L k → J'.F b ∧ w'.heap[b]? = w.heap[b]?
  vw : ∀ k k', get rl k = some (some (.vw k')) → ∀ b, b ∈ J.L k → (b ∈ J'.L k' ∨ J'.F b) ∧ w'.heap[b]? = w.heap[b]?
  no : ∀ k t, get rl k = some (some t) → t = .sh ∨ (∃ k', t = .vw k') ∨ ∃ d m i o cs, t = .put d m i o cs
  B : ∀ k, kb ≠ some k → J'.B k = J.B k
  put : ∀ k d m i o cs, get rl k = some (some (.put d m i o cs)) → (∀ v l, CR J w v (.slc (.own d k) m l) → CR J' w' v (.slc (.own d k) m (putR l i o cs))) ∧ (d = true → cs = [.any] → (∀ g r, J.L k = g :: r → ∃ r', J'.L k = g :: r') ∧ ∀ b, b ∈ J.L k → w'.heap[b]? = w.heap[b]?)
theorem Turns.refl (J : Inj) (w : World) : Turns J J w w [] none :=
  ⟨fun _ h => ⟨h, rfl⟩, fun _ _ => ⟨rfl, fun _ _ => rfl⟩, (fun _ h => by cases h), (fun _ _ h => by cases h), (fun _ _ h => by cases h), (fun _ _ => rfl), (fun _ _ _ _ _ _ h => by cases h)⟩
theorem Turns.X {J J' : Inj} {w w' : World} {rl : List (Nat × Option Tok)} {kb : Option Nat} (h : Turns J J' w w' rl kb) {t t' : Tok} (ht : relT rl t = some t') (hp : ∀ d m i o cs, t' ≠ .put d m i o cs) : ∀ b, J.X t b → J'.X t' b ∧ w'.heap[b]? = w.heap[b]? := by
  intro b hb
  cases t with
  | sh => obtain rfl : Tok.sh = t' := by simpa [relT, Tok.key] using ht
          exact h.F b hb
  | emp => exact hb.elim
  | own d k => exact hb.elim
  | put => exact hb.elim
  | vw k =>
    simp only [relT, Tok.key] at ht
    cases hg : get rl k with
    | none =>
      rw [hg] at ht
      obtain rfl : Tok.vw k = t' := by simpa using ht
      obtain ⟨e, hs⟩ := h.stay k hg
      rcases hb with hb | hb
      · exact ⟨.inl (by rw [e]; exact hb), hs b hb⟩
      exact ⟨.inr (h.F b hb).1, (h.F b hb).2⟩
    | some x =>
      rw [hg] at ht
      obtain rfl : x = some t' := ht
      rcases h.no k t' hg with rfl | ⟨k', rfl⟩ | ⟨d, m, i, o, cs, rfl⟩
      · rcases hb with hb | hb
        · exact h.sh k hg b hb
        exact h.F b hb
      · rcases hb with hb | hb
        · exact h.vw k k' hg b hb
        exact ⟨.inr (h.F b hb).1, (h.F b hb).2⟩
      exact absurd rfl (hp d m i o cs)
theorem OwnTop.vv {F X : Nat → Prop} {L : List Nat} {w w' : World} {v : Value} {n : Nat} {l : List (List PV)} (h : OwnTop F L w v n l) (hF : ∀ b, F b → X b ∧ w'.heap[b]? = w.heap[b]?) (hL : ∀ b, b ∈ L → X b ∧ w'.heap[b]? = w.heap[b]?) : VV X w' v (.slc n l) := by
  rcases h with ⟨rfl, oa, rfl⟩ | ⟨g, cap, cur, e, rfl, rfl, hg, hs, hr, h1, h2⟩
  · exact .emp oa n (Nat.zero_le _)
  refine .slc (hL g (by simp)).1 (fun j u hj => ?_) (hr.keep hF) h1 h2
  rw [List.getElem?_take] at hj
  split at hj
  · rw [Array.getElem?_toList] at hj
    simp [World.cell?, (hL g (by simp)).2.trans hg, hj]
  cases hj
theorem hasKey_false {k : Nat} : ∀ {caps : List (Nat × Nat)}, hasKey k caps = false → ∀ c, c ∈ caps → c.1 ≠ k
  | [], _, c, hc => by simp at hc
  | x :: r, h, c, hc => by
    simp only [hasKey, Bool.or_eq_false_iff] at h
    rcases List.mem_cons.1 hc with rfl | hc
    · exact fun e => by simp [e] at h
    exact hasKey_false h.2 c hc
theorem relC_ok {J J' : Inj} {w w' : World} {rl : List (Nat × Option Tok)} {kb : Option Nat} (h : Turns J J' w w' rl kb) {v : Value} {c : C} (hc : CR J w v c) : CR J' w' v (relC rl kb c) := by
  cases c with
  | int | bool | str | raw | dead => exact hc
  | slc t n l =>
    simp only [relC]
    cases ht : relT rl t with
    | none => trivial
    | some t' =>
      show CR J' w' v (putSlc t n l t')
      cases t with
      | put => exact hc.elim
      | sh => obtain rfl : Tok.sh = t' := by simpa [relT, Tok.key] using ht
              exact VV.keep h.F hc
      | emp => obtain rfl : Tok.emp = t' := by simpa [relT, Tok.key] using ht
               exact hc
      | vw k =>
        have hX := h.X ht
        simp only [relT, Tok.key] at ht
        cases hg : get rl k with
        | none =>
          rw [hg] at ht
          obtain rfl : Tok.vw k = t' := by simpa using ht
          exact VV.keep (hX (by simp)) hc
        | some x =>
          rw [hg] at ht
          obtain rfl : x = some t' := ht
          rcases h.no k t' hg with rfl | ⟨k', rfl⟩ | ⟨d, m, i, o, cs, rfl⟩
          · exact VV.keep (hX (by simp)) hc
          · exact VV.keep (hX (by simp)) hc
          trivial
      | own d k =>
        simp only [relT, Tok.key] at ht
        cases hg : get rl k with
        | none =>
          rw [hg] at ht
          obtain rfl : Tok.own d k = t' := by simpa using ht
          obtain ⟨e, hs⟩ := h.stay k hg
          cases d with
          | true => show OwnDeep (J'.L k) w' v n l; rw [e]; exact OwnDeep.keep hc hs
          | false => show OwnTop J'.F (J'.L k) w' v n l; rw [e]; exact OwnTop.keep hc h.F hs
        | some x =>
          rw [hg] at ht
          obtain rfl : x = some t' := ht
          rcases h.no k t' hg with rfl | ⟨k', rfl⟩ | ⟨d1, m, i, o, cs, rfl⟩
          · have hs := h.sh k hg
            cases d with
            | true => exact OwnDeep.vv hc hs
            | false => exact OwnTop.vv hc h.F hs
          · have hs := h.vw k k' hg
            cases d with
            | true => exact OwnDeep.vv (X := J'.X (.vw k')) hc hs
            | false => exact OwnTop.vv hc (fun b hb => ⟨.inr (h.F b hb).1, (h.F b hb).2⟩) hs
          show CR J' w' v (bif sameB d d1 && Nat.beq n m then .slc (.own d k) n (putR l i o cs) else .dead)
          cases hb : sameB d d1 && Nat.beq n m with
          | false => trivial
          | true =>
            simp only [Bool.and_eq_true] at hb
            obtain rfl := sameB_eq hb.1
            obtain rfl := Nat.eq_of_beq_eq_true hb.2
            exact (h.put k d n i o cs hg).1 v l hc
  | ptr k off =>
    simp only [relC]
    cases kb with
    | none => show v = _; rw [h.B k (by simp)]; exact hc
    | some k' =>
      simp only []
      cases hk : Nat.beq k k' with
      | true => trivial
      | false =>
        show v = _
        rw [h.B k (fun e => by simp at e; simp [e] at hk)]
        exact hc
  | rptr t cs =>
    simp only [relC]
    cases ht : relT rl t with
    | none => trivial
    | some t' =>
      show CR J' w' v (putRp t cs t')
      cases t' with
      | put => cases t with
        | put => exact absurd hc (fun ⟨_, _, _, _, h, _⟩ => h)
        | sh | emp | own | vw => trivial
      | sh | emp | own | vw => exact Reads.keep hc (h.X ht (by simp))
  | ept d k n i o cs =>
    simp only [relC]
    obtain ⟨g, r, vs, h1, h2, h3, h4, arr, ty, h5⟩ := hc
    have hgm : g ∈ J.L k := by rw [h1]; exact List.mem_cons_self
    have hrd : ∀ (X : Nat → Prop), (∀ b, b ∈ J.L k ∨ J.F b → X b ∧ w'.heap[b]? = w.heap[b]?) → Reads X w' v cs := fun X hX => by
      have hg := hX g (.inl hgm)
      refine ⟨g, i * n + o, vs, h2, hg.1, h3.keep (X' := X) fun b hb => hX b ?_, fun j u hj => by rw [World.cell?_of_block hg.2]; exact h4 j u hj⟩
      cases d with
      | true => exact hb
      | false => exact .inr hb
    cases hk : get rl k with
    | none =>
      obtain ⟨e, hs⟩ := h.stay k hk
      refine ⟨g, r, vs, e.trans h1, h2, h3.keep fun b hb => ?_, fun j u hj => by rw [World.cell?_of_block (hs g hgm)]; exact h4 j u hj, arr, ty, (hs g hgm).trans h5⟩
      cases d with
      | true => exact hb.elim (fun hb => ⟨.inl (by rw [e]; exact hb), hs b hb⟩) fun hb => ⟨.inr (h.F b hb).1, (h.F b hb).2⟩
      | false => exact h.F b hb
    | some x =>
      cases x with
      | none => trivial
      | some t' =>
        rcases h.no k t' hk with rfl | ⟨k', rfl⟩ | ⟨d1, m, i1, o1, cs1, rfl⟩
        · exact hrd J'.F fun b hb => hb.elim (h.sh k hk b) (h.F b)
        · exact hrd (J'.X (.vw k')) fun b hb => hb.elim (h.vw k k' hk b) fun hb => ⟨.inr (h.F b hb).1, (h.F b hb).2⟩
        by_cases hq : d1 = true ∧ cs1 = [.any]
        · obtain ⟨rfl, rfl⟩ := hq
          obtain ⟨q1, q2⟩ := (h.put k true m i1 o1 _ hk).2 rfl rfl
          obtain ⟨r', e⟩ := q1 g r h1
          exact ⟨g, r', vs, e, h2, h3.anys, fun j u hj => by rw [World.cell?_of_block (q2 g hgm)]; exact h4 j u hj, arr, ty, (q2 g hgm).trans h5⟩
        cases d1 with
        | false => trivial
        | true => match cs1, hq with
          | [], _ => trivial
          | [.any], hq => exact (hq ⟨rfl, rfl⟩).elim
          | [.int _ _], _ => trivial
          | [.bool _], _ => trivial
          | [.str _], _ => trivial
          | [.slc _ _], _ => trivial
          | [.raw _], _ => trivial
          | x :: _ :: _, _ => cases x <;> trivial
  | fn f caps =>
    have key : (∀ c, c ∈ caps → kb ≠ some c.1) → CR J' w' v (.fn f caps) := fun hb => by
      have : caps.map (fun c => Value.pointer (some ⟨J'.B c.1, c.2, none⟩)) = caps.map (fun c => Value.pointer (some ⟨J.B c.1, c.2, none⟩)) :=
        List.map_congr_left fun c hc => by rw [h.B c.1 (hb c hc)]
      show v = _
      rw [this]
      exact hc
    simp only [relC]
    cases kb with
    | none => exact key (by simp)
    | some k' =>
      simp only []
      cases hk : hasKey k' caps with
      | true => trivial
      | false => exact key fun c hc' e => by simp at e; exact hasKey_false hk c hc' e.symm
  | fnr f caps =>
    obtain ⟨vs, rfl, ha⟩ := hc
    exact ⟨vs, rfl, ha.imp fun a b _ h' => h'.keep h.F⟩
structure Names (w0 : Base) (F0 : Nat → Prop) (J : Inj) (w : World) : Prop where
  fl : ∀ b, J.F b → b < w.heap.size ∧ (F0 b ∨ w0.lo (b))
  f0 : ∀ b, F0 b → J.F b
  nd : ∀ k, (J.L k).Nodup
  lo : ∀ k b, b ∈ J.L k → w0.lo (b) ∧ b < w.heap.size ∧ ¬ J.F b
  dj : ∀ k k' b, b ∈ J.L k → b ∈ J.L k' → k = k'
theorem Rel.names {N : Nat} {w0 : Base} {F0 : Nat → Prop} {J : Inj} {a : Act} {w : World} {s : St} (h : Rel N w0 F0 J a w s) : Names w0 F0 J w := ⟨h.fl, h.f0, h.nd, h.lo, h.dj⟩
theorem put_size (a : Act) (dst : Option Nat) (v : Value) : (a.put dst v).tmps.size = a.tmps.size := by
  cases dst <;> simp [Act.put]
theorem put_defers (a : Act) (dst : Option Nat) (v : Value) : (a.put dst v).defers = a.defers := by
  cases dst <;> rfl
theorem put_get (a : Act) (d : Nat) (v : Value) (t : Nat) (hd : d < a.tmps.size) : (a.put (some d) v).tmps.getD t undef = if d = t then v else a.tmps.getD t undef := by
  simp only [Act.put, Array.getD_eq_getD_getElem?, Array.getElem?_setIfInBounds]
  by_cases h : d = t
  · subst h
    simp [hd]
  simp [h]
theorem Rel.upd {N : Nat} {w0 : Base} {F0 : Nat → Prop} {J J' : Inj} {a : Act} {w w' : World} {s : St} (h : Rel N w0 F0 J a w s) (dst : Option Nat) (hdst : ∀ d, dst = some d → d < N) (r : Res) (v : Value)
    (hb : w0.Keeps w') (ht : Turns J J' w w' r.rl r.kb) (hn : Names w0 F0 J' w') (hv : dst ≠ none → AR J' w' v r.av)
    (hbx : ∀ k c, get s.bx k = some c → (∀ p, r.bx = some p → p.1 ≠ k) → r.kb ≠ some k ∧ ¬ J'.F (J.B k) ∧ (∀ k', J.B k ∉ J'.L k') ∧ w'.heap[J.B k]? = w.heap[J.B k]?)
    (hnew : ∀ k c, r.bx = some (k, c) → w0.lo (J'.B k) ∧ ¬ J'.F (J'.B k) ∧ (∀ k', J'.B k ∉ J'.L k') ∧ (∃ arr e, w'.heap[J'.B k]? = some (.cells arr e (0, 0)) ∧ All2 (CR J' w') arr.toList c) ∧ ∀ k' c', get s.bx k' = some c' → k' ≠ k → J.B k' ≠ J'.B k)
    (hkb : ∀ k, r.kb = some k → k < N := by intro _ h; cases h) :
    Rel N w0 F0 J' (a.put dst v) w' (s.step dst r) := by
  have hmap : ∀ (u : Value) (x : AV), AR J w u x → AR J' w' u (match r.rl, r.kb with | [], none => x | rl, kb => x.map (relC rl kb)) := by
    intro u x hx
    split
    · rename_i e1 e2
      have hid : ∀ c, relC r.rl r.kb c = c := fun c => by
        rw [e1, e2]
        cases c with
        | slc t n l => cases t <;> rfl
        | rptr t cs => cases t <;> rfl
        | _ => rfl
      have := AR.map (relC r.rl r.kb) hx fun u c _ hc => relC_ok ht hc
      rw [show x.map (relC r.rl r.kb) = x by
        have : (relC r.rl r.kb) = id := funext hid
        rw [this]
        cases x <;> simp [AV.map]] at this
      exact this
    exact AR.map _ hx fun u c _ hc => relC_ok ht hc
  have hcm : ∀ (us : List Value) (cs : List C), All2 (CR J w) us cs → All2 (CR J' w') us (match r.rl, r.kb with | [], none => cs | rl, kb => cs.map (relC rl kb)) := by
    intro us cs hx
    have := hmap (.agg us.toArray) (.agg cs) ⟨us, rfl, hx⟩
    split at this
    · obtain ⟨vs, e, h2⟩ := this
      rw [show us = vs by simpa using congrArg Array.toList (Value.agg.inj e)]
      exact h2
    obtain ⟨vs, e, h2⟩ := this
    rw [show us = vs by simpa using congrArg Array.toList (Value.agg.inj e)]
    exact h2
  have gtm : ∀ t x, get (match r.rl, r.kb with | [], none => s | rl, kb => s.map (relC rl kb)).tm t = some x → ∃ y, get s.tm t = some y ∧ x = (match r.rl, r.kb with | [], none => y | rl, kb => y.map (relC rl kb)) := by
    intro t x hx
    split at hx
    · exact ⟨x, hx, by simp⟩
    simp only [St.map, get_map (AV.map _)] at hx
    obtain ⟨y, hy, rfl⟩ := Option.map_eq_some_iff.1 hx
    exact ⟨y, hy, by simp⟩
  have gbx : ∀ k x, get (match r.rl, r.kb with | [], none => s | rl, kb => s.map (relC rl kb)).bx k = some x → ∃ y, get s.bx k = some y ∧ x = (match r.rl, r.kb with | [], none => y | rl, kb => y.map (relC rl kb)) := by
    intro k x hx
    split at hx
    · exact ⟨x, hx, by simp⟩
    simp only [St.map, get_map (List.map _)] at hx
    obtain ⟨y, hy, rfl⟩ := Option.map_eq_some_iff.1 hx
    exact ⟨y, hy, by simp⟩
  have gb : ∀ k x, get (s.step dst r).bx k = some x → (r.bx = some (k, x)) ∨ ((∀ p, r.bx = some p → p.1 ≠ k) ∧ ∃ y, get s.bx k = some y ∧ x = (match r.rl, r.kb with | [], none => y | rl, kb => y.map (relC rl kb))) := by
    intro k x hx
    simp only [St.step] at hx
    cases hr : r.bx with
    | none => rw [hr] at hx; exact .inr ⟨(fun p hp => by cases hp), gbx k x hx⟩
    | some p =>
      obtain ⟨k1, c1⟩ := p
      rw [hr] at hx
      simp only [get_ins] at hx
      by_cases hk : k1 = k
      · subst hk
        rw [if_pos rfl] at hx
        obtain rfl := Option.some.inj hx
        exact .inl rfl
      rw [if_neg hk] at hx
      exact .inr ⟨(fun p hp => by cases hp; exact hk), gbx k x hx⟩
  refine { below := hb, nodef := (put_defers a dst v).trans h.nodef, size := (put_size a dst v).trans h.size, fl := hn.fl, f0 := hn.f0, nd := hn.nd, lo := hn.lo, dj := hn.dj, bo := ?_, nb := h.nb, cb := fun b hb => (ht.B bxK fun e => by
    have := hkb _ e
    rcases h.nb with hn | hn
    · rw [hn] at hb; cases hb
    omega).trans (h.cb b hb), bi := ?_, tm := ?_ }
  · intro k c hk
    rcases gb k c hk with hr | ⟨hne, y, hy, rfl⟩
    · obtain ⟨h1, h2, h3, h4, _⟩ := hnew k c hr
      exact ⟨h1, h2, h3, h4⟩
    obtain ⟨hkb, h1, h2, h3⟩ := hbx k y hy hne
    obtain ⟨h4, _, _, arr, e, h5, h6⟩ := h.bo k y hy
    rw [ht.B k hkb]
    exact ⟨h4, h1, h2, arr, e, h3.trans h5, hcm _ _ h6⟩
  · intro k k' c c' hk hk' hB
    rcases gb k c hk with hr | ⟨hne, y, hy, rfl⟩ <;> rcases gb k' c' hk' with hr' | ⟨hne', y', hy', rfl⟩
    · have := hr.symm.trans hr'
      simp at this
      exact this.1
    · refine Classical.byContradiction fun hkk => ?_
      obtain ⟨hkb, _⟩ := hbx k' y' hy' hne'
      rw [ht.B k' hkb] at hB
      exact (hnew k c hr).2.2.2.2 k' y' hy' (fun e => hkk e.symm) hB.symm
    · refine Classical.byContradiction fun hkk => ?_
      obtain ⟨hkb, _⟩ := hbx k y hy hne
      rw [ht.B k hkb] at hB
      exact (hnew k' c' hr').2.2.2.2 k y hy hkk hB
    rw [ht.B k (hbx k y hy hne).1, ht.B k' (hbx k' y' hy' hne').1] at hB
    exact h.bi k k' y y' hy hy' hB
  intro t x hx
  cases dst with
  | none =>
    simp only [St.step] at hx
    obtain ⟨y, hy, rfl⟩ := gtm t x hx
    exact hmap _ _ (h.tm t y hy)
  | some d =>
    have hd := hdst d rfl
    simp only [St.step, get_ins] at hx
    rw [put_get a d v t (by rw [h.size]; exact hd)]
    by_cases hdt : d = t
    · rw [if_pos hdt] at hx ⊢
      obtain rfl := Option.some.inj hx
      exact hv (by simp)
    rw [if_neg hdt] at hx ⊢
    obtain ⟨y, hy, rfl⟩ := gtm t x hx
    exact hmap _ _ (h.tm t y hy)
theorem Rel.pure {N : Nat} {w0 : Base} {F0 : Nat → Prop} {J : Inj} {a : Act} {w : World} {s : St} (h : Rel N w0 F0 J a w s) (dst : Option Nat) (hdst : ∀ d, dst = some d → d < N) (av : AV) (v : Value) (hv : dst ≠ none → AR J w v av) :
    Rel N w0 F0 J (a.put dst v) w (s.step dst ⟨av, [], none, none⟩) :=
  h.upd dst hdst _ v h.below (Turns.refl J w) h.names hv (fun k c hc _ => by
    obtain ⟨_, h2, h3, _⟩ := h.bo k c hc
    exact ⟨by simp, h2, h3, rfl⟩) (fun k c hc => by cases hc)
end
section
open Go.RowKit
inductive TK where
  | int (k : IntKind)
  | bool
  | str
  | sli (e : Nat)
  | struct (fs : List (Nat × Nat × Bool))
  | other
inductive LK where
  | int
  | bool
  | str
structure TI where
  kind : TK
  size : Nat
  zero : List C
  eq : List LK
def TI.agg (i : TI) : Bool := match i.kind with
  | .struct _ => true
  | _ => false
def zeroOk : Value → C → Bool
  | .int k n, .int k' m => decide (k = k') && decide (n = 0) && decide (m = 0)
  | .bool b, .bool c => !b && !c
  | .string s, .str t => Nat.beq s.size 0 && Nat.beq t.size 0
  | .slice none 0 0, .slc .emp _ [] => true
  | _, _ => false
def zerosOk : List Value → List C → Bool
  | [], [] => true
  | v :: vs, c :: cs => zeroOk v c && zerosOk vs cs
  | _, _ => false
def aggOf : TypeDesc → Bool
  | .struct _ => true
  | .array _ _ => true
  | _ => false
def fieldsOk (P : Program) : List Field → List (Nat × Nat × Bool) → Bool
  | [], [] => true
  | f :: fs, g :: gs => Nat.beq f.offset g.1 && (match P.info? f.type with
      | some i => Nat.beq i.size g.2.1
      | none => false) && (match P.underlying f.type with
      | some d => (match g.2.2, aggOf d with | true, true => true | false, false => true | _, _ => false)
      | none => false) && fieldsOk P fs gs
  | _, _ => false
def kindOk (P : Program) : TypeDesc → TK → Bool
  | .int k, .int k' => decide (k = k')
  | .bool, .bool => true
  | .string, .str => true
  | .slice e, .sli e' => Nat.beq e e'
  | .struct fs, .struct gs => fieldsOk P fs.toList gs
  | .struct _, .other => false
  | .array _ _, .other => false
  | _, .other => true
  | _, _ => false
def eqFs (P : Program) (f : Nat → Option (List LK)) : List Field → Nat → Option (List LK)
  | [], _ => some []
  | g :: r, off => bif decide (g.name = "_") then none else bif Nat.beq g.offset off then
      (match f g.type, P.info? g.type with
      | some l, some inf => bif Nat.beq inf.size l.length && Nat.blt 0 l.length then
          (match eqFs P f r (off + l.length) with
          | some m => some (l ++ m)
          | none => none) else none
      | _, _ => none)
    else none
def eqType (P : Program) : Nat → Nat → Option (List LK)
  | 0, _ => none
  | n + 1, t => match P.underlying t with
    | some (.int _) => some [.int]
    | some .bool => some [.bool]
    | some .string => some [.str]
    | some (.struct fs) => bif P.stoodInHeld t then none else eqFs P (eqType P n) fs.toList 0
    | _ => none
def sameLK : List LK → List LK → Bool
  | [], [] => true
  | .int :: r, .int :: r' => sameLK r r'
  | .bool :: r, .bool :: r' => sameLK r r'
  | .str :: r, .str :: r' => sameLK r r'
  | _, _ => false
def eqOk (P : Program) (t : Nat) (i : TI) : Bool := match i.eq with
  | [] => true
  | l => !(P.eqGuardType P.depth t) && (match P.underlying t with
    | some (.struct _) => true
    | _ => false) && (match eqType P 9 t with
    | some m => sameLK l m
    | none => false)
def cellEq : LK → C → C → Option Bool
  | .int, .int k a, .int k' b => bif decide (k = k') then some (a == b) else none
  | .str, .str a, .str b => some (a.toList == b.toList)
  | .bool, .bool a, .bool b => some (a == b)
  | _, _, _ => none
def cellsEq : List LK → List C → List C → Option Bool
  | [], [], [] => some true
  | l :: ls, x :: xs, y :: ys => match cellEq l x y, cellsEq ls xs ys with
    | some a, some b => some (a && b)
    | _, _ => none
  | _, _, _ => none
def tiOk (P : Program) (t : Nat) (i : TI) : Bool :=
  match P.underlying t, P.info? t with
  | some d, some inf => kindOk P d i.kind && Nat.beq inf.size i.size && Nat.ble inf.bytes 1000 && (match inf.zero with
    | some z => Nat.beq z.cells.size i.size && zerosOk z.cells.toList i.zero
    | none => false) && eqOk P t i
  | _, _ => false
def ttOk (P : Program) : List (Nat × TI) → Bool
  | [] => true
  | p :: r => tiOk P p.1 p.2 && ttOk P r
def constAV : Value → Option AV
  | .int k n => bif decide (k.min ≤ n) && decide (n ≤ k.max) then some (.one (.int k n)) else none
  | .bool b => some (.one (.bool b))
  | .string s => bif Nat.ble s.size 1000000 then some (.one (.str s)) else none
  | .slice none 0 0 => some (.one (.slc .emp 0 []))
  | .pointer none => some (.one .dead)
  | _ => none
def opAV (s : St) : Operand → Option AV
  | .tmp t => get s.tm t
  | .const v => constAV v
  | .func f => some (.one (.fn f []))
  | .global _ => none
structure TakeT where
  take : Nat → Nat → List (List PV) → List AV → Bool → Bool → List (List PV) → Prop
  give : Nat → List C → List AV → AV → List C → Prop
  new : Nat → List AV → List C → Prop
  ins : Nat → Nat → Prop
inductive Ob where
  | call (f : Nat) (args : List AV) (r : AV)
  | eq (a b : AV)
  | elem (l : List (List PV)) (i : Int) (r : List PV)
  | rng (lo hi : Int) (n : Nat)
  | idx (i : Int) (n : Nat)
  | flat (l : List (List PV))
  | len (n : Nat)
  | slen (n : Nat)
  | nz (n : Int)
  | inr (k : IntKind) (n : Int)
  | take (f n : Nat) (l : List (List PV)) (args : List AV) (mix turn : Bool) (l' : List (List PV))
  | give (f : Nat) (cs : List C) (args : List AV) (r : AV) (cs' : List C)
  | new (f : Nat) (args : List AV) (cs : List C)
  | ins (f n : Nat)
inductive Orc where
  | no
  | val (v : AV)
  | row (r : List PV)
  | flat
  | rowE (r : List PV)
  | take (mix turn : Bool) (l : List (List PV))
  | give (g : Option Nat) (r : AV) (cs : List C)
  | new (cs : List C)
  | cut (l : List (List PV))
  | gh (t q th : Nat) (r : List PV) (o : Orc)
  | ins (l : List (List PV))
def andI (k : IntKind) (a b : Int) : Int := k.wrap (BitVec.ofInt k.bits a &&& BitVec.ofInt k.bits b).toNat
def xorI (k : IntKind) (a b : Int) : Int := k.wrap (BitVec.ofInt k.bits a ^^^ BitVec.ofInt k.bits b).toNat
def shrI (k : IntKind) (a b : Int) : Int := a.fdiv (2 ^ (min b.toNat k.bits))
def binInt (op : BinOp) (k : IntKind) (a b : Int) : Option (C × List Ob) :=
  match op with
  | .add => some (.int k (k.wrap (a + b)), [])
  | .sub => some (.int k (k.wrap (a - b)), [])
  | .mul => some (.int k (k.wrap (a * b)), [])
  | .quo => some (.int k (k.wrap (a.tdiv b)), [.nz b])
  | .rem => some (.int k (a.tmod b), [.nz b, .inr k (a.tmod b)])
  | .eql => some (.bool (a == b), [])
  | .neq => some (.bool (a != b), [])
  | .lss => some (.bool (decide (a < b)), [])
  | .leq => some (.bool (decide (a ≤ b)), [])
  | .gtr => some (.bool (decide (a > b)), [])
  | .geq => some (.bool (decide (a ≥ b)), [])
  | .and => some (.int k (andI k a b), [])
  | .xor => some (.int k (xorI k a b), [])
  | _ => none
def binStr (op : BinOp) (a b : ByteArray) : Option (C × List Ob) :=
  match op with
  | .add => some (.str (a ++ b), [.slen (a.size + b.size)])
  | .eql => some (.bool (a.toList == b.toList), [])
  | .neq => some (.bool (!(a.toList == b.toList)), [])
  | .lss => some (.bool (Op.bytesLess a.toList b.toList), [])
  | .leq => some (.bool (Op.bytesLess a.toList b.toList || a.toList == b.toList), [])
  | .gtr => some (.bool (!(Op.bytesLess a.toList b.toList || a.toList == b.toList)), [])
  | .geq => some (.bool (!(Op.bytesLess a.toList b.toList)), [])
  | _ => none
def isShr : BinOp → Bool
  | .shr => true
  | _ => false
def binC (op : BinOp) : C → C → Option (C × List Ob)
  | .int k a, .int k' b => bif isShr op then (bif decide (0 ≤ b) then some (.int k (shrI k a b), []) else none) else bif decide (k = k') then binInt op k a b else none
  | .str a, .str b => binStr op a b
  | _, _ => none
def binBool (tt : List (Nat × TI)) (op : BinOp) (t : Nat) (a b : Bool) : Option (C × List Ob) :=
  match get tt t with
  | some ⟨.bool, _, _, _⟩ => (match op with
    | .eql => some (.bool (a == b), [])
    | .neq => some (.bool (!(a == b)), [])
    | _ => none)
  | _ => none
def alive : C → Bool
  | .dead => false
  | _ => true
def allAlive : List C → Bool
  | [] => true
  | c :: r => alive c && allAlive r
def AV.flatCells : AV → Option (List C)
  | .one c => some [c]
  | .agg cs => some cs
  | .tup _ => none
def toPV : C → Option PV
  | .int k n => some (.int k n)
  | .bool b => some (.bool b)
  | .str s => some (.str s)
  | .slc _ n l => some (.slc n l)
  | .raw v => some (.raw v)
  | _ => none
def toPVs : List C → Option (List PV)
  | [] => some []
  | c :: r => match toPV c, toPVs r with
    | some p, some ps => some (p :: ps)
    | _, _ => none
def childTok : Tok → Option Tok
  | .sh => some .sh
  | .own _ k => some (.vw k)
  | .vw k => some (.vw k)
  | .emp => none
  | .put _ _ _ _ _ => none
def liftC (t : Tok) : PV → C
  | .int k n => .int k n
  | .bool b => .bool b
  | .str s => .str s
  | .slc n l => .slc t n l
  | .any => .dead
  | .raw v => .raw v
def asVal (i : TI) (cs : List C) : Option AV :=
  match i.agg with
  | true => bif Nat.beq cs.length i.size then some (.agg cs) else none
  | false => (match cs with
    | [c] => some (.one c)
    | _ => none)
def strAt (s : ByteArray) (i : Int) : Int := ((s.data.toList.getD i.toNat 0).toNat : Int)
def fieldAt? (tt : List (Nat × TI)) (t f : Nat) : Option (Nat × Nat × Bool) :=
  match get tt t with
  | some ⟨.struct fs, _, _, _⟩ => fs[f]?
  | _ => none
def fillC (fs : List (Nat × Nat × Bool)) : List C → List (Nat × AV) → Option (List C)
  | cells, [] => some cells
  | cells, (i, v) :: r => match fs[i]?, v.flatCells with
    | some (o, sz, _), some cs => bif Nat.beq cs.length sz && Nat.ble (o + sz) cells.length && allAlive cs then fillC fs (cells.take o ++ cs ++ cells.drop (o + sz)) r else none
    | _, _ => none
def optBound (d : Int) : Option Operand → List AV → Option (Int × List AV)
  | none, r => some (d, r)
  | some _, .one (.int _ n) :: r => some (n, r)
  | _, _ => none
def subTok : Tok → Tok
  | .own _ k => .vw k
  | t => t
def keysOfC : List C → List Nat
  | [] => []
  | c :: r => (match c.key with
    | some k => [k]
    | none => []) ++ keysOfC r
def ptrKeys : List AV → Option (List (Nat × Nat))
  | [] => some []
  | .one (.ptr k o) :: r => (ptrKeys r).map ((k, o) :: ·)
  | _ :: _ => none
def memN (k : Nat) : List Nat → Bool
  | [] => false
  | x :: r => Nat.beq x k || memN k r
def nodupN : List Nat → Bool
  | [] => true
  | x :: r => !(memN x r) && nodupN r
def deepC : C → Bool
  | .slc (.own true _) _ _ => true
  | .slc .emp _ _ => true
  | .slc _ _ _ => false
  | _ => true
def allDeep : List C → Bool
  | [] => true
  | c :: r => deepC c && allDeep r
def partsOf : Nat → List (Nat × Operand) → List AV → Option (List (List C))
  | _, [], [] => some []
  | i, (j, _) :: ps, v :: vs => bif Nat.beq i j then (match v.flatCells, partsOf (i + 1) ps vs with
    | some cs, some r => some (cs :: r)
    | _, _ => none) else none
  | _, _, _ => none
def allLen (n : Nat) : List (List C) → Bool
  | [] => true
  | cs :: r => Nat.beq cs.length n && allAlive cs && allLen n r
def rowsPV : List (List C) → Option (List (List PV))
  | [] => some []
  | cs :: r => match toPVs cs, rowsPV r with
    | some p, some ps => some (p :: ps)
    | _, _ => none
def boxPV (bx : List (Nat × List C)) (k off : Nat) : Option (List PV) :=
  match get bx k with
  | some cs => toPVs (cs.drop off)
  | none => none
def capPVs (bx : List (Nat × List C)) : List (Nat × Nat) → Option (List (List PV))
  | [] => some []
  | (k, o) :: r => match boxPV bx k o, capPVs bx r with
    | some p, some ps => some (p :: ps)
    | _, _ => none
def eraseC (bx : List (Nat × List C)) : C → Option C
  | .int k n => some (.int k n)
  | .bool b => some (.bool b)
  | .str s => some (.str s)
  | .slc _ n l => some (.slc .sh n l)
  | .ptr k off => (boxPV bx k off).map (.rptr .sh)
  | .rptr _ cs => some (.rptr .sh cs)
  | .ept _ _ _ _ _ cs => some (.rptr .sh cs)
  | .fn f caps => (capPVs bx caps).map (.fnr f)
  | .fnr f caps => some (.fnr f caps)
  | .raw v => some (.raw v)
  | .dead => none
def eraseCs (bx : List (Nat × List C)) : List C → Option (List C)
  | [] => some []
  | c :: r => match eraseC bx c, eraseCs bx r with
    | some p, some ps => some (p :: ps)
    | _, _ => none
def eraseAV (bx : List (Nat × List C)) : AV → Option AV
  | .one c => (eraseC bx c).map .one
  | .agg cs => (eraseCs bx cs).map .agg
  | .tup _ => none
def eraseAVs (bx : List (Nat × List C)) : List AV → Option (List AV)
  | [] => some []
  | c :: r => match eraseAV bx c, eraseAVs bx r with
    | some p, some ps => some (p :: ps)
    | _, _ => none
def nameC (d : Nat) : C → C
  | .slc (.own b k) n l => .slc (.own b (64 * d + k)) n l
  | c => c
def backC : C → Bool
  | .slc (.own _ k) _ _ => Nat.blt k 64
  | .slc (.vw _) _ _ => false
  | .ptr _ _ => false
  | .rptr _ _ => false
  | .ept _ _ _ _ _ _ => false
  | .fn _ _ => false
  | .fnr _ _ => false
  | .dead => false
  | _ => true
def sharesC : C → Bool
  | .slc .sh _ _ => true
  | .slc (.own false _) _ _ => true
  | _ => false
def noPtrT : C → Bool
  | .ptr _ _ => false
  | .fn _ [] => true
  | .fn _ _ => false
  | .fnr _ _ => false
  | .rptr _ _ => false
  | .ept _ _ _ _ _ _ => false
  | _ => true
def noPtrC : C → Bool
  | .ptr _ _ => false
  | .fn _ _ => false
  | .fnr _ _ => false
  | .rptr _ _ => false
  | .ept _ _ _ _ _ _ => false
  | _ => true
def allC (f : C → Bool) : List C → Bool
  | [] => true
  | c :: r => f c && allC f r
def cellsAVs : List AV → List C
  | [] => []
  | v :: r => v.cells ++ cellsAVs r
def killAll : List Nat → List (Nat × Option Tok)
  | [] => []
  | k :: r => (k, none) :: killAll r
def freezeAll : List Nat → List (Nat × Option Tok)
  | [] => []
  | k :: r => (k, some .sh) :: freezeAll r
def viewAll (n : Nat) : List Nat → List (Nat × Option Tok)
  | [] => []
  | k :: r => (k, some (.vw n)) :: viewAll n r
end
section
open Go.RowKit
def evalP (tt : List (Nat × TI)) (orc : Orc) (bn : List (Nat × List C)) : Op → List AV → Option (AV × List Ob)
  | .move _, [v] => some (v, [])
  | .assign _, [v] => some (v, [])
  | .pick _ _ _, [.one (.bool c), a, b] => some (bif c then a else b, [])
  | .binOp op t _ _ _, [.one x, .one y] =>
    match binC op x y with
    | some (c, obs) => some (.one c, obs)
    | none => (match x, y with
      | .bool a, .bool b => (match binBool tt op t a b with
        | some (c, obs) => some (.one c, obs)
        | none => none)
      | _, _ => none)
  | .binOp op t _ _ _, [.agg xs, .agg ys] =>
    (match get tt t with
    | some ⟨_, _, _, l :: ls⟩ => (match op, cellsEq (l :: ls) xs ys with
      | .eql, some b => some (.one (.bool b), [])
      | .neq, some b => some (.one (.bool (!b)), [])
      | _, _ => none)
    | _ => none)
  | .unOp op _ _, [.one x] =>
    (match op, x with
    | .not, .bool b => some (.one (.bool (!b)), [])
    | .neg, .int k n => some (.one (.int k (k.wrap (0 - n))), [])
    | _, _ => none)
  | .field t _ f, [.agg cs] =>
    (match fieldAt? tt t f with
    | some (o, sz, true) => bif Nat.ble (o + sz) cs.length then some (.agg ((cs.drop o).take sz), []) else none
    | some (o, _, false) => (match cs[o]? with
      | some c => some (.one c, [])
      | none => none)
    | none => none)
  | .extract _ i, [.tup l] =>
    (match l[i]? with
    | some (true, cs) => some (.agg cs, [])
    | some (false, [c]) => some (.one c, [])
    | _ => none)
  | .fieldAddr t _ f, [.one (.ptr k off)] =>
    (match fieldAt? tt t f with
    | some (o, sz, _) => bif Nat.beq sz 0 then none else some (.one (.ptr k (off + o)), [])
    | none => none)
  | .fieldAddr t _ f, [.one (.rptr tok cs)] =>
    (match fieldAt? tt t f with
    | some (o, sz, _) => bif Nat.beq sz 0 then none else some (.one (.rptr tok (cs.drop o)), [])
    | none => none)
  | .nilCheck _, [.one (.ptr k off)] => some (.one (.ptr k off), [])
  | .nilCheck _, [.one (.rptr t cs)] => some (.one (.rptr t cs), [])
  | .build t ps, avs =>
    (match get tt t with
    | some ⟨.struct fs, _, zero, _⟩ => bif Nat.beq ps.size avs.length then (match fillC fs zero ((ps.toList.map (·.1)).zip avs) with
      | some cs => some (.agg cs, [])
      | none => none) else none
    | _ => none)
  | .makeFunc (.func f) first _, avs =>
    bif Nat.beq first.size 0 then (match ptrKeys avs with
      | some caps => some (.one (.fn f caps), [])
      | none => none) else none
  | .convert s d _, [.one (.int _ n)] =>
    (match get tt s, get tt d with
    | some _, some ⟨.int k, _, _, _⟩ => some (.one (.int k (k.wrap n)), [])
    | _, _ => none)
  | .call ⟨.builtin .len, _, tys⟩, [.one x] =>
    (match tys[0]? with
    | some t => (match get tt t, x with
      | some ⟨.sli _, _, _, _⟩, .slc _ _ l => some (.one (.int .i64 l.length), [])
      | some ⟨.str, _, _, _⟩, .str s => some (.one (.int .i64 s.size), [])
      | _, _ => none)
    | none => none)
  | .index t _ _, [.one (.str s), .one (.int _ i)] =>
    (match get tt t with
    | some ⟨.str, _, _, _⟩ => some (.one (.int .u8 (strAt s i)), [.idx i s.size])
    | _ => none)
  | .indexAddr t _ _, [.one (.slc tok n l), .one (.int _ i)] =>
    (match get tt t, orc, childTok tok with
    | some ⟨.sli e, _, _, _⟩, .row r, some tok' => (match get tt e with
      | some ei => bif Nat.beq ei.size n then some (.one (.rptr tok' r), [.elem l i r]) else none
      | none => none)
    | _, _, _ => none)
  | .slice t _ lo hi none, .one (.slc tok n l) :: r =>
    (match get tt t with
    | some ⟨.sli e, _, _, _⟩ => (match get tt e, optBound 0 lo r with
      | some ei, some (a, r1) => (match optBound l.length hi r1 with
        | some (b, []) => bif Nat.beq ei.size n then some (.one (.slc (subTok tok) n ((l.take b.toNat).drop a.toNat)), [.rng a b l.length]) else none
        | _ => none)
      | _, _ => none)
    | _ => none)
  | .slice t _ lo hi none, .one (.str s) :: r =>
    (match get tt t with
    | some ⟨.str, _, _, _⟩ => (match optBound 0 lo r with
      | some (a, r1) => (match optBound s.size hi r1 with
        | some (b, []) => some (.one (.str (s.extract a.toNat b.toNat)), [.rng a b s.size])
        | _ => none)
      | _ => none)
    | _ => none)
  | .load t _, [.one (.ptr k off)] =>
    (match get tt t, get bn k with
    | some ti, some cells => (match asVal ti ((cells.drop off).take ti.size) with
      | some v => some (v, [])
      | none => none)
    | _, _ => none)
  | .load t _, [.one (.rptr tok cs)] =>
    (match get tt t with
    | some ti => bif Nat.ble ti.size cs.length then (match asVal ti ((cs.take ti.size).map (liftC tok)) with
      | some v => some (v, [])
      | none => none) else none
    | none => none)
  | _, _ => none
def RowsLike (l : List (List PV)) : Prop := ∀ r, r ∈ l → ∀ p, p ∈ r → p.flat
/-! ### the table -/
structure TiOk (P : Program) (t : Nat) (i : TI) : Prop where
  und : ∃ d, P.underlying t = some d ∧ kindOk P d i.kind = true
  eqs : eqOk P t i = true
  info : ∃ inf z, P.info? t = some inf ∧ inf.size = i.size ∧ inf.bytes ≤ 1000 ∧ inf.zero = some z ∧ z.cells.size = i.size ∧ zerosOk z.cells.toList i.zero = true
theorem tiOk_spec {P : Program} {t : Nat} {i : TI} (h : tiOk P t i = true) : TiOk P t i := by
  unfold tiOk at h
  split at h
  · rename_i d inf hd hi
    simp only [Bool.and_eq_true] at h
    obtain ⟨⟨⟨⟨h1, h2⟩, h3⟩, h4⟩, h5⟩ := h
    split at h4
    · rename_i z hz
      simp only [Bool.and_eq_true] at h4
      exact ⟨⟨d, hd, h1⟩, h5, inf, z, hi, by simpa using h2, by simpa using h3, hz, by simpa using h4.1, h4.2⟩
    cases h4
  cases h
theorem ttOk_get {P : Program} : ∀ {tt : List (Nat × TI)} {t : Nat} {i : TI}, ttOk P tt = true → get tt t = some i → TiOk P t i
  | [], _, _, _, h => by cases h
  | (k, a) :: r, t, i, h, hg => by
    simp only [ttOk, Bool.and_eq_true] at h
    simp only [get] at hg
    split at hg
    · rename_i hk
      obtain rfl := Option.some.inj hg
      exact hk ▸ tiOk_spec h.1
    exact ttOk_get h.2 hg
theorem TiOk.sli {P : Program} {q : List LK} {t e n : Nat} {z : List C} (h : TiOk P t ⟨.sli e, n, z, q⟩) : P.underlying t = some (.slice e) := by
  obtain ⟨d, hd, hk⟩ := h.und
  cases d <;> simp [kindOk] at hk
  rw [hd, hk]
theorem TiOk.str {P : Program} {q : List LK} {t n : Nat} {z : List C} (h : TiOk P t ⟨.str, n, z, q⟩) : P.underlying t = some .string := by
  obtain ⟨d, hd, hk⟩ := h.und
  cases d <;> simp [kindOk] at hk
  exact hd
theorem TiOk.bool {P : Program} {q : List LK} {t n : Nat} {z : List C} (h : TiOk P t ⟨.bool, n, z, q⟩) : P.underlying t = some .bool := by
  obtain ⟨d, hd, hk⟩ := h.und
  cases d <;> simp [kindOk] at hk
  exact hd
theorem TiOk.int {P : Program} {q : List LK} {t n : Nat} {k : IntKind} {z : List C} (h : TiOk P t ⟨.int k, n, z, q⟩) : P.underlying t = some (.int k) := by
  obtain ⟨d, hd, hk⟩ := h.und
  cases d <;> simp [kindOk] at hk
  rw [hd, hk]
theorem TiOk.struct {P : Program} {q : List LK} {t n : Nat} {fs : List (Nat × Nat × Bool)} {z : List C} (h : TiOk P t ⟨.struct fs, n, z, q⟩) : ∃ gs : Array Field, P.underlying t = some (.struct gs) ∧ fieldsOk P gs.toList fs = true := by
  obtain ⟨d, hd, hk⟩ := h.und
  cases d with
  | struct gs => exact ⟨gs, hd, by simpa [kindOk] using hk⟩
  | _ => simp [kindOk] at hk
theorem TiOk.agg {P : Program} {t : Nat} {i : TI} (h : TiOk P t i) : ∃ d, P.underlying t = some d ∧ aggOf d = i.agg := by
  obtain ⟨d, hd, hk⟩ := h.und
  refine ⟨d, hd, ?_⟩
  obtain ⟨kind, _, _, _⟩ := i
  cases d <;> cases kind <;> simp_all [kindOk, TI.agg, aggOf]
theorem run_isAgg_of {P : Program} {t : Nat} {d : TypeDesc} (h : P.underlying t = some d) (w : World) : (isAgg t).run P w = .ok (aggOf d) w := by
  unfold isAgg
  simp only [Sem.run_bind, run_underlying h, Result.andThen_ok]
  cases d <;> rfl
theorem field_of {P : Program} : ∀ {gs : List Field} {fs : List (Nat × Nat × Bool)} {f o sz : Nat} {ag : Bool}, fieldsOk P gs fs = true → fs[f]? = some (o, sz, ag) →
    ∃ g inf d, gs[f]? = some g ∧ g.offset = o ∧ P.info? g.type = some inf ∧ inf.size = sz ∧ P.underlying g.type = some d ∧ aggOf d = ag
  | [], [], _, _, _, _, _, h => by simp at h
  | [], _ :: _, _, _, _, _, h, _ => by simp [fieldsOk] at h
  | _ :: _, [], _, _, _, _, h, _ => by simp [fieldsOk] at h
  | g :: gs, (o', sz', ag') :: fs, f, o, sz, ag, h, hf => by
    simp only [fieldsOk, Bool.and_eq_true] at h
    obtain ⟨⟨⟨h1, h2⟩, h3⟩, h4⟩ := h
    cases f with
    | succ f =>
      obtain ⟨g', inf, d, k1, k2⟩ := field_of (gs := gs) (fs := fs) h4 (f := f) (by simpa using hf)
      exact ⟨g', inf, d, by simpa using k1, k2⟩
    | zero =>
      simp at hf
      obtain ⟨rfl, rfl, rfl⟩ := hf
      split at h2
      · rename_i inf hi
        split at h3
        · rename_i d hd
          refine ⟨g, inf, d, rfl, by simpa using h1, hi, by simpa using h2, hd, ?_⟩
          revert h3
          generalize aggOf d = x
          cases x <;> cases ag' <;> simp
        cases h3
      cases h2
end
section
open Go.RowKit
def Ob.holds (A : Nat → List AV → AV → Prop) (T : TakeT) : Ob → Prop
  | .call f args r => A f args r
  | .eq a b => a = b
  | .elem l i r => 0 ≤ i ∧ l[i.toNat]? = some r
  | .rng lo hi n => 0 ≤ lo ∧ lo ≤ hi ∧ hi ≤ n
  | .idx i n => 0 ≤ i ∧ i < n
  | .flat l => RowsLike l
  | .len n => n ≤ 1073741824
  | .slen n => n ≤ maxLen
  | .nz n => n ≠ 0
  | .inr k n => InR k n
  | .take f n l args mix turn l' => T.take f n l args mix turn l'
  | .give f cs args r cs' => T.give f cs args r cs'
  | .new f args cs => T.new f args cs
  | .ins f n => T.ins f n
def AllOb (A : Nat → List AV → AV → Prop) (T : TakeT) : List Ob → Prop
  | [] => True
  | [x] => x.holds A T
  | x :: r => x.holds A T ∧ AllOb A T r
theorem AllOb.cons {A : Nat → List AV → AV → Prop} {T : TakeT} {x : Ob} {r : List Ob} (h : AllOb A T (x :: r)) : x.holds A T ∧ AllOb A T r := by
  cases r with
  | nil => exact ⟨h, trivial⟩
  | cons y r => exact h
theorem AllOb.append {A : Nat → List AV → AV → Prop} {T : TakeT} : ∀ {x y : List Ob}, AllOb A T (x ++ y) → AllOb A T x ∧ AllOb A T y
  | [], y, h => ⟨trivial, h⟩
  | [a], y, h => AllOb.cons h
  | a :: b :: r, y, h => by
    obtain ⟨h1, h2⟩ := AllOb.cons h
    obtain ⟨h3, h4⟩ := AllOb.append (x := b :: r) h2
    exact ⟨⟨h1, h3⟩, h4⟩
section
variable {P : Program} {A : Nat → List AV → AV → Prop} {T : TakeT} {J : Inj} {w : World}
theorem inR_shr {k : IntKind} {a b : Int} (h : InR k a) : InR k (shrI k a b) := by
  have hp : (0 : Int) < 2 ^ (min b.toNat k.bits) := Int.pow_pos (by decide)
  have e : shrI k a b = a / 2 ^ (min b.toNat k.bits) := by unfold shrI; exact Int.fdiv_eq_ediv_of_nonneg _ (by omega)
  rw [e]
  generalize (2 : Int) ^ (min b.toNat k.bits) = p at hp
  have h0 : k.min ≤ 0 ∧ 0 ≤ k.max := by cases k <;> decide
  obtain ⟨h1, h2⟩ := h
  constructor
  · by_cases ha : 0 ≤ a
    · have := Int.ediv_nonneg ha (by omega : 0 ≤ p); omega
    have : a ≤ a / p := (Int.le_ediv_iff_mul_le hp).2 (by
      have : a * p ≤ a * 1 := Int.mul_le_mul_of_nonpos_left (by omega) (by omega)
      omega)
    omega
  have : a / p ≤ k.max := (Int.ediv_le_iff_le_mul hp).2 (by
    have : k.max * 1 ≤ k.max * p := Int.mul_le_mul_of_nonneg_left (by omega) h0.2
    omega)
  exact this
theorem binC_ok {op : BinOp} {x y c : C} {obs : List Ob} {vx vy : Value} (h : binC op x y = some (c, obs)) (hob : AllOb A T obs) (hx : CR J w vx x) (hy : CR J w vy y) (t : TypeId) (px py : Operand) :
    ∃ u, (do eqGuard op t px py vx vy; binOp op t vx vy : Sem Value).run P w = .ok u w ∧ CR J w u c := by
  unfold binC at h
  split at h
  · rename_i k a k' b
    obtain ⟨rfl, ha⟩ := hx
    obtain ⟨rfl, hb⟩ := hy
    cases hs : isShr op with
    | true =>
      rw [hs] at h
      simp only [cond_true] at h
      cases op <;> try cases hs
      by_cases hb0 : 0 ≤ b
      · simp only [hb0, decide_true, cond_true, Option.some.injEq, Prod.mk.injEq] at h
        obtain ⟨rfl, rfl⟩ := h
        have hb1 : ¬ b < 0 := by omega
        exact ⟨.int k (shrI k a b), by simp [eqGuard, binOp, Op.shift, hb1, shrI], rfl, inR_shr ha⟩
      simp [hb0] at h
    | false =>
    rw [hs] at h
    simp only [cond_false] at h
    by_cases hk : k = k'
    · subst hk
      simp only [decide_true, cond_true] at h
      cases op <;> simp [binInt] at h <;> obtain ⟨rfl, rfl⟩ := h
      case quo =>
        have hz : ¬ (b = 0) := hob
        exact ⟨_, by simp [eqGuard, binOp, Op.intDiv, hz], rfl, inR_wrap _ _⟩
      case rem =>
        have hz : ¬ (b = 0) := hob.1
        exact ⟨_, by simp [eqGuard, binOp, Op.intDiv, hz], rfl, hob.2⟩
      case and => exact ⟨.int k (andI k a b), by simp [eqGuard, binOp, Op.intBits, andI], rfl, inR_wrap _ _⟩
      case xor => exact ⟨.int k (xorI k a b), by simp [eqGuard, binOp, Op.intBits, xorI], rfl, inR_wrap _ _⟩
      all_goals first
        | exact ⟨_, by simp [eqGuard, binOp, Op.intArith], rfl, inR_wrap _ _⟩
        | exact ⟨_, by simp [eqGuard, binOp, Op.intCmp], rfl⟩
    simp [hk] at h
  · rename_i a b
    obtain ⟨rfl, ha⟩ := hx
    obtain ⟨rfl, hb⟩ := hy
    cases op <;> simp [binStr] at h <;> obtain ⟨rfl, rfl⟩ := h
    case add =>
      have hz : a.size + b.size ≤ maxLen := hob
      have hz' : ¬ (((a.size + b.size : Nat) : Int) > IntKind.i64.max) := by unfold maxLen at hz; simp [IntKind.max, IntKind.bits, IntKind.signed]; omega
      refine ⟨.string (a ++ b), ?_, rfl, by simpa using hz⟩
      simp only [eqGuard, binOp, Op.stringOp, if_neg hz']
      rfl
    all_goals exact ⟨_, by simp [eqGuard, binOp, Op.stringOp], rfl⟩
  cases h
theorem binBool_ok {tt : List (Nat × TI)} (htt : ttOk P tt = true) {op : BinOp} {t : Nat} {a b : Bool} {c : C} {obs : List Ob} (h : binBool tt op t a b = some (c, obs)) (px py : Operand) :
    ∃ u, (do eqGuard op t px py (.bool a) (.bool b); binOp op t (.bool a) (.bool b) : Sem Value).run P w = .ok u w ∧ CR J w u c := by
  unfold binBool at h
  split at h
  · rename_i n z hg
    have hu := (ttOk_get htt hg).bool
    have he : (Op.equal t (.bool a) (.bool b)).run P w = .ok (a == b) w := run_equalIn_bool w 9999 t a b hu
    cases op <;> simp at h <;> obtain ⟨rfl, rfl⟩ := h
    · exact ⟨_, by simp [eqGuard, binOp, he], rfl⟩
    exact ⟨_, by simp [eqGuard, binOp, he], rfl⟩
  cases h
theorem typeInfo_run {t : Nat} {inf : TypeInfo} (h : P.info? t = some inf) (w : World) : (typeInfo t).run P w = .ok inf w := by simp [typeInfo, h]
theorem sizeOf_run {t : Nat} {i : TI} (h : TiOk P t i) (w : World) : (sizeOf t).run P w = .ok i.size w := by
  obtain ⟨inf, z, h1, h2, _⟩ := h.info
  simp [sizeOf, typeInfo_run h1, h2]
theorem asVal_ok {ti : TI} {t : Nat} (hti : TiOk P t ti) {vs : List Value} {cs : List C} {v : AV} (hall : All2 (CR J w) vs cs) (hv : asVal ti cs = some v) {b off : Nat} (hc : ∀ (j : Nat) (u : Value), vs[j]? = some u → w.cell? ⟨b, off + j, none⟩ = some u) :
    ∃ u, (loadVar t ⟨b, off, none⟩).run P w = .ok u w ∧ AR J w u v := by
  obtain ⟨d, hd, hagg⟩ := hti.agg
  unfold asVal at hv
  cases ha : ti.agg with
  | true =>
    rw [ha] at hv
    simp only [] at hv
    cases hl : Nat.beq cs.length ti.size with
    | false => rw [hl] at hv; cases hv
    | true =>
      rw [hl] at hv
      obtain rfl := Option.some.inj hv
      have hlen : vs.length = ti.size := by rw [hall.length]; simpa using hl
      have hld := run_loadCells_list (P := P) w ⟨b, off, none⟩ vs (fun j u hj => by rw [Addr.add_lit]; exact hc j u hj)
      refine ⟨.agg vs.toArray, ?_, vs, rfl, hall⟩
      rw [hlen] at hld
      simp [loadVar, run_isAgg_of hd, hagg, ha, sizeOf_run hti, hld]
  | false =>
    rw [ha] at hv
    simp only [] at hv
    split at hv
    · obtain rfl := Option.some.inj hv
      cases hall with
      | cons h1 h2 =>
        cases h2
        rename_i u
        refine ⟨u, ?_, h1⟩
        have := hc 0 u rfl
        rw [Nat.add_zero] at this
        simp [loadVar, run_isAgg_of hd, hagg, ha, load, Sem.run, this]
    cases hv
theorem liftC_ok {tok : Tok} {X : Nat → Prop} (hX : ∀ c n l, VV X w c (.slc n l) → CR J w c (.slc tok n l)) {v : Value} {p : PV} (h : VV X w v p) : CR J w v (liftC tok p) := by
  cases p with
  | int k n => cases h; exact ⟨rfl, ‹_›⟩
  | bool b => cases h; rfl
  | str s => cases h; exact ⟨rfl, ‹_›⟩
  | slc n l => exact hX v n l h
  | any => exact trivial
  | raw u => cases h; exact ⟨rfl, ‹_›, ‹_›⟩
theorem drop_cells {vs : List Value} {b off k : Nat} (hc : ∀ (j : Nat) (u : Value), vs[j]? = some u → w.cell? ⟨b, off + j, none⟩ = some u) : ∀ (j : Nat) (u : Value), (vs.drop k)[j]? = some u → w.cell? ⟨b, off + k + j, none⟩ = some u := by
  intro j u hj
  rw [List.getElem?_drop] at hj
  rw [Nat.add_assoc]
  exact hc _ u hj
theorem take_cells {vs : List Value} {b off k : Nat} (hc : ∀ (j : Nat) (u : Value), vs[j]? = some u → w.cell? ⟨b, off + j, none⟩ = some u) : ∀ (j : Nat) (u : Value), (vs.take k)[j]? = some u → w.cell? ⟨b, off + j, none⟩ = some u := by
  intro j u hj
  rw [List.getElem?_take] at hj
  split at hj
  · exact hc _ u hj
  cases hj
theorem slc_elem {tok tok' : Tok} {n : Nat} {l : List (List PV)} {v : Value} (h : CR J w v (.slc tok n l)) (ht : childTok tok = some tok') {i : Nat} {r : List PV} (hi : l[i]? = some r) :
    ∃ b off cap vs, v = .slice (some ⟨b, off, none⟩) l.length cap ∧ J.X tok' b ∧ VC (J.X tok') w vs r ∧ r.length = n ∧ ∀ (j : Nat) (u : Value), vs[j]? = some u → w.cell? ⟨b, off + i * n + j, none⟩ = some u := by
  have key : ∀ X : Nat → Prop, VV X w v (.slc n l) → ∃ b off cap vs, v = .slice (some ⟨b, off, none⟩) l.length cap ∧ X b ∧ VC X w vs r ∧ r.length = n ∧ ∀ (j : Nat) (u : Value), vs[j]? = some u → w.cell? ⟨b, off + i * n + j, none⟩ = some u := by
    intro X hv
    generalize hp : PV.slc n l = p at hv
    cases hv with
    | int | bool | str | any | raw => cases hp
    | emp oa n' hcap => cases hp; simp at hi
    | slc hb hc hr h1 h2 =>
      cases hp
      obtain ⟨h3, h4⟩ := hr.get hi
      refine ⟨_, _, _, _, rfl, hb, h3, h4, ?_⟩
      exact take_cells (drop_cells hc)
  cases tok with
  | sh => obtain rfl : Tok.sh = tok' := by simpa [childTok] using ht
          exact key _ h
  | emp => cases ht
  | put => cases ht
  | vw k => obtain rfl : Tok.vw k = tok' := by simpa [childTok] using ht
            exact key _ h
  | own d k =>
    obtain rfl : Tok.vw k = tok' := by simpa [childTok] using ht
    cases d with
    | true => exact key _ (OwnDeep.vv h fun b hb => ⟨Or.inl hb, rfl⟩)
    | false => exact key _ (OwnTop.vv h (fun b hb => ⟨.inr hb, rfl⟩) fun b hb => ⟨.inl hb, rfl⟩)
theorem slc_slice {tok : Tok} {n : Nat} {l : List (List PV)} {v : Value} (h : CR J w v (.slc tok n l)) : ∃ oa cap, v = .slice oa l.length cap ∧ l.length ≤ cap ∧ cap ≤ maxLen ∧ (tok = .emp → cap = 0) := by
  have key : ∀ X : Nat → Prop, VV X w v (.slc n l) → ∃ oa cap, v = .slice oa l.length cap ∧ l.length ≤ cap ∧ cap ≤ maxLen := by
    intro X hv
    generalize hp : PV.slc n l = p at hv
    cases hv with
    | int | bool | str | any | raw => cases hp
    | emp oa n' hcap => cases hp; exact ⟨oa, _, rfl, Nat.zero_le _, hcap⟩
    | slc hb hc hr h1 h2 => cases hp; exact ⟨_, _, rfl, h1, h2.1⟩
  cases tok with
  | sh => obtain ⟨a, b, c, d, e⟩ := key _ h; exact ⟨a, b, c, d, e, by simp⟩
  | emp => obtain ⟨rfl, oa, rfl⟩ := h; exact ⟨oa, 0, rfl, Nat.le_refl _, Nat.zero_le _, fun _ => rfl⟩
  | vw k => obtain ⟨a, b, c, d, e⟩ := key _ h; exact ⟨a, b, c, d, e, by simp⟩
  | put => exact h.elim
  | own d k =>
    cases d with
    | true => obtain ⟨a, b, c, d, e⟩ := key (fun _ => True) (OwnDeep.vv h fun b hb => ⟨trivial, rfl⟩); exact ⟨a, b, c, d, e, by simp⟩
    | false => obtain ⟨a, b, c, d, e⟩ := key (fun _ => True) (OwnTop.vv h (fun b hb => ⟨trivial, rfl⟩) fun b hb => ⟨trivial, rfl⟩); exact ⟨a, b, c, d, e, by simp⟩
theorem VV.sub {X : Nat → Prop} {n lo hi cap : Nat} {l : List (List PV)} {oa : Option Addr} (h : VV X w (.slice oa l.length cap) (.slc n l)) (h1 : lo ≤ hi) (h2 : hi ≤ l.length) (m : Nat) (hm : hi - lo ≤ m ∧ m ≤ maxLen) :
    VV X w (.slice (oa.map (·.add (lo * n))) (hi - lo) m) (.slc n ((l.take hi).drop lo)) := by
  have hlen : ((l.take hi).drop lo).length = hi - lo := by simp [Nat.min_eq_left h2]
  generalize hp : PV.slc n l = p at h
  generalize hv : Value.slice oa l.length cap = v at h
  cases h with
  | int | bool | str | any | raw => cases hp
  | emp oa' n' hcap =>
    cases hp
    simp at h2
    subst h2
    have : lo = 0 := by omega
    subst this
    simpa using VV.emp (X := X) (w := w) (oa.map (·.add (0 * n))) n hm.2
  | @slc b off cap' n' cs l' hb hc hr h3 h4 =>
    cases hp
    cases hv
    rw [← hlen]
    simp only [Option.map_some, Addr.add_lit]
    refine .slc (cs := (cs.take (hi * n)).drop (lo * n)) hb ?_ ((hr.take hi).drop lo) (by rw [hlen]; exact hm.1) ⟨hm.2, by have := h4.2; omega⟩
    exact drop_cells (take_cells hc)
end
end
section
open Go.RowKit
section
variable {P : Program} {A : Nat → List AV → AV → Prop} {T : TakeT} {J : Inj} {w : World}
theorem inR_len {n : Nat} (h : n ≤ maxLen) : InR .i64 (n : Int) := by
  unfold maxLen at h
  exact (inR_i64 _).2 ⟨by omega, by omega⟩
theorem inR_byte (b : UInt8) : InR .u8 (b.toNat : Int) := by
  have := b.toNat_lt
  simp [InR, IntKind.min, IntKind.max, IntKind.bits, IntKind.signed]
  omega
theorem zeros_ok : ∀ {vs : List Value} {cs : List C}, zerosOk vs cs = true → All2 (CR J w) vs cs
  | [], [], _ => .nil
  | [], _ :: _, h => by simp [zerosOk] at h
  | _ :: _, [], h => by simp [zerosOk] at h
  | v :: vs, c :: cs, h => by
    simp only [zerosOk, Bool.and_eq_true] at h
    refine .cons ?_ (zeros_ok h.2)
    have h1 := h.1
    unfold zeroOk at h1
    split at h1
    · simp at h1
      obtain ⟨⟨rfl, rfl⟩, rfl⟩ := h1
      refine ⟨rfl, ?_⟩
      cases ‹IntKind› <;> simp [InR, IntKind.min, IntKind.max, IntKind.bits, IntKind.signed]
    · simp at h1
      obtain ⟨rfl, rfl⟩ := h1
      rfl
    · rename_i s t
      simp at h1
      obtain ⟨rfl, rfl⟩ := h1
      exact ⟨rfl, Nat.zero_le _⟩
    · exact ⟨rfl, none, rfl⟩
    cases h1
theorem foldl_put : ∀ (us : List Value) (o k : Nat) (cells : Array Value), o + k + us.length ≤ cells.size →
    (us.zipIdx k).foldl (fun cs (c, j) => cs.setIfInBounds (o + j) c) cells = putCells cells (o + k) us
  | [], _, _, _, _ => rfl
  | u :: us, o, k, cells, h => by
    simp only [List.zipIdx_cons, List.foldl_cons, putCells]
    rw [foldl_put us o (k + 1) _ (by simp at h ⊢; omega)]
    rfl
theorem putCells_list {us : List Value} {o : Nat} {cells : Array Value} (h : o + us.length ≤ cells.size) : (putCells cells o us).toList = cells.toList.take o ++ us ++ cells.toList.drop (o + us.length) := by
  apply List.ext_getElem?
  intro j
  rw [Array.getElem?_toList]
  by_cases h1 : j < o
  · rw [putCells_out us o cells j (.inl h1), List.append_assoc, List.getElem?_append_left (by simp; omega), List.getElem?_take, if_pos h1, Array.getElem?_toList]
  by_cases h2 : j < o + us.length
  · obtain ⟨k, rfl⟩ : ∃ k, j = o + k := ⟨j - o, by omega⟩
    have hl : (cells.toList.take o).length = o := by simp; omega
    rw [putCells_in us o cells k h (by omega), List.append_assoc, List.getElem?_append_right (by omega), hl, List.getElem?_append_left (by omega)]
    congr 1
    omega
  rw [putCells_out us o cells j (.inr (by omega))]
  have hl : (cells.toList.take o ++ us).length = o + us.length := by simp; omega
  rw [List.getElem?_append_right (by omega), hl, List.getElem?_drop, Array.getElem?_toList]
  congr 1
  omega
theorem alive_cells {v : Value} {c : C} (h : CR J w v c) (ha : alive c = true) : v.cells = #[v] ∧ v.oneCell' = true := by
  have key : ∀ n l X, VV X w v (.slc n l) → v.cells = #[v] ∧ v.oneCell' = true := by
    intro n l X hv
    generalize PV.slc n l = p at hv
    cases hv with
    | any h1 h2 => exact ⟨h1, h2⟩
    | raw h1 h2 => exact ⟨h1, h2⟩
    | _ => exact ⟨rfl, rfl⟩
  cases c with
  | int => obtain ⟨rfl, _⟩ := h; exact ⟨rfl, rfl⟩
  | bool => obtain rfl := h; exact ⟨rfl, rfl⟩
  | str => obtain ⟨rfl, _⟩ := h; exact ⟨rfl, rfl⟩
  | slc t n l => obtain ⟨oa, cap, rfl, _⟩ := slc_slice h; exact ⟨rfl, rfl⟩
  | ptr k o => obtain rfl := h; exact ⟨rfl, rfl⟩
  | rptr t cs => obtain ⟨b, off, vs, rfl, _⟩ := h; exact ⟨rfl, rfl⟩
  | ept d k n i o cs => obtain ⟨g, r, vs, _, rfl, _⟩ := h; exact ⟨rfl, rfl⟩
  | fn f caps => obtain rfl := h; exact ⟨rfl, rfl⟩
  | fnr f caps => obtain ⟨vs, rfl, _⟩ := h; exact ⟨rfl, rfl⟩
  | raw u => exact h.2
  | dead => cases ha
theorem allAlive_one : ∀ {vs : List Value} {cs : List C}, All2 (CR J w) vs cs → allAlive cs = true → ∀ u, u ∈ vs → u.oneCell' = true
  | _, _, .nil, _, u, hu => by simp at hu
  | _, _, .cons h1 h2, h, u, hu => by
    simp only [allAlive, Bool.and_eq_true] at h
    rcases List.mem_cons.1 hu with rfl | hu
    · exact (alive_cells h1 h.1).2
    exact allAlive_one h2 h.2 u hu
theorem flat_cells {v : Value} {x : AV} {cs : List C} (h : AR J w v x) (hf : x.flatCells = some cs) (ha : allAlive cs = true) : All2 (CR J w) v.cells.toList cs := by
  cases x with
  | one c =>
    obtain rfl : [c] = cs := by simpa [AV.flatCells] using hf
    simp only [allAlive, Bool.and_true] at ha
    have := (alive_cells (v := v) (c := c) h ha).1
    rw [this]
    exact .cons h .nil
  | agg l =>
    obtain rfl : l = cs := by simpa [AV.flatCells] using hf
    obtain ⟨vs, rfl, h2⟩ := h
    exact h2
  | tup l => cases hf
theorem fill_ok (place : Nat → Option (Nat × Nat)) {fs : List (Nat × Nat × Bool)} (hp : ∀ i o sz ag, fs[i]? = some (o, sz, ag) → place i = some (o, sz)) :
    ∀ (l : List (Nat × AV)) (vs : List Value) (cells : Array Value) (cs cs' : List C), All2 (CR J w) cells.toList cs → All2 (fun v p => AR J w v p.2) vs l → fillC fs cs l = some cs' →
      ∃ out, Instr.fill place cells ((l.map (·.1)).zip vs) = some out ∧ All2 (CR J w) out.toList cs' := by
  intro l
  induction l with
  | nil =>
    intro vs cells cs cs' hc hv h
    cases hv
    obtain rfl : cs = cs' := by simpa [fillC] using h
    exact ⟨cells, rfl, hc⟩
  | cons p l ih =>
    intro vs cells cs cs' hc hv h
    obtain ⟨i, x⟩ := p
    cases hv with
    | cons h1 h2 =>
      rename_i v vs
      simp only [fillC] at h
      split at h
      · rename_i o sz ag ys hi hy
        cases hb : (Nat.beq ys.length sz && Nat.ble (o + sz) cs.length && allAlive ys) with
        | false => rw [hb] at h; cases h
        | true =>
          rw [hb] at h
          simp only [Bool.and_eq_true, Nat.beq_eq, Nat.ble_eq] at hb
          obtain ⟨⟨e1, e2⟩, e3⟩ := hb
          have hcl := flat_cells h1 hy e3
          have hn : v.cells.size = sz := by have := hcl.length; simp at this; omega
          have hcs := hc.length
          simp at hcs
          have hput := foldl_put v.cells.toList o 0 cells (by simp; omega)
          have hput' : v.cells.zipIdx.foldl (fun cs x => cs.setIfInBounds (o + x.2) x.1) cells = putCells cells o v.cells.toList := by
            rw [Nat.add_zero] at hput
            rw [← hput, ← Array.foldl_toList]
            simp
          have hc' : All2 (CR J w) (putCells cells o v.cells.toList).toList (cs.take o ++ ys ++ cs.drop (o + sz)) := by
            rw [putCells_list (by simp; omega)]
            refine ((hc.take o).append hcl).append ?_
            rw [show o + v.cells.toList.length = o + sz by simp; omega]
            exact hc.drop _
          obtain ⟨out, ho, ha⟩ := ih vs _ _ cs' hc' h2 h
          refine ⟨out, ?_, ha⟩
          simp only [List.map_cons, List.zip_cons_cons, Instr.fill, hp i o sz ag hi]
          rw [if_neg (by simp [hn]; omega)]
          exact (congrArg (fun z => Instr.fill place z _) hput').trans ho
      cases h
/-! ### == of structs -/
theorem cellsEq_len : ∀ {ls : List LK} {xs ys : List C} {b : Bool}, cellsEq ls xs ys = some b → xs.length = ls.length ∧ ys.length = ls.length
  | [], [], [], _, _ => ⟨rfl, rfl⟩
  | [], [], _ :: _, _, h => by cases h
  | [], _ :: _, _, _, h => by cases h
  | _ :: _, [], _, _, h => by cases h
  | _ :: _, _ :: _, [], _, h => by cases h
  | l :: ls, x :: xs, y :: ys, b, h => by
    simp only [cellsEq] at h
    split at h
    · rename_i e1 e2
      have := cellsEq_len e2
      exact ⟨by simp [this.1], by simp [this.2]⟩
    cases h
theorem cellsEq_app : ∀ {ls ls' : List LK} {xs ys : List C} {b : Bool}, cellsEq (ls ++ ls') xs ys = some b → ∃ p q, cellsEq ls (xs.take ls.length) (ys.take ls.length) = some p ∧ cellsEq ls' (xs.drop ls.length) (ys.drop ls.length) = some q ∧ b = (p && q)
  | [], ls', xs, ys, b, h => ⟨true, b, by simp [cellsEq], by simpa using h, rfl⟩
  | l :: ls, ls', [], ys, b, h => by cases h
  | l :: ls, ls', x :: xs, [], b, h => by cases h
  | l :: ls, ls', x :: xs, y :: ys, b, h => by
    simp only [List.cons_append, cellsEq] at h
    split at h
    · rename_i p0 q0 e1 e2
      obtain rfl := Option.some.inj h
      obtain ⟨p, q, h1, h2, rfl⟩ := cellsEq_app e2
      exact ⟨p0 && p, q, by simp [cellsEq, e1, h1], by simpa using h2, by rw [Bool.and_assoc]⟩
    cases h
def asV (P : Program) (t : Nat) (vs : List Value) : Value := match P.underlying t with
  | some (.struct _) => .agg vs.toArray
  | _ => vs.headD undef
theorem asV_one {t : Nat} {dd : TypeDesc} (h : P.underlying t = some dd) (hag : aggOf dd = false) (v : Value) : asV P t [v] = v := by
  unfold asV
  rw [h]
  cases dd <;> first | rfl | cases hag
theorem eqFs_ok {f : Nat → Option (List LK)} {d : Nat} (hf : ∀ t l, f t = some l → ∀ {vs us : List Value} {xs ys : List C} {b : Bool}, All2 (CR J w) vs xs → All2 (CR J w) us ys → cellsEq l xs ys = some b → (Op.equalIn d t (asV P t vs) (asV P t us)).run P w = .ok b w)
    (hk : ∀ t l, f t = some l → (∃ fs, P.underlying t = some (.struct fs)) ∨ (l.length = 1 ∧ ∃ dd, P.underlying t = some dd ∧ aggOf dd = false)) : ∀ (gs : List Field) (off : Nat) (l : List LK), eqFs P f gs off = some l → ∀ {VS US : List Value} {xs ys : List C} {b : Bool}, All2 (CR J w) (VS.drop off) xs → All2 (CR J w) (US.drop off) ys →
      cellsEq l xs ys = some b → (Op.eqFields d VS.toArray US.toArray gs).run P w = .ok b w
  | [], off, l, h, VS, US, xs, ys, b, h1, h2, he => by
    obtain rfl : [] = l := by simpa [eqFs] using h
    have hl := cellsEq_len he
    obtain rfl : xs = [] := List.eq_nil_of_length_eq_zero (by simpa using hl.1)
    obtain rfl : ys = [] := List.eq_nil_of_length_eq_zero (by simpa using hl.2)
    obtain rfl : true = b := by simpa [cellsEq] using he
    simp [Op.eqFields]
  | g :: gs, off, l, h, VS, US, xs, ys, b, h1, h2, he => by
    simp only [eqFs] at h
    cases hn : decide (g.name = "_") with
    | true => rw [hn] at h; cases h
    | false =>
      rw [hn] at h
      cases hb : Nat.beq g.offset off with
      | false => rw [hb] at h; cases h
      | true =>
        rw [hb] at h
        simp only [cond_true, cond_false] at h
        have hoff : g.offset = off := by simpa using hb
        split at h
        · rename_i l1 inf hsz hi
          cases hc : (Nat.beq inf.size l1.length && Nat.blt 0 l1.length) with
          | false => rw [hc] at h; cases h
          | true =>
            rw [hc] at h
            simp only [Bool.and_eq_true, Nat.beq_eq, Nat.blt_eq] at hc
            obtain ⟨hc1, hc2⟩ := hc
            simp only [cond_true] at h
            split at h
            · rename_i m hm
              obtain rfl := Option.some.inj h
              obtain ⟨p, q, e1, e2, rfl⟩ := cellsEq_app he
              have hle := cellsEq_len he
              have hlv := h1.length
              have hlu := h2.length
              simp only [List.length_drop, List.length_append] at hlv hlu hle
              have r1 := hf g.type l1 hsz (h1.take l1.length) (h2.take l1.length) e1
              have hd1 : All2 (CR J w) (VS.drop (off + l1.length)) (xs.drop l1.length) := by rw [← List.drop_drop]; exact h1.drop _
              have hd2 : All2 (CR J w) (US.drop (off + l1.length)) (ys.drop l1.length) := by rw [← List.drop_drop]; exact h2.drop _
              have r2 := eqFs_ok hf hk gs (off + l1.length) m hm hd1 hd2 e2
              have hpart : ∀ (VS : List Value), off + l1.length ≤ VS.length → (part g.type VS.toArray g.offset).run P w = .ok (asV P g.type ((VS.drop off).take l1.length)) w := by
                intro VS hV
                rw [hoff]
                rcases hk g.type l1 hsz with ⟨fs, hfs⟩ | ⟨h1l, dd, hdd, hag⟩
                · unfold part asV
                  rw [hfs]
                  simp only [Sem.run_bind, run_isAgg_of hfs, Result.andThen_ok, aggOf]
                  simp [sizeOf, typeInfo_run hi, hc1, List.take_drop, Nat.add_comm]
                have hh : VS[off]? = some VS[off] := List.getElem?_eq_getElem (by omega)
                have hv : asV P g.type ((VS.drop off).take l1.length) = VS[off] := by
                  rw [h1l, List.drop_eq_getElem_cons (by omega)]
                  exact asV_one hdd hag _
                unfold part
                simp only [Sem.run_bind, run_isAgg_of hdd, Result.andThen_ok, hag]
                rw [hv]
                simp [hh]
              have hn' : ¬ g.name = "_" := by simpa using hn
              simp only [Op.eqFields, ne_eq, hn', not_false_eq_true, if_true, Sem.run_bind, hpart VS (by omega), hpart US (by omega), Result.andThen_ok, r1]
              cases p
              · simp
              simp [r2]
            cases h
        cases h
theorem eqType_kind : ∀ {n t : Nat} {l : List LK}, eqType P n t = some l → (∃ fs, P.underlying t = some (.struct fs)) ∨ (l.length = 1 ∧ ∃ dd, P.underlying t = some dd ∧ aggOf dd = false)
  | 0, t, l, h => by cases h
  | n + 1, t, l, h => by
    simp only [eqType] at h
    split at h
    · rename_i hu; obtain rfl := Option.some.inj h; exact .inr ⟨rfl, _, hu, rfl⟩
    · rename_i hu; obtain rfl := Option.some.inj h; exact .inr ⟨rfl, _, hu, rfl⟩
    · rename_i hu; obtain rfl := Option.some.inj h; exact .inr ⟨rfl, _, hu, rfl⟩
    · rename_i hu; exact .inl ⟨_, hu⟩
    cases h
theorem one_cell {l : LK} {vs us : List Value} {xs ys : List C} {b : Bool} (h1 : All2 (CR J w) vs xs) (h2 : All2 (CR J w) us ys) (he : cellsEq [l] xs ys = some b) : ∃ x y v u, vs = [v] ∧ us = [u] ∧ CR J w v x ∧ CR J w u y ∧ cellEq l x y = some b := by
  have hl := cellsEq_len he
  match xs, ys, hl with
  | [x], [y], _ =>
    cases h1 with
    | cons g1 g1' =>
      cases g1'
      cases h2 with
      | cons g2 g2' =>
        cases g2'
        refine ⟨x, y, _, _, rfl, rfl, g1, g2, ?_⟩
        simp only [cellsEq] at he
        split at he
        · rename_i p q e1 e2
          obtain rfl : true = q := by simpa using e2
          rw [e1]; simpa using he
        cases he
theorem cellEq_int {x y : C} {b : Bool} (h : cellEq .int x y = some b) : ∃ k a a2, x = .int k a ∧ y = .int k a2 ∧ (a == a2) = b := by
  cases x with
  | int k a => cases y with
    | int k2 a2 =>
      by_cases hk : k = k2
      · subst hk
        simp only [cellEq, decide_true, cond_true, Option.some.injEq] at h
        exact ⟨k, a, a2, rfl, rfl, h⟩
      simp [cellEq, hk] at h
    | _ => cases h
  | _ => cases h
theorem cellEq_bool {x y : C} {b : Bool} (h : cellEq .bool x y = some b) : ∃ a a2, x = .bool a ∧ y = .bool a2 ∧ (a == a2) = b := by
  cases x with
  | bool a => cases y with
    | bool a2 => exact ⟨a, a2, rfl, rfl, Option.some.inj h⟩
    | _ => cases h
  | _ => cases h
theorem cellEq_str {x y : C} {b : Bool} (h : cellEq .str x y = some b) : ∃ a a2, x = .str a ∧ y = .str a2 ∧ (a.toList == a2.toList) = b := by
  cases x with
  | str a => cases y with
    | str a2 => exact ⟨a, a2, rfl, rfl, Option.some.inj h⟩
    | _ => cases h
  | _ => cases h
theorem eqType_ok : ∀ (n t : Nat) (l : List LK), eqType P n t = some l → ∀ (d : Nat), n ≤ d → ∀ {vs us : List Value} {xs ys : List C} {b : Bool}, All2 (CR J w) vs xs → All2 (CR J w) us ys → cellsEq l xs ys = some b → (Op.equalIn d t (asV P t vs) (asV P t us)).run P w = .ok b w
  | 0, t, l, h => by cases h
  | n + 1, t, l, h => by
    intro d hd vs us xs ys b h1 h2 he
    obtain ⟨d, rfl⟩ : ∃ k, d = k + 1 := ⟨d - 1, by omega⟩
    simp only [eqType] at h
    split at h
    · rename_i k hu
      obtain rfl := Option.some.inj h
      obtain ⟨x, y, v, u, rfl, rfl, c1, c2, hc⟩ := one_cell h1 h2 he
      rw [asV_one hu rfl, asV_one hu rfl]
      obtain ⟨k1, a, a2, rfl, rfl, rfl⟩ := cellEq_int hc
      obtain ⟨rfl, _⟩ := c1
      obtain ⟨rfl, _⟩ := c2
      exact run_equalIn_int w d t k1 k a a2 hu
    · rename_i hu
      obtain rfl := Option.some.inj h
      obtain ⟨x, y, v, u, rfl, rfl, c1, c2, hc⟩ := one_cell h1 h2 he
      rw [asV_one hu rfl, asV_one hu rfl]
      obtain ⟨a, a2, rfl, rfl, rfl⟩ := cellEq_bool hc
      obtain rfl := c1
      obtain rfl := c2
      exact run_equalIn_bool w d t _ _ hu
    · rename_i hu
      obtain rfl := Option.some.inj h
      obtain ⟨x, y, v, u, rfl, rfl, c1, c2, hc⟩ := one_cell h1 h2 he
      rw [asV_one hu rfl, asV_one hu rfl]
      obtain ⟨a, a2, rfl, rfl, rfl⟩ := cellEq_str hc
      obtain ⟨rfl, _⟩ := c1
      obtain ⟨rfl, _⟩ := c2
      exact run_equalIn_string w d t _ _ hu
    · rename_i fs hu
      cases hs : P.stoodInHeld t with
      | true => rw [hs] at h; cases h
      | false =>
        rw [hs] at h
        simp only [cond_false] at h
        have hfo : P.fieldsOf t = fs := by unfold Program.fieldsOf; rw [hu]
        have ev : ∀ vs, asV P t vs = .agg vs.toArray := fun vs => by unfold asV; rw [hu]
        rw [ev, ev, run_equalIn_agg w d t _ _ (by rw [hfo]; exact hu) hs, hfo]
        exact eqFs_ok (fun t' l' h' => eqType_ok n t' l' h' d (by omega)) (fun t' l' h' => eqType_kind h') fs.toList 0 l h (VS := vs) (US := us) (by simpa using h1) (by simpa using h2) he
    cases h
theorem sameLK_ok : ∀ {l m : List LK}, sameLK l m = true → l = m
  | [], [], _ => rfl
  | [], _ :: _, h => by cases h
  | x :: _, [], h => by cases x <;> cases h
  | x :: l, y :: m, h => by
    cases x <;> cases y <;> simp only [sameLK] at h <;> first | cases h | rw [sameLK_ok h]
theorem eqStruct_ok {t : Nat} {i : TI} (hti : TiOk P t i) {x : LK} {ls : List LK} (hl : i.eq = x :: ls) (op : BinOp) (px py : Operand) {vs us : List Value} {xs ys : List C} {b : Bool} (h1 : All2 (CR J w) vs xs) (h2 : All2 (CR J w) us ys) (he : cellsEq (x :: ls) xs ys = some b) :
    (eqGuard op t px py (.agg vs.toArray) (.agg us.toArray)).run P w = .ok () w ∧ (Op.equalIn 10000 t (.agg vs.toArray) (.agg us.toArray)).run P w = .ok b w := by
  have h := hti.eqs
  unfold eqOk at h
  rw [hl] at h
  simp only [Bool.and_eq_true, Bool.not_eq_true'] at h
  obtain ⟨⟨hg, hs⟩, ht⟩ := h
  refine ⟨run_eqGuard_agg w op t px py _ _ hg, ?_⟩
  split at hs
  · rename_i fs hu
    split at ht
    · rename_i m hm
      have := sameLK_ok ht
      have ev : ∀ vs, asV P t vs = .agg vs.toArray := fun vs => by unfold asV; rw [hu]
      rw [← ev, ← ev]
      exact eqType_ok 9 t m hm 10000 (by decide) h1 h2 (by rw [← this]; exact he)
    cases ht
  cases hs
end
end
section
open Go.RowKit
section
variable {P : Program} {A : Nat → List AV → AV → Prop} {T : TakeT} {J : Inj} {w : World}
theorem bound_ok {code : BoundsCode} {lo : Int} {y : Nat} {k : IntKind} (h1 : 0 ≤ lo) (h2 : lo ≤ y) : (Instr.sliceBound (.int k lo) y code).run P w = .ok lo.toNat w := by
  simp [Instr.sliceBound, asIntOf, h1, h2]
theorem optBound_ok {ρ : Operand → Value} {d : Int} {lo : Option Operand} {r r' : List AV} {a : Int} {xs : List Operand} (h : optBound d lo r = some (a, r')) (hv : All2 (fun x v => AR J w (ρ x) v) (lo.toArray.toList ++ xs) r) :
    All2 (fun x v => AR J w (ρ x) v) xs r' ∧ ((lo = none ∧ a = d) ∨ ∃ x k, lo = some x ∧ ρ x = .int k a) := by
  unfold optBound at h
  split at h
  · obtain ⟨rfl, rfl⟩ : _ = a ∧ _ = r' := by simpa using h
    exact ⟨by simpa using hv, .inl ⟨rfl, rfl⟩⟩
  · obtain ⟨rfl, rfl⟩ : _ = a ∧ _ = r' := by simpa using h
    simp only [Option.toArray, List.cons_append, List.nil_append] at hv
    cases hv with
    | cons h1 h2 => exact ⟨h2, .inr ⟨_, _, rfl, h1.1⟩⟩
  cases h
set_option maxHeartbeats 2000000 in
theorem evalP_ok {tt : List (Nat × TI)} (htt : ttOk P tt = true) {orc : Orc} {bn : List (Nat × List C)} {op : Op} {avs : List AV} {v : AV} {obs : List Ob} (h : evalP tt orc bn op avs = some (v, obs)) (hob : AllOb A T obs)
    {o : Oper} (ho : o.op = op) {ρ : Operand → Value} (hf : ∀ f, ρ (.func f) = .func (.func f) #[] #[]) (hv : All2 (fun x v => AR J w (ρ x) v) op.operands.toList avs)
    (hbx : ∀ k c, get bn k = some c → ∃ arr e, w.heap[J.B k]? = some (.cells arr e (0, 0)) ∧ All2 (CR J w) arr.toList c) :
    ∃ u, (execOp ρ o).run P w = .ok (.value u) w ∧ AR J w u v := by
  unfold evalP at h
  split at h
  ·
    rename_i x v'
    obtain ⟨rfl, rfl⟩ : v' = v ∧ [] = obs := by simpa using h
    cases hv with
    | cons h1 _ => exact ⟨_, by simp [execOp, ho], h1⟩
  ·
    rename_i x v'
    obtain ⟨rfl, rfl⟩ : v' = v ∧ [] = obs := by simpa using h
    cases hv with
    | cons h1 _ => exact ⟨_, by simp [execOp, ho], h1⟩
  ·
    rename_i xc xa xb c a b
    obtain ⟨rfl, rfl⟩ : (bif c then a else b) = v ∧ [] = obs := by simpa using h
    cases hv with
    | cons h1 h2 =>
      cases h2 with
      | cons h2 h3 =>
        cases h3 with
        | cons h3 _ =>
          have h1 : ρ xc = .bool c := h1
          refine ⟨if c then ρ xa else ρ xb, by simp [execOp, ho, h1, asBool], ?_⟩
          cases c
          · exact h3
          exact h2
  ·
    rename_i op t px py ty x y
    cases hv with
    | cons h1 h2 =>
      cases h2 with
      | cons h2 _ =>
        split at h
        · rename_i c obs' hb
          obtain ⟨rfl, rfl⟩ : AV.one c = v ∧ obs' = obs := by simpa using h
          obtain ⟨u, hu, hc⟩ := binC_ok (P := P) hb hob h1 h2 t px py
          exact ⟨u, by simp only [execOp, ho, Sem.run_bind, hu] at hu ⊢; simp [hu], hc⟩
        split at h
        · rename_i a b _
          split at h
          · rename_i c obs' hb
            obtain ⟨rfl, rfl⟩ : AV.one c = v ∧ obs' = obs := by simpa using h
            have e1 : ρ px = .bool a := h1
            have e2 : ρ py = .bool b := h2
            obtain ⟨u, hu, hc⟩ := binBool_ok (J := J) (w := w) htt hb px py
            exact ⟨u, by simp only [execOp, ho, e1, e2, Sem.run_bind] at hu ⊢; simp [hu], hc⟩
          cases h
        cases h
  ·
    rename_i op t px py ty xs ys
    cases hv with
    | cons h1 h2 =>
      cases h2 with
      | cons h2 _ =>
        obtain ⟨vs, e1, hvs⟩ := h1
        obtain ⟨us, e2, hus⟩ := h2
        split at h
        · rename_i k0 n0 z0 l0 ls0 hg
          have heq := fun {vs us : List Value} {xs ys : List C} {b : Bool} h1 h2 h3 => eqStruct_ok (P := P) (J := J) (w := w) (vs := vs) (us := us) (xs := xs) (ys := ys) (b := b) (ttOk_get htt hg) rfl op px py h1 h2 h3
          split at h
          · rename_i b hb
            obtain ⟨rfl, rfl⟩ : AV.one (.bool b) = v ∧ [] = obs := by simpa using h
            obtain ⟨g, hr⟩ := heq hvs hus hb
            exact ⟨.bool b, by simp [execOp, ho, e1, e2, g, run_eql_struct, hr, Result.andThen], rfl⟩
          · rename_i b hb
            obtain ⟨rfl, rfl⟩ : AV.one (.bool (!b)) = v ∧ [] = obs := by simpa using h
            obtain ⟨g, hr⟩ := heq hvs hus hb
            exact ⟨.bool (!b), by simp [execOp, ho, e1, e2, g, run_neq_struct, hr, Result.andThen], rfl⟩
          cases h
        cases h
  ·
    rename_i op t px x
    cases hv with
    | cons h1 _ =>
      split at h
      · rename_i b
        obtain ⟨rfl, rfl⟩ : AV.one (.bool (!b)) = v ∧ [] = obs := by simpa using h
        have e1 : ρ px = .bool b := h1
        exact ⟨_, by simp [execOp, ho, e1, Op.unary], rfl⟩
      · rename_i k n
        obtain ⟨rfl, rfl⟩ : AV.one (.int k (k.wrap (0 - n))) = v ∧ [] = obs := by simpa using h
        have e1 : ρ px = .int k n := h1.1
        exact ⟨.int k (k.wrap (0 - n)), by simp [execOp, ho, e1, Op.unary, Op.intArith], rfl, inR_wrap _ _⟩
      cases h
  ·
    rename_i t px f cs
    cases hv with
    | cons h1 _ =>
      obtain ⟨vs, e1, hvs⟩ := h1
      have hfield : ∀ o sz ag, fieldAt? tt t f = some (o, sz, ag) → ∃ gs g inf d, P.underlying t = some (.struct gs) ∧ gs[f]? = some g ∧ g.offset = o ∧ P.info? g.type = some inf ∧ inf.size = sz ∧ P.underlying g.type = some d ∧ aggOf d = ag := by
        intro o sz ag hfa
        unfold fieldAt? at hfa
        split at hfa
        · rename_i fs n z hg
          obtain ⟨gs, hu, hfo⟩ := (ttOk_get htt hg).struct
          obtain ⟨g, inf, d, k1, k2⟩ := field_of hfo hfa
          exact ⟨gs, g, inf, d, hu, by simpa using k1, k2⟩
        cases hfa
      split at h
      · rename_i o' sz hfa
        obtain ⟨gs, g, inf, d, hu, hg, rfl, hi, rfl, hd, hag⟩ := hfield _ _ _ hfa
        cases hle : Nat.ble (g.offset + inf.size) cs.length with
        | false => rw [hle] at h; cases h
        | true =>
          rw [hle] at h
          obtain ⟨rfl, rfl⟩ : AV.agg _ = v ∧ [] = obs := by simpa using h
          refine ⟨.agg (vs.toArray.extract g.offset (g.offset + inf.size)), ?_, (vs.drop g.offset).take inf.size, ?_, (hvs.drop _).take _⟩
          · simp [execOp, ho, e1, Instr.field, run_underlying hu, hg, asAgg, part, run_isAgg_of hd, hag, sizeOf, typeInfo_run hi]
          simp [List.take_drop, Nat.add_comm]
      · rename_i o' sz hfa
        obtain ⟨gs, g, inf, d, hu, hg, rfl, hi, rfl, hd, hag⟩ := hfield _ _ _ hfa
        split at h
        · rename_i c hc
          obtain ⟨rfl, rfl⟩ : AV.one c = v ∧ [] = obs := by simpa using h
          obtain ⟨u, hu', hcr⟩ := hvs.get' hc
          exact ⟨u, by simp [execOp, ho, e1, Instr.field, run_underlying hu, hg, asAgg, part, run_isAgg_of hd, hag, hu'], hcr⟩
        cases h
      cases h
  ·
    rename_i px i l
    cases hv with
    | cons h1 _ =>
      obtain ⟨vs, e1, hvs⟩ := h1
      split at h
      · rename_i cs hc
        obtain ⟨rfl, rfl⟩ : AV.agg cs = v ∧ [] = obs := by simpa using h
        obtain ⟨u, hu, hcr⟩ := hvs.get' hc
        exact ⟨u, by simp [execOp, ho, e1, Instr.extract, hu], hcr⟩
      · rename_i c hc
        obtain ⟨rfl, rfl⟩ : AV.one c = v ∧ [] = obs := by simpa using h
        obtain ⟨u, hu, c', e, hcr⟩ := hvs.get' hc
        obtain rfl : c = c' := by simpa using e
        exact ⟨u, by simp [execOp, ho, e1, Instr.extract, hu], hcr⟩
      cases h
  ·
    rename_i t px f k off
    cases hv with
    | cons h1 _ =>
      have e1 : ρ px = .pointer (some ⟨J.B k, off, none⟩) := h1
      split at h
      · rename_i o' sz ag hfa
        cases hz : Nat.beq sz 0 with
        | true => rw [hz] at h; cases h
        | false =>
          rw [hz] at h
          obtain ⟨rfl, rfl⟩ : AV.one (.ptr k (off + o')) = v ∧ [] = obs := by simpa using h
          unfold fieldAt? at hfa
          split at hfa
          · rename_i fs n z hg
            obtain ⟨gs, hu, hfo⟩ := (ttOk_get htt hg).struct
            obtain ⟨g, inf, d, k1, rfl, hi, rfl, hd, hag⟩ := field_of hfo hfa
            have k1' : gs[f]? = some g := by simpa using k1
            refine ⟨.pointer (some ⟨J.B k, off + g.offset, none⟩), ?_, rfl⟩
            have hsz : inf.size ≠ 0 := fun e => by rw [e] at hz; cases hz
            simp [execOp, ho, e1, Instr.fieldAt, run_underlying hu, k1', Instr.sureAddr, fieldPlace, sizeOf, typeInfo_run hi, hsz, Addr.add_lit]
          cases hfa
      cases h
  ·
    rename_i t px f tok cs
    cases hv with
    | cons h1 _ =>
      obtain ⟨b, off, vs, e1, hb, hvs, hc⟩ := h1
      split at h
      · rename_i o' sz ag hfa
        cases hz : Nat.beq sz 0 with
        | true => rw [hz] at h; cases h
        | false =>
          rw [hz] at h
          obtain ⟨rfl, rfl⟩ : AV.one (.rptr tok (cs.drop o')) = v ∧ [] = obs := by simpa using h
          unfold fieldAt? at hfa
          split at hfa
          · rename_i fs n z hg
            obtain ⟨gs, hu, hfo⟩ := (ttOk_get htt hg).struct
            obtain ⟨g, inf, d, k1, rfl, hi, rfl, hd, hag⟩ := field_of hfo hfa
            have k1' : gs[f]? = some g := by simpa using k1
            refine ⟨.pointer (some ⟨b, off + g.offset, none⟩), ?_, b, off + g.offset, vs.drop g.offset, rfl, hb, hvs.drop _, drop_cells hc⟩
            have hsz : inf.size ≠ 0 := fun e => by rw [e] at hz; cases hz
            simp [execOp, ho, e1, Instr.fieldAt, run_underlying hu, k1', Instr.sureAddr, fieldPlace, sizeOf, typeInfo_run hi, hsz, Addr.add_lit]
          cases hfa
      cases h
  ·
    rename_i px k off
    obtain ⟨rfl, rfl⟩ : AV.one (.ptr k off) = v ∧ [] = obs := by simpa using h
    cases hv with
    | cons h1 _ =>
      have e1 : ρ px = .pointer (some ⟨J.B k, off, none⟩) := h1
      exact ⟨_, by simp [execOp, ho, e1], rfl⟩
  · rename_i px t cs
    obtain ⟨rfl, rfl⟩ : AV.one (.rptr t cs) = v ∧ [] = obs := by simpa using h
    cases hv with
    | cons h1 _ =>
      obtain ⟨b, off, vs, e1, hr⟩ := h1
      exact ⟨_, by simp [execOp, ho, e1], b, off, vs, rfl, hr⟩
  ·
    rename_i t ps
    split at h
    · rename_i fs n zero q hg
      cases hsz : Nat.beq ps.size avs.length with
      | false => rw [hsz] at h; cases h
      | true =>
        rw [hsz] at h
        simp only [cond_true] at h
        split at h
        · rename_i cs hfill
          obtain ⟨rfl, rfl⟩ : AV.agg cs = v ∧ [] = obs := by simpa using h
          have hti := ttOk_get htt hg
          obtain ⟨gs, hu, hfo⟩ := hti.struct
          obtain ⟨inf, z, hi, _, _, hz, hzs, hzo⟩ := hti.info
          have hops : All2 (fun v p => AR J w v p.2) (ps.toList.map fun p => ρ p.2) ((ps.toList.map (·.1)).zip avs) := by
            have hv' : All2 (fun x v => AR J w (ρ x) v) (ps.toList.map (·.2)) avs := by simpa [Op.operands] using hv
            clear hv hsz hfill h
            generalize ps.toList = l at hv' ⊢
            induction l generalizing avs with
            | nil => cases hv'; exact .nil
            | cons p l ih =>
              cases hv' with
              | cons h1 h2 => exact .cons h1 (ih h2)
          have hplaces : ∀ (i o sz : Nat) (ag : Bool), fs[i]? = some (o, sz, ag) → ((fs.map fun x => (x.1, x.2.1)).toArray)[i]? = some (o, sz) := by
            intro i o sz ag hi'
            simp [hi']
          obtain ⟨out, ho', hall⟩ := fill_ok (J := J) (w := w) (fun i => ((fs.map fun x => (x.1, x.2.1)).toArray)[i]?) hplaces _ _ z.cells zero cs (zeros_ok hzo) hops hfill
          have hpl : ∀ (gs : List Field) (fs : List (Nat × Nat × Bool)), fieldsOk P gs fs = true → gs.mapM (fun f => (P.info? f.type).map fun i => (f.offset, i.size)) = some (fs.map fun x => (x.1, x.2.1)) := by
            intro gs
            induction gs with
            | nil => intro fs h; cases fs <;> simp_all [fieldsOk]
            | cons g gs ih =>
              intro fs h
              cases fs with
              | nil => simp [fieldsOk] at h
              | cons x fs =>
                have h' := h
                simp only [fieldsOk, Bool.and_eq_true] at h'
                obtain ⟨g', inf', d', k1, k2, k3, k4, _⟩ := field_of (f := 0) (o := x.1) (sz := x.2.1) (ag := x.2.2) h rfl
                obtain rfl : g = g' := by simpa using k1
                simp [k3, k2, k4, ih fs h'.2]
          have hb : P.built t (ps.toList.map fun p => (p.1, ρ p.2)) = some out := by
            have hzip : (((ps.toList.map (·.1)).zip avs).map (·.1)).zip (ps.toList.map fun p => ρ p.2) = ps.toList.map fun p => (p.1, ρ p.2) := by
              have hl : ps.toList.length = avs.length := by simpa using hsz
              rw [List.map_fst_zip (by simp [hl])]
              generalize ps.toList = l
              induction l with
              | nil => rfl
              | cons p l ih => simp [ih]
            rw [hzip] at ho'
            simp only [Program.built, hi, hu, hz, hpl _ _ hfo]
            exact ho'
          refine ⟨.agg out, ?_, out.toList, by simp, hall⟩
          have := run_build w t (ps.map fun p => (p.1, ρ p.2)) out (by simpa using hb)
          simp [execOp, ho, this]
        cases h
    cases h
  ·
    rename_i f first caps
    cases hsz : Nat.beq first.size 0 with
    | false => rw [hsz] at h; cases h
    | true =>
      rw [hsz] at h
      simp only [cond_true] at h
      have hfe : first = #[] := Array.eq_empty_of_size_eq_zero (by simpa using hsz)
      subst hfe
      split at h
      · rename_i cps hp
        obtain ⟨rfl, rfl⟩ : AV.one (.fn f cps) = v ∧ [] = obs := by simpa using h
        have key : ∀ (xs : List Operand) (avs : List AV) (cps : List (Nat × Nat)), All2 (fun x v => AR J w (ρ x) v) xs avs → ptrKeys avs = some cps → xs.map ρ = cps.map fun c => .pointer (some ⟨J.B c.1, c.2, none⟩) := by
          intro xs avs cps hv
          induction hv generalizing cps with
          | nil => intro h; simp [ptrKeys] at h; subst h; rfl
          | cons h1 _ ih =>
            intro h
            unfold ptrKeys at h
            split at h
            · rename_i e; cases e
            · rename_i e
              cases e
              obtain ⟨r, hr, rfl⟩ := Option.map_eq_some_iff.1 h
              simp only [List.map_cons, ih r hr]
              rw [show _ = _ from h1]
            cases h
        have hx := key caps.toList avs cps (by simpa [Op.operands] using hv) hp
        refine ⟨.func (.func f) #[] (caps.map ρ), by simp [execOp, ho, Instr.makeFunc], ?_⟩
        show _ = _
        rw [← hx, ← Array.toList_map]
      cases h
  ·
    rename_i s d px k0 n
    split at h
    · rename_i i0 k z1 z2 q hs hd
      obtain ⟨rfl, rfl⟩ : AV.one (.int k (k.wrap n)) = v ∧ [] = obs := by simpa using h
      cases hv with
      | cons h1 _ =>
        obtain ⟨e1, _⟩ := h1
        obtain ⟨d', hd', _⟩ := (ttOk_get htt hs).und
        have hk := (ttOk_get htt hd).int
        exact ⟨.int k (k.wrap n), by simp [execOp, ho, e1, convert, run_underlying hd', run_underlying hk, Conv.intToInt], rfl, inR_wrap _ _⟩
    cases h
  ·
    rename_i args tys x
    split at h
    · rename_i t ht
      split at h
      · rename_i i0 n z q tok n' l hg
        obtain ⟨rfl, rfl⟩ : AV.one (.int .i64 l.length) = v ∧ [] = obs := by simpa using h
        cases hv' : args.toList with
        | nil => simp [Op.operands, Call.operands, hv'] at hv; cases hv
        | cons a0 r0 =>
          simp [Op.operands, Call.operands, hv'] at hv
          cases hv with
          | cons h1 h2 =>
            cases h2
            have hargs : args = #[a0] := by apply Array.ext'; simpa using hv'
            subst hargs
            obtain ⟨oa, cap, e1, hlc, hcm, _⟩ := slc_slice h1
            have hu := (ttOk_get htt hg).sli
            refine ⟨.int .i64 l.length, ?_, rfl, inR_len (Nat.le_trans hlc hcm)⟩
            simp [execOp, ho, resolve, invoke, builtin, Builtin.len_, ht, e1, run_underlying hu, goInt]
      · rename_i i0 n z q s hg
        obtain ⟨rfl, rfl⟩ : AV.one (.int .i64 s.size) = v ∧ [] = obs := by simpa using h
        cases hv' : args.toList with
        | nil => simp [Op.operands, Call.operands, hv'] at hv; cases hv
        | cons a0 r0 =>
          simp [Op.operands, Call.operands, hv'] at hv
          cases hv with
          | cons h1 h2 =>
            cases h2
            have hargs : args = #[a0] := by apply Array.ext'; simpa using hv'
            subst hargs
            obtain ⟨e1, hs⟩ := h1
            have hu := (ttOk_get htt hg).str
            refine ⟨.int .i64 s.size, ?_, rfl, inR_len hs⟩
            simp [execOp, ho, resolve, invoke, builtin, Builtin.len_, ht, e1, run_underlying hu, goInt]
      cases h
    cases h
  ·
    rename_i t px pi s k i
    split at h
    · rename_i n z hg
      obtain ⟨rfl, rfl⟩ : AV.one (.int .u8 (strAt s i)) = v ∧ [Ob.idx i s.size] = obs := by simpa using h
      have hu := (ttOk_get htt hg).str
      obtain ⟨h0, hlt⟩ : 0 ≤ i ∧ i < s.size := hob
      cases hv with
      | cons h1 h2 =>
        cases h2 with
        | cons h2 _ =>
          obtain ⟨e1, _⟩ := h1
          obtain ⟨e2, _⟩ := h2
          have hlt' : i.toNat < s.size := by omega
          have hstr : strAt s i = (s[i.toNat].toNat : Int) := by
            have hl : i.toNat < s.data.toList.length := by simpa using hlt'
            simp only [strAt, List.getD_eq_getElem?_getD, List.getElem?_eq_getElem hl]
            rfl
          refine ⟨.int .u8 (strAt s i), ?_, rfl, by rw [hstr]; exact inR_byte _⟩
          rw [hstr]
          simp [execOp, ho, e1, e2, Instr.index, asIntOf, run_underlying hu, h0, hlt']
    cases h
  ·
    rename_i t px pi tok n l k i
    split at h
    · rename_i e n' z q r tok' hg hct
      split at h
      · rename_i ei hge
        cases hsz : Nat.beq ei.size n with
        | false => rw [hsz] at h; cases h
        | true =>
          rw [hsz] at h
          obtain ⟨rfl, rfl⟩ : AV.one (.rptr tok' r) = v ∧ [Ob.elem l i r] = obs := by simpa using h
          obtain ⟨h0, hl⟩ : 0 ≤ i ∧ l[i.toNat]? = some r := hob
          have hu := (ttOk_get htt hg).sli
          have hs := sizeOf_run (P := P) (ttOk_get htt hge) w
          have hn : ei.size = n := by simpa using hsz
          cases hv with
          | cons h1 h2 =>
            cases h2 with
            | cons h2 _ =>
              obtain ⟨e2, _⟩ := h2
              obtain ⟨b, off, cap, vs, e1, hX, hvc, hrn, hc⟩ := slc_elem h1 hct hl
              have hlt : i.toNat < l.length := (List.getElem?_eq_some_iff.1 hl).1
              have hlt' : i < (l.length : Int) := by omega
              refine ⟨.pointer (some ⟨b, off + i.toNat * n, none⟩), ?_, b, off + i.toNat * n, vs, rfl, hX, hvc, hc⟩
              simp [execOp, ho, e1, e2, Instr.indexAt, asIntOf, run_underlying hu, h0, hlt', hs, hn, Addr.add_lit]
      cases h
    cases h
  ·
    rename_i t px lo hi tok n l r
    split at h
    · rename_i e n' z q hg
      split at h
      · rename_i ei a r1 hge hlo
        split at h
        · rename_i b hhi
          cases hsz : Nat.beq ei.size n with
          | false => rw [hsz] at h; cases h
          | true =>
            rw [hsz] at h
            obtain ⟨rfl, rfl⟩ : AV.one (.slc (subTok tok) n ((l.take b.toNat).drop a.toNat)) = v ∧ [Ob.rng a b l.length] = obs := by simpa using h
            obtain ⟨h0, hab, hbl⟩ : 0 ≤ a ∧ a ≤ b ∧ b ≤ l.length := hob
            have hu := (ttOk_get htt hg).sli
            have hs := sizeOf_run (P := P) (ttOk_get htt hge) w
            have hn : ei.size = n := by simpa using hsz
            have hv' : All2 (fun x v => AR J w (ρ x) v) (px :: (lo.toArray.toList ++ (hi.toArray.toList ++ []))) (.one (.slc tok n l) :: r) := by simpa [Op.operands] using hv
            cases hv' with
            | cons h1 h2 =>
              obtain ⟨h3, hloc⟩ := optBound_ok hlo h2
              obtain ⟨_, hhic⟩ := optBound_ok hhi h3
              obtain ⟨oa, cap, e1, hlc, hcm, hemp⟩ := slc_slice h1
              have hsb : (Instr.sliceBounds true l.length cap (lo.map ρ) (hi.map ρ) none).run P w = .ok (a.toNat, b.toNat, cap) w := by
                have e3 : ∀ c, (match (hi.map ρ) with | some v => Instr.sliceBound v cap c | none => (pure l.length : Sem Nat)).run P w = .ok b.toNat w := by
                  intro c
                  rcases hhic with ⟨rfl, rfl⟩ | ⟨x, k, rfl, hx⟩
                  · simp
                  simp only [Option.map_some, hx]
                  exact bound_ok (by omega) (by omega)
                have e4 : ∀ c, (match (lo.map ρ) with | some v => Instr.sliceBound v b.toNat c | none => (pure 0 : Sem Nat)).run P w = .ok a.toNat w := by
                  intro c
                  rcases hloc with ⟨rfl, rfl⟩ | ⟨x, k, rfl, hx⟩
                  · simp
                  simp only [Option.map_some, hx]
                  exact bound_ok (by omega) (by omega)
                unfold Instr.sliceBounds
                simp only [Sem.run_bind, Sem.run_pure, Result.andThen_ok]
                have e3' := e3 .sliceAcap
                have e4' := e4 .sliceB
                revert e3' e4'
                cases lo.map ρ <;> cases hi.map ρ <;> simp <;> intro e3' e4' <;> simp_all
              have hrun : (execOp ρ o).run P w = .ok (.value (.slice (if cap = a.toNat then oa else oa.map (·.add (a.toNat * n))) (b.toNat - a.toNat) (cap - a.toNat))) w := by
                simp [execOp, ho, e1, Instr.sliceAt, run_underlying hu, Instr.slice, hsb, hs, hn]
              refine ⟨_, hrun, ?_⟩
              have hlen : ((l.take b.toNat).drop a.toNat).length = b.toNat - a.toNat := by simp; omega
              have key : ∀ X : Nat → Prop, VV X w (ρ px) (.slc n l) → VV X w (.slice (if cap = a.toNat then oa else oa.map (·.add (a.toNat * n))) (b.toNat - a.toNat) (cap - a.toNat)) (.slc n ((l.take b.toNat).drop a.toNat)) := by
                intro X hX
                by_cases hca : cap = a.toNat
                · rw [if_pos hca]
                  have h9 : b.toNat - a.toNat = 0 := by omega
                  have h10 : (l.take b.toNat).drop a.toNat = [] := List.eq_nil_of_length_eq_zero (by omega)
                  rw [h9, h10]
                  exact .emp _ n (by omega)
                rw [if_neg hca]
                rw [e1] at hX
                exact hX.sub (by omega) (by omega) _ ⟨by omega, by omega⟩
              cases tok with
              | sh => exact key _ h1
              | put => exact h1.elim
              | vw k => exact key _ h1
              | emp =>
                have hc0 := hemp rfl
                obtain ⟨hl, _⟩ := h1
                subst hl
                refine ⟨by simp, if cap = a.toNat then oa else oa.map (·.add (a.toNat * n)), ?_⟩
                have h9 : b.toNat - a.toNat = 0 := by simp at hbl; omega
                rw [h9, hc0]
                simp
              | own d k =>
                cases d with
                | true => exact key _ (OwnDeep.vv h1 fun b hb => ⟨Or.inl hb, rfl⟩)
                | false => exact key _ (OwnTop.vv h1 (fun b hb => ⟨.inr hb, rfl⟩) fun b hb => ⟨.inl hb, rfl⟩)
        cases h
      cases h
    cases h
  ·
    rename_i t px lo hi s r
    split at h
    · rename_i n' z hg
      split at h
      · rename_i a r1 hlo
        split at h
        · rename_i b hhi
          obtain ⟨rfl, rfl⟩ : AV.one (.str (s.extract a.toNat b.toNat)) = v ∧ [Ob.rng a b s.size] = obs := by simpa using h
          obtain ⟨h0, hab, hbl⟩ : 0 ≤ a ∧ a ≤ b ∧ b ≤ s.size := hob
          have hu := (ttOk_get htt hg).str
          have hv' : All2 (fun x v => AR J w (ρ x) v) (px :: (lo.toArray.toList ++ (hi.toArray.toList ++ []))) (.one (.str s) :: r) := by simpa [Op.operands] using hv
          cases hv' with
          | cons h1 h2 =>
            obtain ⟨h3, hloc⟩ := optBound_ok hlo h2
            obtain ⟨_, hhic⟩ := optBound_ok hhi h3
            obtain ⟨e1, hsm⟩ := h1
            have hsb : (Instr.sliceBounds false s.size s.size (lo.map ρ) (hi.map ρ) none).run P w = .ok (a.toNat, b.toNat, s.size) w := by
              have e3 : ∀ c, (match (hi.map ρ) with | some v => Instr.sliceBound v s.size c | none => (pure s.size : Sem Nat)).run P w = .ok b.toNat w := by
                intro c
                rcases hhic with ⟨rfl, rfl⟩ | ⟨x, k, rfl, hx⟩
                · simp
                simp only [Option.map_some, hx]
                exact bound_ok (by omega) (by omega)
              have e4 : ∀ c, (match (lo.map ρ) with | some v => Instr.sliceBound v b.toNat c | none => (pure 0 : Sem Nat)).run P w = .ok a.toNat w := by
                intro c
                rcases hloc with ⟨rfl, rfl⟩ | ⟨x, k, rfl, hx⟩
                · simp
                simp only [Option.map_some, hx]
                exact bound_ok (by omega) (by omega)
              unfold Instr.sliceBounds
              simp only [Sem.run_bind, Sem.run_pure, Result.andThen_ok]
              have e3' := e3 .sliceAlen
              have e4' := e4 .sliceB
              revert e3' e4'
              cases lo.map ρ <;> cases hi.map ρ <;> simp <;> intro e3' e4' <;> simp_all
            refine ⟨.string (s.extract a.toNat b.toNat), ?_, rfl, ?_⟩
            · simp [execOp, ho, e1, Instr.sliceAt, run_underlying hu, Instr.slice, hsb]
            simp only [ByteArray.size_extract]; omega
        cases h
      cases h
    cases h
  ·
    rename_i t px k off
    split at h
    · rename_i ti cells hg hk
      split at h
      · rename_i v' hval
        obtain ⟨rfl, rfl⟩ : v' = v ∧ [] = obs := by simpa using h
        cases hv with
        | cons h1 _ =>
          have e1 : ρ px = .pointer (some ⟨J.B k, off, none⟩) := h1
          obtain ⟨arr, e, hheap, hall⟩ := hbx k cells hk
          have hc : ∀ (j : Nat) (u : Value), ((arr.toList.drop off).take ti.size)[j]? = some u → w.cell? ⟨J.B k, off + j, none⟩ = some u := by
            have := take_cells (k := ti.size) (drop_cells (w := w) (vs := arr.toList) (b := J.B k) (off := 0) (k := off) (fun j u hj => by
              rw [Array.getElem?_toList] at hj
              simp [World.cell?, hheap, hj]))
            simpa using this
          obtain ⟨u, hu, hr⟩ := asVal_ok (P := P) (ttOk_get htt hg) ((hall.drop off).take ti.size) hval hc
          exact ⟨u, by simp [execOp, ho, e1, Instr.loadAt, Instr.sureAddr, hu], hr⟩
      cases h
    cases h
  ·
    rename_i t px tok cs
    split at h
    · rename_i ti hg
      cases hle : Nat.ble ti.size cs.length with
      | false => rw [hle] at h; cases h
      | true =>
        rw [hle] at h
        simp only [cond_true] at h
        split at h
        · rename_i v' hval
          obtain ⟨rfl, rfl⟩ : v' = v ∧ [] = obs := by simpa using h
          cases hv with
          | cons h1 _ =>
            obtain ⟨b, off, vs, e1, hX, hvc, hc⟩ := h1
            have hlift : ∀ v p, VV (J.X tok) w v p → CR J w v (liftC tok p) := by
              intro v p hp
              refine liftC_ok (X := J.X tok) (fun c n l hc => ?_) hp
              cases tok with
              | sh => exact hc
              | vw k => exact hc
              | emp => exact hX.elim
              | put => exact hX.elim
              | own d k => exact hX.elim
            have hall : All2 (CR J w) (vs.take ti.size) ((cs.take ti.size).map (liftC tok)) := (VC.all2 (hvc.take ti.size)).map (liftC tok) fun a p _ hp => hlift a p hp
            obtain ⟨u, hu, hr⟩ := asVal_ok (P := P) (ttOk_get htt hg) hall hval (take_cells hc)
            exact ⟨u, by simp [execOp, ho, e1, Instr.loadAt, Instr.sureAddr, hu], hr⟩
        cases h
    cases h
  cases h
end
end
section
open Go.RowKit Go.ChangeShapes Go.WideShapes
open GoD (rd own)
def Opens (P : Program) (t : TypeId) (α : Type) [GoD α] : Prop :=
  P.cellsOf t = GoD.n α ∧ 0 < GoD.n α ∧ ∀ {H : Type} {enc : TypeId × Value → H} {w : World} {base : Nat} {spare : Nat → Bool} {held : Bool} {fuel : Nat} {cs : List Value} {x : DataW H × List MemPlace},
    DataW.trod enc P w base spare held fuel t cs = some x → ∃ a : α, rd w cs a
def OpensFs (P : Program) (fs : List Field) (off : Nat) (α : Type) [GoD α] : Prop :=
  0 < GoD.n α ∧ ∀ {H : Type} {enc : TypeId × Value → H} {w : World} {base : Nat} {spare : Nat → Bool} {held : Bool} {fuel : Nat} {cs : List Value},
    (∀ f, f ∈ fs → ∃ x, DataW.trod enc P w base spare held fuel f.type ((cs.drop f.offset).take (P.cellsOf f.type)) = some x) → ∃ a : α, rd w ((cs.drop off).take (GoD.n α)) a
section
variable {P : Program} {t e : TypeId}
theorem Opens.int (ht : P.underlying t = some (.int .i64)) (hc : P.cellsOf t = 1) : Opens P t Int := by
  refine ⟨hc, Nat.zero_lt_one, fun h => ?_⟩
  obtain ⟨n, rfl, _, hw⟩ := DataW.trod_int ht h
  refine ⟨n, rfl, ?_⟩
  simp only [Lit.wf, Bool.and_eq_true, decide_eq_true_eq] at hw
  exact hw
theorem Opens.bool (ht : P.underlying t = some .bool) (hc : P.cellsOf t = 1) : Opens P t Bool := by
  refine ⟨hc, Nat.zero_lt_one, fun h => ?_⟩
  obtain ⟨b, rfl, _⟩ := DataW.trod_bool ht h
  exact ⟨b, rfl⟩
theorem Opens.str (ht : P.underlying t = some .string) (hc : P.cellsOf t = 1) : Opens P t ByteArray := by
  refine ⟨hc, Nat.zero_lt_one, fun h => ?_⟩
  obtain ⟨s, rfl, _, hs⟩ := DataW.trod_string ht h
  exact ⟨s, rfl, hs⟩
theorem OpensFs.one {f : Field} {off : Nat} {α : Type} [GoD α] (ho : f.offset = off) (h : Opens P f.type α) : OpensFs P [f] off α := by
  refine ⟨h.2.1, fun hf => ?_⟩
  obtain ⟨x, hx⟩ := hf f (by simp)
  rw [ho, h.1] at hx
  exact h.2.2 hx
theorem OpensFs.cons {f : Field} {fs : List Field} {off : Nat} {α β : Type} [GoD α] [GoD β] (ho : f.offset = off) (h : Opens P f.type α) (k : OpensFs P fs (off + GoD.n α) β) : OpensFs P (f :: fs) off (α × β) := by
  refine ⟨Nat.lt_of_lt_of_le h.2.1 (Nat.le_add_right _ _), fun hf => ?_⟩
  obtain ⟨x, hx⟩ := hf f (by simp)
  rw [ho, h.1] at hx
  obtain ⟨a, ha⟩ := h.2.2 hx
  obtain ⟨b, hb⟩ := k.2 (fun g hg => hf g (by simp [hg]))
  refine ⟨(a, b), _, _, ?_, ha, hb⟩
  rw [← List.drop_drop]
  exact List.take_add
theorem Opens.struct {fs : Array Field} {α : Type} [GoD α] (ht : P.underlying t = some (.struct fs)) (hc : P.cellsOf t = GoD.n α) (h : OpensFs P fs.toList 0 α) : Opens P t α := by
  refine ⟨hc, h.1, fun {H enc w base spare held fuel cs x} hx => ?_⟩
  obtain ⟨xs, n, _, _, hl, hlen, hf⟩ := DataW.trod_struct ht hx
  obtain ⟨a, ha⟩ := h.2 (enc := enc) (w := w) (base := base) (spare := spare) (held := held) (fuel := n) (cs := cs) (fun f hm => by
    obtain ⟨i, hi, rfl⟩ := List.getElem_of_mem hm
    have hi' : i < fs.size := by simpa using hi
    refine ⟨xs[i]'(by omega), ?_⟩
    rw [hf i fs.toList[i] (by simp [hi']), List.getElem?_eq_getElem (by omega)])
  refine ⟨a, ?_⟩
  rw [List.drop_zero, List.take_of_length_le (by omega)] at ha
  exact ha
theorem Opens.slice {α : Type} [GoD α] (ht : P.underlying t = some (.slice e)) (hc : P.cellsOf t = 1) (h : Opens P e α) : Opens P t (List α) := by
  refine ⟨hc, Nat.zero_lt_one, fun {H enc w base spare held fuel cs x} hx => ?_⟩
  rcases Deep.open_slice ht hx with ⟨rfl, _⟩ | ⟨a, len, cap, m, n, D, Pl, rfl, hb, hl, hm, hmm, rfl, hel⟩
  · exact ⟨[], none, 0, rfl, Nat.le_refl _, Nat.zero_le _, by simp⟩
  have hlm : len ≤ m := by rw [hmm]; split <;> omega
  have hex : ∀ i, i < len → ∃ x : α, ∃ ce, ce.length = GoD.n α ∧ (∀ j, j < GoD.n α → w.cell? ((a.add (i * GoD.n α)).add j) = ce[j]?) ∧ rd w ce x := fun i hi => by
    obtain ⟨ce, h1, h2⟩ := hel i (by omega)
    obtain ⟨x, hx⟩ := h.2.2 h2
    rw [h.1] at h1
    obtain ⟨_, hlen, hcell⟩ := World.cells?_some h1
    exact ⟨x, ce, hlen, hcell, hx⟩
  have hl' : ∀ k, k ≤ len → ∃ l : List α, l.length = k ∧ ∀ i x, l[i]? = some x → ∃ ce, ce.length = GoD.n α ∧ (∀ j, j < GoD.n α → w.cell? ((a.add (i * GoD.n α)).add j) = ce[j]?) ∧ rd w ce x := by
    intro k
    induction k with
    | zero => intro _; exact ⟨[], rfl, by simp⟩
    | succ k ih =>
      intro hk
      obtain ⟨l, hll, hle⟩ := ih (by omega)
      obtain ⟨x, hx⟩ := hex k (by omega)
      refine ⟨l ++ [x], by simp [hll], fun i y hy => ?_⟩
      rcases Nat.lt_or_ge i l.length with hi | hi
      · rw [List.getElem?_append_left hi] at hy; exact hle i y hy
      rw [List.getElem?_append_right hi] at hy
      have : i = l.length := by
        rcases Nat.lt_or_ge (i - l.length) 1 with h' | h'
        · omega
        rw [List.getElem?_eq_none (by simpa using h')] at hy; cases hy
      subst this
      rw [Nat.sub_self] at hy
      obtain rfl : x = y := by simpa using hy
      rw [hll]
      exact hx
  obtain ⟨l, hll, hle⟩ := hl' len (Nat.le_refl _)
  refine ⟨l, some a, cap, by rw [hll], by omega, hm, fun i x hx => ?_⟩
  obtain ⟨ce, h1, h2, h3⟩ := hle i x hx
  have hn := h.2.1
  obtain ⟨x0, hx0⟩ : ∃ x0, l[0]? = some x0 := by
    cases l with
    | nil => simp at hx
    | cons y ys => exact ⟨y, rfl⟩
  obtain ⟨c0, k1, k2, _⟩ := hle 0 x0 hx0
  have h0 := k2 0 hn
  rw [List.getElem?_eq_getElem (by omega)] at h0
  have hsp := World.cell?_spot h0
  have hspot : a.spot = none := by
    rw [Deep.add_add] at hsp
    unfold Addr.add at hsp
    simpa using hsp
  obtain ⟨b, off, spot⟩ := a
  obtain rfl : spot = none := hspot
  refine ⟨b, off, ce, rfl, h1, fun j v hj => ?_, h3⟩
  have hjn : j < GoD.n α := by
    rcases Nat.lt_or_ge j ce.length with h' | h'
    · omega
    rw [List.getElem?_eq_none h'] at hj; cases hj
  have h2' := h2 j hjn
  rw [hj] at h2'
  rw [Deep.add_add] at h2'
  rw [← h2']
  unfold Addr.add
  by_cases hz : i * GoD.n α + j = 0
  · simp [show i * GoD.n α = 0 by omega, show j = 0 by omega]
  rw [if_neg hz, Nat.add_assoc]
end
section
variable {P : Program} {w : World} {r : Reach} {b0 : Nat} {t : TypeId} {v : Value} {H : Type} {enc : TypeId × Value → H} {base : Nat} {spare : Nat → Bool} {held : Bool} {d : DataW H} {ps : List MemPlace} {α : Type} [GoD α]
theorem in_slice {e : TypeId} (ht : P.underlying t = some (.slice e)) (ho : Opens P t α) (hv : Value.okWide P w r b0 t v) (h : DataW.Trod enc P w base spare held t v d ps) : ∃ (a : α), rd w [v] a := by
  obtain ⟨x, l, c, rfl⟩ := okWide_slice ht hv
  obtain ⟨f, hf⟩ := h
  obtain ⟨a, ha⟩ := ho.2.2 hf
  exact ⟨a, by simpa [Value.cells] using ha⟩
theorem trod_lt' (h : DataW.Trod enc P w base spare held t v d ps) : ∀ x ∈ ps, x.block < w.heap.size := by
  obtain ⟨m, hm⟩ := h
  exact DataW.trod_lt m _ _ _ hm
end
end
section
open Go.RowKit Go.Sort
def Ext (w w' : World) : Prop := Below w.heap.size w w'
theorem Ext.refl (w : World) : Ext w w := Below.refl _ _
theorem Ext.trans {a b c : World} (h : Ext a b) (k : Ext b c) : Ext a c := below_via h k
section
variable {P : Program} {ops : Array Oper} {Q : Exit → Act → World → Prop} {md : Region.Mode}
def YieldsE (P : Program) (ops : Array Oper) (o : Oper) (v : Value) (a : Act) (w : World) : Prop :=
  (Region.wanted o (yielded ops a.tmps) = true ∧ ∀ w', Ext w w' → (execOp a.eval o).run P w' = .ok (.value v) w') ∨
  (Region.wanted o (yielded ops a.tmps) = false ∧ v = undef)
theorem YieldsE.later {o : Oper} {v : Value} {a : Act} {w w' : World} (hy : YieldsE P ops o v a w) (h : Ext w w') : YieldsE P ops o v a w' := by
  rcases hy with ⟨h1, h2⟩ | h1
  · exact .inl ⟨h1, fun w'' h' => h2 w'' (h.trans h')⟩
  exact .inr h1
theorem YieldsE.wpOp {i : Nat} {o : Oper} {v : Value} {a : Act} {w : World} (hi : ops[i]? = some o) (hy : YieldsE P ops o v a w) {K : Act → World → Prop} (h : K (a.put o.dst v) w) : wpOp P ops Q i K a w := by
  unfold Go.wpOp
  simp only [hi]
  rcases hy with ⟨hw, hv⟩ | ⟨hw, rfl⟩
  · simp only [hw, if_true, Oper.wp, hv w (Ext.refl w), Oper.upon]; exact .inl h
  simp only [hw, Bool.false_eq_true, if_false]; exact h
def Closed (md : Region.Mode) (ops : Array Oper) (listed : Array Bool) : Prop := ∀ k o, ops[k]? = some o → listed.getD k false = true → ∀ e ∈ o.after, Region.binds md e = true → listed.getD e.on false = true
theorem Closed.set {listed : Array Bool} (hc : Closed md ops listed) {i : Nat} (hi : i ∈ Region.ready md ops listed) : Closed md ops (listed.setIfInBounds i true) := by
  have mono : ∀ k, listed.getD k false = true → (listed.setIfInBounds i true).getD k false = true := fun k hk => by
    by_cases hik : i = k
    · subst hik
      rcases Nat.lt_or_ge i listed.size with h' | h'
      · simp [h']
      simp [Array.getElem?_eq_none h'] at hk
    rw [getD_set_ne false hik]; exact hk
  intro k o ho hk e he hb
  by_cases hik : i = k
  · subst hik
    obtain ⟨_, o', ho', hall⟩ := mem_ready.1 hi
    rw [ho] at ho'
    obtain rfl : o = o' := by simpa using ho'
    exact mono _ (hall e he hb)
  rw [getD_set_ne false hik] at hk
  exact mono _ (hc k o ho hk e he hb)
/-! ### a fork: operations that make memory, in whatever order -/
def Same (dst : Nat → Tmp) (H : List Nat) (a a' : Act) : Prop := a'.defers = a.defers ∧ a'.tmps.size = a.tmps.size ∧ ∀ t, (∀ i ∈ H, dst i ≠ t) → a'.tmps[t]? = a.tmps[t]?
theorem Same.eval {dst : Nat → Tmp} {H : List Nat} {a a' : Act} (h : Same dst H a a') (t : Tmp) (ht : ∀ i ∈ H, dst i ≠ t) : a'.tmps.getD t undef = a.tmps.getD t undef := by
  simp [Array.getD_eq_getD_getElem?, h.2.2 t ht]
structure ForkOk (P : Program) (ops : Array Oper) (Q : Exit → Act → World → Prop) (md : Region.Mode) (H : List Nat) (dst : Nat → Tmp) (dep : Nat → List Nat) (R : Nat → Value → List Nat → World → Prop) (a : Act) (W : World) : Prop where
  nd : (H.map dst).Nodup
  lt : ∀ i ∈ H, dst i < a.tmps.size
  dep_ok : ∀ i ∈ H, ∀ j ∈ dep i, j ∈ H ∧ ∃ o e, ops[i]? = some o ∧ e ∈ o.after ∧ Region.binds md e = true ∧ e.on = j
  stable : ∀ i ∈ H, ∀ v L w w', R i v L w → Ext w w' → R i v L w'
  run : ∀ i ∈ H, ∃ o, ops[i]? = some o ∧ o.dst = some (dst i) ∧ ∀ a' w, Same dst H a a' → Ext W w → (∀ j ∈ dep i, ∃ v L, a'.tmps.getD (dst j) undef = v ∧ R j v L w) →
    Region.wanted o (yielded ops a'.tmps) = true ∧ ∀ K : Act → World → Prop, (∀ v L w', Ext w w' → R i v L w' → (∀ b ∈ L, w.heap.size ≤ b ∧ b < w'.heap.size) → K (a'.put (some (dst i)) v) w') → o.wp P a' w K Q
structure ForkInv (dst : Nat → Tmp) (H : List Nat) (R : Nat → Value → List Nat → World → Prop) (a : Act) (W : World) (D : List Nat) (v : Nat → Value) (Ls : Nat → List Nat) (a' : Act) (w : World) : Prop where
  same : Same dst H a a'
  ext : Ext W w
  val : ∀ i ∈ D, a'.tmps[dst i]? = some (v i)
  rel : ∀ i ∈ D, R i (v i) (Ls i) w
  bd : ∀ i ∈ D, ∀ b ∈ Ls i, W.heap.size ≤ b ∧ b < w.heap.size
  dis : ∀ i ∈ D, ∀ j ∈ D, i ≠ j → ∀ b ∈ Ls i, b ∉ Ls j
inductive Pl where
  | look (i : Nat)
  | step (i : Nat)
  | free (i : Nat)
  | fork (H : List Nat)
def Pl.len : List Pl → Nat
  | [] => 0
  | .fork H :: r => Pl.len r + H.length
  | _ :: r => Pl.len r + 1
end
end
end Go.Proofs.YtkadekboakhhiaaGreat
