/- Readings of Go values as plain data: 'rd' (may share memory), 'own' (its blocks are its own), the size that the laws count, the marks that the laws lay. No program in sight. -/
import Derived.WalkKit
import Derived.ProofKit
import Derived.OpenShut
import Derived.Lib.QuietBelow
import Derived.Lib.Hide
import Derived.WalkLawsBesides
import Derived.WalkSpells
import Derived.Deep.Slices
namespace Go.Proofs.YtjkfmihbmkbjfaaGreat
open Go.RowKit

/-- a 64-bit integer's range, shut to the walk -/
def I64 (n : Int) : Prop := -9223372036854775808 ≤ n ∧ n ≤ 9223372036854775807

/-- the letters of a mark: 'm' and the decimal digits -/
def digs : Nat → Nat → List UInt8
  | 0, _ => []
  | f + 1, k => if k = 0 then [] else digs f (k / 10) ++ [UInt8.ofNat (48 + k % 10)]
def markB (k : Nat) : ByteArray := ⟨(109 :: (if k = 0 then [48] else digs k k)).toArray⟩

class GoD (α : Type) where
  n : Nat
  rd : World → List Value → α → Prop
  own : List Nat → World → List Value → α → Prop
  size : α → Nat
  mark : α → Nat → α × Nat
  markT : α → Nat → α × Nat
  rd_len : ∀ {w cs a}, rd w cs a → cs.length = n
  rd_same : ∀ {w w' : World} {cs a}, rd w cs a → (∀ b, b < w.heap.size → w'.heap[b]? = w.heap[b]?) → rd w' cs a
  own_same : ∀ {L} {w w' : World} {cs a}, own L w cs a → (∀ b, b ∈ L → w'.heap[b]? = w.heap[b]?) → own L w' cs a
  own_rd : ∀ {L w cs a}, own L w cs a → rd w cs a
  own_lt : ∀ {L} {w : World} {cs a}, own L w cs a → ∀ b, b ∈ L → b < w.heap.size
  own_nd : ∀ {L w cs a}, own L w cs a → L.Nodup
  deq : DecidableEq α
  mk_le : ∀ (a : α) (k : Nat), k ≤ (mark a k).2
  mkT_le : ∀ (a : α) (k : Nat), k ≤ (markT a k).2
  lv : Nat
  lvm : Nat
  mk_bd : ∀ (a : α) (k : Nat), (mark a k).2 ≤ k + lv + lvm * size a
  mkT_bd : ∀ (a : α) (k : Nat), (markT a k).2 ≤ k + lvm * size a

open GoD (rd own)

theorem rd_below {α : Type} [GoD α] {w w' : World} {cs : List Value} {a : α} (h : rd w cs a) (hb : Below w.heap.size w w') : rd w' cs a :=
  GoD.rd_same h hb.block
theorem own_below {α : Type} [GoD α] {L : List Nat} {w w' : World} {cs : List Value} {a : α} (h : own L w cs a) (hb : Below w.heap.size w w') : own L w' cs a :=
  GoD.own_same h (fun b hb' => hb.block b (GoD.own_lt h b hb'))

instance instGoDInt : GoD Int where
  n := 1
  rd _ cs a := cs = [.int .i64 a] ∧ I64 a
  own L _ cs a := L = [] ∧ cs = [.int .i64 a] ∧ I64 a
  size _ := 0
  mark _ k := ((k : Int), k + 1)
  markT a k := (a, k)
  rd_len h := by rw [h.1]; rfl
  rd_same h _ := h
  own_same h _ := h
  own_rd h := h.2
  own_lt h := by rw [h.1]; simp
  own_nd h := by rw [h.1]; simp
  deq := inferInstance
  mk_le _ k := Nat.le_succ k
  mkT_le _ k := Nat.le_refl k
  lv := 1
  lvm := 0
  mk_bd _ k := by simp
  mkT_bd _ k := by simp

instance instGoDBool : GoD Bool where
  n := 1
  rd _ cs a := cs = [.bool a]
  own L _ cs a := L = [] ∧ cs = [.bool a]
  size _ := 0
  mark _ k := (k % 3 == 0, k + 1)
  markT a k := (a, k)
  rd_len h := by rw [h]; rfl
  rd_same h _ := h
  own_same h _ := h
  own_rd h := h.2
  own_lt h := by rw [h.1]; simp
  own_nd h := by rw [h.1]; simp
  deq := inferInstance
  mk_le _ k := Nat.le_succ k
  mkT_le _ k := Nat.le_refl k
  lv := 1
  lvm := 0
  mk_bd _ k := by simp
  mkT_bd _ k := by simp

instance instGoDStr : GoD ByteArray where
  n := 1
  rd _ cs a := cs = [.string a] ∧ a.size ≤ maxLen
  own L _ cs a := L = [] ∧ cs = [.string a] ∧ a.size ≤ maxLen
  size a := a.size
  mark _ k := (markB k, k + 1)
  markT a k := (a, k)
  rd_len h := by rw [h.1]; rfl
  rd_same h _ := h
  own_same h _ := h
  own_rd h := h.2
  own_lt h := by rw [h.1]; simp
  own_nd h := by rw [h.1]; simp
  deq := inferInstance
  mk_le _ k := Nat.le_succ k
  mkT_le _ k := Nat.le_refl k
  lv := 1
  lvm := 0
  mk_bd _ k := by simp
  mkT_bd _ k := by simp

section
variable {α β : Type} [GoD α] [GoD β]

def rdP (w : World) (cs : List Value) (p : α × β) : Prop := ∃ c1 c2, cs = c1 ++ c2 ∧ rd w c1 p.1 ∧ rd w c2 p.2
def ownP (L : List Nat) (w : World) (cs : List Value) (p : α × β) : Prop := L.Nodup ∧ ∃ c1 c2 L1 L2, cs = c1 ++ c2 ∧ L = L1 ++ L2 ∧ own L1 w c1 p.1 ∧ own L2 w c2 p.2

instance instGoDProd : GoD (α × β) where
  n := GoD.n α + GoD.n β
  rd := rdP
  own := ownP
  size p := GoD.size p.1 + GoD.size p.2
  mark p k := (((GoD.mark p.1 k).1, (GoD.mark p.2 (GoD.mark p.1 k).2).1), (GoD.mark p.2 (GoD.mark p.1 k).2).2)
  markT p k := (((GoD.markT p.1 k).1, (GoD.markT p.2 (GoD.markT p.1 k).2).1), (GoD.markT p.2 (GoD.markT p.1 k).2).2)
  rd_len := by
    rintro w cs a ⟨c1, c2, rfl, h1, h2⟩
    simp [GoD.rd_len h1, GoD.rd_len h2]
  rd_same := by
    rintro w w' cs a ⟨c1, c2, rfl, h1, h2⟩ hb
    exact ⟨c1, c2, rfl, GoD.rd_same h1 hb, GoD.rd_same h2 hb⟩
  own_same := by
    rintro L w w' cs a ⟨hn, c1, c2, L1, L2, rfl, rfl, h1, h2⟩ hb
    exact ⟨hn, c1, c2, L1, L2, rfl, rfl, GoD.own_same h1 (fun b hm => hb b (by simp [hm])), GoD.own_same h2 (fun b hm => hb b (by simp [hm]))⟩
  own_rd := by
    rintro L w cs a ⟨hn, c1, c2, L1, L2, rfl, rfl, h1, h2⟩
    exact ⟨c1, c2, rfl, GoD.own_rd h1, GoD.own_rd h2⟩
  own_lt := by
    rintro L w cs a ⟨hn, c1, c2, L1, L2, rfl, rfl, h1, h2⟩ b hb
    rcases List.mem_append.1 hb with h | h
    · exact GoD.own_lt h1 b h
    · exact GoD.own_lt h2 b h
  own_nd h := h.1
  deq := @instDecidableEqProd _ _ GoD.deq GoD.deq
  mk_le _ _ := Nat.le_trans (GoD.mk_le _ _) (GoD.mk_le _ _)
  mkT_le _ _ := Nat.le_trans (GoD.mkT_le _ _) (GoD.mkT_le _ _)
  lv := GoD.lv α + GoD.lv β
  lvm := max (GoD.lvm α) (GoD.lvm β)
  mk_bd p k := by
    have h1 := GoD.mk_bd p.1 k
    have h2 := GoD.mk_bd p.2 (GoD.mark p.1 k).2
    have e1 := Nat.mul_le_mul_right (GoD.size p.1) (Nat.le_max_left (GoD.lvm α) (GoD.lvm β))
    have e2 := Nat.mul_le_mul_right (GoD.size p.2) (Nat.le_max_right (GoD.lvm α) (GoD.lvm β))
    rw [Nat.mul_add]
    omega
  mkT_bd p k := by
    have h1 := GoD.mkT_bd p.1 k
    have h2 := GoD.mkT_bd p.2 (GoD.markT p.1 k).2
    have e1 := Nat.mul_le_mul_right (GoD.size p.1) (Nat.le_max_left (GoD.lvm α) (GoD.lvm β))
    have e2 := Nat.mul_le_mul_right (GoD.size p.2) (Nat.le_max_right (GoD.lvm α) (GoD.lvm β))
    rw [Nat.mul_add]
    omega

def rdS (w : World) (cs : List Value) (l : List α) : Prop :=
  ∃ oa cap, cs = [.slice oa l.length cap] ∧ l.length ≤ cap ∧ cap ≤ maxLen ∧
    ∀ i a, l[i]? = some a → ∃ b off ce, oa = some ⟨b, off, none⟩ ∧ ce.length = GoD.n α ∧
      (∀ j v, ce[j]? = some v → w.cell? ⟨b, off + i * GoD.n α + j, none⟩ = some v) ∧ rd w ce a

def ownS (L : List Nat) (w : World) (cs : List Value) (l : List α) : Prop :=
  L.Nodup ∧ ((l = [] ∧ L = [] ∧ ∃ oa, cs = [.slice oa 0 0]) ∨
  ∃ (g cap : Nat) (cur : Array Value) (e : TypeId) (Ls : List (List Nat)), cs = [.slice (some ⟨g, 0, none⟩) l.length cap] ∧ w.heap[g]? = some (.cells cur e (0, 0)) ∧ l.length ≤ cap ∧ cap ≤ maxLen ∧
    cur.size = cap * GoD.n α ∧ L = g :: Ls.flatten ∧ Ls.length = l.length ∧
    ∀ i Li a, Ls[i]? = some Li → l[i]? = some a → own Li w ((cur.toList.drop (i * GoD.n α)).take (GoD.n α)) a)

def markS : List α → Nat → List α × Nat
  | [], k => ([], k)
  | a :: l, k => ((GoD.mark a k).1 :: (markS l (GoD.mark a k).2).1, (markS l (GoD.mark a k).2).2)

theorem markS_le : ∀ (l : List α) (k : Nat), k ≤ (markS l k).2
  | [], k => Nat.le_refl k
  | a :: l, k => Nat.le_trans (GoD.mk_le a k) (markS_le l _)
theorem markS_bd : ∀ (l : List α) (k : Nat), (markS l k).2 ≤ k + max (GoD.lv α) (GoD.lvm α) * (l.length + (l.map GoD.size).sum)
  | [], k => by simp [markS]
  | a :: l, k => by
    have h1 := GoD.mk_bd a k
    have h2 := markS_bd l (GoD.mark a k).2
    have e1 := Nat.le_max_left (GoD.lv α) (GoD.lvm α)
    have e2 := Nat.mul_le_mul_right (GoD.size a) (Nat.le_max_right (GoD.lv α) (GoD.lvm α))
    have e3 : max (GoD.lv α) (GoD.lvm α) * ((a :: l).length + ((a :: l).map GoD.size).sum) = max (GoD.lv α) (GoD.lvm α) * (l.length + (l.map GoD.size).sum) + max (GoD.lv α) (GoD.lvm α) * GoD.size a + max (GoD.lv α) (GoD.lvm α) := by
      simp only [List.length_cons, List.map_cons, List.sum_cons]
      rw [← Nat.mul_add, ← Nat.mul_succ]
      congr 1
      omega
    rw [e3]
    simp only [markS]
    omega
theorem markS_append : ∀ (l l' : List α) (k : Nat), markS (l ++ l') k = ((markS l k).1 ++ (markS l' (markS l k).2).1, (markS l' (markS l k).2).2)
  | [], _, _ => rfl
  | a :: l, l', k => by simp [markS, markS_append l l']

theorem block_lt_of_heap {w : World} {g : Nat} {o : Obj} (h : w.heap[g]? = some o) : g < w.heap.size := (Array.getElem?_eq_some_iff.1 h).1

theorem ownS_rdS {L : List Nat} {w : World} {cs : List Value} {l : List α} (h : ownS L w cs l) : rdS w cs l := by
  obtain ⟨_, ⟨rfl, rfl, oa, rfl⟩ | ⟨g, cap, cur, e, Ls, rfl, hg, hl, hm, hs, rfl, hLs, hel⟩⟩ := h
  · exact ⟨oa, 0, rfl, Nat.le_refl _, Nat.zero_le _, fun i a hi => by simp at hi⟩
  · refine ⟨_, cap, rfl, hl, hm, fun i a hi => ⟨g, 0, (cur.toList.drop (i * GoD.n α)).take (GoD.n α), rfl, ?_, ?_, ?_⟩⟩
    · have hi' : i < l.length := (List.getElem?_eq_some_iff.1 hi).1
      simp only [List.length_take, List.length_drop, Array.length_toList, hs]
      have : i * GoD.n α + GoD.n α ≤ cap * GoD.n α := by
        have := Nat.mul_le_mul_right (GoD.n α) (show i + 1 ≤ cap by omega)
        rwa [Nat.add_mul, Nat.one_mul] at this
      omega
    · intro j v hj
      rw [List.getElem?_take] at hj
      split at hj
      · rw [List.getElem?_drop] at hj
        simp only [World.cell?, hg]
        simpa [Nat.add_comm] using hj
      · cases hj
    · obtain ⟨Li, hLi⟩ : ∃ Li, Ls[i]? = some Li := by
        have hi' : i < l.length := (List.getElem?_eq_some_iff.1 hi).1
        exact ⟨_, List.getElem?_eq_getElem (by omega)⟩
      exact GoD.own_rd (hel i Li a hLi hi)

theorem mem_flatten_of_get {Ls : List (List Nat)} {i : Nat} {Li : List Nat} (h : Ls[i]? = some Li) {b : Nat} (hb : b ∈ Li) : b ∈ Ls.flatten :=
  List.mem_flatten.2 ⟨Li, List.mem_of_getElem? h, hb⟩

instance instGoDList : GoD (List α) where
  n := 1
  rd := rdS
  own := ownS
  size l := l.length + (l.map GoD.size).sum
  mark := markS
  markT := markS
  rd_len := by
    rintro w cs a ⟨oa, cap, rfl, _⟩
    rfl
  rd_same := by
    rintro w w' cs l ⟨oa, cap, rfl, hl, hm, hel⟩ hb
    refine ⟨oa, cap, rfl, hl, hm, fun i a hi => ?_⟩
    obtain ⟨b, off, ce, rfl, hlen, hc, hr⟩ := hel i a hi
    refine ⟨b, off, ce, rfl, hlen, fun j v hj => ?_, GoD.rd_same hr hb⟩
    have h1 := hc j v hj
    rw [World.cell?_of_block (hb b (World.block_lt_of_cell? _ _ h1))]
    exact h1
  own_same := by
    rintro L w w' cs l ⟨hn, h⟩ hb
    refine ⟨hn, ?_⟩
    rcases h with h | ⟨g, cap, cur, e, Ls, rfl, hg, hl, hm, hs, rfl, hLs, hel⟩
    · exact .inl h
    · refine .inr ⟨g, cap, cur, e, Ls, rfl, (hb g (by simp)).trans hg, hl, hm, hs, rfl, hLs, fun i Li a hLi hi => ?_⟩
      exact GoD.own_same (hel i Li a hLi hi) (fun b hm => hb b (List.mem_cons_of_mem _ (mem_flatten_of_get hLi hm)))
  own_rd := ownS_rdS
  own_lt := by
    rintro L w cs l ⟨hn, h⟩ b hb
    rcases h with ⟨_, rfl, _⟩ | ⟨g, cap, cur, e, Ls, rfl, hg, hl, hm, hs, rfl, hLs, hel⟩
    · simp at hb
    · rcases List.mem_cons.1 hb with rfl | hb
      · exact block_lt_of_heap hg
      · obtain ⟨Li, hLi, hm⟩ := List.mem_flatten.1 hb
        obtain ⟨i, hi, rfl⟩ := List.getElem_of_mem hLi
        exact GoD.own_lt (hel i _ _ (List.getElem?_eq_getElem hi) (List.getElem?_eq_getElem (by omega : i < l.length))) b hm
  own_nd h := h.1
  deq := @instDecidableEqList _ GoD.deq
  mk_le := markS_le
  mkT_le := markS_le
  lv := 0
  lvm := max (GoD.lv α) (GoD.lvm α)
  mk_bd := markS_bd
  mkT_bd := markS_bd
end

theorem rd_int {w : World} {cs : List Value} {a : Int} : rd w cs a ↔ cs = [.int .i64 a] ∧ I64 a := Iff.rfl
theorem rd_bool {w : World} {cs : List Value} {a : Bool} : rd w cs a ↔ cs = [.bool a] := Iff.rfl
theorem rd_str {w : World} {cs : List Value} {a : ByteArray} : rd w cs a ↔ cs = [.string a] ∧ a.size ≤ maxLen := Iff.rfl
theorem rd_prod {α β : Type} [GoD α] [GoD β] {w : World} {cs : List Value} {p : α × β} : rd w cs p ↔ ∃ c1 c2, cs = c1 ++ c2 ∧ rd w c1 p.1 ∧ rd w c2 p.2 := Iff.rfl
theorem rd_list {α : Type} [GoD α] {w : World} {cs : List Value} {l : List α} : rd w cs l ↔ rdS w cs l := Iff.rfl
theorem own_int {L : List Nat} {w : World} {cs : List Value} {a : Int} : own L w cs a ↔ L = [] ∧ cs = [.int .i64 a] ∧ I64 a := Iff.rfl
theorem own_bool {L : List Nat} {w : World} {cs : List Value} {a : Bool} : own L w cs a ↔ L = [] ∧ cs = [.bool a] := Iff.rfl
theorem own_str {L : List Nat} {w : World} {cs : List Value} {a : ByteArray} : own L w cs a ↔ L = [] ∧ cs = [.string a] ∧ a.size ≤ maxLen := Iff.rfl
theorem own_prod {α β : Type} [GoD α] [GoD β] {L : List Nat} {w : World} {cs : List Value} {p : α × β} : own L w cs p ↔ L.Nodup ∧ ∃ c1 c2 L1 L2, cs = c1 ++ c2 ∧ L = L1 ++ L2 ∧ own L1 w c1 p.1 ∧ own L2 w c2 p.2 := Iff.rfl
theorem own_list {α : Type} [GoD α] {L : List Nat} {w : World} {cs : List Value} {l : List α} : own L w cs l ↔ ownS L w cs l := Iff.rfl

/-- what a function that returns one value and turns nothing old says -/
def Ret (w : World) (v : Value) (e : Ending) (w' : World) : Prop := e = .returned v ∧ Below w.heap.size w w'

end Go.Proofs.YtjkfmihbmkbjfaaGreat
