/- Marks: what the laws' functions 'mark..' and 'held..' do to memory that is owned. No program in sight. -/
import Derived.Test.YtiafgmepdgfpbaaZa
set_option linter.unusedVariables false
set_option linter.unusedSimpArgs false
namespace Go.Proofs.Ytiafgmepdgfpbaa
open Go.RowKit
open GoD (rd own)
structure Chg (L : List Nat) (w w' : World) : Prop where
  os : w'.os = w.os
  tape : w'.tape = w.tape
  output : w'.output = w.output
  size : w.heap.size ≤ w'.heap.size
  block : ∀ b, b < w.heap.size → b ∉ L → w'.heap[b]? = w.heap[b]?
theorem Chg.refl (L : List Nat) (w : World) : Chg L w w := ⟨rfl, rfl, rfl, Nat.le_refl _, fun _ _ _ => rfl⟩
theorem Chg.trans {L : List Nat} {a b c : World} (h : Chg L a b) (k : Chg L b c) : Chg L a c :=
  ⟨k.os.trans h.os, k.tape.trans h.tape, k.output.trans h.output, Nat.le_trans h.size k.size, fun i hi hn => (k.block i (Nat.lt_of_lt_of_le hi h.size) hn).trans (h.block i hi hn)⟩
theorem Chg.mono {L M : List Nat} {w w' : World} (h : Chg L w w') (hs : ∀ b, b ∈ L → b ∈ M) : Chg M w w' :=
  ⟨h.os, h.tape, h.output, h.size, fun b hb hn => h.block b hb (fun hm => hn (hs b hm))⟩
theorem Chg.of_below {L : List Nat} {w w' : World} (h : Below w.heap.size w w') : Chg L w w' := ⟨h.os, h.tape, h.output, h.size, fun b hb _ => h.block b hb⟩
theorem Chg.below {L : List Nat} {B : Nat} {w w' : World} (h : Chg L w w') (hB : B ≤ w.heap.size) (hL : ∀ b, b ∈ L → B ≤ b) : Below B w w' :=
  ⟨h.os, h.tape, h.output, h.size, fun k hk => h.block k (by omega) (fun hm => by have := hL k hm; omega)⟩
theorem Chg.cell {L : List Nat} {w w' : World} (h : Chg L w w') {b : Nat} (hb : b < w.heap.size) (hn : b ∉ L) (o : Nat) : w'.cell? ⟨b, o, none⟩ = w.cell? ⟨b, o, none⟩ :=
  World.cell?_of_block (h.block b hb hn)
theorem Chg.frozen {L : List Nat} {w w' : World} (h : Chg L w w') {b : Nat} (hb : b < w.heap.size) (hn : b ∉ L) (o : Nat) : w'.frozen? ⟨b, o, none⟩ = w.frozen? ⟨b, o, none⟩ :=
  World.frozen?_of_block (h.block b hb hn)
section
variable {α β : Type} [GoD α] [GoD β]
theorem own_chg {L M : List Nat} {w w' : World} {cs : List Value} {a : α} (h : own L w cs a) (hc : Chg M w w') (hd : ∀ b, b ∈ L → b ∉ M) : own L w' cs a :=
  GoD.own_same h fun b hb => hc.block b (GoD.own_lt h b hb) (hd b hb)
theorem rd_chg_own {L M : List Nat} {w w' : World} {cs : List Value} {a : α} (h : own L w cs a) (hc : Chg M w w') (hd : ∀ b, b ∈ L → b ∉ M) : rd w' cs a := GoD.own_rd (own_chg h hc hd)
theorem below_call {B : Nat} {w0 W w' : World} (h0 : Below B w0 W) (hb : Below W.heap.size W w') (hB : B ≤ W.heap.size) : Below B w0 w' := h0.trans (hb.mono hB)
theorem below_chg {B : Nat} {w0 W w' : World} {L : List Nat} (h0 : Below B w0 W) (hc : Chg L W w') (hB : B ≤ W.heap.size) (hL : ∀ b, b ∈ L → B ≤ b) : Below B w0 w' := h0.trans (hc.below hB hL)
def MarkR (L : List Nat) (w : World) (cs : List Value) (r : α × Nat) (e : Ending) (w' : World) : Prop := e = .returned (.int .i64 r.2) ∧ own L w' cs r.1 ∧ Chg L w w'
theorem call_mark {P : Program} {f : FuncId} {args : Array Value} {W : World} {L : List Nat} {cs : List Value} {r : α × Nat} {R : Ending → World → Prop} (hc : Calls P f args W (MarkR L W cs r))
    (k : ∀ w', own L w' cs r.1 → Chg L W w' → W.heap.size ≤ w'.heap.size → R (.returned (.int .i64 r.2)) w') : Calls P f args W R :=
  hc.mono fun e w' ⟨he, ho, hch⟩ => by subst he; exact k w' ho hch hch.size
structure Upd (g lo m : Nat) (Li : List Nat) (w w' : World) : Prop where
  chg : Chg (g :: Li) w w'
  row : ∀ cur e, w.heap[g]? = some (.cells cur e (0, 0)) → ∃ cur', w'.heap[g]? = some (.cells cur' e (0, 0)) ∧ cur'.size = cur.size ∧ ∀ j, (j < lo ∨ lo + m ≤ j) → cur'[j]? = cur[j]?
theorem Upd.refl (g lo m : Nat) (Li : List Nat) (w : World) : Upd g lo m Li w w := ⟨Chg.refl _ _, fun cur _ h => ⟨cur, h, rfl, fun _ _ => rfl⟩⟩
theorem Upd.setCell {g lo m : Nat} {Li : List Nat} {w w' : World} (h : Upd g lo m Li w w') (o : Nat) (ho : lo ≤ o ∧ o < lo + m) (v : Value) : Upd g lo m Li w (w'.setCell ⟨g, o, none⟩ v) := by
  refine ⟨h.chg.trans ⟨rfl, rfl, rfl, by simp, fun b _ hn => heap_setCell_ne w' g o v (fun e => hn (by simp [e]))⟩, fun cur e hc => ?_⟩
  obtain ⟨cur', h1, h2, h3⟩ := h.row cur e hc
  refine ⟨_, heap_setCell_of w' g o v h1, by simpa using h2, fun j hj => ?_⟩
  rw [Array.getElem?_setIfInBounds, if_neg (by omega)]
  exact h3 j hj
theorem Upd.mark {g lo m : Nat} {Li M : List Nat} {w w' w'' : World} (h : Upd g lo m Li w w') (hc : Chg M w' w'') (hs : ∀ b, b ∈ M → b ∈ Li) (hg : g ∉ M) (hlt : g < w'.heap.size) : Upd g lo m Li w w'' := by
  refine ⟨h.chg.trans (hc.mono fun b hb => List.mem_cons_of_mem _ (hs b hb)), fun cur e hcur => ?_⟩
  obtain ⟨cur', h1, h2, h3⟩ := h.row cur e hcur
  exact ⟨cur', (hc.block g hlt hg).trans h1, h2, h3⟩
theorem Upd.below {g lo m : Nat} {Li : List Nat} {w w' w'' : World} (h : Upd g lo m Li w w') (hc : Below w'.heap.size w' w'') (hlt : g < w'.heap.size) : Upd g lo m Li w w'' :=
  h.mark (M := []) (Chg.of_below hc) (by simp) (by simp) hlt
theorem drop_take_ext {a b : List Value} {o n : Nat} (h : ∀ j, j < n → a[o + j]? = b[o + j]?) : (a.drop o).take n = (b.drop o).take n := by
  apply List.ext_getElem?
  intro j
  by_cases hj : j < n
  · rw [take_drop_get hj, take_drop_get hj, h j hj]
  · rw [List.getElem?_take, if_neg hj, List.getElem?_take, if_neg hj]
theorem own_open {L : List Nat} {w : World} {v : Value} {xs ys : List α} {a : α} (h : own L w [v] (xs ++ a :: ys)) :
    ∃ g cap cur e Li, v = .slice (some ⟨g, 0, none⟩) (xs ++ a :: ys).length cap ∧ w.heap[g]? = some (.cells cur e (0, 0)) ∧ xs.length * GoD.n α + GoD.n α ≤ cur.size ∧ g ∉ Li ∧ g ∈ L ∧ (∀ b, b ∈ Li → b ∈ L) ∧
      own Li w ((cur.toList.drop (xs.length * GoD.n α)).take (GoD.n α)) a ∧
      ∀ w' ce' a', Upd g (xs.length * GoD.n α) (GoD.n α) Li w w' → own Li w' ce' a' → (∀ j u, ce'[j]? = some u → w'.cell? ⟨g, xs.length * GoD.n α + j, none⟩ = some u) → own L w' [v] (xs ++ a' :: ys) := by
  obtain ⟨hnd, h | ⟨g, cap, cur, e, Ls, hv, hg, hl, hm, hs, rfl, hLs, hel⟩⟩ := h
  · simp at h
  have hxl : xs.length < Ls.length := by rw [hLs]; simp
  have hxc : xs.length < cap := by rw [hLs] at hxl; omega
  have ha : (xs ++ a :: ys)[xs.length]? = some a := by simp
  have hroom : xs.length * GoD.n α + GoD.n α ≤ cur.size := by
    have := Nat.mul_le_mul_right (GoD.n α) (show xs.length + 1 ≤ cap by omega)
    rw [Nat.add_mul, Nat.one_mul] at this
    omega
  have hgn : g ∉ Ls.flatten := (List.nodup_cons.1 hnd).1
  have hi := List.getElem?_eq_getElem hxl
  have ho := hel _ _ _ hi ha
  refine ⟨g, cap, cur, e, Ls[xs.length], by simpa using hv, hg, hroom, fun hm' => hgn (mem_flatten_of_get hi hm'), by simp, fun b hb => List.mem_cons_of_mem _ (mem_flatten_of_get hi hb), ho, fun w' ce' a' hu ho' hc' => ?_⟩
  obtain ⟨cur', h1, h2, h3⟩ := hu.row cur e hg
  have hcl : ce'.length = GoD.n α := GoD.rd_len (GoD.own_rd ho')
  refine ⟨hnd, .inr ⟨g, cap, cur', e, Ls, ?_, h1, by simpa using hl, hm, h2.trans hs, rfl, by rw [hLs]; simp, fun i Li x hLi hx => ?_⟩⟩
  · simpa using hv
  by_cases hik : i = xs.length
  · subst hik
    rw [hi] at hLi
    obtain rfl : Ls[xs.length] = Li := by simpa using hLi
    obtain rfl : a' = x := by simpa using hx
    have : (cur'.toList.drop (xs.length * GoD.n α)).take (GoD.n α) = ce' := by
      apply List.ext_getElem?
      intro j
      by_cases hj : j < GoD.n α
      · rw [take_drop_get hj, Array.getElem?_toList]
        have := hc' j _ (List.getElem?_eq_getElem (by omega))
        rw [List.getElem?_eq_getElem (by omega), ← this]
        simp [World.cell?, h1]
      · rw [List.getElem?_take, if_neg hj, List.getElem?_eq_none (by omega)]
    rw [this]
    exact ho'
  · have hx' : (xs ++ a :: ys)[i]? = some x := by
      rw [← hx]
      by_cases hlt : i < xs.length
      · rw [List.getElem?_append_left hlt, List.getElem?_append_left hlt]
      · rw [List.getElem?_append_right (by omega), List.getElem?_append_right (by omega)]
        obtain ⟨j, hj⟩ : ∃ j, i - xs.length = j + 1 := ⟨i - xs.length - 1, by omega⟩
        rw [hj]
        simp
    have hox := hel i Li x hLi hx'
    rw [drop_take_ext (b := cur.toList) (fun j hj => by
      rw [Array.getElem?_toList, Array.getElem?_toList]
      refine h3 _ ?_
      rcases Nat.lt_or_gt_of_ne hik with hlt | hgt
      · left
        have := Nat.mul_le_mul_right (GoD.n α) (show i + 1 ≤ xs.length by omega)
        rw [Nat.add_mul, Nat.one_mul] at this
        omega
      · right
        have := Nat.mul_le_mul_right (GoD.n α) (show xs.length + 1 ≤ i by omega)
        rw [Nat.add_mul, Nat.one_mul] at this
        omega)]
    refine GoD.own_same hox fun b hb => hu.chg.block b (GoD.own_lt hox b hb) (fun hm' => ?_)
    rcases List.mem_cons.1 hm' with rfl | hm'
    · exact hgn (mem_flatten_of_get hLi hb)
    ·
      have hfn := (List.nodup_cons.1 hnd).2
      rw [List.nodup_iff_pairwise_ne, List.pairwise_flatten] at hfn
      have hpw := hfn.2
      rw [List.pairwise_iff_getElem] at hpw
      have hil : i < Ls.length := (List.getElem?_eq_some_iff.1 hLi).1
      have hie : Ls[i] = Li := (List.getElem?_eq_some_iff.1 hLi).2
      rcases Nat.lt_or_gt_of_ne hik with hlt | hgt
      · exact hpw i xs.length hil hxl hlt b (by rw [hie]; exact hb) b hm' rfl
      · exact hpw xs.length i hxl hil hgt b hm' b (by rw [hie]; exact hb) rfl
theorem len_of_own {L : List Nat} {w : World} {oa : Option Addr} {l : List α} {n cap : Nat} (h : own L w [.slice oa n cap] l) : l.length ≤ 9223372036854775807 := by
  obtain ⟨_, cap, _, h1, h2, _⟩ := GoD.own_rd h
  unfold maxLen at h2
  omega
theorem len_of_rd {w : World} {oa : Option Addr} {l : List α} {n cap : Nat} (h : rd w [.slice oa n cap] l) : l.length ≤ 9223372036854775807 := by
  obtain ⟨_, cap, _, h1, h2, _⟩ := h
  unfold maxLen at h2
  omega
theorem size_plain {l : List α} (h : ∀ a : α, GoD.size a = 0) : GoD.size l = l.length := by rw [size_list, sum_zero l h]; rfl
theorem cells_at {w : World} {g o n : Nat} {cur : Array Value} {e : TypeId} {fr : Nat × Nat} {ce : List Value} (h : w.heap[g]? = some (.cells cur e fr)) (hce : (cur.toList.drop o).take n = ce) (j : Nat) (u : Value) (hj : ce[j]? = some u) :
    w.cell? ⟨g, o + j, none⟩ = some u := by
  rw [← hce] at hj
  rw [List.getElem?_take] at hj
  split at hj
  · rw [List.getElem?_drop] at hj
    simpa [World.cell?, h] using hj
  · cases hj
theorem mod3_eq (k : Nat) (z : Int) (h : z = (k : Int)) : (z % 3 == 0) = (k % 3 == 0) := by
  subst h
  rw [Bool.eq_iff_iff]
  simp
  omega
theorem i64_of (k : Nat) (h : k ≤ 4611686018427387904) : I64 (k : Int) := by unfold I64; omega
theorem markS_length' (l : List α) : ∀ k, (markS l k).1.length = l.length := by
  induction l with
  | nil => intro k; rfl
  | cons x l ih => intro k; simp [markS, ih]
theorem mark_split (l : List α) (k : Nat) : ∀ (i : Nat) (a : α), l[i]? = some a → markS (l.take (i + 1)) k = ((markS (l.take i) k).1 ++ [(GoD.mark a (markS (l.take i) k).2).1], (GoD.mark a (markS (l.take i) k).2).2) := by
  induction l generalizing k with
  | nil => intro i a h; simp at h
  | cons x l ih =>
    intro i a h
    cases i with
    | zero => simp at h; subst h; simp [markS]
    | succ i =>
      simp at h
      simp only [List.take_succ_cons, markS]
      rw [ih _ i a h]
      simp
theorem markS_get (l : List α) (k i : Nat) (a : α) (h : l[i]? = some a) : (markS l k).1[i]? = some (GoD.mark a (markS (l.take i) k).2).1 := by
  have h1 := mark_split l k i a h
  have h2 := markS_append (l.take (i + 1)) (l.drop (i + 1)) k
  have hi := (List.getElem?_eq_some_iff.1 h).1
  have hl : (markS (l.take i) k).1.length = i := by rw [markS_length', List.length_take]; omega
  rw [List.take_append_drop, h1] at h2
  rw [h2]
  rw [List.getElem?_append_left (by simp [hl]), List.getElem?_append_right (by omega), hl]
  simp
theorem markS_nil (k : Nat) : markS ([] : List α) k = ([], k) := rfl
theorem mark_take_le (l : List α) (k : Nat) (i : Nat) (a : α) (h : l[i]? = some a) : (GoD.mark a (markS (l.take i) k).2).2 ≤ (markS l k).2 := by
  have h1 := mark_split l k i a h
  have h2 := markS_append (l.take (i + 1)) (l.drop (i + 1)) k
  rw [List.take_append_drop, h1] at h2
  rw [h2]
  exact markS_le _ _
theorem markS_length (l : List α) : ∀ k, (markS l k).1.length = l.length := by
  induction l with
  | nil => intro k; rfl
  | cons x l ih => intro k; simp [markS, ih]
end
section
variable {α : Type} [GoD α]
theorem bdT {a : α} {k : Nat} (hv : GoD.lvm α ≤ 64) (hs : GoD.size a ≤ 1073741824) : (GoD.markT a k).2 ≤ k + 68719476736 := by
  have h1 := GoD.mkT_bd a k
  have h2 := Nat.mul_le_mul hv hs
  omega
theorem bdS {l : List α} {k : Nat} (hv : GoD.lvm (List α) ≤ 64) (hs : GoD.size l ≤ 1073741824) : (markS l k).2 ≤ k + 68719476736 := bdT (a := l) hv hs
end
end Go.Proofs.Ytiafgmepdgfpbaa
