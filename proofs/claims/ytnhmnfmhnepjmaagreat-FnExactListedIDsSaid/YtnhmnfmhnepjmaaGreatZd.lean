/- Rows of one-cell elements: what the library's Sort and Compact make of them. No program in sight. -/
import Derived.Test.YtnhmnfmhnepjmaaGreatZc
import Derived.Sort.EncStr
import Derived.Sort.Grow
import Derived.Lib.SlicesCompact
import Derived.Sort.Walk0
set_option linter.unusedVariables false
set_option linter.unusedSimpArgs false
namespace Go.Proofs.YtnhmnfmhnepjmaaGreat
open Go.RowKit Go.Sort
open GoE (enc)
structure OneC (α σ : Type) [GoE α] where
  to : α → σ
  of : σ → α
  cell : σ → Value
  pv : α → PV
  ok : α → Prop
  of_to : ∀ a, of (to a) = a
  to_of : ∀ s, to (of s) = s
  enc_eq : ∀ a, enc a = [pv a]
  flat : ∀ a, (pv a).flat
  vv : ∀ (X : Nat → Prop) (w : World) v a, VV X w v (pv a) ↔ v = cell (to a) ∧ ok a
def oneI : OneC Int Int where
  to := id
  of := id
  cell := .int .i64
  pv := .int .i64
  ok := InR .i64
  of_to _ := rfl
  to_of _ := rfl
  enc_eq _ := rfl
  flat _ := trivial
  vv X w v a := ⟨fun h => by cases h with | int h => exact ⟨rfl, h⟩, fun ⟨h1, h2⟩ => by subst h1; exact .int h2⟩
def oneS : OneC ByteArray (List UInt8) where
  to b := b.data.toList
  of s := ⟨s.toArray⟩
  cell := encStr
  pv := .str
  ok b := b.size ≤ maxLen
  of_to b := by cases b; simp
  to_of s := by simp
  enc_eq _ := rfl
  flat _ := trivial
  vv X w v a := by
    have e : encStr a.data.toList = .string a := by cases a; simp [encStr]
    rw [e]
    exact ⟨fun h => by cases h with | str h => exact ⟨rfl, h⟩, fun ⟨h1, h2⟩ => by subst h1; exact .str h2⟩
section
variable {α σ : Type} [GoE α] (C : OneC α σ)
theorem one_vr {X : Nat → Prop} {w : World} : ∀ {l : List α} {cs : List Value}, VR X w 1 cs (eL l) → cs = (l.map C.to).map C.cell ∧ ∀ a, a ∈ l → C.ok a
  | [], cs, h => by
    generalize hr : eL ([] : List α) = r at h
    cases h with
    | nil => exact ⟨rfl, fun a ha => by simp at ha⟩
    | cons => cases hr
  | a :: l, cs, h => by
    generalize hr : eL (a :: l) = r at h
    cases h with
    | nil => cases hr
    | cons h1 h2 h3 =>
      rw [eL_cons, C.enc_eq] at hr
      obtain ⟨rfl, rfl⟩ : [C.pv a] = _ ∧ eL l = _ := by simpa using hr
      obtain ⟨e, hok⟩ := one_vr h3
      cases h1 with
      | cons h4 h5 =>
        cases h5
        obtain ⟨rfl, ha⟩ := (C.vv X w _ a).1 h4
        exact ⟨by rw [e]; rfl, fun b hb => (List.mem_cons.1 hb).elim (fun e => e ▸ ha) (hok b)⟩
theorem vr_one {X : Nat → Prop} {w : World} : ∀ {l : List α}, (∀ a, a ∈ l → C.ok a) → VR X w 1 ((l.map C.to).map C.cell) (eL l)
  | [], _ => .nil 1
  | a :: l, h => by
    rw [eL_cons, C.enc_eq]
    exact VR.cons (ce := [C.cell (C.to a)]) (.cons ((C.vv X w _ a).2 ⟨rfl, h a List.mem_cons_self⟩) .nil) rfl (vr_one fun b hb => h b (List.mem_cons_of_mem _ hb))
theorem eL_flat (l : List α) : (eL l).flatten = l.map C.pv := by
  induction l with
  | nil => rfl
  | cons a l ih => rw [eL_cons, C.enc_eq, List.flatten_cons, ih]; rfl
theorem eL_pv (l : List α) : eL l = (l.map C.pv).map fun c => [c] := by
  simp [eL, C.enc_eq, Function.comp_def]
theorem put_list (e : σ → Value) [Inhabited σ] (d : Array σ) (cur : Array Value) (h : d.size ≤ cur.size) : (Go.Sort.putCells e 0 d cur).toList = d.toList.map e ++ cur.toList.drop d.size := by
  apply List.ext_getElem?
  intro j
  unfold Go.Sort.putCells
  rw [Array.getElem?_toList, Array.getElem?_mapIdx]
  by_cases hj : j < d.size
  · rw [List.getElem?_append_left (by simpa using hj), Array.getElem?_eq_getElem (by omega : j < cur.size), List.getElem?_map, Array.getElem?_toList, Array.getElem?_eq_getElem hj]
    simp only [Option.map_some]
    rw [if_pos ⟨Nat.zero_le _, by omega⟩, Nat.sub_zero, getElem!_pos d j hj]
  · rw [List.getElem?_append_right (by simpa using Nat.le_of_not_lt hj), List.getElem?_drop]
    have e1 : d.size + (j - (d.toList.map e).length) = j := by simp; omega
    rw [e1, Array.getElem?_toList]
    cases cur[j]? with
    | none => rfl
    | some x => simp; omega
theorem putRow_heap {e : σ → Value} [Inhabited σ] {w : World} {g : Nat} {cur : Array Value} {ty : TypeId} (hg : w.heap[g]? = some (.cells cur ty (0, 0))) (q : Nat) (d : Array σ) (os : Array Obj) :
    (grow (putRow e (Sort.ahead w q) g 0 d) os).heap[g]? = some (.cells (Go.Sort.putCells e 0 d cur) ty (0, 0)) := by
  have hlt : g < w.heap.size := block_lt_of_heap hg
  unfold grow putRow mapBlock Sort.ahead
  simp only [Array.getElem?_append, Array.size_modify]
  rw [if_pos hlt, Array.getElem?_modify, if_pos rfl, hg]
  rfl
theorem putRow_other {e : σ → Value} [Inhabited σ] (w : World) (g q : Nat) (d : Array σ) (os : Array Obj) : (∀ b, b < w.heap.size → b ≠ g → (grow (putRow e (Sort.ahead w q) g 0 d) os).heap[b]? = w.heap[b]?) ∧ ∀ m, m ≤ g → m ≤ w.heap.size → Below m w (grow (putRow e (Sort.ahead w q) g 0 d) os) := by
  have h : ∀ b, b < w.heap.size → b ≠ g → (grow (putRow e (Sort.ahead w q) g 0 d) os).heap[b]? = w.heap[b]? := fun b hb hn => by
    unfold grow putRow mapBlock Sort.ahead
    simp only [Array.getElem?_append, Array.size_modify]
    rw [if_pos hb, Array.getElem?_modify, if_neg (fun e => hn e.symm)]
  refine ⟨h, fun m hm hs => ⟨rfl, rfl, rfl, ?_, fun b hb => h b (by omega) (by omega)⟩⟩
  unfold grow putRow mapBlock Sort.ahead
  simp
theorem holds_of {e : σ → Value} [Inhabited σ] {g : Nat} {w : World} {cur : Array Value} {ty : TypeId} {l : List σ} (hg : w.heap[g]? = some (.cells cur ty (0, 0))) (ht : cur.toList.take l.length = l.map e) : Holds e w g 0 l.toArray := by
  intro j hj
  have hjl : j < l.length := by simpa using hj
  have hc : cur[j]? = some (e l[j]) := by
    have h5 : (cur.toList.take l.length)[j]? = (l.map e)[j]? := by rw [ht]
    rw [List.getElem?_take, if_pos hjl, List.getElem?_map, List.getElem?_eq_getElem hjl, Array.getElem?_toList] at h5
    exact h5
  refine ⟨?_, ?_⟩
  · rw [Nat.zero_add]
    simp [World.cell?, hg, hc, getElem!_pos, hjl]
  · simp [World.frozen?, hg]
variable {P : Program} [Inhabited σ]
theorem tret_none (F : Nat → Prop) (L : List Nat) (w : World) (oa : Option Addr) : TRet F L w 1 true [] (.returned (.tuple #[])) w :=
  ⟨_, rfl, fun m _ _ => Below.refl _ _, fun _ _ _ => rfl, rfl, fun v2 l2 h => by simpa [setAll] using h⟩
theorem atake_turn {f : Nat} (hok : FnOk P f) (srt : List σ → List σ) (hlen : ∀ l, (srt l).length = l.length) (hmem : ∀ l x, x ∈ srt l → x ∈ l)
    (h0 : ∀ oa cap w, Calls P f #[.slice oa 0 cap] w fun e w' => e = .returned (.tuple #[]) ∧ w' = w)
    (h1 : ∀ g cap (l : List σ) w, Holds C.cell w g 0 l.toArray → g < w.heap.size → l.length < 4611686018427387904 → Calls P f #[.slice (some ⟨g, 0, none⟩) l.length cap] w fun e w' => e = .returned (.tuple #[]) ∧ ∃ n os, w' = grow (putRow C.cell (Sort.ahead w n) g 0 (srt l).toArray) os)
    (l : List α) : ATake P f 1 (eL l) [] false true (eL ((srt (l.map C.to)).map C.of)) := by
  refine ⟨hok, fun w F G L v vals hFG _ hGs _ hLG hrow hargs => ?_⟩
  cases hargs
  rcases hrow with ⟨hl, oa, rfl⟩ | ⟨g, cap, cur, ty, rfl, rfl, hg, hs, hr, h5, h6⟩
  · obtain rfl : l = [] := by simpa [eL] using hl
    have hs0 : srt [] = [] := List.eq_nil_of_length_eq_zero (by rw [hlen]; rfl)
    refine (h0 oa 0 w).mono ?_
    rintro e w' ⟨rfl, rfl⟩
    rw [List.map_nil, hs0]
    exact tret_none F L w' oa
  · have hll : (eL l).length = l.length := by simp [eL]
    rw [hll] at hr h5 h6 ⊢
    rw [Nat.mul_one] at hr hs
    obtain ⟨hcs, hok'⟩ := one_vr C hr
    have hH : Holds C.cell w g 0 (l.map C.to).toArray := holds_of hg (by rw [List.length_map]; exact hcs)
    have hc := h1 g cap (l.map C.to) w hH (block_lt_of_heap hg) (by rw [List.length_map]; have := h6.2; omega)
    rw [List.length_map] at hc
    refine hc.mono ?_
    rintro e w' ⟨rfl, n, os, rfl⟩
    have hother := putRow_other (e := C.cell) w g n (srt (l.map C.to)).toArray os
    have hgl := block_lt_of_heap hg
    refine ⟨_, rfl, fun m hm hL => hother.2 m (hL g (by simp)) hm, fun b hb hn => hother.1 b hb (by simpa using hn), rfl, fun v2 l2 h2 => ?_⟩
    rcases h2 with ⟨rfl, oa, rfl⟩ | ⟨g2, cap2, cur2, ty2, hL2, rfl, hg2, hs2, hr2, h7, h8⟩
    · exact .inl ⟨by simp [setAll], oa, rfl⟩
    · obtain rfl : g = g2 := by simpa using hL2
      rw [hg] at hg2
      cases hg2
      rw [eL_flat C, setAll]
      have hd : (srt (l.map C.to)).toArray.size ≤ cur.size := by simp only [List.size_toArray, hlen, List.length_map]; omega
      have hlen2 : (List.map (fun c => [c]) (List.take l2.length (List.map C.pv (List.map C.of (srt (l.map C.to))))) ++ List.drop (List.map C.pv (List.map C.of (srt (l.map C.to)))).length l2).length = l2.length := by
        simp only [List.length_append, List.length_map, List.length_take, List.length_drop]
        omega
      refine .inr ⟨g, cap2, _, ty, rfl, by rw [hlen2], putRow_heap hg n _ os, ?_, ?_, by rw [hlen2]; exact h7, by rw [hlen2]; exact h8⟩
      · simp [Go.Sort.putCells, hs2]
      · rw [hlen2, Nat.mul_one, put_list C.cell _ cur hd, List.take_append]
        rw [Nat.mul_one] at hr2
        refine VR.append ?_ ?_
        · have hk : VR F (grow (putRow C.cell (Sort.ahead w n) g 0 (srt (l.map C.to)).toArray) os) 1 (cur.toList.take l2.length) l2 := by
            refine hr2.keep fun b hb => ⟨hb, hother.1 b (hGs b (hFG b hb)) fun e => (hLG g (by simp)).2 (hFG g (e ▸ hb))⟩
          have := VR.drop (srt (l.map C.to)).length hk
          rw [Nat.mul_one, List.drop_take] at this
          simpa using this
        · have hm : ∀ a, a ∈ (srt (l.map C.to)).map C.of → C.ok a := fun a ha => by
            obtain ⟨x, hx, rfl⟩ := List.mem_map.1 ha
            obtain ⟨b, hb, rfl⟩ := List.mem_map.1 (hmem _ _ hx)
            rw [C.of_to]; exact hok' b hb
          have := VR.take l2.length (vr_one C (X := F) (w := grow (putRow C.cell (Sort.ahead w n) g 0 (srt (l.map C.to)).toArray) os) hm)
          rw [Nat.mul_one, eL_pv C] at this
          simpa [List.map_take, Function.comp_def, C.to_of] using this
theorem atake_take {f : Nat} (hok : FnOk P f) (cmp : List σ → List σ) (hlen : ∀ l, (cmp l).length ≤ l.length) (hmem : ∀ l x, x ∈ cmp l → x ∈ l)
    (h0 : ∀ oa cap w, Calls P f #[.slice oa 0 cap] w fun e w' => e = .returned (.slice oa 0 cap) ∧ w' = w)
    (h1 : ∀ g cap (l : List σ) w, Holds C.cell w g 0 l.toArray → l.length ≤ 9223372036854775807 → l.length ≤ cap → Calls P f #[.slice (some ⟨g, 0, none⟩) l.length cap] w fun e w' => e = .returned (.slice (some ⟨g, 0, none⟩) (cmp l).length cap) ∧ ∃ q pad, (cmp l ++ pad).length = l.length ∧ w' = putRow C.cell (Sort.ahead w q) g 0 (cmp l ++ pad).toArray)
    (l : List α) : ATake P f 1 (eL l) [] false false (eL ((cmp (l.map C.to)).map C.of)) := by
  refine ⟨hok, fun w F G L v vals hFG _ hGs _ hLG hrow hargs => ?_⟩
  cases hargs
  rcases hrow with ⟨hl, oa, rfl⟩ | ⟨g, cap, cur, ty, rfl, rfl, hg, hs, hr, h5, h6⟩
  · obtain rfl : l = [] := by simpa [eL] using hl
    have hs0 : cmp [] = [] := List.eq_nil_of_length_eq_zero (by have := hlen []; simpa using this)
    refine (h0 oa 0 w).mono ?_
    rintro e w' ⟨rfl, rfl⟩
    rw [List.map_nil, hs0]
    exact ⟨_, rfl, fun m _ _ => Below.refl _ _, fun _ _ _ => rfl, [], List.nodup_nil, fun b hb => (by simp at hb), .inl ⟨rfl, oa, rfl⟩⟩
  · have hll : (eL l).length = l.length := by simp [eL]
    rw [hll] at hr h5 h6 ⊢
    rw [Nat.mul_one] at hr hs
    obtain ⟨hcs, hok'⟩ := one_vr C hr
    have hH : Holds C.cell w g 0 (l.map C.to).toArray := holds_of hg (by rw [List.length_map]; exact hcs)
    have hc := h1 g cap (l.map C.to) w hH (by rw [List.length_map]; have := h6.2; omega) (by rw [List.length_map]; exact h5)
    rw [List.length_map] at hc
    refine hc.mono ?_
    rintro e w' ⟨rfl, q, pad, hpad, rfl⟩
    have hw : putRow C.cell (Sort.ahead w q) g 0 (cmp (l.map C.to) ++ pad).toArray = grow (putRow C.cell (Sort.ahead w q) g 0 (cmp (l.map C.to) ++ pad).toArray) #[] := (grow_empty _).symm
    rw [hw]
    have hother := putRow_other (e := C.cell) w g q (cmp (l.map C.to) ++ pad).toArray #[]
    have hgl := block_lt_of_heap hg
    have hd : (cmp (l.map C.to) ++ pad).toArray.size ≤ cur.size := by rw [List.size_toArray, hpad]; omega
    have hle := hlen (l.map C.to)
    rw [List.length_map] at hle
    have hel : (eL ((cmp (l.map C.to)).map C.of)).length = (cmp (l.map C.to)).length := by simp [eL]
    have hsz : g < (grow (putRow C.cell (Sort.ahead w q) g 0 (cmp (l.map C.to) ++ pad).toArray) #[]).heap.size := block_lt_of_heap (putRow_heap hg q _ #[])
    refine ⟨_, rfl, fun m hm hL => hother.2 m (hL g (by simp)) hm, fun b hb hn => hother.1 b hb (by simpa using hn), [g], by simp, fun b hb => ?_, .inr ⟨g, cap, _, ty, rfl, by rw [hel], putRow_heap hg q _ #[], ?_, ?_, by rw [hel]; omega, h6.1, by rw [hel]; have := h6.2; omega⟩⟩
    · obtain rfl := List.mem_singleton.1 hb
      exact ⟨hsz, .inr (by simp)⟩
    · simp [Go.Sort.putCells, hs]
    · rw [hel, Nat.mul_one, put_list C.cell _ cur hd]
      have hm : ∀ a, a ∈ (cmp (l.map C.to)).map C.of → C.ok a := fun a ha => by
        obtain ⟨x, hx, rfl⟩ := List.mem_map.1 ha
        obtain ⟨b, hb, rfl⟩ := List.mem_map.1 (hmem _ _ hx)
        rw [C.of_to]; exact hok' b hb
      have := vr_one C (X := F) (w := grow (putRow C.cell (Sort.ahead w q) g 0 (cmp (l.map C.to) ++ pad).toArray) #[]) hm
      have e1 : ((cmp (l.map C.to)).map C.of).map C.to = cmp (l.map C.to) := by simp [Function.comp_def, C.to_of]
      rw [e1] at this
      rw [List.map_append, List.append_assoc, List.take_left' (by simp)]
      exact this
end
/-! ### the rows that Sort and Compact give, typed -/
def sortI (l : List Int) : List Int := l.mergeSort fun x y => decide (x ≤ y)
def sortS (l : List ByteArray) : List ByteArray := ((l.map oneS.to).mergeSort fun x y => decide (x ≤ y)).map oneS.of
def compI (l : List Int) : List Int := Lib.compact l
def compS (l : List ByteArray) : List ByteArray := (Lib.compact (l.map oneS.to)).map oneS.of
theorem comp_mem {σ : Type} [Inhabited σ] [DecidableEq σ] (l : List σ) (x : σ) (h : x ∈ Lib.compact l) : x ∈ l := by
  unfold Lib.compact Lib.compactUpTo at h
  simp only [List.mem_map, List.mem_filter, List.mem_range] at h
  obtain ⟨j, ⟨hj, _⟩, e⟩ := h
  have e1 : l.toArray[j]! = l[j] := by rw [getElem!_pos l.toArray j (by simpa using hj)]; simp
  rw [e1] at e
  exact e ▸ List.getElem_mem hj
theorem comp_len {σ : Type} [Inhabited σ] [DecidableEq σ] (l : List σ) : (Lib.compact l).length ≤ l.length := by
  unfold Lib.compact Lib.compactUpTo
  rw [List.length_map]
  exact Nat.le_trans (List.length_filter_le _ _) (by rw [List.length_range]; exact Nat.le_refl _)
theorem sortI_len (l : List Int) : (sortI l).length = l.length := List.length_mergeSort _
theorem sortS_len (l : List ByteArray) : (sortS l).length = l.length := by simp [sortS, List.length_mergeSort]
theorem compI_len (l : List Int) : (compI l).length ≤ l.length := comp_len l
theorem compS_len (l : List ByteArray) : (compS l).length ≤ l.length := by
  have := comp_len (l.map oneS.to)
  rw [List.length_map] at this
  simpa [compS] using this
theorem putR_all {α : Type} [GoE α] {l k : List α} (h1 : ∀ a : α, (enc a).length = 1) (h : k.length = l.length) : putR (eL l) 0 4294967296 (eL k).flatten = eL k := by
  have hk : ∀ k : List α, ((eL k).flatten.map fun c => [c]) = eL k := fun k => by
    induction k with
    | nil => rfl
    | cons a k ih =>
      rw [eL_cons, List.flatten_cons, List.map_append, ih]
      have := h1 a
      match enc a, this with
      | [p], _ => rfl
  have hf : (eL k).flatten.length = k.length := by
    have := congrArg List.length (hk k)
    rw [List.length_map] at this
    rw [this]
    simp [eL]
  show setAll (eL l) (eL k).flatten = eL k
  unfold setAll
  have e1 : (eL l).length = l.length := by simp [eL]
  rw [e1, List.take_of_length_le (by omega), hk, List.drop_of_length_le (by omega), List.append_nil]
end Go.Proofs.YtnhmnfmhnepjmaaGreat
namespace Go.Proofs.YtnhmnfmhnepjmaaGreat
open Go.RowKit
section
variable {σ : Type} (lt : σ → σ → Prop)
theorem ascs_ext (irr : ∀ a, ¬ lt a a) (tr : ∀ a b c, lt a b → lt b c → lt a c) : ∀ (a b : List σ), a.Pairwise lt → b.Pairwise lt → (∀ x, x ∈ a ↔ x ∈ b) → a = b
  | [], [], _, _, _ => rfl
  | [], y :: b, _, _, h => by have := (h y).2 (by simp); simp at this
  | x :: a, [], _, _, h => by have := (h x).1 (by simp); simp at this
  | x :: a, y :: b, ha, hb, h => by
    rw [List.pairwise_cons] at ha hb
    have h1 : x = y := by
      have hx := (h x).1 (by simp)
      have hy := (h y).2 (by simp)
      simp only [List.mem_cons] at hx hy
      rcases hx with e | hx
      · exact e
      · rcases hy with e | hy
        · exact e.symm
        · exact (irr x (tr _ _ _ (ha.1 y hy) (hb.1 x hx))).elim
    subst h1
    congr 1
    refine ascs_ext irr tr a b ha.2 hb.2 fun z => ?_
    have hz := h z
    simp only [List.mem_cons] at hz
    constructor
    · intro hm
      have hlt := ha.1 z hm
      rcases hz.1 (.inr hm) with e | e
      · subst e; exact (irr z hlt).elim
      · exact e
    · intro hm
      have hlt := hb.1 z hm
      rcases hz.2 (.inr hm) with e | e
      · subst e; exact (irr z hlt).elim
      · exact e
theorem comp_asc [Inhabited σ] [DecidableEq σ] (d : Array σ) (tr : ∀ a b c, ¬ lt b a → lt b c → lt a c) (tri : ∀ a b, ¬ lt b a → a ≠ b → lt a b) (hs : ∀ i j, i ≤ j → j < d.size → ¬ lt d[j]! d[i]!) :
    ∀ m, m ≤ d.size → (Lib.compactUpTo d m).Pairwise lt ∧ ∀ x, x ∈ Lib.compactUpTo d m ↔ ∃ j, j < m ∧ d[j]! = x
  | 0, _ => by simp [Lib.compactUpTo]
  | m + 1, hm => by
    obtain ⟨h1, h2⟩ := comp_asc d tr tri hs m (by omega)
    rw [Lib.compactUpTo_succ]
    by_cases hk : Lib.keeps d m = true
    · rw [if_pos hk]
      refine ⟨?_, fun x => ?_⟩
      · rw [List.pairwise_append]
        refine ⟨h1, by simp, fun a ha b hb => ?_⟩
        obtain ⟨j, hj, rfl⟩ := (h2 a).1 ha
        obtain rfl : b = d[m]! := by simpa using hb
        have hle := hs j (m - 1) (by omega) (by omega)
        have hle2 := hs (m - 1) m (by omega) (by omega)
        have hne : d[m]! ≠ d[m - 1]! := by
          unfold Lib.keeps at hk
          simp only [Bool.or_eq_true, beq_iff_eq, bne_iff_ne, decide_eq_true_eq] at hk
          rcases hk with h | h
          · omega
          · exact h
        exact tr _ _ _ hle (tri _ _ hle2 fun e => hne e.symm)
      · rw [List.mem_append, h2 x]
        constructor
        · rintro (⟨j, hj, e⟩ | h)
          · exact ⟨j, by omega, e⟩
          · exact ⟨m, by omega, by simpa using (by simpa using h : x = d[m]!).symm⟩
        · rintro ⟨j, hj, e⟩
          by_cases hjm : j = m
          · subst hjm; exact .inr (by simp [e])
          · exact .inl ⟨j, by omega, e⟩
    · rw [if_neg hk, List.append_nil]
      refine ⟨h1, fun x => ?_⟩
      rw [h2 x]
      have hm0 : m ≠ 0 ∧ d[m]! = d[m - 1]! := by
        unfold Lib.keeps at hk
        simp only [Bool.or_eq_true, beq_iff_eq, bne_iff_ne, decide_eq_true_eq, not_or, Decidable.not_not] at hk
        exact hk
      constructor
      · rintro ⟨j, hj, e⟩; exact ⟨j, by omega, e⟩
      · rintro ⟨j, hj, e⟩
        by_cases hjm : j = m
        · subst hjm; exact ⟨j - 1, by omega, hm0.2 ▸ e⟩
        · exact ⟨j, by omega, e⟩
end
/-! ### texts -/
def bl (a b : ByteArray) : Bool := Op.bytesLess a.toList b.toList
theorem lt8_trans {a b c : List UInt8} (h : a < b) (h' : b < c) : a < c := List.lt_trans h h'
theorem lt8_irr (a : List UInt8) : ¬ a < a := List.lt_irrefl a
theorem lt8_tri {a b : List UInt8} (h : ¬ b < a) (hn : a ≠ b) : a < b := Classical.byContradiction fun h' => hn (List.le_antisymm h h')
theorem bl_iff (a b : ByteArray) : bl a b = true ↔ a.data.toList < b.data.toList := by
  unfold bl
  rw [bytesLess_eq, ByteArray.toList_eq, ByteArray.toList_eq, decide_eq_true_iff]
theorem bl_irr (a : ByteArray) : bl a a = false := by
  cases h : bl a a with
  | false => rfl
  | true => exact (lt8_irr _ ((bl_iff a a).1 h)).elim
theorem bl_trans {a b c : ByteArray} (h : bl a b = true) (h' : bl b c = true) : bl a c = true := (bl_iff _ _).2 (lt8_trans ((bl_iff _ _).1 h) ((bl_iff _ _).1 h'))
theorem bl_tri {a b : ByteArray} (h : bl b a = false) (hn : a ≠ b) : bl a b = true := (bl_iff _ _).2 (lt8_tri (fun hb => by rw [(bl_iff _ _).2 hb] at h; cases h) fun e => hn (by cases a; cases b; simp at e; rw [e]))
def putS : List ByteArray → ByteArray → List ByteArray
  | [], s => [s]
  | x :: l, s => if bl x s then x :: putS l s else if x = s then x :: l else s :: x :: l
def ascS (l : List ByteArray) : Prop := l.Pairwise fun a b => bl a b = true
theorem mem_putS (s x : ByteArray) : ∀ l, x ∈ putS l s ↔ x = s ∨ x ∈ l
  | [] => by simp [putS]
  | y :: l => by
    simp only [putS]
    split
    · rw [List.mem_cons, mem_putS s x l, List.mem_cons]
      constructor
      · rintro (h | h | h) <;> simp [h]
      · rintro (h | h | h) <;> simp [h]
    · split
      · rename_i e
        subst e
        simp
      · simp
theorem asc_putS (s : ByteArray) : ∀ l, ascS l → ascS (putS l s)
  | [], _ => by simp [ascS, putS]
  | y :: l, h => by
    have h := List.pairwise_cons.1 h
    simp only [putS]
    split
    · rename_i hl
      refine List.pairwise_cons.2 ⟨fun z hz => ?_, asc_putS s l h.2⟩
      rcases (mem_putS s z l).1 hz with e | hz
      · exact e ▸ hl
      · exact h.1 z hz
    · split
      · exact List.pairwise_cons.2 h
      · rename_i hl hn
        have hs : bl s y = true := bl_tri (by simpa using hl) fun e => hn e.symm
        refine List.pairwise_cons.2 ⟨fun z hz => ?_, List.pairwise_cons.2 h⟩
        rcases List.mem_cons.1 hz with rfl | hz
        · exact hs
        · exact bl_trans hs (h.1 z hz)
theorem len_putS (s : ByteArray) : ∀ l, (putS l s).length ≤ l.length + 1
  | [] => by simp [putS]
  | y :: l => by
    have := len_putS s l
    simp only [putS]
    split
    · simp only [List.length_cons]; omega
    · split <;> simp
def putAllS (l xs : List ByteArray) : List ByteArray := xs.foldl putS l
theorem mem_putAllS (x : ByteArray) : ∀ xs l, x ∈ putAllS l xs ↔ x ∈ xs ∨ x ∈ l
  | [], l => by simp [putAllS]
  | y :: xs, l => by
    show x ∈ putAllS (putS l y) xs ↔ _
    rw [mem_putAllS x xs, mem_putS, List.mem_cons]
    constructor
    · rintro (h | h | h) <;> simp [h]
    · rintro ((h | h) | h) <;> simp [h]
theorem asc_putAllS : ∀ xs l, ascS l → ascS (putAllS l xs)
  | [], _, h => h
  | y :: xs, l, h => asc_putAllS xs (putS l y) (asc_putS y l h)
theorem ascS_ext (a b : List ByteArray) (ha : ascS a) (hb : ascS b) (h : ∀ x, x ∈ a ↔ x ∈ b) : a = b :=
  ascs_ext (fun a b => bl a b = true) (fun a h => by rw [bl_irr] at h; cases h) (fun _ _ _ => bl_trans) a b ha hb h
theorem once_spec (l : List ByteArray) : ascS (compS (sortS l)) ∧ ∀ x, x ∈ compS (sortS l) ↔ x ∈ l := by
  have hto : (sortS l).map oneS.to = (l.map oneS.to).mergeSort fun x y => decide (x ≤ y) := by simp [sortS, Function.comp_def, oneS.to_of]
  unfold compS
  rw [hto]
  generalize hm : l.map oneS.to = m
  have hp := List.mergeSort_perm m (fun x y => decide (x ≤ y))
  have hs := List.pairwise_mergeSort (le := fun (x y : List UInt8) => decide (x ≤ y)) (fun a b c h1 h2 => by
    simp only [decide_eq_true_eq] at h1 h2 ⊢; exact List.le_trans h1 h2) (fun a b => by
    have := List.le_total a b
    simpa using this) m
  generalize (m.mergeSort fun x y => decide (x ≤ y)) = s at hp hs
  have hget : ∀ j, j < s.length → s.toArray[j]! = s[j]! := fun j hj => by simp
  have hmono : ∀ i j, i ≤ j → j < s.toArray.size → ¬ s.toArray[j]! < s.toArray[i]! := fun i j hij hj => by
    have hj : j < s.length := by simpa using hj
    rw [hget i (by omega), hget j hj, getElem!_pos s i (by omega), getElem!_pos s j hj]
    by_cases e : i = j
    · subst e; exact lt8_irr _
    · have := List.pairwise_iff_getElem.1 hs i j (by omega) hj (by omega)
      simpa using this
  obtain ⟨h1, h2⟩ := comp_asc (fun a b : List UInt8 => a < b) s.toArray (fun a b c hab hbc => by
    by_cases e : a = b
    · exact e ▸ hbc
    · exact lt8_trans (lt8_tri hab e) hbc) (fun a b h hn => lt8_tri h hn) hmono s.length (by simp)
  refine ⟨?_, fun x => ?_⟩
  · refine List.pairwise_map.2 (h1.imp fun {a b} h => (bl_iff _ _).2 ?_)
    simpa [oneS] using h
  · have hmem : x ∈ l ↔ oneS.to x ∈ m := by
      rw [← hm, List.mem_map]
      refine ⟨fun h => ⟨x, h, rfl⟩, fun ⟨y, h, e⟩ => ?_⟩
      have := congrArg oneS.of e
      rw [oneS.of_to, oneS.of_to] at this
      exact this ▸ h
    rw [hmem, ← hp.mem_iff, List.mem_map]
    constructor
    · rintro ⟨y, hy, rfl⟩
      obtain ⟨j, hj, e⟩ := (h2 y).1 hy
      rw [hget j hj, getElem!_pos s j hj] at e
      rw [oneS.to_of]
      exact e ▸ List.getElem_mem hj
    · intro h
      obtain ⟨j, hj, e⟩ := List.getElem_of_mem h
      exact ⟨oneS.to x, (h2 _).2 ⟨j, hj, by rw [hget j hj, getElem!_pos s j hj]; exact e⟩, oneS.of_to x⟩
theorem once_put (l : List ByteArray) : compS (sortS l) = putAllS [] l :=
  ascS_ext _ _ (once_spec l).1 (asc_putAllS l [] List.Pairwise.nil) fun x => by rw [(once_spec l).2, mem_putAllS]; simp
end Go.Proofs.YtnhmnfmhnepjmaaGreat
namespace Go.Proofs.YtnhmnfmhnepjmaaGreat
abbrev Edges := List (Nat × Int)
def need (E : Edges) (L : List Int) : Int := E.foldl (fun m e => max m (nth L e.1 + e.2)) 0
theorem fold_max_le (L : List Int) (x : Int) : ∀ (E : Edges) (m : Int), E.foldl (fun m e => max m (nth L e.1 + e.2)) m ≤ x ↔ m ≤ x ∧ ∀ e, e ∈ E → nth L e.1 + e.2 ≤ x
  | [], m => by simp
  | e :: E, m => by
    rw [List.foldl_cons, fold_max_le L x E]
    constructor
    · rintro ⟨h1, h2⟩
      refine ⟨by omega, fun e' he => ?_⟩
      rcases List.mem_cons.1 he with rfl | he
      · omega
      · exact h2 e' he
    · rintro ⟨h1, h2⟩
      have := h2 e List.mem_cons_self
      exact ⟨by omega, fun e' he => h2 e' (List.mem_cons_of_mem _ he)⟩
theorem need_le {E : Edges} {L : List Int} {x : Int} : need E L ≤ x ↔ 0 ≤ x ∧ ∀ e, e ∈ E → nth L e.1 + e.2 ≤ x := fold_max_le L x E 0
theorem need_nonneg (E : Edges) (L : List Int) : 0 ≤ need E L := (need_le.1 (Int.le_refl _)).1
theorem need_mono {E : Edges} {L M : List Int} (h : ∀ j, nth L j ≤ nth M j) : need E L ≤ need E M :=
  need_le.2 ⟨need_nonneg E M, fun e he => by
    have := (need_le.1 (Int.le_refl (need E M))).2 e he
    have := h e.1
    omega⟩
theorem nth_set {L : List Int} {i : Nat} (x : Int) (j : Nat) (hi : i < L.length) : nth (L.set i x) j = if j = i then x else nth L j := by
  unfold nth
  by_cases h : j = i
  · subst h; simp [List.getD, hi]
  · rw [if_neg h]; simp [List.getD, List.getElem?_set, Ne.symm h]
theorem nth_out {L : List Int} {i : Nat} (h : L.length ≤ i) : nth L i = 0 := by
  unfold nth
  simp [List.getD, List.getElem?_eq_none h]
def raise (E : Nat → Edges) (L : List Int) (i : Nat) : List Int := if nth L i < need (E i) L then L.set i (need (E i) L) else L
theorem raise_len (E : Nat → Edges) (L : List Int) (i : Nat) : (raise E L i).length = L.length := by unfold raise; split <;> simp
theorem raise_ge (E : Nat → Edges) (L : List Int) (i j : Nat) : nth L j ≤ nth (raise E L i) j := by
  unfold raise
  split
  · rename_i h
    by_cases hi : i < L.length
    · rw [nth_set _ _ hi]; split
      · rename_i e; subst e; omega
      · omega
    · rw [List.set_eq_of_length_le (by omega)]; omega
  · omega
def rounds (E : Nat → Edges) (is : List Nat) (L : List Int) : List Int := is.foldl (raise E) L
theorem rounds_len (E : Nat → Edges) : ∀ (is : List Nat) (L : List Int), (rounds E is L).length = L.length
  | [], _ => rfl
  | i :: is, L => (rounds_len E is (raise E L i)).trans (raise_len E L i)
theorem rounds_ge (E : Nat → Edges) (j : Nat) : ∀ (is : List Nat) (L : List Int), nth L j ≤ nth (rounds E is L) j
  | [], _ => Int.le_refl _
  | i :: is, L => Int.le_trans (raise_ge E L i j) (rounds_ge E j is (raise E L i))
theorem ext_nth {L M : List Int} (hl : L.length = M.length) (h : ∀ j, nth L j = nth M j) : L = M := by
  apply List.ext_getElem hl
  intro i h1 h2
  have := h i
  simpa [nth, List.getD, h1, h2] using this
theorem rounds_fix (E : Nat → Edges) : ∀ (is : List Nat) (L : List Int), rounds E is L = L → ∀ i, i ∈ is → raise E L i = L
  | [], _, _, i, hi => by simp at hi
  | a :: is, L, h, i, hi => by
    have h1 : raise E L a = L := ext_nth (raise_len E L a) fun j => by
      have h2 := raise_ge E L a j
      have h3 := rounds_ge E j is (raise E L a)
      have h4 : nth (rounds E is (raise E L a)) j = nth L j := congrArg (nth · j) h
      omega
    rcases List.mem_cons.1 hi with rfl | hi
    · exact h1
    · refine rounds_fix E is L ?_ i hi
      have : rounds E is (raise E L a) = L := h
      rwa [h1] at this
theorem raise_rest {E : Nat → Edges} {L : List Int} {i : Nat} (hi : i < L.length) : raise E L i = L ↔ need (E i) L ≤ nth L i := by
  unfold raise
  constructor
  · intro h
    split at h
    · rename_i hlt
      have h2 : nth (L.set i (need (E i) L)) i = nth L i := by rw [h]
      rw [nth_set _ _ hi, if_pos rfl] at h2
      omega
    · omega
  · intro h
    rw [if_neg (by omega)]
def Sat (E : Nat → Edges) (n : Nat) (g : List Int) : Prop := ∀ i, i < n → need (E i) g ≤ nth g i
theorem raise_below {E : Nat → Edges} {n : Nat} {L g : List Int} {i : Nat} (hi : i < n) (hn : L.length = n) (hs : Sat E n g) (h : ∀ j, nth L j ≤ nth g j) : ∀ j, nth (raise E L i) j ≤ nth g j := by
  intro j
  unfold raise
  split
  · rw [nth_set _ _ (by omega)]
    split
    · rename_i e; subst e
      exact Int.le_trans (need_mono h) (hs j hi)
    · exact h j
  · exact h j
theorem rounds_below {E : Nat → Edges} {n : Nat} {g : List Int} (hs : Sat E n g) : ∀ (is : List Nat) (L : List Int), (∀ i, i ∈ is → i < n) → L.length = n → (∀ j, nth L j ≤ nth g j) → ∀ j, nth (rounds E is L) j ≤ nth g j
  | [], _, _, _, h => h
  | i :: is, L, hi, hn, h => rounds_below hs is (raise E L i) (fun k hk => hi k (List.mem_cons_of_mem _ hk)) ((raise_len E L i).trans hn) (raise_below (hi i List.mem_cons_self) hn hs h)
theorem pigeon : ∀ (m : Nat) (l : List Int), (∀ v : Nat, v < m → ((v : Nat) : Int) ∈ l) → m ≤ l.length
  | 0, _, _ => Nat.zero_le _
  | m + 1, l, h => by
    have hm := h m (by omega)
    have := pigeon m (l.erase (m : Int)) fun v hv => (List.mem_erase_of_ne (by omega)).2 (h v (by omega))
    rw [List.length_erase_of_mem hm] at this
    have : 0 < l.length := List.length_pos_of_mem hm
    omega
theorem nth_mem {L : List Int} {i : Nat} (h : i < L.length) : nth L i ∈ L := by
  have : nth L i = L[i] := by simp [nth, List.getD, h]
  rw [this]; exact List.getElem_mem h
theorem mem_nth {L : List Int} {x : Int} (h : x ∈ L) : ∃ i, i < L.length ∧ nth L i = x := by
  obtain ⟨i, hi, e⟩ := List.getElem_of_mem h
  exact ⟨i, hi, by rw [← e]; simp [nth, List.getD, hi]⟩
theorem nth_map {L : List Int} {f : Int → Int} {i : Nat} (h : i < L.length) : nth (L.map f) i = f (nth L i) := by simp [nth, List.getD, h]
theorem rest_small {E : Nat → Edges} {n : Nat} {f : List Int} (hw : ∀ i e, e ∈ E i → e.2 ≤ 1 ∧ e.1 < n) (hlen : f.length = n) (hs : Sat E n f) (hleast : ∀ g : List Int, g.length = n → Sat E n g → (∀ j, 0 ≤ nth g j) → ∀ j, nth f j ≤ nth g j) (h0 : ∀ j, 0 ≤ nth f j) :
    ∀ i, i < n → nth f i < (n : Int) := by
  intro i hi
  have hall : ∀ v : Nat, (v : Int) ≤ nth f i → ((v : Nat) : Int) ∈ f := fun v hv => by
    refine Classical.byContradiction fun hno => ?_
    have hne : ∀ j, j < n → nth f j ≠ v := fun j hj e => hno (e ▸ nth_mem (by omega))
    have hvi : (v : Int) < nth f i := by have := hne i hi; omega
    let g := f.map fun x => if (v : Int) < x then x - 1 else x
    have hg : ∀ j, j < n → nth g j = if (v : Int) < nth f j then nth f j - 1 else nth f j := fun j hj => nth_map (by omega)
    have hg0 : ∀ j, ¬ j < n → nth g j = 0 := fun j hj => nth_out (by simp only [g, List.length_map]; omega)
    have hf0 : ∀ j, ¬ j < n → nth f j = 0 := fun j hj => nth_out (by omega)
    have hpos : ∀ j, 0 ≤ nth g j := fun j => by
      by_cases hj : j < n
      · rw [hg j hj]; have := h0 j; split <;> omega
      · rw [hg0 j hj]; omega
    have := hleast g (by simp only [g, List.length_map]; exact hlen) (fun k hk => need_le.2 ⟨hpos k, fun e he => ?_⟩) hpos i
    · rw [hg i hi, if_pos hvi] at this; omega
    · have h1 := (need_le.1 (hs k hk)).2 e he
      obtain ⟨h2, hj⟩ := hw k e he
      have h3 := hne k hk
      rw [hg k hk]
      have h4 := hne e.1 hj
      rw [hg e.1 hj]
      split <;> split <;> omega
  have hp := pigeon ((nth f i).toNat + 1) f fun v hv => hall v (by have := h0 i; omega)
  have := h0 i
  omega
/-! ### rounds until rest -/
theorem sum_set : ∀ (L : List Int) (i : Nat) (x : Int), i < L.length → (L.set i x).sum = L.sum + (x - nth L i)
  | [], i, x, h => by simp at h
  | a :: L, 0, x, _ => by simp [nth]; omega
  | a :: L, i + 1, x, h => by
    have := sum_set L i x (by simpa using h)
    have e : nth (a :: L) (i + 1) = nth L i := rfl
    rw [e, List.set_cons_succ, List.sum_cons, List.sum_cons, this]
    omega
theorem sum_le : ∀ (L : List Int) (N : Int), (∀ x, x ∈ L → x ≤ N) → L.sum ≤ (L.length : Int) * N
  | [], N, _ => by simp
  | a :: L, N, h => by
    have h1 := sum_le L N fun x hx => h x (List.mem_cons_of_mem _ hx)
    have h2 := h a List.mem_cons_self
    rw [List.sum_cons, List.length_cons, Int.natCast_add, Int.add_mul]
    omega
theorem raise_sum {E : Nat → Edges} {L : List Int} {i : Nat} (hi : i < L.length) : L.sum ≤ (raise E L i).sum ∧ (raise E L i ≠ L → L.sum + 1 ≤ (raise E L i).sum) := by
  unfold raise
  split
  · rename_i h
    have := sum_set L i (need (E i) L) hi
    omega
  · exact ⟨Int.le_refl _, fun h => (h rfl).elim⟩
theorem rounds_sum {E : Nat → Edges} : ∀ (is : List Nat) (L : List Int), (∀ i, i ∈ is → i < L.length) → L.sum ≤ (rounds E is L).sum ∧ (rounds E is L ≠ L → L.sum + 1 ≤ (rounds E is L).sum)
  | [], L, _ => ⟨Int.le_refl _, fun h => (h rfl).elim⟩
  | i :: is, L, h => by
    obtain ⟨h1, h2⟩ := raise_sum (E := E) (h i List.mem_cons_self)
    obtain ⟨h3, h4⟩ := rounds_sum (E := E) is (raise E L i) fun k hk => by rw [raise_len]; exact h k (List.mem_cons_of_mem _ hk)
    show L.sum ≤ (rounds E is (raise E L i)).sum ∧ (rounds E is (raise E L i) ≠ L → L.sum + 1 ≤ (rounds E is (raise E L i)).sum)
    refine ⟨by omega, fun hn => ?_⟩
    by_cases e : raise E L i = L
    · have := h4 (by rw [e] at hn ⊢; exact hn)
      omega
    · have := h2 e
      omega
def crounds (E : Nat → Edges) (N : Int) : List Nat → Bool × List Int → Option (Bool × List Int)
  | [], s => some s
  | i :: is, s => if N < need (E i) s.2 then none else crounds E N is (if nth s.2 i < need (E i) s.2 then (true, s.2.set i (need (E i) s.2)) else s)
theorem crounds_some {E : Nat → Edges} {N : Int} : ∀ (is : List Nat) (c : Bool) (L : List Int) (s : Bool × List Int), (∀ i, i ∈ is → i < L.length) → crounds E N is (c, L) = some s → s.2 = rounds E is L ∧ (s.1 = true → c = true ∨ rounds E is L ≠ L) ∧ (s.1 = false → c = false ∧ rounds E is L = L) ∧ ((∀ j, nth L j ≤ N) → ∀ j, nth s.2 j ≤ N)
  | [], c, L, s, _, h => by
    obtain rfl := Option.some.inj h
    exact ⟨rfl, fun h => .inl h, fun h => ⟨h, rfl⟩, fun h => h⟩
  | i :: is, c, L, s, hi, h => by
    have hil := hi i List.mem_cons_self
    have hlen : ∀ k, k ∈ is → k < (raise E L i).length := fun k hk => by rw [raise_len]; exact hi k (List.mem_cons_of_mem _ hk)
    simp only [crounds] at h
    split at h
    · cases h
    · rename_i hN
      split at h
      · rename_i hlt
        have er : raise E L i = L.set i (need (E i) L) := by unfold raise; rw [if_pos hlt]
        rw [← er] at h
        obtain ⟨h1, h2, h3, h4⟩ := crounds_some is true (raise E L i) s hlen h
        have hne : rounds E (i :: is) L ≠ L := fun e => by
          have := (rounds_sum (E := E) is (raise E L i) hlen).1
          have h5 := (raise_sum (E := E) hil).2 fun e' => by
            have := (raise_rest hil).1 e'
            omega
          have h6 : (rounds E is (raise E L i)).sum = L.sum := congrArg List.sum e
          omega
        refine ⟨h1, fun _ => .inr hne, fun h => (by have := (h3 h).1; cases this), fun hb j => h4 (fun j => ?_) j⟩
        rw [er, nth_set _ _ hil]
        split
        · omega
        · exact hb j
      · rename_i hlt
        have er : raise E L i = L := by unfold raise; rw [if_neg hlt]
        have e2 : rounds E (i :: is) L = rounds E is L := by show rounds E is (raise E L i) = _; rw [er]
        rw [e2]
        exact crounds_some is c L s (fun k hk => hi k (List.mem_cons_of_mem _ hk)) h
theorem crounds_none {E : Nat → Edges} {N : Int} : ∀ (is : List Nat) (c : Bool) (L : List Int), crounds E N is (c, L) = none → ∃ pre i, (∀ k, k ∈ pre → k ∈ is) ∧ i ∈ is ∧ N < need (E i) (rounds E pre L)
  | [], c, L, h => by cases h
  | i :: is, c, L, h => by
    simp only [crounds] at h
    split at h
    · rename_i hN
      exact ⟨[], i, fun k hk => by simp at hk, List.mem_cons_self, hN⟩
    · have key : ∀ c' L', L' = raise E L i → crounds E N is (c', L') = none → ∃ pre k, (∀ x, x ∈ pre → x ∈ i :: is) ∧ k ∈ i :: is ∧ N < need (E k) (rounds E pre L) := fun c' L' e h => by
        obtain ⟨pre, k, h1, h2, h3⟩ := crounds_none is c' L' h
        subst e
        refine ⟨i :: pre, k, fun x hx => ?_, List.mem_cons_of_mem _ h2, h3⟩
        rcases List.mem_cons.1 hx with rfl | hx
        · exact List.mem_cons_self
        · exact List.mem_cons_of_mem _ (h1 x hx)
      split at h
      · rename_i hlt
        exact key true _ (by unfold raise; rw [if_pos hlt]) h
      · rename_i hlt
        exact key c _ (by unfold raise; rw [if_neg hlt]) h
def climb (E : Nat → Edges) (N : Int) (n : Nat) : Nat → Bool × List Int → Option (Option (List Int))
  | 0, _ => none
  | k + 1, s => match s.1 with
    | true => (match crounds E N (List.range n) (false, s.2) with
      | none => some none
      | some s' => climb E N n k s')
    | false => some (some s.2)
theorem range_lt {n i : Nat} (h : i ∈ List.range n) : i < n := List.mem_range.1 h
theorem climb_some {E : Nat → Edges} {n : Nat} : ∀ (k : Nat) (c : Bool) (L : List Int), L.length = n → (∀ j, nth L j ≤ (n : Int)) → (n : Int) * (n : Int) - L.sum + 2 ≤ (k : Int) → (climb E n n k (c, L)).isSome = true
  | 0, c, L, hl, hb, hk => by
    have := sum_le L n fun x hx => by obtain ⟨i, _, e⟩ := mem_nth hx; exact e ▸ hb i
    rw [hl] at this
    omega
  | k + 1, false, L, hl, hb, hk => rfl
  | k + 1, true, L, hl, hb, hk => by
    simp only [climb]
    cases hc : crounds E n (List.range n) (false, L) with
    | none => rfl
    | some s =>
      obtain ⟨h1, h2, h3, h4⟩ := crounds_some (List.range n) false L s (fun i hi => by rw [hl]; exact range_lt hi) hc
      obtain ⟨c', L'⟩ := s
      simp only at h1 h2 h3 h4 ⊢
      have hl' : L'.length = n := by rw [h1, rounds_len, hl]
      have hs := rounds_sum (E := E) (List.range n) L fun i hi => by rw [hl]; exact range_lt hi
      rw [← h1] at hs
      cases c' with
      | false =>
        cases k with
        | zero =>
          have := sum_le L n fun x hx => by obtain ⟨i, _, e⟩ := mem_nth hx; exact e ▸ hb i
          rw [hl] at this
          omega
        | succ k => rfl
      | true =>
        have hne : L' ≠ L := by
          rcases h2 rfl with h | h
          · cases h
          · rw [h1]; exact h
        have := hs.2 hne
        exact climb_some k true L' hl' (h4 hb) (by omega)
def after (E : Nat → Edges) (n : Nat) : Nat → List Int
  | 0 => List.replicate n 0
  | k + 1 => rounds E (List.range n) (after E n k)
theorem after_len (E : Nat → Edges) (n : Nat) : ∀ k, (after E n k).length = n
  | 0 => by simp [after]
  | k + 1 => by rw [after, rounds_len, after_len E n k]
def Rest (E : Nat → Edges) (n : Nat) (L : List Int) : Prop := rounds E (List.range n) L = L
theorem nth_zero (n j : Nat) : nth (List.replicate n (0 : Int)) j = 0 := by
  by_cases h : j < n
  · simp [nth, List.getD, h]
  · exact nth_out (by simp; omega)
theorem after_nonneg (E : Nat → Edges) (n j : Nat) : ∀ k, 0 ≤ nth (after E n k) j
  | 0 => by rw [after, nth_zero]; omega
  | k + 1 => Int.le_trans (after_nonneg E n j k) (rounds_ge E j _ _)
theorem rest_sat {E : Nat → Edges} {n : Nat} {L : List Int} (hl : L.length = n) (h : Rest E n L) : Sat E n L := fun i hi => (raise_rest (by omega)).1 (rounds_fix E _ L h i (List.mem_range.2 hi))
theorem after_below {E : Nat → Edges} {n : Nat} {g : List Int} (hs : Sat E n g) (h0 : ∀ j, 0 ≤ nth g j) : ∀ k j, nth (after E n k) j ≤ nth g j
  | 0, j => by rw [after, nth_zero]; exact h0 j
  | k + 1, j => rounds_below hs _ _ (fun i hi => range_lt hi) (after_len E n k) (after_below hs h0 k) j
theorem rest_stays {E : Nat → Edges} {n k : Nat} (h : Rest E n (after E n k)) : ∀ d, after E n (k + d) = after E n k
  | 0 => rfl
  | d + 1 => by
    show rounds E (List.range n) (after E n (k + d)) = _
    rw [rest_stays h d]
    exact h
theorem rest_same {E : Nat → Edges} {n k m : Nat} (hk : Rest E n (after E n k)) (hm : Rest E n (after E n m)) : after E n k = after E n m := by
  rcases Nat.le_total k m with h | h
  · have := rest_stays hk (m - k)
    rw [show k + (m - k) = m by omega] at this
    exact this.symm
  · have := rest_stays hm (k - m)
    rwa [show m + (k - m) = k by omega] at this
theorem no_rest_sum {E : Nat → Edges} {n : Nat} : ∀ k, (∀ j, j < k → ¬ Rest E n (after E n j)) → (k : Int) ≤ (after E n k).sum
  | 0, _ => by
    have : ∀ n : Nat, (List.replicate n (0 : Int)).sum = 0 := fun n => by simp
    rw [after, this]; omega
  | k + 1, h => by
    have h1 := no_rest_sum k fun j hj => h j (by omega)
    have h2 := (rounds_sum (E := E) (List.range n) (after E n k) fun i hi => by rw [after_len]; exact range_lt hi).2 (h k (by omega))
    show ((k + 1 : Nat) : Int) ≤ (rounds E (List.range n) (after E n k)).sum
    omega
variable {E : Nat → Edges} {n : Nat} (hw : ∀ i e, e ∈ E i → e.2 ≤ 1 ∧ e.1 < n)
include hw in
theorem rest_lt {k : Nat} (h : Rest E n (after E n k)) : ∀ i, i < n → nth (after E n k) i < (n : Int) :=
  rest_small hw (after_len E n k) (rest_sat (after_len E n k) h) (fun _ _ hs h0 => after_below hs h0 k) fun j => after_nonneg E n j k
include hw in
theorem rest_soon {k : Nat} (h : Rest E n (after E n k)) : Rest E n (after E n (n * n + 2)) := by
  have hex : ∃ j, j ≤ n * n + 1 ∧ Rest E n (after E n j) := Classical.byContradiction fun hno => by
    have h1 := no_rest_sum (E := E) (n := n) (n * n + 2) fun j hj hr => hno ⟨j, by omega, hr⟩
    have h2 := sum_le (after E n (n * n + 2)) n fun x hx => by
      obtain ⟨i, hi, e⟩ := mem_nth hx
      rw [after_len] at hi
      have h3 := after_below (rest_sat (after_len E n k) h) (fun j => after_nonneg E n j k) (n * n + 2) i
      have := rest_lt hw h i hi
      omega
    rw [after_len] at h2
    have h3 : ((n * n + 2 : Nat) : Int) = (n : Int) * (n : Int) + 2 := by rw [Int.natCast_add, Int.natCast_mul]; rfl
    omega
  obtain ⟨j, hj, hr⟩ := hex
  have := rest_stays hr (n * n + 2 - j)
  rw [show j + (n * n + 2 - j) = n * n + 2 by omega] at this
  rw [this]; exact hr
include hw in
theorem climb_eq : ∀ (k m : Nat) (c : Bool) (r : Option (List Int)), (c = false → Rest E n (after E n m)) → climb E n n k (c, after E n m) = some r →
    (∀ L, r = some L → Rest E n (after E n (n * n + 2)) ∧ L = after E n (n * n + 2)) ∧ (r = none → ¬ Rest E n (after E n (n * n + 2)))
  | 0, m, c, r, _, h => by cases h
  | k + 1, m, false, r, hc, h => by
    obtain rfl := Option.some.inj h
    have hr := hc rfl
    have hs := rest_soon hw hr
    refine ⟨fun L e => ⟨hs, ?_⟩, fun e => by cases e⟩
    obtain rfl := Option.some.inj e
    exact rest_same hr hs
  | k + 1, m, true, r, _, h => by
    simp only [climb] at h
    have hlt : ∀ i, i ∈ List.range n → i < (after E n m).length := fun i hi => by rw [after_len]; exact range_lt hi
    cases hcr : crounds E n (List.range n) (false, after E n m) with
    | none =>
      rw [hcr] at h
      obtain rfl := Option.some.inj h
      refine ⟨fun L e => (by cases e), fun _ hr => ?_⟩
      obtain ⟨pre, i, h1, h2, h3⟩ := crounds_none _ _ _ hcr
      have hsat := rest_sat (after_len E n _) hr
      have h4 := rounds_below hsat pre (after E n m) (fun i hi => range_lt (h1 i hi)) (after_len E n m) (after_below hsat (fun j => after_nonneg E n j _) m)
      have h5 := need_mono (E := E i) h4
      have h6 := hsat i (range_lt h2)
      have h7 := rest_lt hw hr i (range_lt h2)
      omega
    | some s =>
      rw [hcr] at h
      obtain ⟨h1, _, h3, _⟩ := crounds_some _ _ _ s hlt hcr
      obtain ⟨c', L'⟩ := s
      simp only at h1 h3 h
      have e : L' = after E n (m + 1) := h1
      subst e
      refine climb_eq k (m + 1) c' r (fun hc => ?_) h
      have h5 := (h3 hc).2
      show rounds E (List.range n) (after E n (m + 1)) = after E n (m + 1)
      have e2 : after E n (m + 1) = after E n m := h5
      rw [e2]; exact h5
omit hw
/-! ### the other way to raise: edge by edge -/
def bump (i : Nat) (L : List Int) (e : Nat × Int) : List Int := if nth L i < nth L e.1 + e.2 then L.set i (nth L e.1 + e.2) else L
def bumps (i : Nat) (E : Edges) (L : List Int) : List Int := E.foldl (bump i) L
theorem bump_len (i : Nat) (L : List Int) (e : Nat × Int) : (bump i L e).length = L.length := by unfold bump; split <;> simp
theorem bumps_len (i : Nat) : ∀ (E : Edges) (L : List Int), (bumps i E L).length = L.length
  | [], _ => rfl
  | e :: E, L => (bumps_len i E (bump i L e)).trans (bump_len i L e)
theorem bump_nth {i : Nat} {L : List Int} (e : Nat × Int) (hi : i < L.length) (j : Nat) : nth (bump i L e) j = if j = i then max (nth L i) (nth L e.1 + e.2) else nth L j := by
  unfold bump
  split
  · rw [nth_set _ _ hi]; split <;> omega
  · split
    · rename_i h; subst h; omega
    · rfl
theorem bumps_nth {i : Nat} : ∀ (E : Edges) {L M : List Int}, i < M.length → (∀ j, j ≠ i → nth M j = nth L j) → nth L i ≤ nth M i → (∀ e, e ∈ E → e.1 = i → e.2 ≤ 0) → ∀ j, nth (bumps i E M) j = if j = i then E.foldl (fun m e => max m (nth L e.1 + e.2)) (nth M i) else nth L j
  | [], L, M, hi, hj, h0, hs, j => by
    show nth M j = _
    split
    · rename_i e; subst e; rfl
    · rename_i e; exact hj j e
  | e :: E, L, M, hi, hj, h0, hs, j => by
    show nth (bumps i E (bump i M e)) j = _
    have hb := bump_nth e hi
    have hmax : nth (bump i M e) i = max (nth M i) (nth L e.1 + e.2) := by
      rw [hb, if_pos rfl]
      by_cases he : e.1 = i
      · have := hs e List.mem_cons_self he
        rw [he]; omega
      · rw [hj e.1 he]
    rw [bumps_nth E (L := L) (M := bump i M e) (by rw [bump_len]; exact hi) (fun k hk => by rw [hb, if_neg hk]; exact hj k hk) (by rw [hmax]; omega) (fun e' he' => hs e' (List.mem_cons_of_mem _ he')) j, hmax, List.foldl_cons]
theorem fold_max (L : List Int) : ∀ (E : Edges) (m : Int), 0 ≤ m → E.foldl (fun m e => max m (nth L e.1 + e.2)) m = max m (need E L) := fun E m hm => by
  have h1 := fold_max_le L (E.foldl (fun m e => max m (nth L e.1 + e.2)) m) E m
  have h2 := h1.1 (Int.le_refl _)
  have h3 : need E L ≤ E.foldl (fun m e => max m (nth L e.1 + e.2)) m := need_le.2 ⟨by omega, h2.2⟩
  have h4 := (fold_max_le L (max m (need E L)) E m).2 ⟨by omega, fun e he => by have := (need_le.1 (Int.le_refl (need E L))).2 e he; omega⟩
  omega
theorem bumps_eq {E : Nat → Edges} {L : List Int} {i : Nat} (hi : i < L.length) (h0 : 0 ≤ nth L i) (hs : ∀ e, e ∈ E i → e.1 = i → e.2 ≤ 0) : bumps i (E i) L = raise E L i :=
  ext_nth ((bumps_len i (E i) L).trans (raise_len E L i).symm) fun j => by
    rw [bumps_nth (E i) hi (fun _ _ => rfl) (Int.le_refl _) hs, fold_max _ _ _ h0]
    unfold raise
    by_cases hlt : nth L i < need (E i) L
    · rw [if_pos hlt, nth_set _ _ hi]; split <;> omega
    · rw [if_neg hlt]; split
      · rename_i e; subst e; omega
      · rfl
theorem bumps_ge {i : Nat} : ∀ (E : Edges) {L : List Int}, i < L.length → ∀ j, nth L j ≤ nth (bumps i E L) j
  | [], _, _, _ => Int.le_refl _
  | e :: E, L, hi, j => by
    have h1 := bumps_ge E (L := bump i L e) (by rw [bump_len]; exact hi) j
    have h2 := bump_nth e hi j
    show _ ≤ nth (bumps i E (bump i L e)) j
    split at h2
    · rename_i h; subst h; omega
    · omega
theorem bumps_self {i : Nat} : ∀ (E : Edges) {L : List Int}, i < L.length → (∃ e, e ∈ E ∧ e.1 = i ∧ 1 ≤ e.2) → nth L i + 1 ≤ nth (bumps i E L) i
  | [], _, _, ⟨e, he, _⟩ => by simp at he
  | e :: E, L, hi, ⟨e', he, h1, h2⟩ => by
    have h3 := bump_nth e hi i
    rw [if_pos rfl] at h3
    have hb := bumps_ge E (L := bump i L e) (by rw [bump_len]; exact hi) i
    show _ ≤ nth (bumps i E (bump i L e)) i
    rcases List.mem_cons.1 he with rfl | he
    · rw [h1] at h3; omega
    · have := bumps_self E (L := bump i L e) (by rw [bump_len]; exact hi) ⟨e', he, h1, h2⟩
      omega
def brounds (E : Nat → Edges) (is : List Nat) (L : List Int) : List Int := is.foldl (fun L i => bumps i (E i) L) L
theorem brounds_len (E : Nat → Edges) : ∀ (is : List Nat) (L : List Int), (brounds E is L).length = L.length
  | [], _ => rfl
  | i :: is, L => (brounds_len E is (bumps i (E i) L)).trans (bumps_len i _ L)
theorem brounds_eq {E : Nat → Edges} (hs : ∀ i e, e ∈ E i → e.1 = i → e.2 ≤ 0) : ∀ (is : List Nat) (L : List Int), (∀ i, i ∈ is → i < L.length) → (∀ j, 0 ≤ nth L j) → brounds E is L = rounds E is L
  | [], _, _, _ => rfl
  | i :: is, L, hi, h0 => by
    have hil := hi i List.mem_cons_self
    show brounds E is (bumps i (E i) L) = rounds E is (raise E L i)
    rw [bumps_eq hil (h0 i) (hs i)]
    exact brounds_eq hs is _ (fun k hk => by rw [raise_len]; exact hi k (List.mem_cons_of_mem _ hk)) fun j => Int.le_trans (h0 j) (raise_ge E L i j)
theorem brounds_ge {E : Nat → Edges} : ∀ (is : List Nat) (L : List Int), (∀ i, i ∈ is → i < L.length) → ∀ j, nth L j ≤ nth (brounds E is L) j
  | [], _, _, _ => Int.le_refl _
  | i :: is, L, hi, j => Int.le_trans (bumps_ge (E i) (hi i List.mem_cons_self) j) (brounds_ge is (bumps i (E i) L) (fun k hk => by rw [bumps_len]; exact hi k (List.mem_cons_of_mem _ hk)) j)
theorem brounds_self {E : Nat → Edges} {i : Nat} (he : ∃ e, e ∈ E i ∧ e.1 = i ∧ 1 ≤ e.2) : ∀ (is : List Nat) (L : List Int), (∀ i, i ∈ is → i < L.length) → i ∈ is → nth L i + 1 ≤ nth (brounds E is L) i
  | [], _, _, h => by simp at h
  | k :: is, L, hi, h => by
    have hk := hi k List.mem_cons_self
    have hl : ∀ x, x ∈ is → x < (bumps k (E k) L).length := fun x hx => by rw [bumps_len]; exact hi x (List.mem_cons_of_mem _ hx)
    show _ ≤ nth (brounds E is (bumps k (E k) L)) i
    have h1 := bumps_ge (E k) hk i
    have h2 := brounds_ge (E := E) is (bumps k (E k) L) hl i
    rcases List.mem_cons.1 h with rfl | h
    · have := bumps_self (E i) hk he
      omega
    · have := brounds_self he is (bumps k (E k) L) hl h
      omega
def bafter (E : Nat → Edges) (n : Nat) : Nat → List Int
  | 0 => List.replicate n 0
  | k + 1 => brounds E (List.range n) (bafter E n k)
theorem bafter_len (E : Nat → Edges) (n : Nat) : ∀ k, (bafter E n k).length = n
  | 0 => by simp [bafter]
  | k + 1 => by rw [bafter, brounds_len, bafter_len E n k]
theorem bafter_eq {E : Nat → Edges} {n : Nat} (hs : ∀ i e, e ∈ E i → e.1 = i → e.2 ≤ 0) : ∀ k, bafter E n k = after E n k
  | 0 => rfl
  | k + 1 => by
    rw [bafter, after, bafter_eq hs k]
    exact brounds_eq hs _ _ (fun i hi => by rw [after_len]; exact range_lt hi) fun j => after_nonneg E n j k
theorem strata_eq {E : Nat → Edges} {n : Nat} (hw : ∀ i e, e ∈ E i → e.2 ≤ 1 ∧ e.1 < n ∧ i < n) {k : Nat} {r : Option (List Int)} (h : climb E n n k (true, List.replicate n 0) = some r) :
    (brounds E (List.range n) (bafter E n (n * n + 2)) = bafter E n (n * n + 2) → r = some (bafter E n (n * n + 2))) ∧ (brounds E (List.range n) (bafter E n (n * n + 2)) ≠ bafter E n (n * n + 2) → r = none) := by
  have hw' : ∀ i e, e ∈ E i → e.2 ≤ 1 ∧ e.1 < n := fun i e he => ⟨(hw i e he).1, (hw i e he).2.1⟩
  obtain ⟨h1, h2⟩ := climb_eq hw' k 0 true r (fun e => by cases e) h
  by_cases hself : ∃ i, ∃ e, e ∈ E i ∧ e.1 = i ∧ 1 ≤ e.2
  · obtain ⟨i, e, he, hei, h3⟩ := hself
    have hi : i < n := (hw i e he).2.2
    have hne : brounds E (List.range n) (bafter E n (n * n + 2)) ≠ bafter E n (n * n + 2) := fun heq => by
      have := brounds_self (E := E) ⟨e, he, hei, h3⟩ (List.range n) (bafter E n (n * n + 2)) (fun k hk => by rw [bafter_len]; exact range_lt hk) (List.mem_range.2 hi)
      rw [heq] at this; omega
    refine ⟨fun h => (hne h).elim, fun _ => ?_⟩
    cases r with
    | none => rfl
    | some L =>
      obtain ⟨hr, _⟩ := h1 L rfl
      have h4 := rest_sat (after_len E n _) hr i hi
      have h5 := (need_le.1 h4).2 e he
      rw [hei] at h5
      omega
  · have hs : ∀ i e, e ∈ E i → e.1 = i → e.2 ≤ 0 := fun i e he hei => Classical.byContradiction fun hn => hself ⟨i, e, he, hei, by omega⟩
    rw [bafter_eq hs, brounds_eq hs _ _ (fun i hi => by rw [after_len]; exact range_lt hi) fun j => after_nonneg E n j _]
    refine ⟨fun hr => ?_, fun hr => ?_⟩
    · cases r with
      | none => exact (h2 rfl hr).elim
      | some L => rw [(h1 L rfl).2]
    · cases r with
      | none => rfl
      | some L => exact (hr (h1 L rfl).1).elim
end Go.Proofs.YtnhmnfmhnepjmaaGreat
