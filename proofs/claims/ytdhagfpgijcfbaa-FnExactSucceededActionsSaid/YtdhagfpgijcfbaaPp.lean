/- Every quiet operation of the abstract machine does what the machine does. No program in sight. -/
import Derived.Test.YtdhagfpgijcfbaaPo
namespace Go.Proofs.Ytdhagfpgijcfbaa
open Go.RowKit
section
variable {P : Program} {A : Nat → List AV → AV → Prop} {J : Inj} {w : World}

theorem inR_len {n : Nat} (h : n ≤ maxLen) : InR .i64 (n : Int) := by
  unfold maxLen at h
  exact (inR_i64 _).2 ⟨by omega, by omega⟩
theorem inR_byte (b : UInt8) : InR .u8 (b.toNat : Int) := by
  have := b.toNat_lt
  simp [InR, IntKind.min, IntKind.max, IntKind.bits, IntKind.signed]
  omega

theorem zeros_ok : ∀ {vs : List Value} {cs : List C}, zerosOk vs cs = true → All2 (CR J w) vs cs
  | [], [], _ => .nil
  | [], _ :: _, h => by simp [zerosOk] at h
  | _ :: _, [], h => by simp [zerosOk] at h
  | v :: vs, c :: cs, h => by
    simp only [zerosOk, Bool.and_eq_true] at h
    refine .cons ?_ (zeros_ok h.2)
    have h1 := h.1
    unfold zeroOk at h1
    split at h1
    · simp at h1
      obtain ⟨⟨rfl, rfl⟩, rfl⟩ := h1
      refine ⟨rfl, ?_⟩
      cases ‹IntKind› <;> simp [InR, IntKind.min, IntKind.max, IntKind.bits, IntKind.signed]
    · simp at h1
      obtain ⟨rfl, rfl⟩ := h1
      rfl
    · rename_i s t
      simp at h1
      obtain ⟨rfl, rfl⟩ := h1
      exact ⟨rfl, Nat.zero_le _⟩
    · exact ⟨rfl, none, rfl⟩
    · cases h1

theorem foldl_put : ∀ (us : List Value) (o k : Nat) (cells : Array Value), o + k + us.length ≤ cells.size →
    (us.zipIdx k).foldl (fun cs (c, j) => cs.setIfInBounds (o + j) c) cells = putCells cells (o + k) us
  | [], _, _, _, _ => rfl
  | u :: us, o, k, cells, h => by
    simp only [List.zipIdx_cons, List.foldl_cons, putCells]
    rw [foldl_put us o (k + 1) _ (by simp at h ⊢; omega)]
    rfl
theorem putCells_list {us : List Value} {o : Nat} {cells : Array Value} (h : o + us.length ≤ cells.size) : (putCells cells o us).toList = cells.toList.take o ++ us ++ cells.toList.drop (o + us.length) := by
  apply List.ext_getElem?
  intro j
  rw [Array.getElem?_toList]
  by_cases h1 : j < o
  · rw [putCells_out us o cells j (.inl h1), List.append_assoc, List.getElem?_append_left (by simp; omega), List.getElem?_take, if_pos h1, Array.getElem?_toList]
  · by_cases h2 : j < o + us.length
    · obtain ⟨k, rfl⟩ : ∃ k, j = o + k := ⟨j - o, by omega⟩
      have hl : (cells.toList.take o).length = o := by simp; omega
      rw [putCells_in us o cells k h (by omega), List.append_assoc, List.getElem?_append_right (by omega), hl, List.getElem?_append_left (by omega)]
      congr 1
      omega
    · rw [putCells_out us o cells j (.inr (by omega))]
      have hl : (cells.toList.take o ++ us).length = o + us.length := by simp; omega
      rw [List.getElem?_append_right (by omega), hl, List.getElem?_drop, Array.getElem?_toList]
      congr 1
      omega
theorem alive_cells {v : Value} {c : C} (h : CR J w v c) (ha : alive c = true) : v.cells = #[v] ∧ v.oneCell' = true := by
  have key : ∀ n l X, VV X w v (.slc n l) → v.cells = #[v] ∧ v.oneCell' = true := by
    intro n l X hv
    generalize PV.slc n l = p at hv
    cases hv <;> exact ⟨rfl, rfl⟩
  cases c with
  | int => obtain ⟨rfl, _⟩ := h; exact ⟨rfl, rfl⟩
  | bool => obtain rfl := h; exact ⟨rfl, rfl⟩
  | str => obtain ⟨rfl, _⟩ := h; exact ⟨rfl, rfl⟩
  | slc t n l => obtain ⟨oa, cap, rfl, _⟩ := slc_slice h; exact ⟨rfl, rfl⟩
  | ptr k o => obtain rfl := h; exact ⟨rfl, rfl⟩
  | rptr t cs => obtain ⟨b, off, vs, rfl, _⟩ := h; exact ⟨rfl, rfl⟩
  | fn f caps => obtain rfl := h; exact ⟨rfl, rfl⟩
  | fnr f caps => obtain ⟨vs, rfl, _⟩ := h; exact ⟨rfl, rfl⟩
  | dead => cases ha
theorem allAlive_one : ∀ {vs : List Value} {cs : List C}, All2 (CR J w) vs cs → allAlive cs = true → ∀ u, u ∈ vs → u.oneCell' = true
  | _, _, .nil, _, u, hu => by simp at hu
  | _, _, .cons h1 h2, h, u, hu => by
    simp only [allAlive, Bool.and_eq_true] at h
    rcases List.mem_cons.1 hu with rfl | hu
    · exact (alive_cells h1 h.1).2
    · exact allAlive_one h2 h.2 u hu
/-- the cells of a value -/
theorem flat_cells {v : Value} {x : AV} {cs : List C} (h : AR J w v x) (hf : x.flatCells = some cs) (ha : allAlive cs = true) : All2 (CR J w) v.cells.toList cs := by
  cases x with
  | one c =>
    obtain rfl : [c] = cs := by simpa [AV.flatCells] using hf
    simp only [allAlive, Bool.and_true] at ha
    have := (alive_cells (v := v) (c := c) h ha).1
    rw [this]
    exact .cons h .nil
  | agg l =>
    obtain rfl : l = cs := by simpa [AV.flatCells] using hf
    obtain ⟨vs, rfl, h2⟩ := h
    exact h2
  | tup l => cases hf
theorem fill_ok (place : Nat → Option (Nat × Nat)) {fs : List (Nat × Nat × Bool)} (hp : ∀ i o sz ag, fs[i]? = some (o, sz, ag) → place i = some (o, sz)) :
    ∀ (l : List (Nat × AV)) (vs : List Value) (cells : Array Value) (cs cs' : List C), All2 (CR J w) cells.toList cs → All2 (fun v p => AR J w v p.2) vs l → fillC fs cs l = some cs' →
      ∃ out, Instr.fill place cells ((l.map (·.1)).zip vs) = some out ∧ All2 (CR J w) out.toList cs' := by
  intro l
  induction l with
  | nil =>
    intro vs cells cs cs' hc hv h
    cases hv
    obtain rfl : cs = cs' := by simpa [fillC] using h
    exact ⟨cells, rfl, hc⟩
  | cons p l ih =>
    intro vs cells cs cs' hc hv h
    obtain ⟨i, x⟩ := p
    cases hv with
    | cons h1 h2 =>
      rename_i v vs
      simp only [fillC] at h
      split at h
      · rename_i o sz ag ys hi hy
        cases hb : (Nat.beq ys.length sz && Nat.ble (o + sz) cs.length && allAlive ys) with
        | false => rw [hb] at h; cases h
        | true =>
          rw [hb] at h
          simp only [Bool.and_eq_true, Nat.beq_eq, Nat.ble_eq] at hb
          obtain ⟨⟨e1, e2⟩, e3⟩ := hb
          have hcl := flat_cells h1 hy e3
          have hn : v.cells.size = sz := by have := hcl.length; simp at this; omega
          have hcs := hc.length
          simp at hcs
          have hput := foldl_put v.cells.toList o 0 cells (by simp; omega)
          have hput' : v.cells.zipIdx.foldl (fun cs x => cs.setIfInBounds (o + x.2) x.1) cells = putCells cells o v.cells.toList := by
            rw [Nat.add_zero] at hput
            rw [← hput, ← Array.foldl_toList]
            simp
          have hc' : All2 (CR J w) (putCells cells o v.cells.toList).toList (cs.take o ++ ys ++ cs.drop (o + sz)) := by
            rw [putCells_list (by simp; omega)]
            refine ((hc.take o).append hcl).append ?_
            rw [show o + v.cells.toList.length = o + sz by simp; omega]
            exact hc.drop _
          obtain ⟨out, ho, ha⟩ := ih vs _ _ cs' hc' h2 h
          refine ⟨out, ?_, ha⟩
          simp only [List.map_cons, List.zip_cons_cons, Instr.fill, hp i o sz ag hi]
          rw [if_neg (by simp [hn]; omega)]
          exact (congrArg (fun z => Instr.fill place z _) hput').trans ho
      · cases h
end
end Go.Proofs.Ytdhagfpgijcfbaa
