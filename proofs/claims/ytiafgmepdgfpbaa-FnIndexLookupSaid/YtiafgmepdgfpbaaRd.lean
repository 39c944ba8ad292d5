/- From what the row says of an argument ('it reads as data') to 'rd': the same for every type, built along the type. No program in sight. -/
import Derived.Test.YtiafgmepdgfpbaaZa
import Derived.ChangeArms
import Derived.ChangeSlices
import Derived.WideShapes
import Derived.Deep.Slices
import Derived.Carry
import Derived.Below
set_option linter.unusedVariables false
set_option linter.unusedSimpArgs false
namespace Go.Proofs.Ytiafgmepdgfpbaa
open Go.RowKit Go.ChangeShapes Go.WideShapes
open GoD (rd own)
def Opens (P : Program) (t : TypeId) (α : Type) [GoD α] : Prop :=
  P.cellsOf t = GoD.n α ∧ 0 < GoD.n α ∧ ∀ {H : Type} {enc : TypeId × Value → H} {w : World} {base : Nat} {spare : Nat → Bool} {held : Bool} {fuel : Nat} {cs : List Value} {x : DataW H × List MemPlace},
    DataW.trod enc P w base spare held fuel t cs = some x → ∃ a : α, rd w cs a
def OpensFs (P : Program) (fs : List Field) (off : Nat) (α : Type) [GoD α] : Prop :=
  0 < GoD.n α ∧ ∀ {H : Type} {enc : TypeId × Value → H} {w : World} {base : Nat} {spare : Nat → Bool} {held : Bool} {fuel : Nat} {cs : List Value},
    (∀ f, f ∈ fs → ∃ x, DataW.trod enc P w base spare held fuel f.type ((cs.drop f.offset).take (P.cellsOf f.type)) = some x) → ∃ a : α, rd w ((cs.drop off).take (GoD.n α)) a
section
variable {P : Program} {t e : TypeId}
theorem Opens.int (ht : P.underlying t = some (.int .i64)) (hc : P.cellsOf t = 1) : Opens P t Int := by
  refine ⟨hc, Nat.zero_lt_one, fun h => ?_⟩
  obtain ⟨n, rfl, _, hw⟩ := DataW.trod_int ht h
  refine ⟨n, rfl, ?_⟩
  simp only [Lit.wf, Bool.and_eq_true, decide_eq_true_eq] at hw
  exact hw
theorem Opens.bool (ht : P.underlying t = some .bool) (hc : P.cellsOf t = 1) : Opens P t Bool := by
  refine ⟨hc, Nat.zero_lt_one, fun h => ?_⟩
  obtain ⟨b, rfl, _⟩ := DataW.trod_bool ht h
  exact ⟨b, rfl⟩
theorem Opens.str (ht : P.underlying t = some .string) (hc : P.cellsOf t = 1) : Opens P t ByteArray := by
  refine ⟨hc, Nat.zero_lt_one, fun h => ?_⟩
  obtain ⟨s, rfl, _, hs⟩ := DataW.trod_string ht h
  exact ⟨s, rfl, hs⟩
theorem OpensFs.one {f : Field} {off : Nat} {α : Type} [GoD α] (ho : f.offset = off) (h : Opens P f.type α) : OpensFs P [f] off α := by
  refine ⟨h.2.1, fun hf => ?_⟩
  obtain ⟨x, hx⟩ := hf f (by simp)
  rw [ho, h.1] at hx
  exact h.2.2 hx
theorem OpensFs.cons {f : Field} {fs : List Field} {off : Nat} {α β : Type} [GoD α] [GoD β] (ho : f.offset = off) (h : Opens P f.type α) (k : OpensFs P fs (off + GoD.n α) β) : OpensFs P (f :: fs) off (α × β) := by
  refine ⟨Nat.lt_of_lt_of_le h.2.1 (Nat.le_add_right _ _), fun hf => ?_⟩
  obtain ⟨x, hx⟩ := hf f (by simp)
  rw [ho, h.1] at hx
  obtain ⟨a, ha⟩ := h.2.2 hx
  obtain ⟨b, hb⟩ := k.2 (fun g hg => hf g (by simp [hg]))
  refine ⟨(a, b), _, _, ?_, ha, hb⟩
  rw [← List.drop_drop]
  exact List.take_add
theorem Opens.struct {fs : Array Field} {α : Type} [GoD α] (ht : P.underlying t = some (.struct fs)) (hc : P.cellsOf t = GoD.n α) (h : OpensFs P fs.toList 0 α) : Opens P t α := by
  refine ⟨hc, h.1, fun {H enc w base spare held fuel cs x} hx => ?_⟩
  obtain ⟨xs, n, _, _, hl, hlen, hf⟩ := DataW.trod_struct ht hx
  obtain ⟨a, ha⟩ := h.2 (enc := enc) (w := w) (base := base) (spare := spare) (held := held) (fuel := n) (cs := cs) (fun f hm => by
    obtain ⟨i, hi, rfl⟩ := List.getElem_of_mem hm
    have hi' : i < fs.size := by simpa using hi
    refine ⟨xs[i]'(by omega), ?_⟩
    rw [hf i fs.toList[i] (by simp [hi']), List.getElem?_eq_getElem (by omega)])
  refine ⟨a, ?_⟩
  rw [List.drop_zero, List.take_of_length_le (by omega)] at ha
  exact ha
theorem Opens.slice {α : Type} [GoD α] (ht : P.underlying t = some (.slice e)) (hc : P.cellsOf t = 1) (h : Opens P e α) : Opens P t (List α) := by
  refine ⟨hc, Nat.zero_lt_one, fun {H enc w base spare held fuel cs x} hx => ?_⟩
  rcases Deep.open_slice ht hx with ⟨rfl, _⟩ | ⟨a, len, cap, m, n, D, Pl, rfl, hb, hl, hm, hmm, rfl, hel⟩
  · exact ⟨[], none, 0, rfl, Nat.le_refl _, Nat.zero_le _, by simp⟩
  have hlm : len ≤ m := by rw [hmm]; split <;> omega
  have hex : ∀ i, i < len → ∃ x : α, ∃ ce, ce.length = GoD.n α ∧ (∀ j, j < GoD.n α → w.cell? ((a.add (i * GoD.n α)).add j) = ce[j]?) ∧ rd w ce x := fun i hi => by
    obtain ⟨ce, h1, h2⟩ := hel i (by omega)
    obtain ⟨x, hx⟩ := h.2.2 h2
    rw [h.1] at h1
    obtain ⟨_, hlen, hcell⟩ := World.cells?_some h1
    exact ⟨x, ce, hlen, hcell, hx⟩
  have hl' : ∀ k, k ≤ len → ∃ l : List α, l.length = k ∧ ∀ i x, l[i]? = some x → ∃ ce, ce.length = GoD.n α ∧ (∀ j, j < GoD.n α → w.cell? ((a.add (i * GoD.n α)).add j) = ce[j]?) ∧ rd w ce x := by
    intro k
    induction k with
    | zero => intro _; exact ⟨[], rfl, by simp⟩
    | succ k ih =>
      intro hk
      obtain ⟨l, hll, hle⟩ := ih (by omega)
      obtain ⟨x, hx⟩ := hex k (by omega)
      refine ⟨l ++ [x], by simp [hll], fun i y hy => ?_⟩
      rcases Nat.lt_or_ge i l.length with hi | hi
      · rw [List.getElem?_append_left hi] at hy; exact hle i y hy
      · rw [List.getElem?_append_right hi] at hy
        have : i = l.length := by
          rcases Nat.lt_or_ge (i - l.length) 1 with h' | h'
          · omega
          · rw [List.getElem?_eq_none (by simpa using h')] at hy; cases hy
        subst this
        rw [Nat.sub_self] at hy
        obtain rfl : x = y := by simpa using hy
        rw [hll]
        exact hx
  obtain ⟨l, hll, hle⟩ := hl' len (Nat.le_refl _)
  refine ⟨l, some a, cap, by rw [hll], by omega, hm, fun i x hx => ?_⟩
  obtain ⟨ce, h1, h2, h3⟩ := hle i x hx
  have hn := h.2.1
  obtain ⟨x0, hx0⟩ : ∃ x0, l[0]? = some x0 := by
    cases l with
    | nil => simp at hx
    | cons y ys => exact ⟨y, rfl⟩
  obtain ⟨c0, k1, k2, _⟩ := hle 0 x0 hx0
  have h0 := k2 0 hn
  rw [List.getElem?_eq_getElem (by omega)] at h0
  have hsp := World.cell?_spot h0
  have hspot : a.spot = none := by
    rw [Deep.add_add] at hsp
    unfold Addr.add at hsp
    simpa using hsp
  obtain ⟨b, off, spot⟩ := a
  obtain rfl : spot = none := hspot
  refine ⟨b, off, ce, rfl, h1, fun j v hj => ?_, h3⟩
  have hjn : j < GoD.n α := by
    rcases Nat.lt_or_ge j ce.length with h' | h'
    · omega
    · rw [List.getElem?_eq_none h'] at hj; cases hj
  have h2' := h2 j hjn
  rw [hj] at h2'
  rw [Deep.add_add] at h2'
  rw [← h2']
  unfold Addr.add
  by_cases hz : i * GoD.n α + j = 0
  · simp [show i * GoD.n α = 0 by omega, show j = 0 by omega]
  · rw [if_neg hz, Nat.add_assoc]
end
section
variable {P : Program} {w : World} {r : Reach} {b0 : Nat} {t : TypeId} {v : Value} {H : Type} {enc : TypeId × Value → H} {base : Nat} {spare : Nat → Bool} {held : Bool} {d : DataW H} {ps : List MemPlace} {α : Type} [GoD α]
theorem in_struct {fs : Array Field} (ht : P.underlying t = some (.struct fs)) (ho : Opens P t α) (hv : Value.okWide P w r b0 t v) (h : DataW.Trod enc P w base spare held t v d ps) : ∃ (c : List Value) (a : α), v = .agg c.toArray ∧ rd w c a := by
  obtain ⟨cs, rfl, _⟩ := okWide_struct ht hv
  obtain ⟨f, hf⟩ := h
  obtain ⟨a, ha⟩ := ho.2.2 hf
  exact ⟨cs.toList, a, by simp, by simpa [Value.cells] using ha⟩
theorem in_slice {e : TypeId} (ht : P.underlying t = some (.slice e)) (ho : Opens P t α) (hv : Value.okWide P w r b0 t v) (h : DataW.Trod enc P w base spare held t v d ps) : ∃ (a : α), rd w [v] a := by
  obtain ⟨x, l, c, rfl⟩ := okWide_slice ht hv
  obtain ⟨f, hf⟩ := h
  obtain ⟨a, ha⟩ := ho.2.2 hf
  exact ⟨a, by simpa [Value.cells] using ha⟩
theorem in_int (ht : P.underlying t = some (.int .i64)) (hc : P.cellsOf t = 1) (hv : Value.okWide P w r b0 t v) (h : DataW.Trod enc P w base spare held t v d ps) : ∃ (a : Int), v = .int .i64 a ∧ I64 a := by
  obtain ⟨n, rfl⟩ := okWide_int ht hv
  obtain ⟨f, hf⟩ := h
  obtain ⟨a, ha, hi⟩ := (Opens.int ht hc).2.2 hf
  refine ⟨n, rfl, ?_⟩
  have : n = a := by simpa [Value.cells] using ha
  rw [this]; exact hi
theorem in_bool (ht : P.underlying t = some .bool) (hv : Value.okWide P w r b0 t v) : ∃ (a : Bool), v = .bool a := okWide_bool ht hv
theorem in_str (ht : P.underlying t = some .string) (hc : P.cellsOf t = 1) (hv : Value.okWide P w r b0 t v) (h : DataW.Trod enc P w base spare held t v d ps) : ∃ (a : ByteArray), v = .string a ∧ a.size ≤ maxLen := by
  obtain ⟨n, rfl⟩ := okWide_string ht hv
  obtain ⟨f, hf⟩ := h
  obtain ⟨a, ha, hi⟩ := (Opens.str ht hc).2.2 hf
  refine ⟨n, rfl, ?_⟩
  have : n = a := by simpa [Value.cells] using ha
  rw [this]; exact hi
theorem trod_lt' (h : DataW.Trod enc P w base spare held t v d ps) : ∀ x ∈ ps, x.block < w.heap.size := by
  obtain ⟨m, hm⟩ := h
  exact DataW.trod_lt m _ _ _ hm
end
end Go.Proofs.Ytiafgmepdgfpbaa
