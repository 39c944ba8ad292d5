/- A region that draws its order, whose operations either look (the same value in every later world) or call and only add to memory: one walk serves every order. No program in sight. -/
import Derived.Test.YtnhmnfmhnepjmaaGreatZa
import Derived.Still
import Derived.Deep.QuietTactic
import Derived.Lib.QuietBelow
set_option linter.unusedVariables false
set_option linter.unusedSimpArgs false
namespace Go.Proofs.YtnhmnfmhnepjmaaGreat
open Go.RowKit Go.Sort
def Ext (w w' : World) : Prop := Below w.heap.size w w'
theorem Ext.refl (w : World) : Ext w w := Below.refl _ _
theorem Ext.trans {a b c : World} (h : Ext a b) (k : Ext b c) : Ext a c := below_via h k
section
variable {P : Program} {ops : Array Oper} {Q : Exit → Act → World → Prop} {md : Region.Mode}
def YieldsE (P : Program) (ops : Array Oper) (o : Oper) (v : Value) (a : Act) (w : World) : Prop :=
  (Region.wanted o (yielded ops a.tmps) = true ∧ ∀ w', Ext w w' → (execOp a.eval o).run P w' = .ok (.value v) w') ∨
  (Region.wanted o (yielded ops a.tmps) = false ∧ v = undef)
theorem YieldsE.later {o : Oper} {v : Value} {a : Act} {w w' : World} (hy : YieldsE P ops o v a w) (h : Ext w w') : YieldsE P ops o v a w' := by
  rcases hy with ⟨h1, h2⟩ | h1
  · exact .inl ⟨h1, fun w'' h' => h2 w'' (h.trans h')⟩
  · exact .inr h1
theorem YieldsE.wpOp {i : Nat} {o : Oper} {v : Value} {a : Act} {w : World} (hi : ops[i]? = some o) (hy : YieldsE P ops o v a w) {K : Act → World → Prop} (h : K (a.put o.dst v) w) : wpOp P ops Q i K a w := by
  unfold Go.wpOp
  simp only [hi]
  rcases hy with ⟨hw, hv⟩ | ⟨hw, rfl⟩
  · simp only [hw, if_true, Oper.wp, hv w (Ext.refl w), Oper.upon]; exact .inl h
  · simp only [hw, Bool.false_eq_true, if_false]; exact h
def Closed (md : Region.Mode) (ops : Array Oper) (listed : Array Bool) : Prop := ∀ k o, ops[k]? = some o → listed.getD k false = true → ∀ e ∈ o.after, Region.binds md e = true → listed.getD e.on false = true
theorem Closed.set {listed : Array Bool} (hc : Closed md ops listed) {i : Nat} (hi : i ∈ Region.ready md ops listed) : Closed md ops (listed.setIfInBounds i true) := by
  have mono : ∀ k, listed.getD k false = true → (listed.setIfInBounds i true).getD k false = true := fun k hk => by
    by_cases hik : i = k
    · subst hik
      rcases Nat.lt_or_ge i listed.size with h' | h'
      · simp [h']
      · simp [Array.getElem?_eq_none h'] at hk
    · rw [getD_set_ne false hik]; exact hk
  intro k o ho hk e he hb
  by_cases hik : i = k
  · subst hik
    obtain ⟨_, o', ho', hall⟩ := mem_ready.1 hi
    rw [ho] at ho'
    obtain rfl : o = o' := by simpa using ho'
    exact mono _ (hall e he hb)
  · rw [getD_set_ne false hik] at hk
    exact mono _ (hc k o ho hk e he hb)
/-! ### a fork: operations that make memory, in whatever order -/
def Same (dst : Nat → Tmp) (H : List Nat) (a a' : Act) : Prop := a'.defers = a.defers ∧ a'.tmps.size = a.tmps.size ∧ ∀ t, (∀ i ∈ H, dst i ≠ t) → a'.tmps[t]? = a.tmps[t]?
theorem Same.eval {dst : Nat → Tmp} {H : List Nat} {a a' : Act} (h : Same dst H a a') (t : Tmp) (ht : ∀ i ∈ H, dst i ≠ t) : a'.tmps.getD t undef = a.tmps.getD t undef := by
  simp [Array.getD_eq_getD_getElem?, h.2.2 t ht]
structure ForkOk (P : Program) (ops : Array Oper) (Q : Exit → Act → World → Prop) (md : Region.Mode) (H : List Nat) (dst : Nat → Tmp) (dep : Nat → List Nat) (R : Nat → Value → List Nat → World → Prop) (a : Act) (W : World) : Prop where
  nd : (H.map dst).Nodup
  lt : ∀ i ∈ H, dst i < a.tmps.size
  dep_ok : ∀ i ∈ H, ∀ j ∈ dep i, j ∈ H ∧ ∃ o e, ops[i]? = some o ∧ e ∈ o.after ∧ Region.binds md e = true ∧ e.on = j
  stable : ∀ i ∈ H, ∀ v L w w', R i v L w → Ext w w' → R i v L w'
  run : ∀ i ∈ H, ∃ o, ops[i]? = some o ∧ o.dst = some (dst i) ∧ ∀ a' w, Same dst H a a' → Ext W w → (∀ j ∈ dep i, ∃ v L, a'.tmps.getD (dst j) undef = v ∧ R j v L w) →
    Region.wanted o (yielded ops a'.tmps) = true ∧ ∀ K : Act → World → Prop, (∀ v L w', Ext w w' → R i v L w' → (∀ b ∈ L, w.heap.size ≤ b ∧ b < w'.heap.size) → K (a'.put (some (dst i)) v) w') → o.wp P a' w K Q
structure ForkInv (dst : Nat → Tmp) (H : List Nat) (R : Nat → Value → List Nat → World → Prop) (a : Act) (W : World) (D : List Nat) (v : Nat → Value) (Ls : Nat → List Nat) (a' : Act) (w : World) : Prop where
  same : Same dst H a a'
  ext : Ext W w
  val : ∀ i ∈ D, a'.tmps[dst i]? = some (v i)
  rel : ∀ i ∈ D, R i (v i) (Ls i) w
  bd : ∀ i ∈ D, ∀ b ∈ Ls i, W.heap.size ≤ b ∧ b < w.heap.size
  dis : ∀ i ∈ D, ∀ j ∈ D, i ≠ j → ∀ b ∈ Ls i, b ∉ Ls j
inductive Pl where
  | look (i : Nat)
  | step (i : Nat)
  | free (i : Nat)
  | fork (H : List Nat)
def Pl.len : List Pl → Nat
  | [] => 0
  | .fork H :: r => Pl.len r + H.length
  | _ :: r => Pl.len r + 1
end
end Go.Proofs.YtnhmnfmhnepjmaaGreat
