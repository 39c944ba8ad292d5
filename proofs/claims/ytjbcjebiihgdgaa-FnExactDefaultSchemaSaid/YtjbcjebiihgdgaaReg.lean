/- A region that draws its order, whose operations either look (the same value in every later world) or call and only add to memory: one walk serves every order. No program in sight. -/
import Derived.Test.YtjbcjebiihgdgaaOwn
import Derived.Still
import Derived.Deep.QuietTactic
import Derived.Lib.QuietBelow
namespace Go.Proofs.Ytjbcjebiihgdgaa
open Go.RowKit Go.Sort

/-- later worlds: what was there reads as before -/
def Ext (w w' : World) : Prop := Below w.heap.size w w'
theorem Ext.refl (w : World) : Ext w w := Below.refl _ _
theorem Ext.trans {a b c : World} (h : Ext a b) (k : Ext b c) : Ext a c := below_via h k

section
variable {P : Program} {ops : Array Oper} {Q : Exit → Act → World → Prop} {md : Region.Mode}

def wpAnyE (P : Program) (md : Region.Mode) (ops : Array Oper) (Q : Exit → Act → World → Prop) : Nat → Array Bool → Act → World → Prop
  | 0, listed, a, w => Region.ready md ops listed = [] ∧ Q .normal a w
  | fuel + 1, listed, a, w =>
    (Region.ready md ops listed = [] → Q .normal a w) ∧
    ∀ i ∈ Region.ready md ops listed, wpOp P ops Q i (fun a' w' => Ext w w' ∧ wpAnyE P md ops Q fuel (listed.setIfInBounds i true) a' w') a w

theorem wpAny_of_E : ∀ (fuel : Nat) (listed : Array Bool) (a : Act) (w : World), wpAnyE P md ops Q fuel listed a w → wpAny P md ops Q fuel listed a w
  | 0, _, _, _, h => h
  | fuel + 1, _, _, _, h => ⟨h.1, fun i hi => wpOp_mono (fun a' w' hk => wpAny_of_E fuel _ a' w' hk.2) (h.2 i hi)⟩

/-- in every later world operation 'o' yields v, and leaves the world as it is -/
def YieldsE (P : Program) (ops : Array Oper) (o : Oper) (v : Value) (a : Act) (w : World) : Prop :=
  (Region.wanted o (yielded ops a.tmps) = true ∧ ∀ w', Ext w w' → (execOp a.eval o).run P w' = .ok (.value v) w') ∨
  (Region.wanted o (yielded ops a.tmps) = false ∧ v = undef)

theorem YieldsE.later {o : Oper} {v : Value} {a : Act} {w w' : World} (hy : YieldsE P ops o v a w) (h : Ext w w') : YieldsE P ops o v a w' := by
  rcases hy with ⟨h1, h2⟩ | h1
  · exact .inl ⟨h1, fun w'' h' => h2 w'' (h.trans h')⟩
  · exact .inr h1
theorem YieldsE.of_same {o : Oper} {v : Value} {a a' : Act} {w : World} (hy : YieldsE P ops o v a w) (he : execOp a'.eval o = execOp a.eval o)
    (hw : Region.wanted o (yielded ops a'.tmps) = Region.wanted o (yielded ops a.tmps)) : YieldsE P ops o v a' w := by
  unfold YieldsE at *
  rw [he, hw]
  exact hy
theorem YieldsE.wpOp {i : Nat} {o : Oper} {v : Value} {a : Act} {w : World} (hi : ops[i]? = some o) (hy : YieldsE P ops o v a w) {K : Act → World → Prop} (h : K (a.put o.dst v) w) : wpOp P ops Q i K a w := by
  unfold Go.wpOp
  simp only [hi]
  rcases hy with ⟨hw, hv⟩ | ⟨hw, rfl⟩
  · simp only [hw, if_true, Oper.wp, hv w (Ext.refl w), Oper.upon]; exact .inl h
  · simp only [hw, Bool.false_eq_true, if_false]; exact h

theorem wpOpE_put {j : Nat} {oi oj : Oper} {v : Value} (hj : ops[j]? = some oj) (hap : oi.apart ops oj = true)
    (hsi : ∀ cs b, oi.op ≠ .select cs b) (hsj : ∀ cs b, oj.op ≠ .select cs b)
    (hQ : ∀ c a w, Q (.panic c) (a.put oi.dst v) w → Q (.panic c) a w) {K : Act → World → Prop} {a : Act} {w : World}
    (hy : YieldsE P ops oi v a w) (h : wpOp P ops Q j K (a.put oi.dst v) w) :
    wpOp P ops Q j (fun a' w' => YieldsE P ops oi v a' w ∧ K (a'.put oi.dst v) w') a w := by
  obtain ⟨h1, h2, h3⟩ := Oper.apart_spec hap
  have keep : ∀ (a : Act), YieldsE P ops oi v a w → ∀ u, YieldsE P ops oi v (a.put oj.dst u) w := fun a hy u =>
    hy.of_same (execOp_put oi hsi a oj.dst u h3) (wanted_put oi a oj.dst u h3)
  have keepD : ∀ d, YieldsE P ops oi v { a with defers := d :: a.defers } w := fun d => hy.of_same rfl rfl
  unfold wpOp at *
  simp only [hj] at *
  rw [wanted_put oj a oi.dst v h1] at h
  split
  · rename_i hw
    simp only [hw, if_true] at h
    rcases h with h | ⟨hasks, hlets⟩
    case inr => exact .inr ⟨by unfold Oper.asks at *; rw [execOp_put oj hsj a oi.dst v h1] at hasks; exact hasks, hlets⟩
    refine .inl ?_
    unfold Oper.wp at *
    rw [execOp_put oj hsj a oi.dst v h1] at h
    generalize (execOp a.eval oj).run P w = r at *
    cases r with
    | ok n w' =>
      cases n <;> simp only [Oper.upon] at h ⊢
      case value u => exact ⟨keep a hy u, by rw [← Act.put_comm a v u h2]; exact h⟩
      case skip => exact ⟨keep a hy _, by rw [← Act.put_comm a v undef h2]; exact h⟩
      case defer d =>
        refine ⟨keep _ (keepD d) _, ?_⟩
        rw [← Act.put_comm _ v undef h2, ← Act.put_defers]
        exact h
      case enter f args =>
        refine Calls.mono h fun e w'' he => ?_
        cases e with
        | returned u => exact ⟨keep a hy u, by rw [← Act.put_comm a v u h2]; exact he⟩
        | panicked c => exact hQ _ _ _ he
        | outgrown => exact he
      case row row args => exact Rows.mono h fun u w'' he => ⟨keep a hy u, by rw [← Act.put_comm a v u h2]; exact he⟩
    | halt x w' =>
      cases x <;> simp only [Oper.upon] at h ⊢
      case panic u => exact hQ _ _ _ h
  · rename_i hw
    simp only [hw] at h
    exact ⟨keep a hy _, by rw [← Act.put_comm a v undef h2]; exact h⟩

theorem wpAnyE_first {i : Nat} {oi : Oper} {v : Value} (hi : ops[i]? = some oi) (hsel : ∀ (j : Nat) (o : Oper) cs b, ops[j]? = some o → o.op ≠ .select cs b)
    (hQ : ∀ c a w, Q (.panic c) (a.put oi.dst v) w → Q (.panic c) a w) :
    ∀ (fuel : Nat) (listed : Array Bool) (a : Act) (w : World),
      (∀ j oj, ops[j]? = some oj → j ≠ i → listed.getD j true = false → (∀ e ∈ oj.after, Region.binds md e = true → e.on ≠ i) → oi.apart ops oj = true) →
      i ∈ Region.ready md ops listed → YieldsE P ops oi v a w →
      wpAnyE P md ops Q fuel (listed.setIfInBounds i true) (a.put oi.dst v) w → wpAnyE P md ops Q (fuel + 1) listed a w := by
  intro fuel
  induction fuel with
  | zero =>
    intro listed a w _ hr hy H
    refine ⟨fun h => (by rw [h] at hr; cases hr), fun j hj => ?_⟩
    by_cases hji : j = i
    · subst hji; exact hy.wpOp hi ⟨Ext.refl w, H⟩
    · have := ready_mono hj hji
      rw [H.1] at this
      cases this
  | succ fuel ih =>
    intro listed a w hfree hr hy H
    refine ⟨fun h => (by rw [h] at hr; cases hr), fun j hj => ?_⟩
    by_cases hji : j = i
    · subst hji; exact hy.wpOp hi ⟨Ext.refl w, H⟩
    · have h1 := H.2 j (ready_mono hj hji)
      obtain ⟨hjun, oj, hoj, hall⟩ := mem_ready.1 hj
      have hnot : ∀ e ∈ oj.after, Region.binds md e = true → e.on ≠ i := fun e he hb heq => by
        have h1 := hall e he hb
        have h0 := (mem_ready.1 hr).1
        rw [heq] at h1
        rcases Nat.lt_or_ge i listed.size with h' | h'
        · simp [h'] at h0 h1; rw [h0] at h1; cases h1
        · simp [Array.getElem?_eq_none h'] at h1
      have h2 := wpOpE_put hoj (hfree j oj hoj hji hjun hnot) (fun cs b => hsel i oi cs b hi) (fun cs b => hsel j oj cs b hoj) hQ hy h1
      have hfree' : ∀ k ok, ops[k]? = some ok → k ≠ i → (listed.setIfInBounds j true).getD k true = false →
          (∀ e ∈ ok.after, Region.binds md e = true → e.on ≠ i) → oi.apart ops ok = true := fun k ok hk hki hun hno => by
        refine hfree k ok hk hki ?_ hno
        by_cases hjk : j = k
        · subst hjk; exact hjun
        · rw [getD_set_ne true hjk] at hun; exact hun
      refine wpOp_mono (fun a' w' h3 => ⟨h3.2.1, ih (listed.setIfInBounds j true) a' w' hfree' (ready_mono hr (Ne.symm hji)) (h3.1.later h3.2.1) ?_⟩) h2
      rw [Array.setIfInBounds_comm _ _ hji]
      exact h3.2.2

/-- the operations in an order of the prover's: (i, false): it looks; (i, true): it may call -/
def wpMix (P : Program) (ops : Array Oper) (Q : Exit → Act → World → Prop) : List (Nat × Bool) → Act → World → Prop
  | [], a, w => Q .normal a w
  | (i, false) :: r, a, w => ∃ v, (∃ o, ops[i]? = some o ∧ YieldsE P ops o v a w ∧ (∀ c a w, Q (.panic c) (a.put o.dst v) w → Q (.panic c) a w) ∧ wpMix P ops Q r (a.put o.dst v) w)
  | (i, true) :: r, a, w => wpOp P ops Q i (fun a' w' => Ext w w' ∧ wpMix P ops Q r a' w') a w

def mixB (md : Region.Mode) (ops : Array Oper) : List (Nat × Bool) → Array Bool → Bool
  | [], listed => Region.ready md ops listed == []
  | (i, false) :: r, listed => (Region.ready md ops listed).contains i && Region.free md ops listed i && mixB md ops r (listed.setIfInBounds i true)
  | (i, true) :: r, listed => Region.ready md ops listed == [i] && mixB md ops r (listed.setIfInBounds i true)

theorem wpAnyE_mix (hs : Region.noSelect ops = true) : ∀ (l : List (Nat × Bool)) (listed : Array Bool) (a : Act) (w : World), mixB md ops l listed = true → wpMix P ops Q l a w → wpAnyE P md ops Q l.length listed a w
  | [], _, _, _, hB, h => ⟨by simpa [mixB] using hB, h⟩
  | (i, false) :: r, listed, a, w, hB, h => by
    simp only [mixB, Bool.and_eq_true] at hB
    obtain ⟨⟨hr, hf⟩, hB'⟩ := hB
    obtain ⟨v, o, hi, hy, hQ, hk⟩ := h
    exact wpAnyE_first hi (Region.noSelect_spec hs) hQ r.length listed a w (Region.free_spec hi hf) (by simpa using hr) hy (wpAnyE_mix hs r _ _ w hB' hk)
  | (i, true) :: r, listed, a, w, hB, h => by
    simp only [mixB, Bool.and_eq_true, beq_iff_eq] at hB
    refine ⟨fun hn => absurd (hB.1.symm.trans hn) (by simp), fun j hj => ?_⟩
    rw [hB.1] at hj
    obtain rfl : j = i := by simpa using hj
    exact wpOp_mono (fun a' w' hk => ⟨hk.1, wpAnyE_mix hs r _ a' w' hB.2 hk.2⟩) h

theorem wp_region_mix {id : Nat} {a : Act} {w : World} {l : List Oper} (π : List (Nat × Bool)) (hm : P.follows .mixedOrders = true)
    (hB : (Region.noSelect l.toArray && mixB .any l.toArray π (Array.replicate l.toArray.size false) && π.length == l.toArray.size) = true)
    (h : wpMix P l.toArray Q π a w.drew) : (Code.region id l.toArray true).wp P Q a w := by
  simp only [Bool.and_eq_true, beq_iff_eq] at hB
  refine wp_region_any hm ?_
  have := wpAnyE_mix (md := .any) hB.1.1 π (Array.replicate l.toArray.size false) a _ hB.1.2 h
  rw [hB.2] at this
  exact wpAny_of_E _ _ _ _ this

/-- one operation that looks -/
theorem wpMix_look {i : Nat} {r : List (Nat × Bool)} {a : Act} {w : World} {o : Oper} {d : Tmp} (hi : ops[i]? = some o) (hd : o.dst = some d)
    (hQ : ∀ v c a w, Q (.panic c) (a.put (some d) v) w → Q (.panic c) a w)
    (h : ∀ K : Act → Prop, (∀ a', wpMix P ops Q r a' w → K a') → (∀ b, b < w.heap.size → ∀ dq os o, (grow (redrawn w dq) os).cell? ⟨b, o, none⟩ = w.cell? ⟨b, o, none⟩) →
      if Region.wanted o (yielded ops a.tmps) then ∃ v, (∀ dq os, (execOp a.eval o).run P (grow (redrawn w dq) os) = .ok (.value v) (grow (redrawn w dq) os)) ∧ K (a.put (some d) v) else K (a.put (some d) undef)) : wpMix P ops Q ((i, false) :: r) a w := by
  have h := h (fun a' => wpMix P ops Q r a' w) (fun _ h => h) (fun b hcell dq os o => bcell (below_regrown w dq os) b o hcell)
  cases hw : Region.wanted o (yielded ops a.tmps)
  · rw [hw] at h
    exact ⟨undef, o, hi, .inr ⟨hw, rfl⟩, by rw [hd]; exact hQ undef, by rw [hd]; exact h⟩
  · rw [hw] at h
    obtain ⟨v, hv, hk⟩ := h
    refine ⟨v, o, hi, .inl ⟨hw, fun w' hw' => ?_⟩, by rw [hd]; exact hQ v, by rw [hd]; exact hk⟩
    obtain ⟨p, rfl⟩ := regrown_of_below hw'
    exact hv p.d p.os
/-- one operation that calls -/
theorem wpMix_call {i : Nat} {r : List (Nat × Bool)} {a : Act} {w : World} {o : Oper} (hi : ops[i]? = some o)
    (h : ∀ K : Act → World → Prop, (∀ a' w', Below w.heap.size w w' → wpMix P ops Q r a' w' → K a' w') → if Region.wanted o (yielded ops a.tmps) then o.wp P a w K Q else K (a.put o.dst undef) w) : wpMix P ops Q ((i, true) :: r) a w := by
  show wpOp P ops Q i _ a w
  have h := h (fun a' w' => Ext w w' ∧ wpMix P ops Q r a' w') (fun _ _ h1 h2 => ⟨h1, h2⟩)
  unfold wpOp
  simp only [hi]
  split
  · rename_i hw; rw [if_pos hw] at h; exact .inl h
  · rename_i hw; rw [if_neg hw] at h; exact h
theorem wpMix_nil {a : Act} {w : World} (h : Q .normal a w) : wpMix P ops Q [] a w := h
end
end Go.Proofs.Ytjbcjebiihgdgaa
