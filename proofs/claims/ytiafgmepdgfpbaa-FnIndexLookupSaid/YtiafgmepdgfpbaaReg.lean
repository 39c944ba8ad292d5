/- A region that draws its order, whose operations either look (the same value in every later world) or call and only add to memory: one walk serves every order. No program in sight. -/
import Derived.Test.YtiafgmepdgfpbaaZa
import Derived.Still
import Derived.Deep.QuietTactic
import Derived.Lib.QuietBelow
set_option linter.unusedVariables false
set_option linter.unusedSimpArgs false
namespace Go.Proofs.Ytiafgmepdgfpbaa
open Go.RowKit Go.Sort
def Ext (w w' : World) : Prop := Below w.heap.size w w'
theorem Ext.refl (w : World) : Ext w w := Below.refl _ _
theorem Ext.trans {a b c : World} (h : Ext a b) (k : Ext b c) : Ext a c := below_via h k
section
variable {P : Program} {ops : Array Oper} {Q : Exit → Act → World → Prop} {md : Region.Mode}
def wpAnyE (P : Program) (md : Region.Mode) (ops : Array Oper) (Q : Exit → Act → World → Prop) (fr : List Nat) : Nat → Array Bool → Act → World → Prop
  | 0, listed, a, w => Region.ready md ops listed = [] ∧ Q .normal a w
  | fuel + 1, listed, a, w =>
    (Region.ready md ops listed = [] → Q .normal a w) ∧
    ∀ i ∈ Region.ready md ops listed, wpOp P ops Q i (fun a' w' => (i ∉ fr → Ext w w') ∧ wpAnyE P md ops Q fr fuel (listed.setIfInBounds i true) a' w') a w
theorem wpAny_of_E {fr : List Nat} : ∀ (fuel : Nat) (listed : Array Bool) (a : Act) (w : World), wpAnyE P md ops Q fr fuel listed a w → wpAny P md ops Q fuel listed a w
  | 0, _, _, _, h => h
  | fuel + 1, _, _, _, h => ⟨h.1, fun i hi => wpOp_mono (fun a' w' hk => wpAny_of_E fuel _ a' w' hk.2) (h.2 i hi)⟩
def YieldsE (P : Program) (ops : Array Oper) (o : Oper) (v : Value) (a : Act) (w : World) : Prop :=
  (Region.wanted o (yielded ops a.tmps) = true ∧ ∀ w', Ext w w' → (execOp a.eval o).run P w' = .ok (.value v) w') ∨
  (Region.wanted o (yielded ops a.tmps) = false ∧ v = undef)
theorem YieldsE.later {o : Oper} {v : Value} {a : Act} {w w' : World} (hy : YieldsE P ops o v a w) (h : Ext w w') : YieldsE P ops o v a w' := by
  rcases hy with ⟨h1, h2⟩ | h1
  · exact .inl ⟨h1, fun w'' h' => h2 w'' (h.trans h')⟩
  · exact .inr h1
theorem YieldsE.of_same {o : Oper} {v : Value} {a a' : Act} {w : World} (hy : YieldsE P ops o v a w) (he : execOp a'.eval o = execOp a.eval o)
    (hw : Region.wanted o (yielded ops a'.tmps) = Region.wanted o (yielded ops a.tmps)) : YieldsE P ops o v a' w := by
  unfold YieldsE at *
  rw [he, hw]
  exact hy
theorem YieldsE.wpOp {i : Nat} {o : Oper} {v : Value} {a : Act} {w : World} (hi : ops[i]? = some o) (hy : YieldsE P ops o v a w) {K : Act → World → Prop} (h : K (a.put o.dst v) w) : wpOp P ops Q i K a w := by
  unfold Go.wpOp
  simp only [hi]
  rcases hy with ⟨hw, hv⟩ | ⟨hw, rfl⟩
  · simp only [hw, if_true, Oper.wp, hv w (Ext.refl w), Oper.upon]; exact .inl h
  · simp only [hw, Bool.false_eq_true, if_false]; exact h
theorem wpOpE_put {j : Nat} {oi oj : Oper} {v : Value} (hj : ops[j]? = some oj) (hap : oi.apart ops oj = true)
    (hsi : ∀ cs b, oi.op ≠ .select cs b) (hsj : ∀ cs b, oj.op ≠ .select cs b)
    (hQ : ∀ c a w, Q (.panic c) (a.put oi.dst v) w → Q (.panic c) a w) {K : Act → World → Prop} {a : Act} {w : World}
    (hy : YieldsE P ops oi v a w) (h : wpOp P ops Q j K (a.put oi.dst v) w) :
    wpOp P ops Q j (fun a' w' => YieldsE P ops oi v a' w ∧ K (a'.put oi.dst v) w') a w := by
  obtain ⟨h1, h2, h3⟩ := Oper.apart_spec hap
  have keep : ∀ (a : Act), YieldsE P ops oi v a w → ∀ u, YieldsE P ops oi v (a.put oj.dst u) w := fun a hy u =>
    hy.of_same (execOp_put oi hsi a oj.dst u h3) (wanted_put oi a oj.dst u h3)
  have keepD : ∀ d, YieldsE P ops oi v { a with defers := d :: a.defers } w := fun d => hy.of_same rfl rfl
  unfold wpOp at *
  simp only [hj] at *
  rw [wanted_put oj a oi.dst v h1] at h
  split
  · rename_i hw
    simp only [hw, if_true] at h
    rcases h with h | ⟨hasks, hlets⟩
    case inr => exact .inr ⟨by unfold Oper.asks at *; rw [execOp_put oj hsj a oi.dst v h1] at hasks; exact hasks, hlets⟩
    refine .inl ?_
    unfold Oper.wp at *
    rw [execOp_put oj hsj a oi.dst v h1] at h
    generalize (execOp a.eval oj).run P w = r at *
    cases r with
    | ok n w' =>
      cases n <;> simp only [Oper.upon] at h ⊢
      case value u => exact ⟨keep a hy u, by rw [← Act.put_comm a v u h2]; exact h⟩
      case skip => exact ⟨keep a hy _, by rw [← Act.put_comm a v undef h2]; exact h⟩
      case defer d =>
        refine ⟨keep _ (keepD d) _, ?_⟩
        rw [← Act.put_comm _ v undef h2, ← Act.put_defers]
        exact h
      case enter f args =>
        refine Calls.mono h fun e w'' he => ?_
        cases e with
        | returned u => exact ⟨keep a hy u, by rw [← Act.put_comm a v u h2]; exact he⟩
        | panicked c => exact hQ _ _ _ he
        | outgrown => exact he
      case row row args => exact Rows.mono h fun u w'' he => ⟨keep a hy u, by rw [← Act.put_comm a v u h2]; exact he⟩
    | halt x w' =>
      cases x <;> simp only [Oper.upon] at h ⊢
      case panic u => exact hQ _ _ _ h
  · rename_i hw
    simp only [hw] at h
    exact ⟨keep a hy _, by rw [← Act.put_comm a v undef h2]; exact h⟩
def Closed (md : Region.Mode) (ops : Array Oper) (listed : Array Bool) : Prop := ∀ k o, ops[k]? = some o → listed.getD k false = true → ∀ e ∈ o.after, Region.binds md e = true → listed.getD e.on false = true
def reachB (md : Region.Mode) (ops : Array Oper) : Nat → Nat → Nat → Bool
  | 0, _, _ => false
  | n + 1, j, i => match ops[j]? with
    | some o => o.after.any fun e => Region.binds md e && (e.on == i || reachB md ops n e.on i)
    | none => false
theorem reachB_spec {listed : Array Bool} (hc : Closed md ops listed) {i : Nat} : ∀ (n j : Nat), reachB md ops n j i = true → (∀ o, ops[j]? = some o → ∀ e ∈ o.after, Region.binds md e = true → listed.getD e.on false = true) → listed.getD i false = true
  | 0, _, h, _ => by simp [reachB] at h
  | n + 1, j, h, hj => by
    unfold reachB at h
    split at h
    · rename_i o ho
      simp only [Array.any_eq_true', Bool.and_eq_true, Bool.or_eq_true, beq_iff_eq] at h
      obtain ⟨e, he, hb, h⟩ := h
      have hl := hj o ho e he hb
      rcases h with h | h
      · rw [← h]; exact hl
      · exact reachB_spec hc n e.on h (fun o' ho' e' he' hb' => hc e.on o' ho' hl e' he' hb')
    · cases h
theorem Closed.set {listed : Array Bool} (hc : Closed md ops listed) {i : Nat} (hi : i ∈ Region.ready md ops listed) : Closed md ops (listed.setIfInBounds i true) := by
  have mono : ∀ k, listed.getD k false = true → (listed.setIfInBounds i true).getD k false = true := fun k hk => by
    by_cases hik : i = k
    · subst hik
      rcases Nat.lt_or_ge i listed.size with h' | h'
      · simp [h']
      · simp [Array.getElem?_eq_none h'] at hk
    · rw [getD_set_ne false hik]; exact hk
  intro k o ho hk e he hb
  by_cases hik : i = k
  · subst hik
    obtain ⟨_, o', ho', hall⟩ := mem_ready.1 hi
    rw [ho] at ho'
    obtain rfl : o = o' := by simpa using ho'
    exact mono _ (hall e he hb)
  · rw [getD_set_ne false hik] at hk
    exact mono _ (hc k o ho hk e he hb)
def closedB (md : Region.Mode) (ops : Array Oper) (listed : Array Bool) : Bool := (List.range ops.size).all fun k => match ops[k]? with
  | some o => !listed.getD k false || o.after.all fun e => !Region.binds md e || listed.getD e.on false
  | none => true
theorem closedB_spec {listed : Array Bool} (h : closedB md ops listed = true) : Closed md ops listed := by
  intro k o ho hk e he hb
  have hlt : k < ops.size := (Array.getElem?_eq_some_iff.1 ho).1
  have := List.all_eq_true.1 h k (List.mem_range.2 hlt)
  rw [ho] at this
  simp only [hk, Bool.not_true, Bool.false_or, Array.all_eq_true'] at this
  have := this e he
  simpa [hb] using this
theorem wpAnyE_first {fr : List Nat} {i : Nat} {oi : Oper} {v : Value} {mx : Nat} (hfr : ∀ j ∈ fr, reachB md ops mx j i = true) (hi : ops[i]? = some oi) (hsel : ∀ (j : Nat) (o : Oper) cs b, ops[j]? = some o → o.op ≠ .select cs b)
    (hQ : ∀ c a w, Q (.panic c) (a.put oi.dst v) w → Q (.panic c) a w) :
    ∀ (fuel : Nat) (listed : Array Bool) (a : Act) (w : World), Closed md ops listed →
      (∀ j oj, ops[j]? = some oj → j ≠ i → listed.getD j true = false → (∀ e ∈ oj.after, Region.binds md e = true → e.on ≠ i) → oi.apart ops oj = true) →
      i ∈ Region.ready md ops listed → YieldsE P ops oi v a w →
      wpAnyE P md ops Q fr fuel (listed.setIfInBounds i true) (a.put oi.dst v) w → wpAnyE P md ops Q fr (fuel + 1) listed a w := by
  intro fuel
  induction fuel with
  | zero =>
    intro listed a w _ _ hr hy H
    refine ⟨fun h => (by rw [h] at hr; cases hr), fun j hj => ?_⟩
    by_cases hji : j = i
    · subst hji; exact hy.wpOp hi ⟨fun _ => Ext.refl w, H⟩
    · have := ready_mono hj hji
      rw [H.1] at this
      cases this
  | succ fuel ih =>
    intro listed a w hcl hfree hr hy H
    refine ⟨fun h => (by rw [h] at hr; cases hr), fun j hj => ?_⟩
    by_cases hji : j = i
    · subst hji; exact hy.wpOp hi ⟨fun _ => Ext.refl w, H⟩
    · have h1 := H.2 j (ready_mono hj hji)
      obtain ⟨hjun, oj, hoj, hall⟩ := mem_ready.1 hj
      have hnot : ∀ e ∈ oj.after, Region.binds md e = true → e.on ≠ i := fun e he hb heq => by
        have h1 := hall e he hb
        have h0 := (mem_ready.1 hr).1
        rw [heq] at h1
        rcases Nat.lt_or_ge i listed.size with h' | h'
        · simp [h'] at h0 h1; rw [h0] at h1; cases h1
        · simp [Array.getElem?_eq_none h'] at h1
      have h2 := wpOpE_put hoj (hfree j oj hoj hji hjun hnot) (fun cs b => hsel i oi cs b hi) (fun cs b => hsel j oj cs b hoj) hQ hy h1
      have hfree' : ∀ k ok, ops[k]? = some ok → k ≠ i → (listed.setIfInBounds j true).getD k true = false →
          (∀ e ∈ ok.after, Region.binds md e = true → e.on ≠ i) → oi.apart ops ok = true := fun k ok hk hki hun hno => by
        refine hfree k ok hk hki ?_ hno
        by_cases hjk : j = k
        · subst hjk; exact hjun
        · rw [getD_set_ne true hjk] at hun; exact hun
      have hjf : j ∉ fr := fun hj' => by
        have h1 := reachB_spec hcl mx j (hfr j hj') (fun o ho => by rw [hoj] at ho; cases ho; exact hall)
        have h0 := (mem_ready.1 hr).1
        rcases Nat.lt_or_ge i listed.size with h' | h'
        · simp [h'] at h0 h1; rw [h0] at h1; cases h1
        · simp [Array.getElem?_eq_none h'] at h1
      refine wpOp_mono (fun a' w' h3 => ⟨fun _ => h3.2.1 hjf, ih (listed.setIfInBounds j true) a' w' (hcl.set hj) hfree' (ready_mono hr (Ne.symm hji)) (h3.1.later (h3.2.1 hjf)) ?_⟩) h2
      rw [Array.setIfInBounds_comm _ _ hji]
      exact h3.2.2
/-! ### a fork: operations that make memory, in whatever order -/
def Same (dst : Nat → Tmp) (H : List Nat) (a a' : Act) : Prop := a'.defers = a.defers ∧ a'.tmps.size = a.tmps.size ∧ ∀ t, (∀ i ∈ H, dst i ≠ t) → a'.tmps[t]? = a.tmps[t]?
theorem Same.eval {dst : Nat → Tmp} {H : List Nat} {a a' : Act} (h : Same dst H a a') (t : Tmp) (ht : ∀ i ∈ H, dst i ≠ t) : a'.tmps.getD t undef = a.tmps.getD t undef := by
  simp [Array.getD_eq_getD_getElem?, h.2.2 t ht]
structure ForkOk (P : Program) (ops : Array Oper) (Q : Exit → Act → World → Prop) (md : Region.Mode) (H : List Nat) (dst : Nat → Tmp) (dep : Nat → List Nat) (R : Nat → Value → List Nat → World → Prop) (a : Act) (W : World) : Prop where
  nd : (H.map dst).Nodup
  lt : ∀ i ∈ H, dst i < a.tmps.size
  dep_ok : ∀ i ∈ H, ∀ j ∈ dep i, j ∈ H ∧ ∃ o e, ops[i]? = some o ∧ e ∈ o.after ∧ Region.binds md e = true ∧ e.on = j
  stable : ∀ i ∈ H, ∀ v L w w', R i v L w → Ext w w' → R i v L w'
  run : ∀ i ∈ H, ∃ o, ops[i]? = some o ∧ o.dst = some (dst i) ∧ ∀ a' w, Same dst H a a' → Ext W w → (∀ j ∈ dep i, ∃ v L, a'.tmps.getD (dst j) undef = v ∧ R j v L w) →
    Region.wanted o (yielded ops a'.tmps) = true ∧ ∀ K : Act → World → Prop, (∀ v L w', Ext w w' → R i v L w' → (∀ b ∈ L, w.heap.size ≤ b ∧ b < w'.heap.size) → K (a'.put (some (dst i)) v) w') → o.wp P a' w K Q
structure ForkInv (dst : Nat → Tmp) (H : List Nat) (R : Nat → Value → List Nat → World → Prop) (a : Act) (W : World) (D : List Nat) (v : Nat → Value) (Ls : Nat → List Nat) (a' : Act) (w : World) : Prop where
  same : Same dst H a a'
  ext : Ext W w
  val : ∀ i ∈ D, a'.tmps[dst i]? = some (v i)
  rel : ∀ i ∈ D, R i (v i) (Ls i) w
  bd : ∀ i ∈ D, ∀ b ∈ Ls i, W.heap.size ≤ b ∧ b < w.heap.size
  dis : ∀ i ∈ D, ∀ j ∈ D, i ≠ j → ∀ b ∈ Ls i, b ∉ Ls j
def forkB (md : Region.Mode) (ops : Array Oper) (fin : Array Bool) : Nat → List Nat → Array Bool → Bool
  | 0, H, listed => H.isEmpty && (listed == fin)
  | n + 1, H, listed => !(Region.ready md ops listed).isEmpty && (Region.ready md ops listed).all (fun i => H.contains i && forkB md ops fin n (H.erase i) (listed.setIfInBounds i true))
theorem nodup_map_ne {dst : Nat → Tmp} {H : List Nat} (h : (H.map dst).Nodup) {i j : Nat} (hi : i ∈ H) (hj : j ∈ H) (hij : i ≠ j) : dst i ≠ dst j := fun e => by
  induction H with
  | nil => cases hi
  | cons x xs ih =>
    simp only [List.map_cons, List.nodup_cons, List.mem_map, not_exists, not_and] at h
    rcases List.mem_cons.1 hi with h1 | h1
    · rcases List.mem_cons.1 hj with h2 | h2
      · exact hij (h1.trans h2.symm)
      · subst h1; exact h.1 j h2 e.symm
    · rcases List.mem_cons.1 hj with h2 | h2
      · subst h2; exact h.1 i h1 e
      · exact ih h.2 h1 h2
theorem fork_go {fr : List Nat} {H : List Nat} {dst : Nat → Tmp} {dep : Nat → List Nat} {R : Nat → Value → List Nat → World → Prop} {a : Act} {W : World} {fin : Array Bool} {fuel : Nat}
    (hF : ForkOk P ops Q md H dst dep R a W) (hend : ∀ v Ls a' w, ForkInv dst H R a W H v Ls a' w → wpAnyE P md ops Q fr fuel fin a' w) :
    ∀ (n : Nat) (rem D : List Nat) (listed : Array Bool) (v : Nat → Value) (Ls : Nat → List Nat) (a' : Act) (w : World), rem.length = n → forkB md ops fin n rem listed = true → (∀ i ∈ H, i ∈ rem ∨ i ∈ D) → (∀ i ∈ D, i ∈ H) → (∀ i ∈ rem, i ∈ H ∧ i ∉ D ∧ listed.getD i true = false) → rem.Nodup →
      ForkInv dst H R a W D v Ls a' w → wpAnyE P md ops Q fr (fuel + n) listed a' w := by
  intro n
  induction n with
  | zero =>
    intro rem D listed v Ls a' w hl hB hcov hDH _ _ hI
    have : rem = [] := List.eq_nil_of_length_eq_zero hl
    subst this
    simp only [forkB, Bool.and_eq_true, beq_iff_eq] at hB
    rw [hB.2]
    have hHD : ∀ i ∈ H, i ∈ D := fun i hi => (hcov i hi).resolve_left (by simp)
    exact hend v Ls a' w ⟨hI.same, hI.ext, fun i hi => hI.val i (hHD i hi), fun i hi => hI.rel i (hHD i hi), fun i hi => hI.bd i (hHD i hi), fun i hi j hj => hI.dis i (hHD i hi) j (hHD j hj)⟩
  | succ n ih =>
    intro rem D listed v Ls a' w hl hB hcov hDH hrem hnd hI
    simp only [forkB, Bool.and_eq_true, Bool.not_eq_true', List.isEmpty_eq_false_iff, List.all_eq_true, List.contains_eq_mem, decide_eq_true_eq] at hB
    refine ⟨fun h => absurd h hB.1, fun i hi => ?_⟩
    obtain ⟨hir, hBi⟩ := hB.2 i hi
    obtain ⟨hiH, hiD, _⟩ := hrem i hir
    obtain ⟨o, hoi, hod, hrun⟩ := hF.run i hiH
    have hdeps : ∀ j ∈ dep i, ∃ v L, a'.tmps.getD (dst j) undef = v ∧ R j v L w := fun j hj => by
      obtain ⟨hjH, o', e, ho', he, hb, hej⟩ := hF.dep_ok i hiH j hj
      have hl := (mem_ready.1 hi).2
      obtain ⟨o2, ho2, hall⟩ := hl
      rw [hoi] at ho' ho2
      obtain rfl : o = o' := by simpa using ho'
      obtain rfl : o = o2 := by simpa using ho2
      have hlj := hall e he hb
      rw [hej] at hlj
      have hjD : j ∈ D := (hcov j hjH).resolve_left fun hjr => by
        have := (hrem j hjr).2.2
        rcases Nat.lt_or_ge j listed.size with h' | h'
        · simp [h'] at this hlj; rw [this] at hlj; cases hlj
        · simp [Array.getElem?_eq_none h'] at this
      exact ⟨v j, Ls j, by simp [Array.getD_eq_getD_getElem?, hI.val j hjD], hI.rel j hjD⟩
    obtain ⟨hw, hrun⟩ := hrun a' w hI.same hI.ext hdeps
    unfold wpOp
    simp only [hoi, hw, if_true]
    refine .inl (hrun _ fun u L w' hx hR hL => ⟨fun _ => hx, ?_⟩)
    have hne : ∀ j ∈ D, j ≠ i := fun j hj e => hiD (e ▸ hj)
    refine ih (rem.erase i) (i :: D) (listed.setIfInBounds i true) (fun k => if k = i then u else v k) (fun k => if k = i then L else Ls k) _ w' (by rw [List.length_erase_of_mem hir]; omega) hBi ?_ ?_ ?_ (hnd.erase i) ⟨⟨hI.same.1, ?_, ?_⟩, hI.ext.trans hx, ?_, ?_, ?_, ?_⟩
    · intro k hk
      by_cases hki : k = i
      · exact .inr (by simp [hki])
      · rcases hcov k hk with h | h
        · exact .inl ((List.mem_erase_of_ne hki).2 h)
        · exact .inr (List.mem_cons_of_mem _ h)
    · intro k hk
      rcases List.mem_cons.1 hk with rfl | hk
      · exact hiH
      · exact hDH k hk
    · intro k hk
      have hki : k ≠ i := fun e => by subst e; exact (List.Nodup.not_mem_erase hnd) hk
      obtain ⟨h1, h2, h3⟩ := hrem k (List.mem_of_mem_erase hk)
      refine ⟨h1, fun h => ?_, by rw [getD_set_ne true (Ne.symm hki)]; exact h3⟩
      rcases List.mem_cons.1 h with h | h
      · exact hki h
      · exact h2 h
    · simp only [Act.put, Array.size_setIfInBounds]; exact hI.same.2.1
    · intro t ht
      simp only [Act.put, Array.getElem?_setIfInBounds]
      rw [if_neg (ht i hiH)]
      exact hI.same.2.2 t ht
    · intro k hk
      by_cases hki : k = i
      · subst hki
        have := hF.lt k hiH
        simp [Act.put, Array.getElem?_setIfInBounds, hI.same.2.1, this]
      · have hkD : k ∈ D := (List.mem_cons.1 hk).resolve_left hki
        simp only [hki, if_false, Act.put, Array.getElem?_setIfInBounds]
        rw [if_neg (nodup_map_ne hF.nd hiH (hDH k hkD) (Ne.symm hki))]
        exact hI.val k hkD
    · intro k hk
      by_cases hki : k = i
      · subst hki; simpa using hR
      · have hkD : k ∈ D := (List.mem_cons.1 hk).resolve_left hki
        simp only [hki, if_false]
        exact hF.stable k (hDH k hkD) _ _ _ _ (hI.rel k hkD) hx
    · intro k hk b hb
      by_cases hki : k = i
      · subst hki
        simp only [if_true] at hb
        have := hL b hb
        have := hI.ext.size
        omega
      · have hkD : k ∈ D := (List.mem_cons.1 hk).resolve_left hki
        simp only [hki, if_false] at hb
        have h1 := hI.bd k hkD b hb
        have h2 := hx.size
        omega
    · intro k hk j hj hkj b hb hb'
      by_cases hki : k = i
      · subst hki
        simp only [if_true] at hb
        have hjD : j ∈ D := (List.mem_cons.1 hj).resolve_left (Ne.symm hkj)
        simp only [Ne.symm hkj, if_false] at hb'
        have := hL b hb
        have := hI.bd j hjD b hb'
        omega
      · have hkD : k ∈ D := (List.mem_cons.1 hk).resolve_left hki
        simp only [hki, if_false] at hb
        by_cases hji : j = i
        · subst hji
          simp only [if_true] at hb'
          have := hL b hb'
          have := hI.bd k hkD b hb
          omega
        · have hjD : j ∈ D := (List.mem_cons.1 hj).resolve_left hji
          simp only [hji, if_false] at hb'
          exact hI.dis k hkD j hjD hkj b hb hb'
theorem same_puts {dst : Nat → Tmp} {v : Nat → Value} {a' : Act} : ∀ (H : List Nat) (a : Act), (H.map dst).Nodup → (∀ i ∈ H, dst i < a.tmps.size) → Same dst H a a' → (∀ i ∈ H, a'.tmps[dst i]? = some (v i)) → a' = H.foldl (fun x i => x.put (some (dst i)) (v i)) a
  | [], a, _, _, h, _ => by
    obtain ⟨t', d'⟩ := a'
    obtain ⟨t, d⟩ := a
    obtain ⟨h1, h2, h3⟩ := h
    have : t' = t := Array.ext_getElem? fun i => h3 i (by simp)
    simp only at h1
    rw [this, h1]
    rfl
  | i :: H, a, hn, hl, h, hv => by
    simp only [List.map_cons, List.nodup_cons] at hn
    refine same_puts H (a.put (some (dst i)) (v i)) hn.2 (fun j hj => by simpa [Act.put] using hl j (by simp [hj])) ⟨h.1, by simpa [Act.put] using h.2.1, fun t ht => ?_⟩ (fun j hj => hv j (by simp [hj]))
    simp only [Act.put, Array.getElem?_setIfInBounds]
    by_cases hit : dst i = t
    · subst hit
      rw [if_pos rfl, if_pos (hl i (by simp)), hv i (by simp)]
    · rw [if_neg hit]
      exact h.2.2 t fun j hj => by
        rcases List.mem_cons.1 hj with rfl | hj
        · exact hit
        · exact ht j hj
inductive Pl where
  | look (i : Nat)
  | step (i : Nat)
  | free (i : Nat)
  | fork (H : List Nat)
def wpPl (P : Program) (md : Region.Mode) (ops : Array Oper) (Q : Exit → Act → World → Prop) : List Pl → Act → World → Prop
  | [], a, w => Q .normal a w
  | .look i :: r, a, w => ∃ v, (∃ o, ops[i]? = some o ∧ YieldsE P ops o v a w ∧ (∀ c a w, Q (.panic c) (a.put o.dst v) w → Q (.panic c) a w) ∧ wpPl P md ops Q r (a.put o.dst v) w)
  | .step i :: r, a, w => wpOp P ops Q i (fun a' w' => Ext w w' ∧ wpPl P md ops Q r a' w') a w
  | .free i :: r, a, w => wpOp P ops Q i (fun a' w' => wpPl P md ops Q r a' w') a w
  | .fork H :: r, a, w => ∃ (dst : Nat → Tmp) (dep : Nat → List Nat) (R : Nat → Value → List Nat → World → Prop), ForkOk P ops Q md H dst dep R a w ∧
      ∀ (v : Nat → Value) (Ls : Nat → List Nat) (w' : World), Ext w w' → (∀ i ∈ H, R i (v i) (Ls i) w' ∧ ∀ b ∈ Ls i, w.heap.size ≤ b ∧ b < w'.heap.size) → (∀ i ∈ H, ∀ j ∈ H, i ≠ j → ∀ b ∈ Ls i, b ∉ Ls j) → wpPl P md ops Q r (H.foldl (fun x i => x.put (some (dst i)) (v i)) a) w'
def Pl.len : List Pl → Nat
  | [] => 0
  | .fork H :: r => Pl.len r + H.length
  | _ :: r => Pl.len r + 1
def Pl.frees : List Pl → List Nat
  | [] => []
  | .free i :: r => i :: Pl.frees r
  | _ :: r => Pl.frees r
def plB (md : Region.Mode) (ops : Array Oper) (fr : List Nat) : List Pl → Array Bool → Bool
  | [], listed => Region.ready md ops listed == []
  | .look i :: r, listed => closedB md ops listed && fr.all (fun j => reachB md ops ops.size j i) && (Region.ready md ops listed).contains i && Region.free md ops listed i && plB md ops fr r (listed.setIfInBounds i true)
  | .step i :: r, listed => Region.ready md ops listed == [i] && plB md ops fr r (listed.setIfInBounds i true)
  | .free i :: r, listed => fr.contains i && Region.ready md ops listed == [i] && plB md ops fr r (listed.setIfInBounds i true)
  | .fork H :: r, listed => decide H.Nodup && H.all (fun i => !listed.getD i true) && forkB md ops (H.foldl (fun l i => l.setIfInBounds i true) listed) H.length H listed && plB md ops fr r (H.foldl (fun l i => l.setIfInBounds i true) listed)
theorem wpAnyE_pl {fr : List Nat} (hs : Region.noSelect ops = true) : ∀ (l : List Pl) (listed : Array Bool) (a : Act) (w : World), plB md ops fr l listed = true → wpPl P md ops Q l a w → wpAnyE P md ops Q fr (Pl.len l) listed a w
  | [], _, _, _, hB, h => ⟨by simpa [plB] using hB, h⟩
  | .look i :: r, listed, a, w, hB, h => by
    simp only [plB, Bool.and_eq_true, List.all_eq_true] at hB
    obtain ⟨⟨⟨⟨hc, hk⟩, hr⟩, hf⟩, hB'⟩ := hB
    obtain ⟨v, o, hi, hy, hQ, hk'⟩ := h
    exact wpAnyE_first hk hi (Region.noSelect_spec hs) hQ (Pl.len r) listed a w (closedB_spec hc) (Region.free_spec hi hf) (by simpa using hr) hy (wpAnyE_pl hs r _ _ w hB' hk')
  | .step i :: r, listed, a, w, hB, h => by
    simp only [plB, Bool.and_eq_true, beq_iff_eq] at hB
    refine ⟨fun hn => absurd (hB.1.symm.trans hn) (by simp), fun j hj => ?_⟩
    rw [hB.1] at hj
    obtain rfl : j = i := by simpa using hj
    exact wpOp_mono (fun a' w' hk => ⟨fun _ => hk.1, wpAnyE_pl hs r _ a' w' hB.2 hk.2⟩) h
  | .free i :: r, listed, a, w, hB, h => by
    simp only [plB, Bool.and_eq_true, beq_iff_eq, List.contains_eq_mem, decide_eq_true_eq] at hB
    refine ⟨fun hn => absurd (hB.1.2.symm.trans hn) (by simp), fun j hj => ?_⟩
    rw [hB.1.2] at hj
    obtain rfl : j = i := by simpa using hj
    exact wpOp_mono (fun a' w' hk => ⟨fun hn => absurd hB.1.1 hn, wpAnyE_pl hs r _ a' w' hB.2 hk⟩) h
  | .fork H :: r, listed, a, w, hB, h => by
    simp only [plB, Bool.and_eq_true, decide_eq_true_eq, List.all_eq_true, Bool.not_eq_true'] at hB
    obtain ⟨⟨⟨hnd, hun⟩, hfk⟩, hB'⟩ := hB
    obtain ⟨dst, dep, R, hF, hk⟩ := h
    refine fork_go hF (fun v Ls a' w' hI => ?_) H.length H [] listed (fun _ => undef) (fun _ => []) a w rfl hfk (fun i hi => .inl hi) (by simp) (fun i hi => ⟨hi, by simp, hun i hi⟩) hnd
      ⟨⟨rfl, rfl, fun _ _ => rfl⟩, Ext.refl w, by simp, by simp, by simp, by simp⟩
    have := hk v Ls w' hI.ext (fun i hi => ⟨hI.rel i hi, hI.bd i hi⟩) hI.dis
    rw [← same_puts H a hF.nd hF.lt hI.same hI.val] at this
    exact wpAnyE_pl hs r _ a' w' hB' this
theorem wp_region_pl {id : Nat} {a : Act} {w : World} {l : List Oper} (π : List Pl) (hm : P.follows .mixedOrders = true)
    (hB : (Region.noSelect l.toArray && plB .any l.toArray (Pl.frees π) π (Array.replicate l.toArray.size false) && Pl.len π == l.toArray.size) = true)
    (h : wpPl P .any l.toArray Q π a w.drew) : (Code.region id l.toArray true).wp P Q a w := by
  simp only [Bool.and_eq_true, beq_iff_eq] at hB
  refine wp_region_any hm ?_
  have := wpAnyE_pl (md := .any) hB.1.1 π (Array.replicate l.toArray.size false) a _ hB.1.2 h
  rw [hB.2] at this
  exact wpAny_of_E _ _ _ _ this
theorem wpMix_look {i : Nat} {r : List Pl} {a : Act} {w : World} {o : Oper} {d : Tmp} (hi : ops[i]? = some o) (hd : o.dst = some d)
    (hQ : ∀ v c a w, Q (.panic c) (a.put (some d) v) w → Q (.panic c) a w)
    (h : ∀ K : Act → Prop, (∀ a', wpPl P md ops Q r a' w → K a') → (∀ b, b < w.heap.size → ∀ dq os o, (grow (redrawn w dq) os).cell? ⟨b, o, none⟩ = w.cell? ⟨b, o, none⟩) →
      if Region.wanted o (yielded ops a.tmps) then ∃ v, (∀ dq os, (execOp a.eval o).run P (grow (redrawn w dq) os) = .ok (.value v) (grow (redrawn w dq) os)) ∧ K (a.put (some d) v) else K (a.put (some d) undef)) : wpPl P md ops Q (.look i :: r) a w := by
  have h := h (fun a' => wpPl P md ops Q r a' w) (fun _ h => h) (fun b hcell dq os o => bcell (below_regrown w dq os) b o hcell)
  cases hw : Region.wanted o (yielded ops a.tmps)
  · rw [hw] at h
    exact ⟨undef, o, hi, .inr ⟨hw, rfl⟩, by rw [hd]; exact hQ undef, by rw [hd]; exact h⟩
  · rw [hw] at h
    obtain ⟨v, hv, hk⟩ := h
    refine ⟨v, o, hi, .inl ⟨hw, fun w' hw' => ?_⟩, by rw [hd]; exact hQ v, by rw [hd]; exact hk⟩
    obtain ⟨p, rfl⟩ := regrown_of_below hw'
    exact hv p.d p.os
theorem wpMix_call {i : Nat} {r : List Pl} {a : Act} {w : World} {o : Oper} (hi : ops[i]? = some o)
    (h : ∀ K : Act → World → Prop, (∀ a' w', Below w.heap.size w w' → wpPl P md ops Q r a' w' → K a' w') → if Region.wanted o (yielded ops a.tmps) then o.wp P a w K Q else K (a.put o.dst undef) w) : wpPl P md ops Q (.step i :: r) a w := by
  show wpOp P ops Q i _ a w
  have h := h (fun a' w' => Ext w w' ∧ wpPl P md ops Q r a' w') (fun _ _ h1 h2 => ⟨h1, h2⟩)
  unfold wpOp
  simp only [hi]
  split
  · rename_i hw; rw [if_pos hw] at h; exact .inl h
  · rename_i hw; rw [if_neg hw] at h; exact h
theorem wpMix_free {i : Nat} {r : List Pl} {a : Act} {w : World} {o : Oper} (hi : ops[i]? = some o)
    (h : ∀ K : Act → World → Prop, (∀ a' w', wpPl P md ops Q r a' w' → K a' w') → if Region.wanted o (yielded ops a.tmps) then o.wp P a w K Q else K (a.put o.dst undef) w) : wpPl P md ops Q (.free i :: r) a w := by
  show wpOp P ops Q i _ a w
  have h := h (fun a' w' => wpPl P md ops Q r a' w') (fun _ _ h1 => h1)
  unfold wpOp
  simp only [hi]
  split
  · rename_i hw; rw [if_pos hw] at h; exact .inl h
  · rename_i hw; rw [if_neg hw] at h; exact h
theorem wpMix_nil {a : Act} {w : World} (h : Q .normal a w) : wpPl P md ops Q [] a w := h
end
end Go.Proofs.Ytiafgmepdgfpbaa
