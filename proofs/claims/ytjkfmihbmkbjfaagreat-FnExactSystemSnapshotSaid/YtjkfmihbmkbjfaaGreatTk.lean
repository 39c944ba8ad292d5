/- Calls of functions that turn a row of the caller's: Sort, Compact, Insert, Delete, DeleteFunc. No program in sight. -/
import Derived.Test.YtjkfmihbmkbjfaaGreatPx
namespace Go.Proofs.YtjkfmihbmkbjfaaGreat
open Go.RowKit

def boxKeys : List (Nat × List C) → List Nat
  | [] => []
  | p :: r => keysOfC p.2 ++ boxKeys r
def evalT (orc : Orc) (bn : List (Nat × List C)) (dst : Option Nat) : Op → List AV → Option (Res × List Ob)
  | .call ⟨.value _, _, _⟩, .one (.fn f []) :: .one (.slc (.own d k) n l) :: avs =>
    (match orc, eraseAVs bn avs with
    | .take mix turn l', some args =>
      bif !(memN k (keysOfC (cellsAVs avs))) && !(memN k (boxKeys bn)) && (!mix || allC noPtrC (cellsAVs avs)) then
        (match turn, dst with
        | true, _ => bif !d && !mix then some (⟨.tup [], [(k, some (.put false n 0 4294967296 l'.flatten))], none, none⟩, [.take f n l args false true l']) else none
        | false, some t => bif !(memN (64 * t) (keysOfC (cellsAVs avs))) then
            some (⟨.one (.slc (.own d (64 * t)) n l'), (64 * t, none) :: (k, none) :: (bif mix && !d then freezeAll (keysOfC (cellsAVs avs)) else []), none, none⟩, .take f n l args mix false l' :: (bif d then [.flat l, .flat l'] else []))
          else none
        | _, _ => none)
      else none
    | _, _ => none)
  | _, _ => none

section
variable {P : Program} {N : Nat} {w0 : World} {F0 : Nat → Prop} {J : Inj} {a : Act} {w : World} {s : St}
theorem memN_no {k : Nat} {l : List Nat} (h : memN k l = false) : k ∉ l := fun hm => by rw [memN_iff.2 hm] at h; cases h
theorem box_keys : ∀ {bn : List (Nat × List C)} {k : Nat} {x : List C}, get bn k = some x → ∀ y, y ∈ keysOfC x → y ∈ boxKeys bn
  | [], _, _, h, _, _ => by simp [get] at h
  | (k', c) :: r, k, x, h, y, hy => by
    simp only [get] at h
    simp only [boxKeys]
    split at h
    · obtain rfl := Option.some.inj h
      exact List.mem_append_left _ hy
    · exact List.mem_append_right _ (box_keys h y hy)
theorem flat_top {L : List Nat} {v : Value} {n : Nat} {l : List (List PV)} (h : OwnDeep L w v n l) (hf : RowsLike l) (F : Nat → Prop) : ∃ L', OwnTop F L' w v n l ∧ (∀ b, b ∈ L' → b ∈ L) ∧ L'.Nodup := by
  obtain ⟨L', h1, h2, h3, h4⟩ := h
  generalize hp : PV.slc n l = p at h1
  cases h1 with
  | int | bool | str => cases hp
  | emp oa n' =>
    cases hp
    exact ⟨[], .inl ⟨rfl, oa, rfl⟩, fun b hb => (by simp at hb), List.nodup_nil⟩
  | @slc g cap n' cur e L1 l' hg hs hr h5 h6 =>
    cases hp
    refine ⟨[g], .inr ⟨g, cap, cur, e, rfl, rfl, hg, hs, ?_, h5, h6⟩, fun b hb => ?_, by simp⟩
    · have := OR.vr (X := fun _ => True) hr fun _ _ => trivial
      have := VR.orr (w' := w) this hf
      exact OR.vr this fun b hb => (by simp at hb)
    · obtain rfl := List.mem_singleton.1 hb
      exact h3 _ List.mem_cons_self
theorem flat_deep {F : Nat → Prop} {L : List Nat} {v : Value} {n : Nat} {l : List (List PV)} (h : OwnTop F L w v n l) (hf : RowsLike l) : OwnDeep L w v n l := by
  rcases h with ⟨rfl, oa, rfl⟩ | ⟨g, cap, cur, e, rfl, rfl, hg, hs, hr, h5, h6⟩
  · exact ⟨[], .emp oa n, List.nodup_nil, (fun b hb => by simp at hb), .inl rfl⟩
  · exact ⟨[g], .slc hg hs (VR.orr hr hf) h5 h6, by simp, fun b hb => hb, .inr ⟨g, [], [], rfl, rfl⟩⟩

def takeJ (J : Inj) (nk k : Nat) (frz L' : List Nat) : Inj := ⟨fun b => J.F b ∨ ∃ y, y ∈ frz ∧ b ∈ J.L y, fun x => if x = nk then L' else if x ∈ k :: frz then [] else J.L x, J.B⟩
theorem take_step (hrel : Rel N w0 F0 J a w s) {t k n : Nat} (ht : t < N) {frz L' : List Nat} (hk : k ∉ frz) {w' : World} {u : Value} {l' : List (List PV)} {d : Bool} (hB : Below w0.heap.size w0 w') (hsz : w.heap.size ≤ w'.heap.size)
    (hS : ∀ b, b < w.heap.size → b ∉ J.L k → w'.heap[b]? = w.heap[b]?) (hn : L'.Nodup) (hL' : ∀ b, b ∈ L' → b < w'.heap.size ∧ (w.heap.size ≤ b ∨ b ∈ J.L k)) (hv : CR (takeJ J (64 * t) k frz L') w' u (.slc (.own d (64 * t)) n l')) :
    Rel N w0 F0 (takeJ J (64 * t) k frz L') (a.put (some t) u) w' (s.step (some t) ⟨.one (.slc (.own d (64 * t)) n l'), (64 * t, none) :: (k, none) :: freezeAll frz, none, none⟩) := by
  have hget : ∀ x, get ((64 * t, none) :: (k, none) :: freezeAll frz) x = if x = 64 * t ∨ x = k then some none else if x ∈ frz then some (some .sh) else none := fun x => by
    by_cases h1 : x = 64 * t
    · rw [if_pos (.inl h1)]; simp [get, h1]
    · rw [get_cons_ne h1]
      by_cases h2 : x = k
      · rw [if_pos (.inr h2)]; simp [get, h2]
      · rw [get_cons_ne h2, if_neg (by simp [h1, h2])]; exact get_freeze
  have hself : (takeJ J (64 * t) k frz L').L (64 * t) = L' := if_pos rfl
  refine hrel.grab (some t) (fun d e => by cases e; exact ht) _ u (64 * t) (k :: frz) rfl rfl hB hsz rfl (fun x hx => if_neg hx) (fun b hb => .inl hb) (fun b hb => ?_) (fun x hx hx' => ?_) (fun _ => ?_) (fun x hx => ?_) (fun b hb hn => hS b hb (hn k List.mem_cons_self)) (by rw [hself]; exact hn) (fun b hb => ?_) (fun _ => hv)
  · rcases hb with hb | ⟨y, hy, hb⟩
    · exact .inl hb
    · refine .inr ⟨⟨y, List.mem_cons_of_mem _ hy, hb⟩, fun hm => ?_⟩
      rw [hself] at hm
      have := (hrel.lo y b hb).2.1
      rcases (hL' b hm).2 with h | h
      · omega
      · exact hk (hrel.dj y k b hb h ▸ hy)
  · show get ((64 * t, none) :: (k, none) :: freezeAll frz) x = none
    rw [hget, if_neg, if_neg]
    · exact fun h => hx (List.mem_cons_of_mem _ h)
    · rintro (h | h)
      · exact hx' h
      · exact hx (h ▸ List.mem_cons_self)
  · show get ((64 * t, none) :: (k, none) :: freezeAll frz) (64 * t) = some none
    rw [hget, if_pos (.inl rfl)]
  · show get ((64 * t, none) :: (k, none) :: freezeAll frz) x = _ ∨ (get ((64 * t, none) :: (k, none) :: freezeAll frz) x = _ ∧ _) ∨ (get ((64 * t, none) :: (k, none) :: freezeAll frz) x = _ ∧ _)
    rw [hget]
    by_cases h1 : x = 64 * t ∨ x = k
    · rw [if_pos h1]; exact .inl rfl
    · have hxf : x ∈ frz := (List.mem_cons.1 hx).resolve_left fun e => h1 (.inr e)
      rw [if_neg h1, if_pos hxf]
      refine .inr (.inl ⟨rfl, fun b hb => ⟨.inr ⟨x, hxf, hb⟩, hS b (hrel.lo x b hb).2.1 fun hm => ?_⟩⟩)
      exact h1 (.inr (hrel.dj x k b hb hm))
  · rw [hself] at hb
    obtain ⟨h1, h2⟩ := hL' b hb
    exact ⟨h1, h2.imp id fun h => ⟨k, List.mem_cons_self, h⟩⟩

theorem evalT_ok {orc : Orc} {bn : List (Nat × List C)} {o : Oper} {avs : List AV} {r : Res} {obs : List Ob} (h : evalT orc bn o.dst o.op avs = some (r, obs)) (hob : AllOb (ACalls P) (ATake P) obs) (hdst : ∀ d, o.dst = some d → d < N)
    (hrel : Rel N w0 F0 J a w s) (hops : All2 (fun x v => opAV s x = some v) o.op.operands.toList avs) (hbn : ∀ k c, get bn k = some c → get s.bx k = some c) {K : Act → World → Prop} {Q : Exit → Act → World → Prop}
    (hK : ∀ J' a' w', Rel N w0 F0 J' a' w' (s.step o.dst r) → K a' w') : o.wp P a w K Q := by
  have hv := opAVs_ok hrel hops
  generalize ho : o.op = op at h hv
  generalize hd : o.dst = dst at h
  unfold evalT at h
  split at h
  rotate_left
  · cases h
  rename_i x args tys f dp k n l avs'
  split at h
  rotate_left
  · cases h
  rename_i mix turn l' eas heas
  cases hc : (!(memN k (keysOfC (cellsAVs avs'))) && !(memN k (boxKeys bn)) && (!mix || allC noPtrC (cellsAVs avs'))) with
  | false => rw [hc] at h; cases h
  | true =>
    rw [hc] at h
    simp only [cond_true] at h
    simp only [Bool.and_eq_true, Bool.not_eq_true', Bool.or_eq_true] at hc
    obtain ⟨⟨c1, c2⟩, c3⟩ := hc
    have c1 := memN_no c1
    have c2 := memN_no c2
    have hv' : All2 (fun x v => AR J w (a.eval x) v) (x :: args.toList) (.one (.fn f []) :: .one (.slc (.own dp k) n l) :: avs') := by simpa [Op.operands, Call.operands] using hv
    obtain ⟨args⟩ := args
    have hv' : All2 (fun x v => AR J w (a.eval x) v) (x :: args) (.one (.fn f []) :: .one (.slc (.own dp k) n l) :: avs') := hv'
    cases hv' with
    | cons hx hv1 =>
    cases hv1 with
    | @cons px _ rest _ hrow hrest =>
    have hx : a.eval x = .func (.func f) #[] #[] := by simpa [AR, CR] using hx
    have hlo := hrel.lo k
    have h0 := hrel.below.size
    let frz := keysOfC (cellsAVs avs')
    -- what the arguments read
    have hG : ∃ G : Nat → Prop, (∀ b, J.F b → G b) ∧ (mix = true → ∀ b, G b → J.F b ∨ ∃ y, y ∈ frz ∧ b ∈ J.L y) ∧ (∀ b, G b → b < w.heap.size) ∧ (∀ b, b ∈ J.L k → ¬ G b) ∧ (∀ y, y ∈ frz → ∀ b, b ∈ J.L y → G b) ∧ All2 (AR (argJ G) w) (rest.map a.eval) eas := by
      by_cases hm : mix = true
      · have c3 : allC noPtrC (cellsAVs avs') = true := c3.resolve_left (by rw [hm]; simp)
        refine ⟨fun b => J.F b ∨ ∃ y, y ∈ frz ∧ b ∈ J.L y, fun b hb => .inl hb, fun _ b hb => hb, fun b hb => hb.elim (fun hb => (hrel.fl b hb).1) fun ⟨y, _, hb⟩ => (hrel.lo y b hb).2.1, fun b hb hg => ?_, fun y hy b hb => .inr ⟨y, hy, hb⟩, ?_⟩
        · rcases hg with hg | ⟨y, hy, hg⟩
          · exact (hlo b hb).2.2 hg
          · exact c1 (hrel.dj y k b hg hb ▸ hy)
        · exact erases_ok (fun b hb => .inl hb) (All2.of_map _ hrest) heas (fun y hy b hb => .inr ⟨y, hy, hb⟩) (.inl c3)
      · refine ⟨fun b => b < w.heap.size ∧ b ∉ J.L k, fun b hb => ⟨(hrel.fl b hb).1, fun hk => (hlo b hk).2.2 hb⟩, fun e => absurd e hm, fun b hb => hb.1, fun b hb hg => hg.2 hb, fun y hy b hb => ⟨(hrel.lo y b hb).2.1, fun hk => c1 (hrel.dj y k b hb hk ▸ hy)⟩, ?_⟩
        refine erases_ok (fun b hb => ⟨(hrel.fl b hb).1, fun hk => (hlo b hk).2.2 hb⟩) (All2.of_map _ hrest) heas (fun y hy b hb => ⟨(hrel.lo y b hb).2.1, fun hk => c1 (hrel.dj y k b hb hk ▸ hy)⟩) (.inr fun y c hy => ?_)
        obtain ⟨_, _, hnL, arr, e, hheap, hall⟩ := hrel.bo y c (hbn y c hy)
        refine ⟨⟨block_lt_of_heap hheap, hnL k⟩, fun z hz b hb => ⟨(hrel.lo z b hb).2.1, fun hk => ?_⟩, arr, e, hheap, hall⟩
        exact c2 (hrel.dj z k b hb hk ▸ box_keys hy z hz)
    obtain ⟨G, g1, g2, g3, g4, g5, hargs⟩ := hG
    have hvals : (({ toList := px :: rest } : Array Operand).map a.eval ++ #[]) = (a.eval px :: rest.map a.eval).toArray := by
      apply Array.ext'; simp
    cases turn with
    | true =>
      cases hdm : (!dp && !mix) with
      | false => rw [hdm] at h; cases h
      | true =>
        rw [hdm] at h
        simp only [cond_true, Option.some.injEq, Prod.mk.injEq] at h
        obtain ⟨rfl, rfl⟩ := h
        simp only [Bool.and_eq_true, Bool.not_eq_true'] at hdm
        obtain ⟨rfl, rfl⟩ := hdm
        obtain ⟨hfn, hcall⟩ : ATake P f n l eas false true l' := hob
        have hC := hcall w J.F G (J.L k) (a.eval px) _ g1 (fun e => by cases e) g3 (hrel.nd k) (fun b hb => ⟨(hlo b hb).2.1, g4 b hb⟩) hrow hargs
        refine wp_callV ho hx hfn ?_
        rw [hvals]
        refine hC.mono fun e w' hret => ?_
        obtain ⟨u, rfl, hB, hS, rfl, hT⟩ := hret
        have hB0 := hB _ h0 fun b hb => (hlo b hb).1
        have hbelow : Below w0.heap.size w0 w' := hrel.below.trans hB0
        have hsz := hB0.size
        have hget : ∀ x y, get [(k, some (Tok.put false n 0 4294967296 l'.flatten))] x = y → (x = k ∧ y = some (some (.put false n 0 4294967296 l'.flatten))) ∨ (x ≠ k ∧ y = none) := fun x y hy => by
          by_cases hxk : x = k
          · subst hxk; exact .inl ⟨rfl, by rw [← hy]; simp [get]⟩
          · rw [get_cons_ne hxk] at hy; exact .inr ⟨hxk, hy.symm⟩
        have hLx : ∀ x, x ≠ k → ∀ b, b ∈ J.L x → w'.heap[b]? = w.heap[b]? := fun x hx b hb => hS b (hrel.lo x b hb).2.1 fun hm => hx (hrel.dj x k b hb hm)
        show K (a.put o.dst _) w'
        refine hK J _ w' (hrel.upd (J' := J) (w' := w') o.dst hdst ⟨.tup [], [(k, some (.put false n 0 4294967296 l'.flatten))], none, none⟩ _ hbelow ⟨fun b hb => ⟨hb, hS b (hrel.fl b hb).1 fun hm => (hlo b hm).2.2 hb⟩, fun x hx => ?_, fun x hx => ?_, fun x x' hx => ?_, fun x t hx => ?_, fun _ _ => rfl, fun x d1 m i1 o1 cs1 hx => ?_⟩
          ⟨fun b hb => ⟨by have := (hrel.fl b hb).1; omega, (hrel.fl b hb).2⟩, hrel.f0, hrel.nd, fun x b hb => ?_, hrel.dj⟩ (fun _ => ⟨[], rfl, .nil⟩) (fun x c hx _ => ?_) (fun x c hx => by cases hx))
        · rcases hget x _ hx with ⟨_, e⟩ | ⟨h1, _⟩
          · cases e
          · exact ⟨rfl, hLx x h1⟩
        · rcases hget x _ hx with ⟨_, e⟩ | ⟨_, e⟩ <;> cases e
        · rcases hget x _ hx with ⟨_, e⟩ | ⟨_, e⟩ <;> cases e
        · rcases hget x _ hx with ⟨_, e⟩ | ⟨_, e⟩
          · cases e; exact .inr (.inr ⟨_, _, _, _, _, rfl⟩)
          · cases e
        · rcases hget x _ hx with ⟨rfl, e⟩ | ⟨_, e⟩
          · cases e
            intro v2 l2 hcr
            exact hT v2 l2 hcr
          · cases e
        · obtain ⟨h1, h2, h3⟩ := hrel.lo x b hb
          exact ⟨h1, by omega, h3⟩
        · obtain ⟨_, h3, h4, arr', e', h5, _⟩ := hrel.bo x c hx
          exact ⟨by simp, h3, h4, hS _ (block_lt_of_heap h5) (h4 k)⟩
    | false =>
      cases dst with
      | none => cases h
      | some t =>
        simp only at h
        cases hm : memN (64 * t) (keysOfC (cellsAVs avs')) with
        | true => rw [hm] at h; cases h
        | false =>
          rw [hm] at h
          simp only [Bool.not_false, cond_true, Option.some.injEq, Prod.mk.injEq] at h
          obtain ⟨rfl, rfl⟩ := h
          have hm := memN_no hm
          have ht := hdst t hd
          obtain ⟨hob1, hob2⟩ := AllOb.cons hob
          obtain ⟨hfn, hcall⟩ : ATake P f n l eas mix false l' := hob1
          cases dp with
          | true =>
            obtain ⟨hf1, hf2⟩ : RowsLike l ∧ RowsLike l' := hob2
            obtain ⟨L0, hL0, hsub, hnd0⟩ := flat_top hrow hf1 G
            have hC := hcall w G G L0 (a.eval px) _ (fun _ h => h) (fun _ _ h => h) g3 hnd0 (fun b hb => ⟨(hlo b (hsub b hb)).2.1, g4 b (hsub b hb)⟩) hL0 hargs
            refine wp_callV ho hx hfn ?_
            rw [hvals]
            refine hC.mono fun e w' hret => ?_
            obtain ⟨u, rfl, hB, hS, L', hn', hL', hT⟩ := hret
            have hB0 := hB _ h0 fun b hb => (hlo b (hsub b hb)).1
            show K (a.put o.dst _) w'
            rw [hd] at hK ⊢
            have hres : CR (takeJ J (64 * t) k [] L') w' u (.slc (.own true (64 * t)) n l') := by
              show OwnDeep ((takeJ J (64 * t) k [] L').L (64 * t)) w' u n l'
              rw [show (takeJ J (64 * t) k [] L').L (64 * t) = L' from if_pos rfl]
              exact flat_deep hT hf2
            have := take_step hrel (t := t) (k := k) (frz := []) ht (by simp) (hrel.below.trans hB0) hB0.size (fun b hb hm => hS b hb fun h => hm (hsub b h)) hn' (fun b hb => ⟨(hL' b hb).1, (hL' b hb).2.imp id (hsub b)⟩) hres
            refine hK (takeJ J (64 * t) k [] L') _ w' ?_
            rw [show (bif mix && !true then freezeAll (keysOfC (cellsAVs avs')) else []) = freezeAll [] by cases mix <;> rfl]
            exact this
          | false =>
            have key : ∀ frz', (frz' = [] ∧ mix = false ∨ frz' = frz ∧ mix = true) → ∀ J1 : Inj, J1.F = (fun b => J.F b ∨ ∃ y, y ∈ frz' ∧ b ∈ J.L y) → ∃ F : Nat → Prop, (∀ b, J.F b → F b) ∧ (∀ b, F b → J1.F b) ∧ (∀ b, F b → G b) ∧ (mix = true → ∀ b, G b → F b) := fun frz' hz J1 hJ1 => by
              rcases hz with ⟨rfl, hmx⟩ | ⟨rfl, hmx⟩
              · exact ⟨J.F, fun _ h => h, fun b hb => by rw [hJ1]; exact .inl hb, g1, fun e => by rw [hmx] at e; cases e⟩
              · exact ⟨G, g1, fun b hb => by rw [hJ1]; exact g2 hmx b hb, fun _ h => h, fun _ _ h => h⟩
            obtain ⟨frz', hz, hfz⟩ : ∃ frz', (frz' = [] ∧ mix = false ∨ frz' = frz ∧ mix = true) ∧ (bif mix && !false then freezeAll (keysOfC (cellsAVs avs')) else []) = freezeAll frz' := by
              cases mix with
              | true => exact ⟨frz, .inr ⟨rfl, rfl⟩, rfl⟩
              | false => exact ⟨[], .inl ⟨rfl, rfl⟩, rfl⟩
            have hsubf : ∀ y, y ∈ frz' → y ∈ frz := fun y hy => by
              rcases hz with ⟨rfl, _⟩ | ⟨rfl, _⟩
              · simp at hy
              · exact hy
            obtain ⟨F, f1, f2, f3, f4⟩ := key frz' hz (takeJ J (64 * t) k frz' []) rfl
            have hC := hcall w F G (J.L k) (a.eval px) _ f3 f4 g3 (hrel.nd k) (fun b hb => ⟨(hlo b hb).2.1, g4 b hb⟩) (OwnTop.keep hrow (fun b hb => ⟨f1 b hb, rfl⟩) fun _ _ => rfl) hargs
            refine wp_callV ho hx hfn ?_
            rw [hvals]
            refine hC.mono fun e w' hret => ?_
            obtain ⟨u, rfl, hB, hS, L', hn', hL', hT⟩ := hret
            have hB0 := hB _ h0 fun b hb => (hlo b hb).1
            show K (a.put o.dst _) w'
            rw [hd] at hK ⊢
            have hres : CR (takeJ J (64 * t) k frz' L') w' u (.slc (.own false (64 * t)) n l') := by
              show OwnTop _ ((takeJ J (64 * t) k frz' L').L (64 * t)) w' u n l'
              rw [show (takeJ J (64 * t) k frz' L').L (64 * t) = L' from if_pos rfl]
              exact OwnTop.keep hT (fun b hb => ⟨f2 b hb, rfl⟩) fun _ _ => rfl
            have := take_step hrel (t := t) (k := k) (frz := frz') ht (fun h => c1 (hsubf _ h)) (hrel.below.trans hB0) hB0.size hS hn' hL' hres
            refine hK (takeJ J (64 * t) k frz' L') _ w' ?_
            rw [hfz]
            exact this
end
end Go.Proofs.YtjkfmihbmkbjfaaGreat
