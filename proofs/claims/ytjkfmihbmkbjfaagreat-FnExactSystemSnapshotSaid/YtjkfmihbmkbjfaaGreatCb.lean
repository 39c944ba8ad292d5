/- Calls of the abstract machine do what the machine does: the theorem. No program in sight. -/
import Derived.Test.YtjkfmihbmkbjfaaGreatCa
namespace Go.Proofs.YtjkfmihbmkbjfaaGreat
open Go.RowKit
section
variable {P : Program} {N : Nat} {w0 : World} {F0 : Nat → Prop} {J : Inj} {a : Act} {w : World} {s : St}

theorem mem_named {d x : Nat} : ∀ {ks : List Nat}, x ∈ namedKeys d ks ↔ ∃ k, k ∈ ks ∧ x = 64 * d + k
  | [] => by simp [namedKeys]
  | k :: r => by
    simp only [namedKeys, List.mem_cons, mem_named (ks := r)]
    exact ⟨fun h => h.elim (fun e => ⟨k, .inl rfl, e⟩) fun ⟨k', h1, h2⟩ => ⟨k', .inr h1, h2⟩, fun ⟨k', h1, h2⟩ => h1.elim (fun e => .inl (e ▸ h2)) fun h => .inr ⟨k', h, h2⟩⟩
theorem disjN_iff : ∀ {l m : List Nat}, disjN l m = true → ∀ x, x ∈ l → x ∉ m
  | [], _, _, x, hx, _ => by simp at hx
  | y :: l, m, h, x, hx, hm => by
    simp only [disjN, Bool.and_eq_true, Bool.not_eq_true'] at h
    rcases List.mem_cons.1 hx with rfl | hx
    · rw [memN_iff.2 hm] at h; exact absurd h.1 (by simp)
    · exact disjN_iff h.2 x hx hm
theorem allC_mem {f : C → Bool} : ∀ {cs : List C}, allC f cs = true → ∀ c, c ∈ cs → f c = true
  | [], _, c, hc => by simp at hc
  | x :: r, h, c, hc => by
    simp only [allC, Bool.and_eq_true] at h
    rcases List.mem_cons.1 hc with rfl | hc
    · exact h.1
    · exact allC_mem h.2 c hc
theorem anyC_false {f : C → Bool} : ∀ {cs : List C}, anyC f cs = false → ∀ c, c ∈ cs → f c = false
  | [], _, c, hc => by simp at hc
  | x :: r, h, c, hc => by
    simp only [anyC, Bool.or_eq_false_iff] at h
    rcases List.mem_cons.1 hc with rfl | hc
    · exact h.1
    · exact anyC_false h.2 c hc
theorem key_mem : ∀ {cs : List C} {c : C} {k : Nat}, c ∈ cs → c.key = some k → k ∈ keysOfC cs
  | x :: r, c, k, hc, hk => by
    simp only [keysOfC]
    rcases List.mem_cons.1 hc with rfl | hc
    · exact List.mem_append_left _ (by rw [hk]; simp)
    · exact List.mem_append_right _ (key_mem hc hk)
theorem back_keys : ∀ {cs : List C}, allC backC cs = true → ∀ {k : Nat}, k ∈ keysOfC cs → k < 64
  | [], _, k, hk => by simp [keysOfC] at hk
  | c :: r, h, k, hk => by
    simp only [allC, Bool.and_eq_true] at h
    simp only [keysOfC] at hk
    rcases List.mem_append.1 hk with hk | hk
    · have h1 := h.1
      cases c with
      | slc t n l =>
        cases t with
        | own b k' =>
          simp [C.key, Tok.key] at hk
          subst hk
          simp only [backC, Bool.and_eq_true, Nat.blt_eq] at h1
          exact h1.2
        | _ => simp [C.key, Tok.key] at hk; try cases h1
      | _ => simp [C.key] at hk; try cases h1
    · exact back_keys h.2 hk

/-- what a call does to a state -/
theorem call_step (hrel : Rel N w0 F0 J a w s) (d : Nat) (hd : d < N) {r : AV} {frz : List Nat} (hback : allC backC r.cells = true) (Fc : Nat → Prop) (hFc : ∀ b, Fc b → b < w.heap.size)
    (hmode : (frz = [] ∧ anyC sharesC r.cells = false) ∨ ((∀ b, Fc b ↔ J.F b ∨ ∃ k, k ∈ frz ∧ b ∈ J.L k) ∧ ∀ x, x ∈ namedKeys d (keysOfC r.cells) → x ∉ frz)) {e : Ending} {w' : World} (hret : ARet Fc w r e w') :
    ∃ v J', e = .returned v ∧ Rel N w0 F0 J' (a.put (some d) v) w' (s.step (some d) ⟨r.map (nameC d), killAll (namedKeys d (keysOfC r.cells)) ++ freezeAll frz, none, none⟩) := by
  obtain ⟨v, L, rfl, hb, hnd, hlo, hdj, hr⟩ := hret
  have hk64 : ∀ k, k ∈ keysOfC r.cells → k < 64 := fun k hk => back_keys hback hk
  have h0 := hrel.below.size
  have hsz := hb.size
  have hsame : ∀ b, b < w.heap.size → w'.heap[b]? = w.heap[b]? := hb.block
  have hfrzn : ∀ x, x ∈ namedKeys d (keysOfC r.cells) → x ∉ frz := fun x hx => by
    rcases hmode with ⟨e, _⟩ | ⟨_, h⟩
    · rw [e]; simp
    · exact h x hx
  have hget : ∀ x, get (killAll (namedKeys d (keysOfC r.cells)) ++ freezeAll frz) x = if x ∈ namedKeys d (keysOfC r.cells) then some none else if x ∈ frz then some (some .sh) else none := by
    intro x
    rw [get_app, get_kill]
    by_cases h : x ∈ namedKeys d (keysOfC r.cells)
    · rw [if_pos h, if_pos h]
    · rw [if_neg h, if_neg h]; exact get_freeze
  let shares := anyC sharesC r.cells
  let J' : Inj := ⟨fun b => if frz = [] ∧ shares = false then J.F b else (Fc b ∨ (w.heap.size ≤ b ∧ b < w'.heap.size ∧ ∀ k, b ∉ L k)), fun x => if x ∈ namedKeys d (keysOfC r.cells) then L (x - 64 * d) else if x ∈ frz then [] else J.L x, J.B⟩
  have hF1 : ∀ b, J.F b → J'.F b := fun b hb' => by
    show if _ then _ else _
    split
    · exact hb'
    · rename_i hn
      rcases hmode with h | ⟨h, _⟩
      · exact absurd h hn
      · exact .inl ((h b).2 (.inl hb'))
  have hF2 : ∀ b, J'.F b → J.F b ∨ (∃ k, k ∈ frz ∧ b ∈ J.L k) ∨ (w.heap.size ≤ b ∧ b < w'.heap.size ∧ ∀ k, b ∉ L k) := fun b hb' => by
    have hb' : if frz = [] ∧ shares = false then J.F b else (Fc b ∨ (w.heap.size ≤ b ∧ b < w'.heap.size ∧ ∀ k, b ∉ L k)) := hb'
    split at hb'
    · exact .inl hb'
    · rename_i hn
      rcases hmode with h | ⟨h, _⟩
      · exact absurd h hn
      · rcases hb' with hb' | hb'
        · exact ((h b).1 hb').imp id .inl
        · exact .inr (.inr hb')
  refine ⟨v, J', rfl, hrel.upd (some d) (fun d' e => by cases e; exact hd) _ v (hrel.below.trans (hb.mono h0)) ⟨fun b hb' => ⟨hF1 b hb', hsame b (hrel.fl b hb').1⟩, fun k hk => ?_, fun k hk b hm => ?_, fun k k' hk => ?_, fun k t hk => ?_, (fun _ _ => rfl), fun k d m i o cs hk => by
      rw [hget] at hk
      split at hk
      · cases hk
      · split at hk <;> cases hk⟩
    ⟨fun b hb' => ?_, fun b hb' => hF1 b (hrel.f0 b hb'), fun k => ?_, fun k b hm => ?_, fun k k' b hm hm' => ?_⟩ (fun _ => ?_) (fun k c hk _ => ?_) (fun k c hk => by cases hk)⟩
  · rw [hget] at hk
    split at hk
    · cases hk
    · split at hk
      · cases hk
      · rename_i h1 h2
        exact ⟨by show (if _ then _ else _) = _; rw [if_neg h1, if_neg h2], fun b hm => hsame b (hrel.lo k b hm).2.1⟩
  · rw [hget] at hk
    split at hk
    · cases hk
    · split at hk
      · rename_i h1 h2
        refine ⟨?_, hsame b (hrel.lo k b hm).2.1⟩
        show if _ then _ else _
        rcases hmode with ⟨e, _⟩ | ⟨h, _⟩
        · rw [e] at h2; simp at h2
        · rw [if_neg fun hn => by rw [hn.1] at h2; simp at h2]
          exact .inl ((h b).2 (.inr ⟨k, h2, hm⟩))
      · cases hk
  · rw [hget] at hk
    split at hk
    · cases hk
    · split at hk <;> cases hk
  · rw [hget] at hk
    split at hk
    · cases hk
    · split at hk
      · simp at hk; exact .inl hk.symm
      · cases hk
  · rcases hF2 b hb' with h | ⟨k, _, h⟩ | ⟨h1, h2, _⟩
    · have := hrel.fl b h; exact ⟨by omega, this.2⟩
    · have := hrel.lo k b h; exact ⟨by omega, .inr this.1⟩
    · exact ⟨h2, .inr (by omega)⟩
  · show (if _ then _ else _ : List Nat).Nodup
    split
    · exact hnd _
    · split
      · simp
      · exact hrel.nd k
  · have hm : b ∈ (if k ∈ namedKeys d (keysOfC r.cells) then L (k - 64 * d) else if k ∈ frz then [] else J.L k) := hm
    split at hm
    · obtain ⟨h1, h2⟩ := hlo _ b hm
      refine ⟨by omega, h2, fun hF => ?_⟩
      rcases hF2 b hF with h | ⟨k', _, h⟩ | ⟨_, _, h⟩
      · have := (hrel.fl b h).1; omega
      · have := (hrel.lo k' b h).2.1; omega
      · exact h _ hm
    · split at hm
      · simp at hm
      · rename_i h1 h2
        obtain ⟨g1, g2, g3⟩ := hrel.lo k b hm
        refine ⟨g1, by omega, fun hF => ?_⟩
        rcases hF2 b hF with h | ⟨k', hk', h⟩ | ⟨h, _, _⟩
        · exact g3 h
        · exact h2 (hrel.dj k k' b hm h ▸ hk')
        · omega
  · have hm : b ∈ (if k ∈ namedKeys d (keysOfC r.cells) then L (k - 64 * d) else if k ∈ frz then [] else J.L k) := hm
    have hm' : b ∈ (if k' ∈ namedKeys d (keysOfC r.cells) then L (k' - 64 * d) else if k' ∈ frz then [] else J.L k') := hm'
    split at hm <;> split at hm'
    · rename_i h1 h2
      have := hdj _ _ b hm hm'
      obtain ⟨j, _, rfl⟩ := mem_named.1 h1
      obtain ⟨j', _, rfl⟩ := mem_named.1 h2
      omega
    · split at hm'
      · simp at hm'
      · have := (hlo _ b hm).1
        have := (hrel.lo k' b hm').2.1
        omega
    · split at hm
      · simp at hm
      · have := (hlo _ b hm').1
        have := (hrel.lo k b hm).2.1
        omega
    · split at hm
      · simp at hm
      · split at hm'
        · simp at hm'
        · exact hrel.dj k k' b hm hm'
  · refine AR.map (nameC d) hr fun u c hc hcr => ?_
    have hbk := allC_mem hback c hc
    cases c with
    | int | bool | str => exact hcr
    | slc t n l =>
      cases t with
      | emp => exact hcr
      | vw k => cases hbk
      | put => exact hcr.elim
      | own b k =>
        cases b with
        | false => simp [backC] at hbk
        | true =>
          show OwnDeep (if 64 * d + k ∈ namedKeys d (keysOfC r.cells) then L (64 * d + k - 64 * d) else _) w' u _ _
          rw [if_pos (mem_named.2 ⟨k, key_mem hc rfl, rfl⟩), Nat.add_sub_cancel_left]
          exact hcr
      | sh =>
        have hsh : shares = true := by
          cases hs : shares with
          | true => rfl
          | false => have := anyC_false hs _ hc; simp [sharesC] at this
        refine VV.keep (X := (backJ Fc w w' L).F) (fun b hb' => ⟨?_, rfl⟩) hcr
        show if _ then _ else _
        rw [if_neg (by rw [hsh]; simp)]
        exact hb'
    | _ => cases hbk
  · obtain ⟨_, h2, h3, arr, e, h4, _⟩ := hrel.bo k c hk
    have hlt := block_lt_of_heap h4
    refine ⟨by simp, fun hF => ?_, fun k' hm => ?_, hsame _ hlt⟩
    · rcases hF2 _ hF with h | ⟨k', _, h⟩ | ⟨h, _, _⟩
      · exact h2 h
      · exact h3 k' h
      · omega
    · have hm : J.B k ∈ (if k' ∈ namedKeys d (keysOfC r.cells) then L (k' - 64 * d) else if k' ∈ frz then [] else J.L k') := hm
      split at hm
      · have := (hlo _ _ hm).1; omega
      · split at hm
        · simp at hm
        · exact h3 k' hm

theorem All2.of_map {α β γ : Type} {R : α → β → Prop} (f : γ → α) : ∀ {l : List γ} {m : List β}, All2 (fun x b => R (f x) b) l m → All2 R (l.map f) m
  | _, _, .nil => .nil
  | _, _, .cons h1 h2 => .cons h1 (All2.of_map f h2)

theorem evalCall_ok {o : Oper} {x : Operand} {args : Array Operand} {tys : Array TypeId} {f : Nat} {caps : Array Value} {cps : Option (List (List PV))} {avs : List AV} {r : AV} {ptrs : Bool} {bn : List (Nat × List C)} {rs : Res} {obs : List Ob} {d : Nat}
    (ho : o.op = .call ⟨.value x, args, tys⟩) (hod : o.dst = some d) (hdst : d < N) (hx : a.eval x = .func (.func f) #[] caps) (h : evalCall bn d f cps avs r ptrs = some (rs, obs)) (hob : AllOb (ACalls P) (ATake P) obs)
    (hrel : Rel N w0 F0 J a w s) (hv : All2 (AR J w) (args.toList.map a.eval) avs) (hbn : ∀ k c, get bn k = some c → get s.bx k = some c)
    (hcaps : ∀ cs, cps = some cs → (ptrs = false → cs = [] ∧ caps = #[]) ∧ All2 (Reads (fun b => b < w.heap.size) w) caps.toList cs)
    {K : Act → World → Prop} {Q : Exit → Act → World → Prop} (hK : ∀ J' a' w', Rel N w0 F0 J' a' w' (s.step o.dst rs) → K a' w') : o.wp P a w K Q := by
  unfold evalCall at h
  split at h
  rotate_left
  · cases h
  rename_i eas cs has
  have hcs : some cs = some cs := rfl
  cases hc : (allC backC r.cells && nodupN (keysOfC r.cells)) with
  | false => rw [hc] at h; cases h
  | true =>
    rw [hc] at h
    simp only [cond_true] at h
    simp only [Bool.and_eq_true] at hc
    rw [hod] at hK
    have hbx : ∀ k x, get bn k = some x → ∃ arr e, w.heap[J.B k]? = some (.cells arr e (0, 0)) ∧ All2 (CR J w) arr.toList x := fun k x hk => by
      obtain ⟨_, _, _, h⟩ := hrel.bo k x (hbn k x hk)
      exact h
    have hAllF : ∀ b, J.F b → b < w.heap.size := fun b hb => (hrel.fl b hb).1
    have hcapAR : ∀ (F : Nat → Prop) (us : List Value) (cs : List (List PV)), All2 (Reads F w) us cs → All2 (AR (argJ F) w) us (cs.map fun c => .one (.rptr .sh c)) := by
      intro F us cs h
      induction h with
      | nil => exact .nil
      | cons h1 _ ih => exact .cons h1 ih
    have hvals : (args.map a.eval ++ caps) = (args.toList.map a.eval ++ caps.toList).toArray := by
      apply Array.ext'; simp
    cases hsh : anyC sharesC r.cells with
    | true =>
      rw [hsh] at h
      simp only [cond_true] at h
      cases hm : (!ptrs && allC noPtrC (cellsAVs avs) && disjN (namedKeys d (keysOfC r.cells)) (keysOfC (cellsAVs avs))) with
      | false => rw [hm] at h; cases h
      | true =>
        rw [hm] at h
        simp only [cond_true, Option.some.injEq, Prod.mk.injEq] at h
        obtain ⟨rfl, rfl⟩ := h
        simp only [Bool.and_eq_true, Bool.not_eq_true'] at hm
        obtain ⟨⟨hp, hnp⟩, hdj⟩ := hm
        have hob1 : ACalls P f (eas ++ cs.map fun c => .one (.rptr .sh c)) r := hob
        obtain ⟨hfn, hcall⟩ := hob1
        let F : Nat → Prop := fun b => J.F b ∨ ∃ k, k ∈ keysOfC (cellsAVs avs) ∧ b ∈ J.L k
        have hFlt : ∀ b, F b → b < w.heap.size := fun b hb => hb.elim (hAllF b) fun ⟨k, _, h⟩ => (hrel.lo k b h).2.1
        have hargs := erases_ok (F := F) (bn := bn) (fun b hb => .inl hb) hv has (fun k hk b hb => .inr ⟨k, hk, hb⟩) (.inl hnp)
        have hcapE : cs = [] ∧ caps = #[] := (hcaps cs hcs).1 hp
        obtain ⟨rfl, rfl⟩ := hcapE
        have hC := hcall w F _ hFlt (hargs.append .nil)
        refine wp_callV ho hx hfn ?_
        rw [hvals]
        refine hC.mono fun e w' hret => ?_
        obtain ⟨v, J', rfl, hR⟩ := call_step hrel d hdst (frz := keysOfC (cellsAVs avs)) hc.1 F hFlt (.inr ⟨fun b => Iff.rfl, disjN_iff hdj⟩) hret
        rw [hod]
        exact hK J' _ _ hR
    | false =>
      rw [hsh] at h
      simp only [cond_false, Option.some.injEq, Prod.mk.injEq] at h
      obtain ⟨rfl, rfl⟩ := h
      have hob1 : ACalls P f (eas ++ cs.map fun c => .one (.rptr .sh c)) r := hob
      obtain ⟨hfn, hcall⟩ := hob1
      have hargs := erases_ok (F := fun b => b < w.heap.size) (bn := bn) hAllF hv has (fun k _ b hb => (hrel.lo k b hb).2.1) (.inr (BoxF.of (fun k b hb => (hrel.lo k b hb).2.1) hbx))
      have hcapR : All2 (Reads (fun b => b < w.heap.size) w) caps.toList cs := (hcaps cs hcs).2
      have hC := hcall w (fun b => b < w.heap.size) _ (fun _ h => h) (hargs.append (hcapAR _ _ _ hcapR))
      refine wp_callV ho hx hfn ?_
      rw [hvals]
      refine hC.mono fun e w' hret => ?_
      obtain ⟨v, J', rfl, hR⟩ := call_step hrel d hdst (frz := []) hc.1 (fun b => b < w.heap.size) (fun _ h => h) (.inl ⟨rfl, hsh⟩) hret
      rw [hod]
      rw [show freezeAll [] = [] from rfl, List.append_nil] at hR
      exact hK J' _ _ hR

theorem evalC_ok {orc : Orc} {bn : List (Nat × List C)} {o : Oper} {avs : List AV} {r : Res} {obs : List Ob} (h : evalC orc bn o.dst o.op avs = some (r, obs)) (hob : AllOb (ACalls P) (ATake P) obs) (hdst : ∀ d, o.dst = some d → d < N)
    (hrel : Rel N w0 F0 J a w s) (hops : All2 (fun x v => opAV s x = some v) o.op.operands.toList avs) (hbn : ∀ k c, get bn k = some c → get s.bx k = some c) {K : Act → World → Prop} {Q : Exit → Act → World → Prop}
    (hK : ∀ J' a' w', Rel N w0 F0 J' a' w' (s.step o.dst r) → K a' w') : o.wp P a w K Q := by
  have hv := opAVs_ok hrel hops
  generalize ho : o.op = op at h hv
  generalize hd : o.dst = dst at h
  unfold evalC at h
  have hreads : ∀ (caps : List (Nat × Nat)) (cs : List (List PV)), capPVs bn caps = some cs → All2 (Reads (fun b => b < w.heap.size) w) (caps.map fun c => .pointer (some ⟨J.B c.1, c.2, none⟩)) cs := by
    intro caps
    induction caps with
    | nil => intro cs h; obtain rfl : [] = cs := by simpa [capPVs] using h
             exact .nil
    | cons c caps ih =>
      intro cs h
      simp only [capPVs] at h
      split at h
      · rename_i p ps e1 e2
        obtain rfl := Option.some.inj h
        refine .cons ?_ (ih ps e2)
        have := erase_ok (J := J) (w := w) (F := fun b => b < w.heap.size) (bn := bn) (c := .ptr c.1 c.2) (c' := .rptr .sh p) (fun b hb => (hrel.fl b hb).1) (v := .pointer (some ⟨J.B c.1, c.2, none⟩)) rfl (by simp [eraseC, e1]) (fun k hk => by simp [C.key] at hk)
          (.inr (BoxF.of (fun k b hb => (hrel.lo k b hb).2.1) fun k x hk => by
            obtain ⟨_, _, _, h⟩ := hrel.bo k x (hbn k x hk)
            exact h))
        exact this
      · cases h
  split at h
  · rename_i x args tys f caps avs'
    split at h
    · rename_i d r'
      have hv' : All2 (fun x v => AR J w (a.eval x) v) (x :: args.toList) (.one (.fn f caps) :: avs') := by simpa [Op.operands, Call.operands] using hv
      cases hv' with
      | cons h1 h2 =>
        refine evalCall_ok (P := P) ho hd (hdst d hd) h1 h hob hrel (All2.of_map _ h2) hbn (fun cs hcs => ?_) hK
        constructor
        · intro hp
          cases caps with
          | nil => obtain rfl : [] = cs := by simpa [capPVs] using hcs
                   exact ⟨rfl, rfl⟩
          | cons c caps => cases hp
        · simpa using hreads caps cs hcs
    · cases h
  · rename_i x args tys f caps avs'
    split at h
    · rename_i d r'
      have hv' : All2 (fun x v => AR J w (a.eval x) v) (x :: args.toList) (.one (.fnr f caps) :: avs') := by simpa [Op.operands, Call.operands] using hv
      cases hv' with
      | cons h1 h2 =>
        obtain ⟨vs, e1, hr⟩ := h1
        refine evalCall_ok (P := P) ho hd (hdst d hd) e1 h hob hrel (All2.of_map _ h2) hbn (fun cs hcs => ?_) hK
        obtain rfl := Option.some.inj hcs
        exact ⟨fun e => (by cases e), by simpa using hr.imp fun _ _ _ h => h.keep fun b hb => ⟨(hrel.fl b hb).1, rfl⟩⟩
    · cases h
  · cases h
end
end Go.Proofs.YtjkfmihbmkbjfaaGreat
