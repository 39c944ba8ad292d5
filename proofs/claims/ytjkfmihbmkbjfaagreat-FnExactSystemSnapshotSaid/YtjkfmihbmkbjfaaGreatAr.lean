/- What a step of the abstract machine does to a state, and when a frame and a world still show it. No program in sight. -/
import Derived.Test.YtjkfmihbmkbjfaaGreatAs
namespace Go.Proofs.YtjkfmihbmkbjfaaGreat
open Go.RowKit

def relT (rl : List (Nat × Option Tok)) (t : Tok) : Option Tok :=
  match t.key with
  | none => some t
  | some k => match get rl k with
    | none => some t
    | some x => x
def hasKey (k : Nat) : List (Nat × Nat) → Bool
  | [] => false
  | c :: r => Nat.beq c.1 k || hasKey k r
/-- cells stored into a row -/
def setRow : List (List PV) → Nat → Nat → List PV → List (List PV)
  | [], _, _, _ => []
  | r :: l, 0, o, cs => (r.take o ++ cs ++ r.drop (o + cs.length)) :: l
  | r :: l, i + 1, o, cs => r :: setRow l i o cs
/-- all cells of a row of one-cell elements anew -/
def setAll (l : List (List PV)) (cs : List PV) : List (List PV) := (cs.take l.length).map (fun c => [c]) ++ l.drop cs.length
def putR (l : List (List PV)) (i o : Nat) (cs : List PV) : List (List PV) := bif Nat.beq o 4294967296 then setAll l cs else setRow l i o cs
def sameB : Bool → Bool → Bool
  | true, true => true
  | false, false => true
  | _, _ => false
theorem sameB_eq {a b : Bool} (h : sameB a b = true) : a = b := by cases a <;> cases b <;> first | rfl | cases h
def putSlc (t : Tok) (n : Nat) (l : List (List PV)) : Tok → C
  | .put d m i o cs => (match t with
    | .own d0 k => bif sameB d0 d && Nat.beq n m then .slc (.own d0 k) n (putR l i o cs) else .dead
    | .put _ _ _ _ _ => .slc t n l
    | _ => .dead)
  | t' => .slc t' n l
def putRp (t : Tok) (cs : List PV) : Tok → C
  | .put _ _ _ _ _ => (match t with
    | .put _ _ _ _ _ => .rptr t cs
    | _ => .dead)
  | t' => .rptr t' cs
def relC (rl : List (Nat × Option Tok)) (kb : Option Nat) : C → C
  | .slc t n l => match relT rl t with
    | some t' => putSlc t n l t'
    | none => .dead
  | .rptr t cs => match relT rl t with
    | some t' => putRp t cs t'
    | none => .dead
  | .ept d k n i o cs => match get rl k with
    | none => .ept d k n i o cs
    | some (some t') => (match t' with
      | .sh => .rptr .sh cs
      | .vw k' => .rptr (.vw k') cs
      | _ => .dead)
    | some none => .dead
  | .ptr k off => match kb with
    | none => .ptr k off
    | some k' => bif Nat.beq k k' then .dead else .ptr k off
  | .fn f caps => match kb with
    | none => .fn f caps
    | some k' => bif hasKey k' caps then .dead else .fn f caps
  | c => c

/-- what a step does: the value for the temporary, names that change, a box that is laid anew, a box's cells -/
structure Res where
  av : AV
  rl : List (Nat × Option Tok)
  kb : Option Nat
  bx : Option (Nat × List C)
def St.step (s : St) (dst : Option Nat) (r : Res) : St :=
  let s' := match r.rl, r.kb with
    | [], none => s
    | rl, kb => s.map (relC rl kb)
  ⟨match dst with
    | some d => ins d r.av s'.tm
    | none => s'.tm,
   match r.bx with
    | some (k, cs) => ins k cs s'.bx
    | none => s'.bx⟩

/-- what may become of the names -/
structure Turns (J J' : Inj) (w w' : World) (rl : List (Nat × Option Tok)) (kb : Option Nat) : Prop where
  F : ∀ b, J.F b → J'.F b ∧ w'.heap[b]? = w.heap[b]?
  stay : ∀ k, get rl k = none → J'.L k = J.L k ∧ ∀ b, b ∈ J.L k → w'.heap[b]? = w.heap[b]?
  sh : ∀ k, get rl k = some (some .sh) → ∀ b, b ∈ J.L k → J'.F b ∧ w'.heap[b]? = w.heap[b]?
  vw : ∀ k k', get rl k = some (some (.vw k')) → ∀ b, b ∈ J.L k → (b ∈ J'.L k' ∨ J'.F b) ∧ w'.heap[b]? = w.heap[b]?
  no : ∀ k t, get rl k = some (some t) → t = .sh ∨ (∃ k', t = .vw k') ∨ ∃ d m i o cs, t = .put d m i o cs
  B : ∀ k, kb ≠ some k → J'.B k = J.B k
  put : ∀ k d m i o cs, get rl k = some (some (.put d m i o cs)) → ∀ v l, CR J w v (.slc (.own d k) m l) → CR J' w' v (.slc (.own d k) m (putR l i o cs))
theorem Turns.refl (J : Inj) (w : World) : Turns J J w w [] none :=
  ⟨fun _ h => ⟨h, rfl⟩, fun _ _ => ⟨rfl, fun _ _ => rfl⟩, (fun _ h => by cases h), (fun _ _ h => by cases h), (fun _ _ h => by cases h), (fun _ _ => rfl), (fun _ _ _ _ _ _ h => by cases h)⟩

theorem Turns.X {J J' : Inj} {w w' : World} {rl : List (Nat × Option Tok)} {kb : Option Nat} (h : Turns J J' w w' rl kb) {t t' : Tok} (ht : relT rl t = some t') (hp : ∀ d m i o cs, t' ≠ .put d m i o cs) : ∀ b, J.X t b → J'.X t' b ∧ w'.heap[b]? = w.heap[b]? := by
  intro b hb
  cases t with
  | sh => obtain rfl : Tok.sh = t' := by simpa [relT, Tok.key] using ht
          exact h.F b hb
  | emp => exact hb.elim
  | own d k => exact hb.elim
  | put => exact hb.elim
  | vw k =>
    simp only [relT, Tok.key] at ht
    cases hg : get rl k with
    | none =>
      rw [hg] at ht
      obtain rfl : Tok.vw k = t' := by simpa using ht
      obtain ⟨e, hs⟩ := h.stay k hg
      rcases hb with hb | hb
      · exact ⟨.inl (by rw [e]; exact hb), hs b hb⟩
      · exact ⟨.inr (h.F b hb).1, (h.F b hb).2⟩
    | some x =>
      rw [hg] at ht
      obtain rfl : x = some t' := ht
      rcases h.no k t' hg with rfl | ⟨k', rfl⟩ | ⟨d, m, i, o, cs, rfl⟩
      · rcases hb with hb | hb
        · exact h.sh k hg b hb
        · exact h.F b hb
      · rcases hb with hb | hb
        · exact h.vw k k' hg b hb
        · exact ⟨.inr (h.F b hb).1, (h.F b hb).2⟩
      · exact absurd rfl (hp d m i o cs)
theorem OwnTop.vv {F X : Nat → Prop} {L : List Nat} {w w' : World} {v : Value} {n : Nat} {l : List (List PV)} (h : OwnTop F L w v n l) (hF : ∀ b, F b → X b ∧ w'.heap[b]? = w.heap[b]?) (hL : ∀ b, b ∈ L → X b ∧ w'.heap[b]? = w.heap[b]?) : VV X w' v (.slc n l) := by
  rcases h with ⟨rfl, oa, rfl⟩ | ⟨g, cap, cur, e, rfl, rfl, hg, hs, hr, h1, h2⟩
  · exact .emp oa n (Nat.zero_le _)
  refine .slc (hL g (by simp)).1 (fun j u hj => ?_) (hr.keep hF) h1 h2
  rw [List.getElem?_take] at hj
  split at hj
  · rw [Array.getElem?_toList] at hj
    simp [World.cell?, (hL g (by simp)).2.trans hg, hj]
  · cases hj
theorem hasKey_false {k : Nat} : ∀ {caps : List (Nat × Nat)}, hasKey k caps = false → ∀ c, c ∈ caps → c.1 ≠ k
  | [], _, c, hc => by simp at hc
  | x :: r, h, c, hc => by
    simp only [hasKey, Bool.or_eq_false_iff] at h
    rcases List.mem_cons.1 hc with rfl | hc
    · exact fun e => by simp [e] at h
    · exact hasKey_false h.2 c hc

theorem relC_ok {J J' : Inj} {w w' : World} {rl : List (Nat × Option Tok)} {kb : Option Nat} (h : Turns J J' w w' rl kb) {v : Value} {c : C} (hc : CR J w v c) : CR J' w' v (relC rl kb c) := by
  cases c with
  | int | bool | str | dead => exact hc
  | slc t n l =>
    simp only [relC]
    cases ht : relT rl t with
    | none => trivial
    | some t' =>
      show CR J' w' v (putSlc t n l t')
      cases t with
      | put => exact hc.elim
      | sh => obtain rfl : Tok.sh = t' := by simpa [relT, Tok.key] using ht
              exact VV.keep h.F hc
      | emp => obtain rfl : Tok.emp = t' := by simpa [relT, Tok.key] using ht
               exact hc
      | vw k =>
        have hX := h.X ht
        simp only [relT, Tok.key] at ht
        cases hg : get rl k with
        | none =>
          rw [hg] at ht
          obtain rfl : Tok.vw k = t' := by simpa using ht
          exact VV.keep (hX (by simp)) hc
        | some x =>
          rw [hg] at ht
          obtain rfl : x = some t' := ht
          rcases h.no k t' hg with rfl | ⟨k', rfl⟩ | ⟨d, m, i, o, cs, rfl⟩
          · exact VV.keep (hX (by simp)) hc
          · exact VV.keep (hX (by simp)) hc
          · trivial
      | own d k =>
        simp only [relT, Tok.key] at ht
        cases hg : get rl k with
        | none =>
          rw [hg] at ht
          obtain rfl : Tok.own d k = t' := by simpa using ht
          obtain ⟨e, hs⟩ := h.stay k hg
          cases d with
          | true => show OwnDeep (J'.L k) w' v n l; rw [e]; exact OwnDeep.keep hc hs
          | false => show OwnTop J'.F (J'.L k) w' v n l; rw [e]; exact OwnTop.keep hc h.F hs
        | some x =>
          rw [hg] at ht
          obtain rfl : x = some t' := ht
          rcases h.no k t' hg with rfl | ⟨k', rfl⟩ | ⟨d1, m, i, o, cs, rfl⟩
          · have hs := h.sh k hg
            cases d with
            | true => exact OwnDeep.vv hc hs
            | false => exact OwnTop.vv hc h.F hs
          · have hs := h.vw k k' hg
            cases d with
            | true => exact OwnDeep.vv (X := J'.X (.vw k')) hc hs
            | false => exact OwnTop.vv hc (fun b hb => ⟨.inr (h.F b hb).1, (h.F b hb).2⟩) hs
          · show CR J' w' v (bif sameB d d1 && Nat.beq n m then .slc (.own d k) n (putR l i o cs) else .dead)
            cases hb : sameB d d1 && Nat.beq n m with
            | false => trivial
            | true =>
              simp only [Bool.and_eq_true] at hb
              obtain rfl := sameB_eq hb.1
              obtain rfl := Nat.eq_of_beq_eq_true hb.2
              exact h.put k d n i o cs hg v l hc
  | ptr k off =>
    simp only [relC]
    cases kb with
    | none => show v = _; rw [h.B k (by simp)]; exact hc
    | some k' =>
      simp only []
      cases hk : Nat.beq k k' with
      | true => trivial
      | false =>
        show v = _
        rw [h.B k (fun e => by simp at e; simp [e] at hk)]
        exact hc
  | rptr t cs =>
    simp only [relC]
    cases ht : relT rl t with
    | none => trivial
    | some t' =>
      show CR J' w' v (putRp t cs t')
      cases t' with
      | put => cases t with
        | put => exact absurd hc (fun ⟨_, _, _, _, h, _⟩ => h)
        | sh | emp | own | vw => trivial
      | sh | emp | own | vw => exact Reads.keep hc (h.X ht (by simp))
  | ept d k n i o cs =>
    simp only [relC]
    obtain ⟨g, r, vs, h1, h2, h3, h4, arr, ty, h5⟩ := hc
    have hgm : g ∈ J.L k := by rw [h1]; exact List.mem_cons_self
    have hrd : ∀ (X : Nat → Prop), (∀ b, b ∈ J.L k ∨ J.F b → X b ∧ w'.heap[b]? = w.heap[b]?) → Reads X w' v cs := fun X hX => by
      have hg := hX g (.inl hgm)
      refine ⟨g, i * n + o, vs, h2, hg.1, h3.keep (X' := X) fun b hb => hX b ?_, fun j u hj => by rw [World.cell?_of_block hg.2]; exact h4 j u hj⟩
      cases d with
      | true => exact hb
      | false => exact .inr hb
    cases hk : get rl k with
    | none =>
      obtain ⟨e, hs⟩ := h.stay k hk
      refine ⟨g, r, vs, e.trans h1, h2, h3.keep fun b hb => ?_, fun j u hj => by rw [World.cell?_of_block (hs g hgm)]; exact h4 j u hj, arr, ty, (hs g hgm).trans h5⟩
      cases d with
      | true => exact hb.elim (fun hb => ⟨.inl (by rw [e]; exact hb), hs b hb⟩) fun hb => ⟨.inr (h.F b hb).1, (h.F b hb).2⟩
      | false => exact h.F b hb
    | some x =>
      cases x with
      | none => trivial
      | some t' =>
        rcases h.no k t' hk with rfl | ⟨k', rfl⟩ | ⟨d1, m, i1, o1, cs1, rfl⟩
        · exact hrd J'.F fun b hb => hb.elim (h.sh k hk b) (h.F b)
        · exact hrd (J'.X (.vw k')) fun b hb => hb.elim (h.vw k k' hk b) fun hb => ⟨.inr (h.F b hb).1, (h.F b hb).2⟩
        · trivial
  | fn f caps =>
    have key : (∀ c, c ∈ caps → kb ≠ some c.1) → CR J' w' v (.fn f caps) := fun hb => by
      have : caps.map (fun c => Value.pointer (some ⟨J'.B c.1, c.2, none⟩)) = caps.map (fun c => Value.pointer (some ⟨J.B c.1, c.2, none⟩)) :=
        List.map_congr_left fun c hc => by rw [h.B c.1 (hb c hc)]
      show v = _
      rw [this]
      exact hc
    simp only [relC]
    cases kb with
    | none => exact key (by simp)
    | some k' =>
      simp only []
      cases hk : hasKey k' caps with
      | true => trivial
      | false => exact key fun c hc' e => by simp at e; exact hasKey_false hk c hc' e.symm
  | fnr f caps =>
    obtain ⟨vs, rfl, ha⟩ := hc
    exact ⟨vs, rfl, ha.imp fun a b _ h' => h'.keep h.F⟩

/-- the invariants of names -/
structure Names (w0 : World) (F0 : Nat → Prop) (J : Inj) (w : World) : Prop where
  fl : ∀ b, J.F b → b < w.heap.size ∧ (F0 b ∨ w0.heap.size ≤ b)
  f0 : ∀ b, F0 b → J.F b
  nd : ∀ k, (J.L k).Nodup
  lo : ∀ k b, b ∈ J.L k → w0.heap.size ≤ b ∧ b < w.heap.size ∧ ¬ J.F b
  dj : ∀ k k' b, b ∈ J.L k → b ∈ J.L k' → k = k'
theorem Rel.names {N : Nat} {w0 : World} {F0 : Nat → Prop} {J : Inj} {a : Act} {w : World} {s : St} (h : Rel N w0 F0 J a w s) : Names w0 F0 J w := ⟨h.fl, h.f0, h.nd, h.lo, h.dj⟩

theorem put_size (a : Act) (dst : Option Nat) (v : Value) : (a.put dst v).tmps.size = a.tmps.size := by
  cases dst <;> simp [Act.put]
theorem put_defers (a : Act) (dst : Option Nat) (v : Value) : (a.put dst v).defers = a.defers := by
  cases dst <;> rfl
theorem put_get (a : Act) (d : Nat) (v : Value) (t : Nat) (hd : d < a.tmps.size) : (a.put (some d) v).tmps.getD t undef = if d = t then v else a.tmps.getD t undef := by
  simp only [Act.put, Array.getD_eq_getD_getElem?, Array.getElem?_setIfInBounds]
  by_cases h : d = t
  · subst h
    simp [hd]
  · simp [h]

/-- a step -/
theorem Rel.upd {N : Nat} {w0 : World} {F0 : Nat → Prop} {J J' : Inj} {a : Act} {w w' : World} {s : St} (h : Rel N w0 F0 J a w s) (dst : Option Nat) (hdst : ∀ d, dst = some d → d < N) (r : Res) (v : Value)
    (hb : Below w0.heap.size w0 w') (ht : Turns J J' w w' r.rl r.kb) (hn : Names w0 F0 J' w') (hv : dst ≠ none → AR J' w' v r.av)
    (hbx : ∀ k c, get s.bx k = some c → (∀ p, r.bx = some p → p.1 ≠ k) → r.kb ≠ some k ∧ ¬ J'.F (J.B k) ∧ (∀ k', J.B k ∉ J'.L k') ∧ w'.heap[J.B k]? = w.heap[J.B k]?)
    (hnew : ∀ k c, r.bx = some (k, c) → w0.heap.size ≤ J'.B k ∧ ¬ J'.F (J'.B k) ∧ (∀ k', J'.B k ∉ J'.L k') ∧ (∃ arr e, w'.heap[J'.B k]? = some (.cells arr e (0, 0)) ∧ All2 (CR J' w') arr.toList c) ∧ ∀ k' c', get s.bx k' = some c' → k' ≠ k → J.B k' ≠ J'.B k) :
    Rel N w0 F0 J' (a.put dst v) w' (s.step dst r) := by
  have hmap : ∀ (u : Value) (x : AV), AR J w u x → AR J' w' u (match r.rl, r.kb with | [], none => x | rl, kb => x.map (relC rl kb)) := by
    intro u x hx
    split
    · rename_i e1 e2
      have hid : ∀ c, relC r.rl r.kb c = c := fun c => by
        rw [e1, e2]
        cases c with
        | slc t n l => cases t <;> rfl
        | rptr t cs => cases t <;> rfl
        | _ => rfl
      have := AR.map (relC r.rl r.kb) hx fun u c _ hc => relC_ok ht hc
      rw [show x.map (relC r.rl r.kb) = x by
        have : (relC r.rl r.kb) = id := funext hid
        rw [this]
        cases x <;> simp [AV.map]] at this
      exact this
    · exact AR.map _ hx fun u c _ hc => relC_ok ht hc
  have hcm : ∀ (us : List Value) (cs : List C), All2 (CR J w) us cs → All2 (CR J' w') us (match r.rl, r.kb with | [], none => cs | rl, kb => cs.map (relC rl kb)) := by
    intro us cs hx
    have := hmap (.agg us.toArray) (.agg cs) ⟨us, rfl, hx⟩
    split at this
    · obtain ⟨vs, e, h2⟩ := this
      rw [show us = vs by simpa using congrArg Array.toList (Value.agg.inj e)]
      exact h2
    · obtain ⟨vs, e, h2⟩ := this
      rw [show us = vs by simpa using congrArg Array.toList (Value.agg.inj e)]
      exact h2
  have gtm : ∀ t x, get (match r.rl, r.kb with | [], none => s | rl, kb => s.map (relC rl kb)).tm t = some x → ∃ y, get s.tm t = some y ∧ x = (match r.rl, r.kb with | [], none => y | rl, kb => y.map (relC rl kb)) := by
    intro t x hx
    split at hx
    · exact ⟨x, hx, by simp⟩
    · simp only [St.map, get_map (AV.map _)] at hx
      obtain ⟨y, hy, rfl⟩ := Option.map_eq_some_iff.1 hx
      exact ⟨y, hy, by simp⟩
  have gbx : ∀ k x, get (match r.rl, r.kb with | [], none => s | rl, kb => s.map (relC rl kb)).bx k = some x → ∃ y, get s.bx k = some y ∧ x = (match r.rl, r.kb with | [], none => y | rl, kb => y.map (relC rl kb)) := by
    intro k x hx
    split at hx
    · exact ⟨x, hx, by simp⟩
    · simp only [St.map, get_map (List.map _)] at hx
      obtain ⟨y, hy, rfl⟩ := Option.map_eq_some_iff.1 hx
      exact ⟨y, hy, by simp⟩
  have gb : ∀ k x, get (s.step dst r).bx k = some x → (r.bx = some (k, x)) ∨ ((∀ p, r.bx = some p → p.1 ≠ k) ∧ ∃ y, get s.bx k = some y ∧ x = (match r.rl, r.kb with | [], none => y | rl, kb => y.map (relC rl kb))) := by
    intro k x hx
    simp only [St.step] at hx
    cases hr : r.bx with
    | none => rw [hr] at hx; exact .inr ⟨(fun p hp => by cases hp), gbx k x hx⟩
    | some p =>
      obtain ⟨k1, c1⟩ := p
      rw [hr] at hx
      simp only [get_ins] at hx
      by_cases hk : k1 = k
      · subst hk
        rw [if_pos rfl] at hx
        obtain rfl := Option.some.inj hx
        exact .inl rfl
      · rw [if_neg hk] at hx
        exact .inr ⟨(fun p hp => by cases hp; exact hk), gbx k x hx⟩
  refine { below := hb, nodef := (put_defers a dst v).trans h.nodef, size := (put_size a dst v).trans h.size, fl := hn.fl, f0 := hn.f0, nd := hn.nd, lo := hn.lo, dj := hn.dj, bo := ?_, bi := ?_, tm := ?_ }
  · intro k c hk
    rcases gb k c hk with hr | ⟨hne, y, hy, rfl⟩
    · obtain ⟨h1, h2, h3, h4, _⟩ := hnew k c hr
      exact ⟨h1, h2, h3, h4⟩
    · obtain ⟨hkb, h1, h2, h3⟩ := hbx k y hy hne
      obtain ⟨h4, _, _, arr, e, h5, h6⟩ := h.bo k y hy
      rw [ht.B k hkb]
      exact ⟨h4, h1, h2, arr, e, h3.trans h5, hcm _ _ h6⟩
  · intro k k' c c' hk hk' hB
    rcases gb k c hk with hr | ⟨hne, y, hy, rfl⟩ <;> rcases gb k' c' hk' with hr' | ⟨hne', y', hy', rfl⟩
    · have := hr.symm.trans hr'
      simp at this
      exact this.1
    · refine Classical.byContradiction fun hkk => ?_
      obtain ⟨hkb, _⟩ := hbx k' y' hy' hne'
      rw [ht.B k' hkb] at hB
      exact (hnew k c hr).2.2.2.2 k' y' hy' (fun e => hkk e.symm) hB.symm
    · refine Classical.byContradiction fun hkk => ?_
      obtain ⟨hkb, _⟩ := hbx k y hy hne
      rw [ht.B k hkb] at hB
      exact (hnew k' c' hr').2.2.2.2 k y hy hkk hB
    · rw [ht.B k (hbx k y hy hne).1, ht.B k' (hbx k' y' hy' hne').1] at hB
      exact h.bi k k' y y' hy hy' hB
  · intro t x hx
    cases dst with
    | none =>
      simp only [St.step] at hx
      obtain ⟨y, hy, rfl⟩ := gtm t x hx
      exact hmap _ _ (h.tm t y hy)
    | some d =>
      have hd := hdst d rfl
      simp only [St.step, get_ins] at hx
      rw [put_get a d v t (by rw [h.size]; exact hd)]
      by_cases hdt : d = t
      · rw [if_pos hdt] at hx ⊢
        obtain rfl := Option.some.inj hx
        exact hv (by simp)
      · rw [if_neg hdt] at hx ⊢
        obtain ⟨y, hy, rfl⟩ := gtm t x hx
        exact hmap _ _ (h.tm t y hy)

/-- a step that turns nothing but a temporary -/
theorem Rel.pure {N : Nat} {w0 : World} {F0 : Nat → Prop} {J : Inj} {a : Act} {w : World} {s : St} (h : Rel N w0 F0 J a w s) (dst : Option Nat) (hdst : ∀ d, dst = some d → d < N) (av : AV) (v : Value) (hv : dst ≠ none → AR J w v av) :
    Rel N w0 F0 J (a.put dst v) w (s.step dst ⟨av, [], none, none⟩) :=
  h.upd dst hdst _ v h.below (Turns.refl J w) h.names hv (fun k c hc _ => by
    obtain ⟨_, h2, h3, _⟩ := h.bo k c hc
    exact ⟨by simp, h2, h3, rfl⟩) (fun k c hc => by cases hc)
end Go.Proofs.YtjkfmihbmkbjfaaGreat
