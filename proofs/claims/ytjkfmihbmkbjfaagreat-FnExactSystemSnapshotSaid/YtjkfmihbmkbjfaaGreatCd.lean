/- Code of the abstract machine: rules for straight code, tests, blocks and loops; weaker states. No program in sight. -/
import Derived.Test.YtjkfmihbmkbjfaaGreatRg
import Derived.LoopN
namespace Go.Proofs.YtjkfmihbmkbjfaaGreat
open Go.RowKit

section
variable (P : Program) (N : Nat) (w0 : World) (F0 : Nat → Prop)
/-- where code ends -/
def QX (Q : Exit → St → Prop) : Exit → Act → World → Prop := fun e a w => ∃ J s, Rel N w0 F0 J a w s ∧ Q e s
def AWP (c : Code) (Q : Exit → St → Prop) (s : St) : Prop := ∀ J a w, Rel N w0 F0 J a w s → c.wp P (QX N w0 F0 Q) a w
end
/-- less is known of s' -/
def Weak (s s' : St) : Prop := ∀ N w0 F0 J a w, Rel N w0 F0 J a w s → ∃ J', Rel N w0 F0 J' a w s'
def Exit.thenS (K : St → Prop) (Q : Exit → St → Prop) : Exit → St → Prop
  | .normal, s => K s
  | e, s => Q e s
def Exit.inBlockS (id : Nat) (Q : Exit → St → Prop) : Exit → St → Prop
  | .exit i, s => bif Nat.beq i id then Q .normal s else Q (.exit i) s
  | e, s => Q e s

section
variable {P : Program} {N : Nat} {w0 : World} {F0 : Nat → Prop} {Q : Exit → St → Prop} {s s' : St}

theorem Weak.refl (s : St) : Weak s s := fun _ _ _ J _ _ h => ⟨J, h⟩
theorem Weak.trans {s s' s'' : St} (h : Weak s s') (h' : Weak s' s'') : Weak s s'' := fun N w0 F0 J a w hr => by
  obtain ⟨J', hr'⟩ := h N w0 F0 J a w hr
  exact h' N w0 F0 J' a w hr'
theorem awp_weak {c : Code} (hw : Weak s s') (h : AWP P N w0 F0 c Q s') : AWP P N w0 F0 c Q s := fun J a w hr => by
  obtain ⟨J', hr'⟩ := hw N w0 F0 J a w hr
  exact h J' a w hr'
theorem awp_mono {c : Code} {Q' : Exit → St → Prop} (h : AWP P N w0 F0 c Q s) (hq : ∀ e s, Q e s → Q' e s) : AWP P N w0 F0 c Q' s := fun J a w hr =>
  wp_mono (h J a w hr) fun e a w ⟨J, s, h1, h2⟩ => ⟨J, s, h1, hq e s h2⟩

theorem awp_region {tt : List (Nat × TI)} (htt : ttOk P tt = true) (orcs : List (Nat × Orc)) {id : Nat} {ops : Array Oper} {obs : List Ob} (h : runSeq tt N orcs ops.toList ops.toList 0 s = some (s', obs)) (hob : AllOb (ACalls P) (ATake P) obs) (hQ : Q .normal s') :
    AWP P N w0 F0 (.region id ops false) Q s := fun J a w hr => by
  refine wp_region ?_
  have := runSeq_ok (P := P) (Q := QX N w0 F0 Q) htt ops.toList 0 rfl h hob hr fun J' a' w' hR => ⟨J', s', hR, hQ⟩
  rw [List.range_eq_range']
  simpa using this
theorem awp_seq {x y : Code} (h : AWP P N w0 F0 x (Exit.thenS (AWP P N w0 F0 y Q) Q) s) : AWP P N w0 F0 (.seq x y) Q s := fun J a w hr => by
  refine wp_seq (wp_mono (h J a w hr) ?_)
  rintro e a' w' ⟨J', s', hR, hq⟩
  cases e with
  | normal => exact hq J' a' w' hR
  | _ => exact ⟨J', s', hR, hq⟩
theorem awp_skip (h : Q .normal s) : AWP P N w0 F0 .skip Q s := fun J a w hr => wp_skip ⟨J, s, hr, h⟩
theorem awp_exit {id : Nat} (h : Q (.exit id) s) : AWP P N w0 F0 (.exit id) Q s := fun J a w hr => wp_exit ⟨J, s, hr, h⟩
theorem awp_ret (h : Q .ret s) : AWP P N w0 F0 .ret Q s := fun J a w hr => wp_ret ⟨J, s, hr, h⟩
theorem awp_label {l : Nat} (h : Q .normal s) : AWP P N w0 F0 (.label l) Q s := fun J a w hr => wp_label ⟨J, s, hr, h⟩
theorem awp_cond {t : Nat} {x y : Code} {b : Bool} (hc : get s.tm t = some (.one (.bool b))) (h1 : b = true → AWP P N w0 F0 x Q s) (h2 : b = false → AWP P N w0 F0 y Q s) : AWP P N w0 F0 (.cond (.tmp t) x y) Q s := fun J a w hr =>
  wp_cond_split (t := b) (hr.tm t _ hc) (fun e => h1 e J a w hr) (fun e => h2 e J a w hr)
theorem awp_block {id : Nat} {c : Code} (h : AWP P N w0 F0 c (Exit.inBlockS id Q) s) : AWP P N w0 F0 (.block id c) Q s := fun J a w hr => by
  refine wp_block (wp_mono (h J a w hr) ?_)
  rintro e a' w' ⟨J', s', hR, hq⟩
  cases e with
  | exit i =>
    simp only [Exit.inBlockS] at hq
    simp only [Exit.inBlock]
    split <;> rename_i hi
    · subst hi; simp only [Nat.beq_refl, cond_true] at hq; exact ⟨J', s', hR, hq⟩
    · rw [show Nat.beq i id = false by
        cases hb : Nat.beq i id with
        | false => rfl
        | true => exact absurd (Nat.eq_of_beq_eq_true hb) hi] at hq
      exact ⟨J', s', hR, hq⟩
  | _ => exact ⟨J', s', hR, hq⟩
theorem rounds_mono {c : Code} {Q : Exit → Act → World → Prop} : ∀ (n m : Nat), n ≤ m → ∀ a w, Code.rounds P c Q n a w → Code.rounds P c Q m a w
  | 0, _, _, _, _, h => h.elim
  | n + 1, 0, h, _, _, _ => absurd h (by omega)
  | n + 1, m + 1, hnm, a, w, h => wp_mono (show c.wp P (Exit.then (Code.rounds P c Q n) Q) a w from h) fun e a w hq => by
      cases e with
      | normal => exact rounds_mono n m (by omega) a w hq
      | _ => exact hq
/-- a loop: a measure that falls -/
theorem awp_loop {c : Code} (I : Nat → St → Prop) {n : Nat} (h0 : I n s) (hI : ∀ n s, I n s → AWP P N w0 F0 c (Exit.thenS (fun s' => ∃ m s'', m < n ∧ Weak s' s'' ∧ I m s'') Q) s) : AWP P N w0 F0 (.loop c) Q s := fun J a w hr => by
  have key : ∀ n s J a w, I n s → Rel N w0 F0 J a w s → Code.rounds P c (QX N w0 F0 Q) (n + 1) a w := by
    intro n
    induction n using Nat.strongRecOn with
    | _ n ih =>
      intro s J a w hi hr
      refine wp_mono (hI n s hi J a w hr) ?_
      rintro e a' w' ⟨J', s', hR, hq⟩
      cases e with
      | normal =>
        obtain ⟨m, s'', hm, hw, hi'⟩ := hq
        obtain ⟨J'', hR'⟩ := hw N w0 F0 J' a' w' hR
        exact rounds_mono (m + 1) n hm a' w' (ih m hm s'' J'' a' w' hi' hR')
      | _ => exact ⟨J', s', hR, hq⟩
  exact wp_loop_rounds (n + 1) (key n s J a w h0 hr)
/-- a loop that counts -/
theorem awp_for {c : Code} (len : Nat) (S : Nat → St) (h0 : Weak s (S 0)) (hr : ∀ k, k < len → AWP P N w0 F0 c (Exit.thenS (fun s' => Weak s' (S (k + 1))) Q) (S k)) (he : AWP P N w0 F0 c (Exit.thenS (fun _ => False) Q) (S len)) : AWP P N w0 F0 (.loop c) Q s := by
  refine awp_weak h0 (awp_loop (fun n s => ∃ k, k ≤ len ∧ n = len - k ∧ s = S k) (n := len) ⟨0, Nat.zero_le _, by omega, rfl⟩ ?_)
  rintro n _ ⟨k, hk, rfl, rfl⟩
  by_cases h : k < len
  · refine awp_mono (hr k h) fun e s' hq => ?_
    cases e with
    | normal => exact ⟨len - (k + 1), S (k + 1), by omega, hq, k + 1, by omega, rfl, rfl⟩
    | _ => exact hq
  · obtain rfl : k = len := by omega
    refine awp_mono he fun e s' hq => ?_
    cases e with
    | normal => exact hq.elim
    | _ => exact hq

/-! ### weaker states -/
def keepL {α : Type} (l : List (Nat × α)) : List Nat → List (Nat × α)
  | [] => []
  | t :: r => match get l t with
    | some v => (t, v) :: keepL l r
    | none => keepL l r
theorem get_keep {α : Type} {l : List (Nat × α)} {t : Nat} {v : α} : ∀ {ts : List Nat}, get (keepL l ts) t = some v → get l t = some v
  | [], h => by simp [keepL, get] at h
  | x :: r, h => by
    simp only [keepL] at h
    split at h
    · rename_i u hu
      simp only [get] at h
      split at h
      · rename_i e
        subst e
        rw [hu]; exact h
      · exact get_keep h
    · exact get_keep h
def St.keep (s : St) (ts bs : List Nat) : St := ⟨keepL s.tm ts, keepL s.bx bs⟩
theorem weak_keep (ts bs : List Nat) (h : s.keep ts bs = s') : Weak s s' := fun N w0 F0 J a w hr => ⟨J, by
  subst h
  exact hr.less (fun t v hv => get_keep hv) fun k c hc => get_keep hc⟩
/-- a region, and what is kept behind it -/
def runKeep (tt : List (Nat × TI)) (N : Nat) (orcs : List (Nat × Orc)) (ops : List Oper) (ts bs : List Nat) (s : St) : Option (St × List Ob) :=
  match runSeq tt N orcs ops ops 0 s with
  | some (s', obs) => some (s'.keep ts bs, obs)
  | none => none
theorem awp_regionK {tt : List (Nat × TI)} (htt : ttOk P tt = true) (orcs : List (Nat × Orc)) (ts bs : List Nat) {id : Nat} {ops : Array Oper} {obs : List Ob} (h : runKeep tt N orcs ops.toList ts bs s = some (s', obs)) (hob : AllOb (ACalls P) (ATake P) obs) (hQ : Q .normal s') :
    AWP P N w0 F0 (.region id ops false) Q s := fun J a w hr => by
  unfold runKeep at h
  split at h
  · rename_i s1 obs1 h1
    obtain ⟨rfl, rfl⟩ : s1.keep ts bs = s' ∧ obs1 = obs := by simpa using h
    refine wp_region ?_
    have := runSeq_ok (P := P) (Q := QX N w0 F0 Q) htt ops.toList 0 rfl h1 hob hr fun J' a' w' hR => ⟨J', _, hR.less (fun t v hv => get_keep hv) (fun k c hc => get_keep hc), hQ⟩
    rw [List.range_eq_range']
    simpa using this
  · cases h
def swapN (k k' x : Nat) : Nat := bif Nat.beq x k then k' else bif Nat.beq x k' then k else x
def swapT (k k' : Nat) : Tok → Tok
  | .own d x => .own d (swapN k k' x)
  | .vw x => .vw (swapN k k' x)
  | t => t
def swapC (k k' : Nat) : C → C
  | .slc t n l => .slc (swapT k k' t) n l
  | .rptr t cs => .rptr (swapT k k' t) cs
  | .ept d x n i o cs => .ept d (swapN k k' x) n i o cs
  | c => c
theorem beq_ne {a b : Nat} (h : a ≠ b) : Nat.beq a b = false := by
  cases hb : Nat.beq a b with
  | false => rfl
  | true => exact absurd (Nat.eq_of_beq_eq_true hb) h
theorem swapN_swapN (k k' x : Nat) : swapN k k' (swapN k k' x) = x := by
  simp only [swapN]
  by_cases h1 : x = k
  · subst h1
    simp
    by_cases h2 : k' = x
    · simp [h2]
    · have : Nat.beq k' x = false := beq_ne h2
      simp [this]
  · have e1 : Nat.beq x k = false := beq_ne h1
    simp only [e1, cond_false]
    by_cases h2 : x = k'
    · subst h2; simp
    · have e2 : Nat.beq x k' = false := beq_ne h2
      simp [e1, e2]
def Inj.swap (J : Inj) (k k' : Nat) : Inj := ⟨J.F, fun x => J.L (swapN k k' x), J.B⟩
theorem swapC_ok {J : Inj} {w : World} {k k' : Nat} {v : Value} {c : C} (h : CR J w v c) : CR (J.swap k k') w v (swapC k k' c) := by
  cases c with
  | slc t n l =>
    cases t with
    | sh | emp | put => exact h
    | own d x =>
      cases d with
      | true => show OwnDeep (J.L (swapN k k' (swapN k k' x))) w v n l; rw [swapN_swapN]; exact h
      | false => show OwnTop J.F (J.L (swapN k k' (swapN k k' x))) w v n l; rw [swapN_swapN]; exact h
    | vw x =>
      refine VV.keep (X := J.X (.vw x)) (fun b hb => ⟨?_, rfl⟩) h
      show b ∈ J.L (swapN k k' (swapN k k' x)) ∨ J.F b
      rw [swapN_swapN]; exact hb
  | ept d x n i o cs =>
    obtain ⟨g, r, vs, h1, h2, h3, h4⟩ := h
    refine ⟨g, r, vs, ?_, h2, h3.keep fun b hb => ⟨?_, rfl⟩, h4⟩
    · show J.L (swapN k k' (swapN k k' x)) = _
      rw [swapN_swapN]; exact h1
    · cases d with
      | true =>
        show b ∈ J.L (swapN k k' (swapN k k' x)) ∨ J.F b
        rw [swapN_swapN]; exact hb
      | false => exact hb
  | rptr t cs =>
    refine Reads.keep h fun b hb => ⟨?_, rfl⟩
    cases t with
    | vw x =>
      show b ∈ J.L (swapN k k' (swapN k k' x)) ∨ J.F b
      rw [swapN_swapN]; exact hb
    | _ => exact hb
  | _ => exact h
theorem Rel.swap {J : Inj} {a : Act} {w : World} (h : Rel N w0 F0 J a w s) (k k' : Nat) : Rel N w0 F0 (J.swap k k') a w (s.map (swapC k k')) where
  below := h.below
  nodef := h.nodef
  size := h.size
  fl := h.fl
  f0 := h.f0
  nd x := h.nd _
  lo x := h.lo _
  dj x y b hx hy := by
    have := h.dj _ _ b hx hy
    rw [← swapN_swapN k k' x, this, swapN_swapN]
  bo x c hc := by
    simp only [St.map, get_map (List.map _)] at hc
    obtain ⟨y, hy, rfl⟩ := Option.map_eq_some_iff.1 hc
    obtain ⟨h1, h2, h3, arr, e, h4, h5⟩ := h.bo x y hy
    exact ⟨h1, h2, fun k => h3 _, arr, e, h4, h5.map _ fun a b _ hr => swapC_ok hr⟩
  bi x y c c' hc hc' hB := by
    simp only [St.map, get_map (List.map _)] at hc hc'
    obtain ⟨z, hz, rfl⟩ := Option.map_eq_some_iff.1 hc
    obtain ⟨z', hz', rfl⟩ := Option.map_eq_some_iff.1 hc'
    exact h.bi x y z z' hz hz' hB
  tm t v hv := by
    simp only [St.map, get_map (AV.map _)] at hv
    obtain ⟨y, hy, rfl⟩ := Option.map_eq_some_iff.1 hv
    exact AR.map _ (h.tm t y hy) fun u c _ hc => swapC_ok hc
def St.swaps (s : St) : List (Nat × Nat) → St
  | [] => s
  | (k, k') :: r => (s.map (swapC k k')).swaps r
theorem weak_swaps : ∀ (l : List (Nat × Nat)) (s : St), Weak s (s.swaps l)
  | [], s => Weak.refl s
  | (k, k') :: r, s => Weak.trans (fun N w0 F0 J a w h => ⟨_, h.swap k k'⟩) (weak_swaps r _)
/-- names given up: rows that nobody turns from here on -/
theorem rel_freeze (ks : List Nat) {J : Inj} {a : Act} {w : World} (hr : Rel N w0 F0 J a w s) : ∃ J' : Inj, (∀ k, k ∈ ks → J'.L k = []) ∧ Rel N w0 F0 J' a w (s.map (relC (freezeAll ks) none)) := by
  let J' : Inj := ⟨fun b => J.F b ∨ ∃ k, k ∈ ks ∧ b ∈ J.L k, fun k => if k ∈ ks then [] else J.L k, J.B⟩
  have hL : ∀ k b, b ∈ J'.L k → k ∉ ks ∧ b ∈ J.L k := fun k b hm => by
    have hm : b ∈ (if k ∈ ks then [] else J.L k) := hm
    split at hm
    · simp at hm
    · rename_i hn; exact ⟨hn, hm⟩
  have hT : Turns J J' w w (freezeAll ks) none := by
    constructor
    · exact fun b hb => ⟨.inl hb, rfl⟩
    · intro k hk
      rw [get_freeze] at hk
      split at hk
      · cases hk
      · rename_i hn
        exact ⟨if_neg hn, fun _ _ => rfl⟩
    · intro k hk b hb
      rw [get_freeze] at hk
      split at hk
      · rename_i hm
        exact ⟨.inr ⟨k, hm, hb⟩, rfl⟩
      · cases hk
    · intro k k' hk
      rw [get_freeze] at hk
      split at hk <;> cases hk
    · intro k t hk
      rw [get_freeze] at hk
      split at hk
      · simp at hk; exact .inl hk.symm
      · cases hk
    · exact fun _ _ => rfl
    · intro k d m i o cs hk
      rw [get_freeze] at hk
      split at hk <;> cases hk
  have hN : Names w0 F0 J' w := by
    constructor
    · exact fun b hb => hb.elim (hr.fl b) fun ⟨k, _, hm⟩ => ⟨(hr.lo k b hm).2.1, .inr (hr.lo k b hm).1⟩
    · exact fun b hb => .inl (hr.f0 b hb)
    · intro k
      show (if _ then _ else _ : List Nat).Nodup
      split
      · simp
      · exact hr.nd k
    · intro k b hm
      obtain ⟨hn, hm⟩ := hL k b hm
      obtain ⟨h1, h2, h3⟩ := hr.lo k b hm
      exact ⟨h1, h2, fun hF => hF.elim h3 fun ⟨k', hk', hm'⟩ => hn (hr.dj k k' b hm hm' ▸ hk')⟩
    · intro k k' b hm hm'
      exact hr.dj k k' b (hL k b hm).2 (hL k' b hm').2
  have h0 := hr.upd (w' := w) (J' := J') none (by simp) ⟨.one .dead, freezeAll ks, none, none⟩ undef hr.below hT hN (fun h => absurd rfl h) (fun k c hk _ => by
    obtain ⟨_, h2, h3, _⟩ := hr.bo k c hk
    exact ⟨by simp, fun hF => hF.elim h2 fun ⟨k', _, hm⟩ => h3 k' hm, fun k' hm => h3 k' (hL k' _ hm).2, rfl⟩) (fun k c hk => by cases hk)
  refine ⟨J', fun k hk => if_pos hk, ?_⟩
  have h0 : Rel N w0 F0 J' a w (match freezeAll ks, (none : Option Nat) with | [], none => s | rl, kb => s.map (relC rl kb)) := h0
  cases ks with
  | nil =>
    have hid : s.map (relC (freezeAll []) none) = s := by
      have hc : (relC (freezeAll []) none) = id := by
        funext c
        cases c with
        | slc t n l => cases t <;> rfl
        | rptr t cs => cases t <;> rfl
        | _ => rfl
      rw [hc]
      obtain ⟨tm, bx⟩ := s
      simp only [St.map]
      congr 1
      · conv => rhs; rw [← List.map_id tm]
        refine List.map_congr_left fun p _ => ?_
        obtain ⟨t, v⟩ := p
        cases v <;> simp [AV.map]
      · simp
    rw [hid]
    exact h0
  | cons k ks => exact h0
theorem weak_freeze (ks : List Nat) (h : s.map (relC (freezeAll ks) none) = s') : Weak s s' := fun N w0 F0 J a w hr => by
  subst h
  obtain ⟨J', _, h⟩ := rel_freeze ks hr
  exact ⟨J', h⟩
/-! ### an empty slice as a row of our own -/
def openC (d : Bool) (k n : Nat) : C → C
  | .slc .emp _ [] => .slc (.own d k) n []
  | c => c
def openL (i : Nat) (d : Bool) (k n : Nat) : List C → List C
  | [] => []
  | c :: r => match i with
    | 0 => openC d k n c :: r
    | i + 1 => c :: openL i d k n r
def openAV (i : Nat) (d : Bool) (k n : Nat) : AV → AV
  | .one c => .one (openC d k n c)
  | .agg cs => .agg (openL i d k n cs)
  | v => v
theorem openC_ok {J : Inj} {w : World} {v : Value} {d : Bool} {k n : Nat} (_ : J.L k = []) {c : C} (h : CR J w v c) : CR J w v (openC d k n c) := by
  unfold openC
  split
  · obtain ⟨_, oa, rfl⟩ := h
    cases d with
    | true => show OwnDeep (J.L k) w _ n []; exact ⟨[], .emp oa n, List.nodup_nil, (fun b hb => by simp at hb), .inl rfl⟩
    | false => exact .inl ⟨rfl, oa, rfl⟩
  · exact h
theorem openL_ok {J : Inj} {w : World} {d : Bool} {k n : Nat} (hk : J.L k = []) : ∀ (i : Nat) {cs : List C} {vs : List Value}, All2 (CR J w) vs cs → All2 (CR J w) vs (openL i d k n cs)
  | _, [], _, h => by unfold openL; exact h
  | 0, c :: r, _, .cons h1 h2 => by unfold openL; exact .cons (openC_ok hk h1) h2
  | i + 1, c :: r, _, .cons h1 h2 => by unfold openL; exact .cons h1 (openL_ok hk i h2)
theorem openAV_ok {J : Inj} {w : World} {v : Value} {d : Bool} {k n : Nat} (hk : J.L k = []) (i : Nat) {x : AV} (h : AR J w v x) : AR J w v (openAV i d k n x) := by
  cases x with
  | one c => exact openC_ok hk h
  | agg cs => obtain ⟨vs, e, h⟩ := h; exact ⟨vs, e, openL_ok hk i h⟩
  | tup l => exact h
def updG {α : Type} (t : Nat) (f : α → α) : List (Nat × α) → List (Nat × α)
  | [] => []
  | (k, a) :: r => (k, if k = t then f a else a) :: updG t f r
theorem get_updG {α : Type} {t u : Nat} {f : α → α} {v : α} : ∀ {l : List (Nat × α)}, get (updG t f l) u = some v → ∃ y, get l u = some y ∧ (v = f y ∨ v = y)
  | [], h => by simp [updG, get] at h
  | (k, a) :: r, h => by
    simp only [updG, get] at h ⊢
    by_cases hk : k = u
    · simp only [hk, if_true] at h ⊢
      refine ⟨a, rfl, ?_⟩
      by_cases hu : u = t
      · simp only [hu, if_true] at h; exact .inl (Option.some.inj h).symm
      · simp only [hu, if_false] at h; exact .inr (Option.some.inj h).symm
    · simp only [hk, if_false] at h ⊢
      exact get_updG h
/-- which cell: in a box?, whose, at which place, all below it too?, the name, the width -/
def St.open1 (s : St) : Bool × Nat × Nat × Bool × Nat × Nat → St
  | (true, t, i, d, k, n) => ⟨(s.map (relC (freezeAll [k]) none)).tm, updG t (openL i d k n) (s.map (relC (freezeAll [k]) none)).bx⟩
  | (false, t, i, d, k, n) => ⟨updG t (openAV i d k n) (s.map (relC (freezeAll [k]) none)).tm, (s.map (relC (freezeAll [k]) none)).bx⟩
theorem weak_open1 (o : Bool × Nat × Nat × Bool × Nat × Nat) (s : St) : Weak s (s.open1 o) := fun N w0 F0 J a w hr => by
  obtain ⟨b, t, i, d, k, n⟩ := o
  obtain ⟨J', hk, h⟩ := rel_freeze [k] hr
  have hk := hk k List.mem_cons_self
  refine ⟨J', ?_⟩
  cases b with
  | true =>
    refine { h with bo := fun x c hc => ?_, bi := fun x y c c' hc hc' => ?_ }
    · obtain ⟨y, hy, e⟩ := get_updG hc
      obtain ⟨h1, h2, h3, arr, ty, h4, h5⟩ := h.bo x y hy
      refine ⟨h1, h2, h3, arr, ty, h4, ?_⟩
      rcases e with rfl | rfl
      · exact openL_ok hk i h5
      · exact h5
    · obtain ⟨_, hy, _⟩ := get_updG hc
      obtain ⟨_, hy', _⟩ := get_updG hc'
      exact h.bi x y _ _ hy hy'
  | false =>
    refine { h with tm := fun x v hv => ?_ }
    obtain ⟨y, hy, e⟩ := get_updG hv
    have h5 := h.tm x y hy
    rcases e with rfl | rfl
    · exact openAV_ok hk i h5
    · exact h5
def St.opens (s : St) : List (Bool × Nat × Nat × Bool × Nat × Nat) → St
  | [] => s
  | o :: r => (s.open1 o).opens r
theorem weak_opens : ∀ (l : List (Bool × Nat × Nat × Bool × Nat × Nat)) (s : St), Weak s (s.opens l)
  | [], s => Weak.refl s
  | o :: r, s => Weak.trans (weak_open1 o s) (weak_opens r _)
theorem awp_opens {c : Code} (l : List (Bool × Nat × Nat × Bool × Nat × Nat)) (he : s.opens l = s') (h : AWP P N w0 F0 c Q s') : AWP P N w0 F0 c Q s := awp_weak (he ▸ weak_opens l s) h
/-! ### a row whose elements become shared -/
def demC (k : Nat) : C → C
  | .slc (.own true x) n l => bif Nat.beq x k then .slc (.own false x) n l else .slc (.own true x) n l
  | .ept true x n i o cs => bif Nat.beq x k then .rptr (.vw x) cs else .ept true x n i o cs
  | c => c
def Inj.dem (J : Inj) (k : Nat) : Inj := ⟨fun b => J.F b ∨ (b ∈ J.L k ∧ b ∉ (J.L k).take 1), fun x => if x = k then (J.L k).take 1 else J.L x, J.B⟩
theorem dem_X {J : Inj} {k : Nat} {t : Tok} : ∀ b, J.X t b → (J.dem k).X t b := by
  intro b hb
  cases t with
  | sh => exact .inl hb
  | emp | own | put => exact hb.elim
  | vw x =>
    rcases hb with hb | hb
    · by_cases hx : x = k
      · subst hx
        by_cases hm : b ∈ (J.L x).take 1
        · exact .inl (by show b ∈ (if x = x then _ else _); rw [if_pos rfl]; exact hm)
        · exact .inr (.inr ⟨hb, hm⟩)
      · exact .inl (by show b ∈ (if x = k then _ else _); rw [if_neg hx]; exact hb)
    · exact .inr (.inl hb)
theorem demC_ok {J : Inj} {w : World} {v : Value} {k : Nat} {c : C} (h : CR J w v c) : CR (J.dem k) w v (demC k c) := by
  have hF : ∀ b, J.F b → (J.dem k).F b ∧ w.heap[b]? = w.heap[b]? := fun b hb => ⟨.inl hb, rfl⟩
  have hL : ∀ x, x ≠ k → (J.dem k).L x = J.L x := fun x hx => if_neg hx
  have hLk : (J.dem k).L k = (J.L k).take 1 := if_pos rfl
  cases c with
  | int | bool | str | dead => exact h
  | slc t n l =>
    cases t with
    | sh => exact VV.keep hF h
    | emp => exact h
    | put => exact h.elim
    | vw x => exact VV.keep (fun b hb => ⟨dem_X (t := .vw x) b hb, rfl⟩) h
    | own d x =>
      cases d with
      | false =>
        show OwnTop _ ((J.dem k).L x) w v n l
        rcases h with h | ⟨g, cap, cur, e, e1, hv, hg, hs, hr, h1, h2⟩
        · exact .inl h
        · refine .inr ⟨g, cap, cur, e, ?_, hv, hg, hs, hr.keep hF, h1, h2⟩
          by_cases hx : x = k
          · subst hx; rw [hLk, e1]; rfl
          · rw [hL x hx]; exact e1
      | true =>
        show CR (J.dem k) w v (bif Nat.beq x k then .slc (.own false x) n l else .slc (.own true x) n l)
        cases hb : Nat.beq x k with
        | false =>
          have hx : x ≠ k := fun e => by subst e; simp at hb
          show OwnDeep ((J.dem k).L x) w v n l
          rw [hL x hx]; exact h
        | true =>
          obtain rfl := Nat.eq_of_beq_eq_true hb
          show OwnTop _ ((J.dem x).L x) w v n l
          rw [hLk]
          obtain ⟨L', h1, h2, h3, h4⟩ := h
          generalize hp : PV.slc n l = p at h1
          cases h1 with
          | int | bool | str => cases hp
          | emp oa n' => cases hp; exact .inl ⟨rfl, oa, rfl⟩
          | @slc g cap n' cur e L1 l' hg hs hr h5 h6 =>
            cases hp
            rcases h4 with h4 | ⟨g', r1, r2, e1, e2⟩
            · cases h4
            · cases e1
              obtain ⟨n1, _⟩ := List.nodup_cons.1 h2
              refine .inr ⟨g, cap, cur, e, by rw [e2]; rfl, rfl, hg, hs, hr.vr fun b hb => .inr ⟨h3 b (List.mem_cons_of_mem _ hb), fun hm => ?_⟩, h5, h6⟩
              rw [e2] at hm
              simp at hm
              exact n1 (hm ▸ hb)
  | ptr => exact h
  | fn => exact h
  | fnr f caps =>
    obtain ⟨vs, rfl, ha⟩ := h
    exact ⟨vs, rfl, ha.imp fun _ _ _ h => h.keep hF⟩
  | rptr t cs => exact Reads.keep h fun b hb => ⟨dem_X b hb, rfl⟩
  | ept d x n i o cs =>
    obtain ⟨g, r, vs, h1, h2, h3, h4, h5⟩ := h
    cases d with
    | false =>
      refine ⟨g, if x = k then [] else r, vs, ?_, h2, h3.keep hF, h4, h5⟩
      by_cases hx : x = k
      · subst hx; rw [hLk, h1, if_pos rfl]; rfl
      · rw [hL x hx, if_neg hx]; exact h1
    | true =>
      show CR (J.dem k) w v (bif Nat.beq x k then .rptr (.vw x) cs else .ept true x n i o cs)
      cases hb : Nat.beq x k with
      | false =>
        have hx : x ≠ k := fun e => by subst e; simp at hb
        exact ⟨g, r, vs, by rw [hL x hx]; exact h1, h2, h3.keep fun b hb => ⟨dem_X (t := .vw x) b hb, rfl⟩, h4, h5⟩
      | true => exact ⟨g, i * n + o, vs, h2, dem_X (t := .vw x) g (.inl (by rw [h1]; exact List.mem_cons_self)), h3.keep fun b hb => ⟨dem_X (t := .vw x) b hb, rfl⟩, h4⟩
theorem weak_demote (k : Nat) (s : St) : Weak s (s.map (demC k)) := fun N w0 F0 J a w h => by
  have hsub : ∀ x b, b ∈ (J.dem k).L x → b ∈ J.L x := fun x b hb => by
    have hb : b ∈ (if x = k then (J.L k).take 1 else J.L x) := hb
    split at hb
    · rename_i hx; subst hx; exact List.mem_of_mem_take hb
    · exact hb
  refine ⟨J.dem k, { below := h.below, nodef := h.nodef, size := h.size, fl := fun b hb => ?_, f0 := fun b hb => .inl (h.f0 b hb), nd := fun x => ?_, lo := fun x b hb => ?_, dj := fun x y b hx hy => h.dj x y b (hsub x b hx) (hsub y b hy), bo := fun x c hc => ?_, bi := fun x y c c' hc hc' hB => ?_, tm := fun t v hv => ?_ }⟩
  · rcases hb with hb | ⟨hb, _⟩
    · exact h.fl b hb
    · exact ⟨(h.lo k b hb).2.1, .inr (h.lo k b hb).1⟩
  · show (if _ then _ else _ : List Nat).Nodup
    split
    · exact (List.take_sublist 1 _).nodup (h.nd k)
    · exact h.nd x
  · obtain ⟨h1, h2, h3⟩ := h.lo x b (hsub x b hb)
    refine ⟨h1, h2, fun hF => ?_⟩
    rcases hF with hF | ⟨hm, hn⟩
    · exact h3 hF
    · have hx := h.dj x k b (hsub x b hb) hm
      subst hx
      exact hn (by have hb : b ∈ (if x = x then (J.L x).take 1 else J.L x) := hb; rw [if_pos rfl] at hb; exact hb)
  · simp only [St.map, get_map (List.map _)] at hc
    obtain ⟨y, hy, rfl⟩ := Option.map_eq_some_iff.1 hc
    obtain ⟨h1, h2, h3, arr, e, h4, h5⟩ := h.bo x y hy
    refine ⟨h1, fun hF => ?_, fun z hz => h3 z (hsub z _ hz), arr, e, h4, h5.map _ fun a b _ hr => demC_ok hr⟩
    rcases hF with hF | ⟨hm, _⟩
    · exact h2 hF
    · exact h3 k hm
  · simp only [St.map, get_map (List.map _)] at hc hc'
    obtain ⟨z, hz, rfl⟩ := Option.map_eq_some_iff.1 hc
    obtain ⟨z', hz', rfl⟩ := Option.map_eq_some_iff.1 hc'
    exact h.bi x y z z' hz hz' hB
  · simp only [St.map, get_map (AV.map _)] at hv
    obtain ⟨y, hy, rfl⟩ := Option.map_eq_some_iff.1 hv
    exact AR.map _ (h.tm t y hy) fun u c _ hc => demC_ok hc
def St.demotes (s : St) : List Nat → St
  | [] => s
  | k :: r => (s.map (demC k)).demotes r
theorem weak_demotes : ∀ (l : List Nat) (s : St), Weak s (s.demotes l)
  | [], s => Weak.refl s
  | k :: r, s => Weak.trans (weak_demote k s) (weak_demotes r _)
end
end Go.Proofs.YtjkfmihbmkbjfaaGreat
