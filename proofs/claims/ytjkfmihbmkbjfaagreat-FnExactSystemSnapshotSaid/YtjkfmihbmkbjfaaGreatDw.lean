/- Regions of the abstract machine that draw their order: operations that no edge orders must not touch each other. No program in sight. -/
import Derived.Test.YtjkfmihbmkbjfaaGreatLm
namespace Go.Proofs.YtjkfmihbmkbjfaaGreat
open Go.RowKit

def tmpsOf : List Operand → List Nat
  | [] => []
  | .tmp t :: r => t :: tmpsOf r
  | _ :: r => tmpsOf r
def looks (ops : List Oper) (o : Oper) : List Nat :=
  tmpsOf o.op.operands.toList ++ (match o.guard with
    | some (j, _) => (match ops[j]? with
      | some oj => (match oj.dst with
        | some t => [t]
        | none => [])
      | none => [])
    | none => [])
def rlKeys : List (Nat × Option Tok) → List Nat
  | [] => []
  | p :: r => p.1 :: rlKeys r
def rlTo : List (Nat × Option Tok) → List Tok
  | [] => []
  | (_, some t) :: r => t :: rlTo r
  | _ :: r => rlTo r
def sameTok : Tok → Tok → Bool
  | .sh, .sh => true
  | .emp, .emp => true
  | .own d k, .own d' k' => (match d, d' with
    | true, true => true
    | false, false => true
    | _, _ => false) && Nat.beq k k'
  | .vw k, .vw k' => Nat.beq k k'
  | _, _ => false
def notPut : Tok → Bool
  | .put _ _ _ _ _ => false
  | _ => true
/-- no store into a row -/
def noPut : List (Nat × Option Tok) → Bool
  | [] => true
  | (_, some t) :: r => notPut t && noPut r
  | (_, none) :: r => noPut r
def memTok (t : Tok) : List Tok → Bool
  | [] => false
  | x :: r => sameTok x t || memTok t r
def fixC (r : Res) (c : C) : Bool :=
  (match c.key with
    | some k => !(memN k (rlKeys r.rl))
    | none => true) && (match r.kb with
    | some b => !(memN b c.bkeys)
    | none => true)
/-- no cell that a step could have turned -/
def newC (r : Res) (c : C) : Bool :=
  noPut r.rl && match c with
  | .dead => false
  | .slc t _ _ => !(memTok t (rlTo r.rl))
  | .rptr t _ => !(memTok t (rlTo r.rl))
  | _ => true
def bnCells : List (Nat × List C) → List C
  | [] => []
  | p :: r => p.2 ++ bnCells r
def keysTo : List Tok → List Nat
  | [] => []
  | t :: r => (match t.key with
    | some k => [k]
    | none => []) ++ keysTo r
def optNe (a b : Option Nat) : Bool := match a, b with
  | some x, some y => !(Nat.beq x y)
  | _, _ => true
def optNotIn (a : Option Nat) (l : List Nat) : Bool := match a with
  | some x => !(memN x l)
  | none => true
def bxKey (r : Res) : Option Nat := match r.bx with
  | some p => some p.1
  | none => none
def bxCells (r : Res) : List C := match r.bx with
  | some p => p.2
  | none => []
/-- a and then b may as well be b and then a -/
def apartB (ops : List Oper) (oa : Oper) (ra : Rec) (ob : Oper) (rb : Rec) : Bool :=
  optNe oa.dst ob.dst && optNotIn oa.dst (looks ops ob) && optNotIn ob.dst (looks ops oa) &&
  allC (newC ra.res) (cellsAVs rb.avs) && allC (newC ra.res) (bnCells rb.bn) && allC (fixC rb.res) (cellsAVs ra.avs) && allC (fixC rb.res) (bnCells ra.bn) &&
  allC (fixC ra.res) rb.res.av.cells && allC (fixC ra.res) (bxCells rb.res) && allC (fixC rb.res) ra.res.av.cells && allC (fixC rb.res) (bxCells ra.res) &&
  disjN (rlKeys ra.res.rl) (rlKeys rb.res.rl ++ keysTo (rlTo rb.res.rl)) && disjN (rlKeys rb.res.rl) (keysTo (rlTo ra.res.rl)) &&
  optNe (bxKey ra.res) (bxKey rb.res) && optNotIn (bxKey ra.res) (bkeysC (cellsAVs rb.avs)) && optNotIn (bxKey rb.res) (bkeysC (cellsAVs ra.avs)) && noPut ra.res.rl && noPut rb.res.rl

section
theorem AV.map_map (f g : C → C) (v : AV) : (v.map f).map g = v.map (g ∘ f) := by
  cases v <;> simp [AV.map, Function.comp_def]
theorem AV.map_id' {f : C → C} {v : AV} (h : ∀ c, c ∈ v.cells → f c = c) : v.map f = v := by
  cases v with
  | one c => simp [AV.map, h c (by simp [AV.cells])]
  | agg cs =>
    simp only [AV.map]
    congr 1
    exact (List.map_congr_left fun c hc => h c hc).trans (List.map_id' cs)
  | tup l =>
    simp only [AV.map]
    congr 1
    refine (List.map_congr_left fun p hp => ?_).trans (List.map_id' l)
    obtain ⟨a, cs⟩ := p
    have : cs.map f = cs := (List.map_congr_left fun c hc => h c (by simp only [AV.cells, List.mem_flatMap]; exact ⟨_, hp, hc⟩)).trans (List.map_id' cs)
    simp [this]
theorem AV.map_inj' {f : C → C} {v u : AV} (h : v.map f = u) (hn : ∀ c0 c, f c0 = c → c ∈ u.cells → c0 = c) : v = u := by
  have key : ∀ (l m : List C), l.map f = m → (∀ c, c ∈ m → c ∈ u.cells) → l = m := by
    intro l
    induction l with
    | nil => intro m h _; exact h
    | cons c l ih =>
      intro m h hm
      cases m with
      | nil => cases h
      | cons d m =>
        simp only [List.map_cons, List.cons.injEq] at h
        rw [hn c d h.1 (hm d (by simp)), ih m h.2 fun c hc => hm c (by simp [hc])]
  cases v with
  | one c =>
    simp only [AV.map] at h
    subst h
    exact congrArg AV.one (hn c _ rfl (by simp [AV.cells]))
  | agg cs =>
    simp only [AV.map] at h
    subst h
    exact congrArg AV.agg (key cs _ rfl fun c hc => hc)
  | tup l =>
    simp only [AV.map] at h
    subst h
    congr 1
    have : ∀ (ps : List (Bool × List C)), (∀ p, p ∈ ps → p ∈ l) → ps = ps.map fun p => (p.1, p.2.map f) := by
      intro ps
      induction ps with
      | nil => intro _; rfl
      | cons p ps ih =>
        intro hp
        obtain ⟨a, cs⟩ := p
        simp only [List.map_cons]
        rw [← ih fun p hq => hp p (by simp [hq])]
        congr 2
        exact key cs _ rfl fun c hc => by
          simp only [AV.cells, List.mem_flatMap, List.mem_map]
          exact ⟨(a, cs.map f), ⟨(a, cs), hp _ (by simp), rfl⟩, hc⟩
    exact this l fun p hp => hp

theorem get_rlKeys {rl : List (Nat × Option Tok)} {k : Nat} : k ∉ rlKeys rl → get rl k = none := by
  induction rl with
  | nil => intro _; rfl
  | cons p r ih =>
    intro h
    simp only [rlKeys, List.mem_cons, not_or] at h
    obtain ⟨a, b⟩ := p
    simp only [get]
    rw [if_neg fun e => h.1 e.symm]
    exact ih h.2
theorem rlTo_mem {rl : List (Nat × Option Tok)} {k : Nat} {t : Tok} : get rl k = some (some t) → t ∈ rlTo rl ∧ k ∈ rlKeys rl := by
  induction rl with
  | nil => intro h; cases h
  | cons p r ih =>
    intro h
    obtain ⟨a, b⟩ := p
    simp only [get] at h
    split at h
    · rename_i e
      obtain rfl := Option.some.inj h
      exact ⟨by simp [rlTo], by simp [rlKeys, e]⟩
    · obtain ⟨h1, h2⟩ := ih h
      refine ⟨?_, by simp [rlKeys, h2]⟩
      cases b <;> simp [rlTo, h1]
theorem sameTok_refl (t : Tok) (ht : notPut t = true) : sameTok t t = true := by
  cases t with
  | own d k => cases d <;> simp [sameTok]
  | put => cases ht
  | _ => simp [sameTok]
theorem memTok_iff {t : Tok} (ht : notPut t = true) : ∀ {l : List Tok}, t ∈ l → memTok t l = true
  | x :: r, h => by
    rcases List.mem_cons.1 h with rfl | h
    · simp [memTok, sameTok_refl t ht]
    · simp [memTok, memTok_iff ht h]
theorem get_noPut {rl : List (Nat × Option Tok)} {k : Nat} {t : Tok} (hp : noPut rl = true) : get rl k = some (some t) → notPut t = true := by
  induction rl with
  | nil => intro h; cases h
  | cons p r ih =>
    intro h
    obtain ⟨a, b⟩ := p
    have hr : noPut r = true ∧ (∀ t, b = some t → notPut t = true) := by
      cases b with
      | none => exact ⟨hp, fun t e => by cases e⟩
      | some t => simp only [noPut, Bool.and_eq_true] at hp; exact ⟨hp.2, fun t' e => by cases e; exact hp.1⟩
    simp only [get] at h
    split at h
    · exact hr.2 t (Option.some.inj h)
    · exact ih hr.1 h
theorem putSlc_self (t : Tok) (n : Nat) (l : List (List PV)) : putSlc t n l t = .slc t n l := by cases t <;> rfl
theorem putRp_self (t : Tok) (cs : List PV) : putRp t cs t = .rptr t cs := by cases t <;> rfl
theorem putSlc_not {t' : Tok} (h : notPut t' = true) (t : Tok) (n : Nat) (l : List (List PV)) : putSlc t n l t' = .slc t' n l := by cases t' <;> first | rfl | cases h
theorem putRp_not {t' : Tok} (h : notPut t' = true) (t : Tok) (cs : List PV) : putRp t cs t' = .rptr t' cs := by cases t' <;> first | rfl | cases h
/-- what becomes of a token: itself, or no store -/
theorem relT_cases {rl : List (Nat × Option Tok)} (hp : noPut rl = true) {t t' : Tok} (h : relT rl t = some t') : t' = t ∨ notPut t' = true := by
  unfold relT at h
  split at h
  · exact .inl (Option.some.inj h).symm
  · split at h
    · exact .inl (Option.some.inj h).symm
    · rename_i x hg
      subst h
      exact .inr (get_noPut hp hg)
theorem putSlc_rel {rl : List (Nat × Option Tok)} (hp : noPut rl = true) {t t' : Tok} (h : relT rl t = some t') (n : Nat) (l : List (List PV)) : putSlc t n l t' = .slc t' n l := by
  rcases relT_cases hp h with rfl | h
  · exact putSlc_self _ n l
  · exact putSlc_not h t n l
theorem putRp_rel {rl : List (Nat × Option Tok)} (hp : noPut rl = true) {t t' : Tok} (h : relT rl t = some t') (cs : List PV) : putRp t cs t' = .rptr t' cs := by
  rcases relT_cases hp h with rfl | h
  · exact putRp_self _ cs
  · exact putRp_not h t cs
theorem keysTo_mem {t : Tok} {k : Nat} (hk : t.key = some k) : ∀ {l : List Tok}, t ∈ l → k ∈ keysTo l
  | x :: r, h => by
    simp only [keysTo]
    rcases List.mem_cons.1 h with rfl | h
    · exact List.mem_append_left _ (by rw [hk]; simp)
    · exact List.mem_append_right _ (keysTo_mem hk h)
theorem memN_false {k : Nat} {l : List Nat} (h : memN k l = false) : k ∉ l := fun hm => by rw [memN_iff.2 hm] at h; cases h
theorem hasKey_map {b : Nat} : ∀ {caps : List (Nat × Nat)}, b ∉ caps.map (·.1) → hasKey b caps = false
  | [], _ => rfl
  | c :: r, h => by
    simp only [List.map_cons, List.mem_cons, not_or] at h
    simp only [hasKey, Bool.or_eq_false_iff]
    exact ⟨beq_ne fun e => h.1 e.symm, hasKey_map h.2⟩
theorem fixC_ok {r : Res} {c : C} (h : fixC r c = true) : relC r.rl r.kb c = c := by
  simp only [fixC, Bool.and_eq_true] at h
  obtain ⟨h1, h2⟩ := h
  have hT : ∀ t : Tok, (match t.key with | some k => !(memN k (rlKeys r.rl)) | none => true) = true → relT r.rl t = some t := by
    intro t ht
    unfold relT
    cases hk : t.key with
    | none => rfl
    | some k =>
      rw [hk] at ht
      simp only [Bool.not_eq_true'] at ht
      simp only [get_rlKeys (memN_false ht)]
  cases c with
  | slc t n l => simp only [relC, hT t h1, putSlc_self]
  | rptr t cs => simp only [relC, hT t h1, putRp_self]
  | ept d k n i o cs =>
    have hk : get r.rl k = none := get_rlKeys (memN_false (by simpa [C.key] using h1))
    simp only [relC, hk]
  | ptr k off =>
    cases hb : r.kb with
    | none => rfl
    | some b =>
      rw [hb] at h2
      simp only [Bool.not_eq_true', C.bkeys] at h2
      have := memN_false h2
      simp only [relC, beq_ne (a := k) (b := b) fun e => this (by simp [e]), cond_false]
  | fn f caps =>
    cases hb : r.kb with
    | none => rfl
    | some b =>
      rw [hb] at h2
      simp only [Bool.not_eq_true', C.bkeys] at h2
      simp only [relC, hasKey_map (memN_false h2), cond_false]
  | _ => rfl
theorem newC_ok {r : Res} {c0 c : C} (h : relC r.rl r.kb c0 = c) (hn : newC r c = true) : c0 = c := by
  simp only [newC, Bool.and_eq_true] at hn
  obtain ⟨hp, hn⟩ := hn
  have hT : ∀ t t' : Tok, relT r.rl t = some t' → memTok t' (rlTo r.rl) = false → t = t' := by
    intro t t' ht hm
    unfold relT at ht
    cases hk : t.key with
    | none => rw [hk] at ht; exact Option.some.inj ht
    | some k =>
      rw [hk] at ht
      simp only [] at ht
      cases hg : get r.rl k with
      | none => rw [hg] at ht; exact Option.some.inj ht
      | some x =>
        rw [hg] at ht
        simp only [] at ht
        subst ht
        rw [memTok_iff (get_noPut hp hg) (rlTo_mem hg).1] at hm
        cases hm
  cases c0 with
  | slc t n l =>
    simp only [relC] at h
    split at h
    · rename_i t' ht
      rw [putSlc_rel hp ht] at h
      subst h
      simp only [Bool.not_eq_true'] at hn
      rw [hT t t' ht hn]
    · subst h; cases hn
  | rptr t cs =>
    simp only [relC] at h
    split at h
    · rename_i t' ht
      rw [putRp_rel hp ht] at h
      subst h
      simp only [Bool.not_eq_true'] at hn
      rw [hT t t' ht hn]
    · subst h; cases hn
  | ept d k n i o cs =>
    simp only [relC] at h
    split at h
    · exact h
    · rename_i t' hg
      have hm := memTok_iff (get_noPut hp hg) (rlTo_mem hg).1
      split at h
      · subst h; simp [hm] at hn
      · subst h; simp [hm] at hn
      · subst h; cases hn
    · subst h; cases hn
  | ptr k off =>
    simp only [relC] at h
    split at h
    · exact h
    · rename_i b hb
      cases hkb : Nat.beq k b with
      | true => rw [hkb] at h; subst h; cases hn
      | false => rw [hkb] at h; exact h
  | fn f caps =>
    simp only [relC] at h
    split at h
    · exact h
    · rename_i b hb
      cases hkb : hasKey b caps with
      | true => rw [hkb] at h; subst h; cases hn
      | false => rw [hkb] at h; exact h
  | _ => exact h
theorem relC_comm {ra rb : Res} (h1 : disjN (rlKeys ra.rl) (rlKeys rb.rl ++ keysTo (rlTo rb.rl)) = true) (h2 : disjN (rlKeys rb.rl) (keysTo (rlTo ra.rl)) = true) (p1 : noPut ra.rl = true) (p2 : noPut rb.rl = true) (c : C) : relC rb.rl rb.kb (relC ra.rl ra.kb c) = relC ra.rl ra.kb (relC rb.rl rb.kb c) := by
  have hT : ∀ t : Tok, (relT ra.rl t).bind (relT rb.rl) = (relT rb.rl t).bind (relT ra.rl) := by
    have gen : ∀ (r r' : Res), disjN (rlKeys r.rl) (rlKeys r'.rl) = true → disjN (rlKeys r'.rl) (keysTo (rlTo r.rl)) = true → ∀ (t : Tok) (k : Nat) (x : Option Tok), t.key = some k → get r.rl k = some x → (relT r.rl t).bind (relT r'.rl) = (relT r'.rl t).bind (relT r.rl) := by
      intro r r' d1 d2 t k x hk hx
      have hka : k ∈ rlKeys r.rl := Classical.byContradiction fun hn => by rw [get_rlKeys hn] at hx; cases hx
      have hkb : get r'.rl k = none := get_rlKeys (disjN_iff d1 k hka)
      have e1 : relT r.rl t = x := by unfold relT; rw [hk]; simp only [hx]
      have e2 : relT r'.rl t = some t := by unfold relT; rw [hk]; simp only [hkb]
      rw [e1, e2]
      simp only [Option.bind_some, e1]
      cases x with
      | none => rfl
      | some t' =>
        simp only [Option.bind_some]
        unfold relT
        cases hk' : t'.key with
        | none => rfl
        | some k' =>
          have hm := keysTo_mem hk' (rlTo_mem hx).1
          have hn : k' ∉ rlKeys r'.rl := fun h => disjN_iff d2 k' h hm
          simp only [get_rlKeys hn]
    have d11 : disjN (rlKeys ra.rl) (rlKeys rb.rl) = true := by
      revert h1
      generalize rlKeys ra.rl = l
      induction l with
      | nil => intro _; rfl
      | cons x l ih =>
        intro h
        simp only [disjN, Bool.and_eq_true, Bool.not_eq_true'] at h ⊢
        refine ⟨?_, ih h.2⟩
        cases hm : memN x (rlKeys rb.rl) with
        | false => rfl
        | true => exact absurd (List.mem_append_left _ (memN_iff.1 hm)) (memN_false h.1)
    have d12 : disjN (rlKeys ra.rl) (keysTo (rlTo rb.rl)) = true := by
      revert h1
      generalize rlKeys ra.rl = l
      induction l with
      | nil => intro _; rfl
      | cons x l ih =>
        intro h
        simp only [disjN, Bool.and_eq_true, Bool.not_eq_true'] at h ⊢
        refine ⟨?_, ih h.2⟩
        cases hm : memN x (keysTo (rlTo rb.rl)) with
        | false => rfl
        | true => exact absurd (List.mem_append_right _ (memN_iff.1 hm)) (memN_false h.1)
    have d21 : disjN (rlKeys rb.rl) (rlKeys ra.rl) = true := by
      have hx : ∀ x, x ∈ rlKeys rb.rl → x ∉ rlKeys ra.rl := fun x hb ha => disjN_iff d11 x ha hb
      revert hx
      generalize rlKeys rb.rl = l
      induction l with
      | nil => intro _; rfl
      | cons x l ih =>
        intro hx
        simp only [disjN, Bool.and_eq_true, Bool.not_eq_true']
        refine ⟨?_, ih fun y hy => hx y (by simp [hy])⟩
        cases hm : memN x (rlKeys ra.rl) with
        | false => rfl
        | true => exact absurd (memN_iff.1 hm) (hx x (by simp))
    intro t
    cases hk : t.key with
    | none =>
      have e1 : relT ra.rl t = some t := by unfold relT; rw [hk]
      have e2 : relT rb.rl t = some t := by unfold relT; rw [hk]
      rw [e1, e2]; simp [e1, e2]
    | some k =>
      cases ha : get ra.rl k with
      | some x => exact gen ra rb d11 h2 t k x hk ha
      | none =>
        cases hb : get rb.rl k with
        | some x => exact (gen rb ra d21 d12 t k x hk hb).symm
        | none =>
          have e1 : relT ra.rl t = some t := by unfold relT; rw [hk]; simp only [ha]
          have e2 : relT rb.rl t = some t := by unfold relT; rw [hk]; simp only [hb]
          rw [e1, e2]; simp [e1, e2]
  have hs : ∀ (x y : List (Nat × Option Tok)), noPut x = true → noPut y = true → ∀ (kx ky : Option Nat) (t : Tok) (n : Nat) (l : List (List PV)), relC y ky (relC x kx (.slc t n l)) = (match (relT x t).bind (relT y) with | some t' => .slc t' n l | none => .dead) := by
    intro x y px py kx ky t n l
    simp only [relC]
    cases hx : relT x t with
    | none => rfl
    | some t' =>
      simp only [putSlc_rel px hx, Option.bind_some]
      cases hy : relT y t' with
      | none => simp only [hy]
      | some t2 => simp only [hy, putSlc_rel py hy]
  have hp : ∀ (x y : List (Nat × Option Tok)), noPut x = true → noPut y = true → ∀ (kx ky : Option Nat) (t : Tok) (cs : List PV), relC y ky (relC x kx (.rptr t cs)) = (match (relT x t).bind (relT y) with | some t' => .rptr t' cs | none => .dead) := by
    intro x y px py kx ky t cs
    simp only [relC]
    cases hx : relT x t with
    | none => rfl
    | some t' =>
      simp only [putRp_rel px hx, Option.bind_some]
      cases hy : relT y t' with
      | none => simp only [hy]
      | some t2 => simp only [hy, putRp_rel py hy]
  have he : ∀ (r r' : Res), (∀ x, x ∈ rlKeys r'.rl → x ∉ keysTo (rlTo r.rl)) → ∀ (d : Bool) (k n i o : Nat) (cs : List PV), get r'.rl k = none → relC r'.rl r'.kb (relC r.rl r.kb (.ept d k n i o cs)) = relC r.rl r.kb (relC r'.rl r'.kb (.ept d k n i o cs)) := by
    intro r r' dd d k n i o cs hg
    have e1 : relC r'.rl r'.kb (.ept d k n i o cs) = .ept d k n i o cs := by simp only [relC, hg]
    rw [e1]
    have key : ∀ y, relC r.rl r.kb (.ept d k n i o cs) = y → relC r'.rl r'.kb y = y → relC r'.rl r'.kb (relC r.rl r.kb (.ept d k n i o cs)) = relC r.rl r.kb (.ept d k n i o cs) := fun y h1 h2 => by rw [h1, h2]
    cases hx : get r.rl k with
    | none => exact key _ (by simp only [relC, hx]) e1
    | some x =>
      cases x with
      | none => exact key .dead (by simp only [relC, hx]) rfl
      | some t' =>
        cases t' with
        | sh => exact key (.rptr .sh cs) (by simp only [relC, hx]) rfl
        | vw k' =>
          have hm := keysTo_mem (t := .vw k') rfl (rlTo_mem hx).1
          have hn : get r'.rl k' = none := get_rlKeys fun h => dd k' h hm
          exact key (.rptr (.vw k') cs) (by simp only [relC, hx]) (by simp only [relC, relT, Tok.key, hn, putRp])
        | emp | own | put => exact key .dead (by simp only [relC, hx]) rfl
  cases c with
  | slc t n l => rw [hs _ _ p1 p2, hs _ _ p2 p1, hT]
  | rptr t cs => rw [hp _ _ p1 p2, hp _ _ p2 p1, hT]
  | ept d k n i o cs =>
    cases hg : get rb.rl k with
    | none => exact he ra rb (fun x hx => disjN_iff h2 x hx) d k n i o cs hg
    | some x =>
      have hkb : k ∈ rlKeys rb.rl := Classical.byContradiction fun hn => by rw [get_rlKeys hn] at hg; cases hg
      have hga : get ra.rl k = none := get_rlKeys fun ha => disjN_iff h1 k ha (List.mem_append_left _ hkb)
      exact (he rb ra (fun x hx hm => disjN_iff h1 x hx (List.mem_append_right _ hm)) d k n i o cs hga).symm
  | ptr k off =>
    cases ra.kb with
    | none => cases rb.kb with
      | none => rfl
      | some y => simp only [relC]; cases h1 : Nat.beq k y <;> simp [relC]
    | some x =>
      cases rb.kb with
      | none => simp only [relC]; cases h1 : Nat.beq k x <;> simp [relC]
      | some y => simp only [relC]; cases h1 : Nat.beq k x <;> cases h2 : Nat.beq k y <;> simp [relC, h1, h2]
  | fn f caps =>
    cases ra.kb with
    | none => cases rb.kb with
      | none => rfl
      | some y => simp only [relC]; cases h1 : hasKey y caps <;> simp [relC]
    | some x =>
      cases rb.kb with
      | none => simp only [relC]; cases h1 : hasKey x caps <;> simp [relC]
      | some y => simp only [relC]; cases h1 : hasKey x caps <;> cases h2 : hasKey y caps <;> simp [relC, h1, h2]
  | _ => rfl

/-! ### looks behind a step -/
def M (r : Res) (v : AV) : AV := v.map (relC r.rl r.kb)
def ML (r : Res) (l : List C) : List C := l.map (relC r.rl r.kb)
theorem relC_id : relC [] none = id := by
  funext c
  cases c with
  | slc t n l => cases t <;> rfl
  | rptr t cs => cases t <;> rfl
  | _ => rfl
theorem step_tm (s : St) (dst : Option Nat) (r : Res) (t : Nat) : get (s.step dst r).tm t = if dst = some t then some r.av else (get s.tm t).map (M r) := by
  have h : get (match r.rl, r.kb with | [], none => s | rl, kb => s.map (relC rl kb)).tm t = (get s.tm t).map (M r) := by
    unfold M
    split
    · rename_i e1 e2
      rw [e1, e2, relC_id]
      cases get s.tm t with
      | none => rfl
      | some v => rw [Option.map_some, AV.map_id' (f := id) fun c _ => rfl]
    · simp only [St.map, get_map (AV.map _)]
  cases dst with
  | none => simp only [St.step]; rw [if_neg (by simp)]; exact h
  | some d =>
    simp only [St.step, get_ins, Option.some.injEq]
    split
    · rfl
    · exact h
theorem step_bx (s : St) (dst : Option Nat) (r : Res) (k : Nat) : get (s.step dst r).bx k = if bxKey r = some k then some (bxCells r) else (get s.bx k).map (ML r) := by
  have h : get (match r.rl, r.kb with | [], none => s | rl, kb => s.map (relC rl kb)).bx k = (get s.bx k).map (ML r) := by
    unfold ML
    split
    · rename_i e1 e2
      rw [e1, e2, relC_id]
      cases get s.bx k <;> simp
    · simp only [St.map, get_map (List.map _)]
  unfold bxKey bxCells
  simp only [St.step]
  cases r.bx with
  | none => simp only []; rw [if_neg (by simp)]; exact h
  | some p =>
    obtain ⟨x, y⟩ := p
    simp only [get_ins, Option.some.injEq]
    split
    · rfl
    · exact h

section
variable {tt : List (Nat × TI)} {N : Nat} {orc : Orc} {ops : List Oper}
/-- what an operation looks at is the same -/
structure SameLooks (ops : List Oper) (o : Oper) (s t : St) : Prop where
  tm : ∀ x, x ∈ looks ops o → get s.tm x = get t.tm x
  bx : ∀ vs, opAVs s o.op.operands.toList = some vs → ∀ k, k ∈ bkeysC (cellsAVs vs) → get s.bx k = get t.bx k
theorem opAVs_same {s t : St} : ∀ {xs : List Operand}, (∀ x, x ∈ tmpsOf xs → get s.tm x = get t.tm x) → opAVs s xs = opAVs t xs
  | [], _ => rfl
  | x :: r, h => by
    have h2 : opAVs s r = opAVs t r := opAVs_same fun y hy => h y (by cases x <;> simp [tmpsOf, hy])
    have h1 : opAV s x = opAV t x := by
      cases x with
      | tmp y => exact h y (by simp [tmpsOf])
      | _ => rfl
    simp only [opAVs, h1, h2]
theorem boxesOf_same {s t : St} : ∀ {ks : List Nat}, (∀ k, k ∈ ks → get s.bx k = get t.bx k) → boxesOf s ks = boxesOf t ks
  | [], _ => rfl
  | k :: r, h => by simp only [boxesOf, h k (by simp), boxesOf_same (ks := r) fun x hx => h x (by simp [hx])]
theorem mkRec_same {o : Oper} {s t : St} (h : SameLooks ops o s t) : mkRec tt N orc ops s o = mkRec tt N orc ops t o := by
  have h1 : opAVs s o.op.operands.toList = opAVs t o.op.operands.toList := opAVs_same fun x hx => h.tm x (List.mem_append_left _ hx)
  have h2 : guardOf ops s o = guardOf ops t o := by
    unfold guardOf
    cases hg : o.guard with
    | none => rfl
    | some g =>
      obtain ⟨j, want⟩ := g
      simp only []
      cases hj : ops[j]? with
      | none => rfl
      | some oj =>
        simp only []
        cases hd : oj.dst with
        | none => rfl
        | some x => simp only [h.tm x (List.mem_append_right _ (by simp [hg, hj, hd]))]
  unfold mkRec
  rw [h2, h1]
  cases hv : opAVs t o.op.operands.toList with
  | none => rfl
  | some vs => simp only [boxesOf_same (h.bx vs (h1.trans hv))]
theorem opAVs_get {s : St} : ∀ {xs : List Operand} {vs : List AV}, opAVs s xs = some vs → ∀ x, x ∈ tmpsOf xs → ∃ v, get s.tm x = some v ∧ ∀ c, c ∈ v.cells → c ∈ cellsAVs vs
  | [], vs, _, x, hx => by simp [tmpsOf] at hx
  | y :: r, vs, h, x, hx => by
    simp only [opAVs] at h
    split at h
    · rename_i v vs' e1 e2
      obtain rfl := Option.some.inj h
      have hr : x ∈ tmpsOf r → ∃ v, get s.tm x = some v ∧ ∀ c, c ∈ v.cells → c ∈ cellsAVs (‹AV› :: vs') := fun hx => by
        obtain ⟨u, h1, h2⟩ := opAVs_get e2 x hx
        exact ⟨u, h1, fun c hc => by simp only [cellsAVs]; exact List.mem_append_right _ (h2 c hc)⟩
      cases y with
      | tmp y =>
        simp only [tmpsOf, List.mem_cons] at hx
        rcases hx with rfl | hx
        · exact ⟨v, e1, fun c hc => by simp only [cellsAVs]; exact List.mem_append_left _ hc⟩
        · obtain ⟨u, h1, h2⟩ := opAVs_get e2 x hx
          exact ⟨u, h1, fun c hc => by simp only [cellsAVs]; exact List.mem_append_right _ (h2 c hc)⟩
      | const z =>
        obtain ⟨u, h1, h2⟩ := opAVs_get e2 x hx
        exact ⟨u, h1, fun c hc => by simp only [cellsAVs]; exact List.mem_append_right _ (h2 c hc)⟩
      | global z =>
        obtain ⟨u, h1, h2⟩ := opAVs_get e2 x hx
        exact ⟨u, h1, fun c hc => by simp only [cellsAVs]; exact List.mem_append_right _ (h2 c hc)⟩
      | func z =>
        obtain ⟨u, h1, h2⟩ := opAVs_get e2 x hx
        exact ⟨u, h1, fun c hc => by simp only [cellsAVs]; exact List.mem_append_right _ (h2 c hc)⟩
    · cases h
theorem boxesOf_mem {s : St} {k : Nat} {cs : List C} : ∀ {ks : List Nat}, k ∈ ks → get s.bx k = some cs → ∀ c, c ∈ cs → c ∈ bnCells (boxesOf s ks)
  | x :: r, hk, hg, c, hc => by
    simp only [boxesOf]
    rcases List.mem_cons.1 hk with rfl | hk
    · rw [hg]; simp [bnCells, hc]
    · have := boxesOf_mem hk hg c hc
      split
      · simp [bnCells, this]
      · exact this

theorem mkRec_of {o : Oper} {s t : St} {ρ : Rec} (hg : guardOf ops t o = guardOf ops s o) (h : mkRec tt N orc ops s o = some ρ)
    (hk : ∀ vs, ρ.avs = vs → opAVs s o.op.operands.toList = some vs → ρ.bn = boxesOf s (bkeysC (cellsAVs vs)) → opAVs t o.op.operands.toList = some vs ∧ boxesOf t (bkeysC (cellsAVs vs)) = boxesOf s (bkeysC (cellsAVs vs))) : mkRec tt N orc ops t o = some ρ := by
  unfold mkRec at h ⊢
  rw [hg]
  cases hd : dstOk N o.dst with
  | false => rw [hd] at h; cases h
  | true =>
    rw [hd] at h
    simp only [cond_true] at h ⊢
    split at h
    · split at h
      · rename_i vs hvs
        split at h
        · rename_i r obs he
          obtain rfl := Option.some.inj h
          obtain ⟨h1, h2⟩ := hk vs rfl hvs rfl
          simp only [h1, h2, he]
        · cases h
      · cases h
    · exact h
    · cases h
theorem putSlc_nb {t t' : Tok} {n : Nat} {l : List (List PV)} {b : Bool} (h : putSlc t n l t' = .bool b) : False := by
  cases t' with
  | put d m i o cs =>
    cases t with
    | own d0 k =>
      simp only [putSlc] at h
      cases hb : sameB d0 d && Nat.beq n m <;> rw [hb] at h <;> cases h
    | _ => cases h
  | _ => cases h
theorem putRp_nb {t t' : Tok} {cs : List PV} {b : Bool} (h : putRp t cs t' = .bool b) : False := by
  cases t' with
  | put => cases t <;> cases h
  | _ => cases h
theorem relC_bool {rl : List (Nat × Option Tok)} {kb : Option Nat} {c : C} {b : Bool} : relC rl kb c = .bool b ↔ c = .bool b := by
  constructor
  · intro h
    cases c with
    | slc t n l =>
      simp only [relC] at h
      split at h
      · exact (putSlc_nb h).elim
      · cases h
    | rptr t cs =>
      simp only [relC] at h
      split at h
      · exact (putRp_nb h).elim
      · cases h
    | ept d k n i o cs =>
      simp only [relC] at h
      split at h
      · cases h
      · split at h <;> cases h
      · cases h
    | ptr k off =>
      simp only [relC] at h
      split at h
      · cases h
      · rename_i x y; cases hk : Nat.beq k y <;> rw [hk] at h <;> cases h
    | fn f caps =>
      simp only [relC] at h
      split at h
      · cases h
      · rename_i x y; cases hk : hasKey y caps <;> rw [hk] at h <;> cases h
    | _ => exact h
  · intro h; subst h; rfl
theorem guard_step {o : Oper} {s : St} {dst : Option Nat} {r : Res} (hd : ∀ x, x ∈ looks ops o → dst ≠ some x) : guardOf ops (s.step dst r) o = guardOf ops s o := by
  unfold guardOf
  cases hg : o.guard with
  | none => rfl
  | some g =>
    obtain ⟨j, want⟩ := g
    simp only []
    cases hj : ops[j]? with
    | none => rfl
    | some oj =>
      simp only []
      cases hdj : oj.dst with
      | none => rfl
      | some x =>
        have hx : dst ≠ some x := hd x (List.mem_append_right _ (by simp [hg, hj, hdj]))
        simp only [step_tm, if_neg hx]
        cases hv : get s.tm x with
        | none => rfl
        | some v =>
          simp only [Option.map_some]
          cases v with
          | one c =>
            simp only [M, AV.map]
            cases c with
            | bool b => rfl
            | _ =>
              generalize hc : relC r.rl r.kb _ = c'
              cases c' with
              | bool b => exact absurd (relC_bool.1 hc) (by simp)
              | _ => rfl
          | agg cs => rfl
          | tup l => cases l <;> rfl
theorem fixA {r : Res} {v : AV} (h : ∀ c, c ∈ v.cells → fixC r c = true) : M r v = v := AV.map_id' fun c hc => fixC_ok (h c hc)
theorem fixL {r : Res} {l : List C} (h : ∀ c, c ∈ l → fixC r c = true) : ML r l = l := (List.map_congr_left fun c hc => fixC_ok (h c hc)).trans (List.map_id' l)
theorem newA {r : Res} {v u : AV} (h : M r v = u) (hn : ∀ c, c ∈ u.cells → newC r c = true) : v = u := AV.map_inj' h fun _ c hc hm => newC_ok hc (hn c hm)
theorem newL {r : Res} : ∀ {l m : List C}, ML r l = m → (∀ c, c ∈ m → newC r c = true) → l = m
  | [], m, h, _ => h
  | c :: l, m, h, hn => by
    cases m with
    | nil => cases h
    | cons d m =>
      simp only [ML, List.map_cons, List.cons.injEq] at h
      rw [newC_ok h.1 (hn d (by simp)), newL (l := l) h.2 fun c hc => hn c (by simp [hc])]
theorem optNotIn_ok {a : Option Nat} {l : List Nat} (h : optNotIn a l = true) : ∀ x, x ∈ l → a ≠ some x := fun x hx e => by
  subst e
  simp only [optNotIn, Bool.not_eq_true'] at h
  exact memN_false h hx
theorem tmp_looks {o : Oper} {x : Nat} (h : x ∈ tmpsOf o.op.operands.toList) : x ∈ looks ops o := List.mem_append_left _ h

/-- looked at before another step: the same -/
theorem rec_back {o : Oper} {s : St} {dst : Option Nat} {r : Res} {ρ : Rec} (h : mkRec tt N orc ops (s.step dst r) o = some ρ) (hd : optNotIn dst (looks ops o) = true) (h1 : allC (newC r) (cellsAVs ρ.avs) = true) (h2 : allC (newC r) (bnCells ρ.bn) = true) (h3 : optNotIn (bxKey r) (bkeysC (cellsAVs ρ.avs)) = true) : mkRec tt N orc ops s o = some ρ := by
  have hd' := optNotIn_ok hd
  refine mkRec_of (guard_step hd').symm h fun vs hvs hop hbn => ?_
  subst hvs
  rw [hbn] at h2
  have hop' : ∀ (xs : List Operand) (vs : List AV), (∀ x, x ∈ tmpsOf xs → dst ≠ some x) → (∀ c, c ∈ cellsAVs vs → newC r c = true) → opAVs (s.step dst r) xs = some vs → opAVs s xs = some vs := by
    intro xs
    induction xs with
    | nil => intro vs _ _ h; exact h
    | cons x xs ih =>
      intro vs hx hn h
      simp only [opAVs] at h ⊢
      split at h
      · rename_i v vs' e1 e2
        obtain rfl := Option.some.inj h
        have hxs := ih vs' (fun y hy => hx y (by cases x <;> simp [tmpsOf, hy])) (fun c hc => hn c (by simp only [cellsAVs]; exact List.mem_append_right _ hc)) e2
        have h0 : opAV s x = some v := by
          cases x with
          | tmp y =>
            have e1 : get (s.step dst r).tm y = some v := e1
            rw [step_tm, if_neg (hx y (by simp [tmpsOf]))] at e1
            obtain ⟨u, hu, hm⟩ := Option.map_eq_some_iff.1 e1
            show get s.tm y = some v
            rw [hu, newA hm fun c hc => hn c (by simp only [cellsAVs]; exact List.mem_append_left _ hc)]
          | _ => exact e1
        simp only [h0, hxs]
      · cases h
  have hv := hop' _ _ (fun x hx => hd' x (tmp_looks hx)) (allC_mem h1) hop
  refine ⟨hv, ?_⟩
  have : ∀ ks : List Nat, (∀ k, k ∈ ks → bxKey r ≠ some k) → (∀ c, c ∈ bnCells (boxesOf (s.step dst r) ks) → newC r c = true) → boxesOf s ks = boxesOf (s.step dst r) ks := by
    intro ks
    induction ks with
    | nil => intro _ _; rfl
    | cons k ks ih =>
      intro hk hn
      have e : get (s.step dst r).bx k = (get s.bx k).map (ML r) := by rw [step_bx, if_neg (hk k (by simp))]
      have hg : get s.bx k = get (s.step dst r).bx k := by
        rw [e]
        cases hc : get s.bx k with
        | none => rfl
        | some cs =>
          rw [hc] at e
          simp only [Option.map_some] at e ⊢
          exact congrArg some (newL (l := cs) rfl fun c hc' => hn c (boxesOf_mem (by simp) e c hc'))
      simp only [boxesOf, hg]
      split
      · rename_i cs hcs
        rw [ih (fun x hx => hk x (by simp [hx])) fun c hc => hn c (by simp [boxesOf, hcs, bnCells, hc])]
      · rename_i hcs
        exact ih (fun x hx => hk x (by simp [hx])) fun c hc => hn c (by simp [boxesOf, hcs, hc])
  exact this _ (optNotIn_ok h3) (allC_mem h2)
/-- looked at behind another step: the same -/
theorem rec_fwd {o : Oper} {s : St} {dst : Option Nat} {r : Res} {ρ : Rec} (h : mkRec tt N orc ops s o = some ρ) (hd : optNotIn dst (looks ops o) = true) (h1 : allC (fixC r) (cellsAVs ρ.avs) = true) (h2 : allC (fixC r) (bnCells ρ.bn) = true) (h3 : optNotIn (bxKey r) (bkeysC (cellsAVs ρ.avs)) = true) : mkRec tt N orc ops (s.step dst r) o = some ρ := by
  have hd' := optNotIn_ok hd
  refine mkRec_of (guard_step hd') h fun vs hvs hop hbn => ?_
  subst hvs
  rw [hbn] at h2
  have hop' : ∀ (xs : List Operand) (vs : List AV), (∀ x, x ∈ tmpsOf xs → dst ≠ some x) → (∀ c, c ∈ cellsAVs vs → fixC r c = true) → opAVs s xs = some vs → opAVs (s.step dst r) xs = some vs := by
    intro xs
    induction xs with
    | nil => intro vs _ _ h; exact h
    | cons x xs ih =>
      intro vs hx hn h
      simp only [opAVs] at h ⊢
      split at h
      · rename_i v vs' e1 e2
        obtain rfl := Option.some.inj h
        have hxs := ih vs' (fun y hy => hx y (by cases x <;> simp [tmpsOf, hy])) (fun c hc => hn c (by simp only [cellsAVs]; exact List.mem_append_right _ hc)) e2
        have h0 : opAV (s.step dst r) x = some v := by
          cases x with
          | tmp y =>
            have e1 : get s.tm y = some v := e1
            show get (s.step dst r).tm y = some v
            rw [step_tm, if_neg (hx y (by simp [tmpsOf])), e1, Option.map_some, fixA fun c hc => hn c (by simp only [cellsAVs]; exact List.mem_append_left _ hc)]
          | _ => exact e1
        simp only [h0, hxs]
      · cases h
  refine ⟨hop' _ _ (fun x hx => hd' x (tmp_looks hx)) (allC_mem h1) hop, boxesOf_same fun k hk => ?_⟩
  rw [step_bx, if_neg (optNotIn_ok h3 k hk)]
  cases hc : get s.bx k with
  | none => rfl
  | some cs => rw [Option.map_some, fixL fun c hc' => allC_mem h2 c (boxesOf_mem hk hc c hc')]
theorem optNe_ok {a b : Option Nat} (h : optNe a b = true) : ∀ x, a = some x → b ≠ some x := fun x e e' => by
  subst e; subst e'
  simp [optNe] at h
/-- two steps change places -/
theorem swap_ok {oa ob : Oper} {ra rb : Rec} {s : St} (hap : apartB ops oa ra ob rb = true) {orca orcb : Orc} (ha : mkRec tt N orca ops s oa = some ra) (hb : mkRec tt N orcb ops (s.step oa.dst ra.res) ob = some rb) :
    mkRec tt N orcb ops s ob = some rb ∧ mkRec tt N orca ops (s.step ob.dst rb.res) oa = some ra ∧ ((s.step oa.dst ra.res).step ob.dst rb.res).eqv ((s.step ob.dst rb.res).step oa.dst ra.res) := by
  simp only [apartB, Bool.and_eq_true] at hap
  obtain ⟨⟨⟨⟨⟨⟨⟨⟨⟨⟨⟨⟨⟨⟨⟨⟨⟨d1, d2⟩, d3⟩, n1⟩, n2⟩, f1⟩, f2⟩, g1⟩, g2⟩, g3⟩, g4⟩, k1⟩, k2⟩, b1⟩, b2⟩, b3⟩, q1⟩, q2⟩ := hap
  have hcomm := relC_comm k1 k2 q1 q2
  refine ⟨rec_back hb d2 n1 n2 b2, rec_fwd ha d3 f1 f2 b3, fun t => ?_, fun k => ?_⟩
  · simp only [step_tm]
    by_cases ht : ob.dst = some t
    · rw [if_pos ht, if_neg (fun e => optNe_ok d1 t e ht), if_pos ht, Option.map_some, fixA (allC_mem g1)]
    · rw [if_neg ht, if_neg ht]
      by_cases ht' : oa.dst = some t
      · rw [if_pos ht', if_pos ht', Option.map_some, fixA (allC_mem g3)]
      · rw [if_neg ht', if_neg ht']
        cases get s.tm t with
        | none => rfl
        | some v =>
          simp only [Option.map_some, M, AV.map_map]
          congr 2
          funext c
          exact hcomm c
  · simp only [step_bx]
    by_cases ht : bxKey rb.res = some k
    · rw [if_pos ht, if_neg (fun e => optNe_ok b1 k e ht), if_pos ht, Option.map_some, fixL (allC_mem g2)]
    · rw [if_neg ht, if_neg ht]
      by_cases ht' : bxKey ra.res = some k
      · rw [if_pos ht', if_pos ht', Option.map_some, fixL (allC_mem g4)]
      · rw [if_neg ht', if_neg ht']
        cases get s.bx k with
        | none => rfl
        | some l =>
          simp only [Option.map_some, ML, List.map_map]
          congr 2
          funext c
          exact hcomm c
end
end
end Go.Proofs.YtjkfmihbmkbjfaaGreat
