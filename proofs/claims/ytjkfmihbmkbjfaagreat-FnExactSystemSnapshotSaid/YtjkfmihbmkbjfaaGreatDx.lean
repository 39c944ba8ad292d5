/- The rule for a region that draws its order. No program in sight. -/
import Derived.Test.YtjkfmihbmkbjfaaGreatDw
namespace Go.Proofs.YtjkfmihbmkbjfaaGreat
open Go.RowKit

abbrev Item3 := Nat × Oper × Rec
def edgesOf (o : Oper) : List Nat := (o.after.toList.filter fun e => Region.binds .any e).map (·.on)
def dedup : List Nat → List Nat
  | [] => []
  | x :: r => bif memN x r then dedup r else x :: dedup r
def nthN (l : List (List Nat)) (i : Nat) : List Nat := match l[i]? with
  | some x => x
  | none => []
def ancsGo : List Oper → List (List Nat) → List (List Nat)
  | [], acc => acc
  | o :: r, acc => ancsGo r (acc ++ [dedup (edgesOf o ++ (edgesOf o).flatMap fun e => nthN acc e)])
def allLt (i : Nat) : List Nat → Bool
  | [] => true
  | x :: r => Nat.blt x i && allLt i r
def edgesLt : List Oper → Nat → Bool
  | [], _ => true
  | o :: r, i => allLt i (edgesOf o) && edgesLt r (i + 1)
def allApart (ops : List Oper) (anc : List (List Nat)) (x : Item3) : List Item3 → Bool
  | [] => true
  | y :: r => (memN x.1 (nthN anc y.1) || apartB ops x.2.1 x.2.2 y.2.1 y.2.2) && allApart ops anc x r
def pairsOk (ops : List Oper) (anc : List (List Nat)) : List Item3 → Bool
  | [] => true
  | x :: r => allApart ops anc x r && pairsOk ops anc r
def runRec (tt : List (Nat × TI)) (N : Nat) (orcs : List (Nat × Orc)) (ops : List Oper) : List Oper → Nat → St → Option (St × List Item3)
  | [], _, s => some (s, [])
  | o :: r, i, s => match mkRec tt N (orcAt orcs i) ops s o with
    | some ρ => (match runRec tt N orcs ops r (i + 1) (s.step o.dst ρ.res) with
      | some (s', l) => some (s', (i, o, ρ) :: l)
      | none => none)
    | none => none
def obsOf : List Item3 → List Ob
  | [] => []
  | x :: r => x.2.2.obs ++ obsOf r
def runDraw (tt : List (Nat × TI)) (N : Nat) (orcs : List (Nat × Orc)) (ops : List Oper) (ts bs : List Nat) (s : St) : Option (St × List Ob) :=
  bif edgesLt ops 0 then
    match runRec tt N orcs ops ops 0 s with
    | some (s', l) => bif pairsOk ops (ancsGo ops []) l then some (s'.keep ts bs, obsOf l) else none
    | none => none
  else none

section
variable {P : Program} {tt : List (Nat × TI)} {N : Nat} {orcs : List (Nat × Orc)} {ops : Array Oper} {w0 : World} {F0 : Nat → Prop}

def Runs (tt : List (Nat × TI)) (N : Nat) (orcs : List (Nat × Orc)) (ops : List Oper) : List Item3 → St → St → Prop
  | [], s, s' => s.eqv s'
  | x :: r, s, s' => mkRec tt N (orcAt orcs x.1) ops s x.2.1 = some x.2.2 ∧ Runs tt N orcs ops r (s.step x.2.1.dst x.2.2.res) s'

theorem eqv_refl (s : St) : s.eqv s := ⟨fun _ => rfl, fun _ => rfl⟩
theorem eqv_symm {s t : St} (h : s.eqv t) : t.eqv s := ⟨fun x => (h.1 x).symm, fun x => (h.2 x).symm⟩
theorem eqv_trans {s t u : St} (h : s.eqv t) (h' : t.eqv u) : s.eqv u := ⟨fun x => (h.1 x).trans (h'.1 x), fun x => (h.2 x).trans (h'.2 x)⟩
theorem eqv_step {s t : St} (h : s.eqv t) (dst : Option Nat) (r : Res) : (s.step dst r).eqv (t.step dst r) := ⟨fun x => by rw [step_tm, step_tm, h.1 x], fun x => by rw [step_bx, step_bx, h.2 x]⟩
theorem mkRec_eqv {s t : St} (h : s.eqv t) {orc : Orc} {l : List Oper} (o : Oper) : mkRec tt N orc l s o = mkRec tt N orc l t o := mkRec_same ⟨fun x _ => h.1 x, fun _ _ k _ => h.2 k⟩
theorem runs_eqv : ∀ {l : List Item3} {s t s' : St}, s.eqv t → Runs tt N orcs ops.toList l s s' → Runs tt N orcs ops.toList l t s'
  | [], s, t, s', h, hr => eqv_trans (eqv_symm h) hr
  | x :: r, s, t, s', h, hr => ⟨(mkRec_eqv h _).symm.trans hr.1, runs_eqv (eqv_step h _ _) hr.2⟩
theorem runs_front {x : Item3} {post : List Item3} : ∀ {pre : List Item3} {s s' : St}, (∀ y, y ∈ pre → apartB ops.toList y.2.1 y.2.2 x.2.1 x.2.2 = true) → Runs tt N orcs ops.toList (pre ++ x :: post) s s' → Runs tt N orcs ops.toList (x :: (pre ++ post)) s s'
  | [], _, _, _, h => h
  | y :: pre, s, s', ha, h => by
    obtain ⟨hy, hr⟩ := h
    obtain ⟨hx, hr'⟩ := runs_front (fun z hz => ha z (List.mem_cons_of_mem _ hz)) hr
    obtain ⟨h1, h2, h3⟩ := swap_ok (ha y List.mem_cons_self) hy hx
    exact ⟨h1, h2, runs_eqv h3 hr'⟩
theorem runRec_runs : ∀ {l : List Oper} {i : Nat} {s s' : St} {R : List Item3}, runRec tt N orcs ops.toList l i s = some (s', R) → Runs tt N orcs ops.toList R s s' ∧ R.map (·.1) = List.range' i l.length ∧ R.map (·.2.1) = l
  | [], i, s, s', R, h => by
    obtain ⟨rfl, rfl⟩ : s = s' ∧ [] = R := by simpa [runRec] using h
    exact ⟨eqv_refl s, rfl, rfl⟩
  | o :: r, i, s, s', R, h => by
    simp only [runRec] at h
    split at h
    · rename_i ρ hρ
      split at h
      · rename_i s'' l' hr
        obtain ⟨rfl, rfl⟩ : s'' = s' ∧ (i, o, ρ) :: l' = R := by simpa using h
        obtain ⟨h1, h2, h3⟩ := runRec_runs hr
        exact ⟨⟨hρ, h1⟩, by simp [h2, List.range'_succ], by simp [h3]⟩
      · cases h
    · cases h

inductive Anc (ops : Array Oper) : Nat → Nat → Prop
  | one {x q : Nat} {o : Oper} : ops[q]? = some o → x ∈ edgesOf o → Anc ops x q
  | more {x e q : Nat} {o : Oper} : ops[q]? = some o → e ∈ edgesOf o → Anc ops x e → Anc ops x q
theorem mem_dedup {x : Nat} : ∀ {l : List Nat}, x ∈ dedup l → x ∈ l
  | [], h => h
  | y :: r, h => by
    simp only [dedup] at h
    cases hm : memN y r with
    | true => rw [hm] at h; exact List.mem_cons_of_mem _ (mem_dedup h)
    | false =>
      rw [hm] at h
      rcases List.mem_cons.1 h with rfl | h
      · exact List.mem_cons_self
      · exact List.mem_cons_of_mem _ (mem_dedup h)
theorem ancs_ok : ∀ {l : List Oper} {acc : List (List Nat)}, ops.toList.drop acc.length = l → (∀ q x, x ∈ nthN acc q → Anc ops x q) → ∀ q x, x ∈ nthN (ancsGo l acc) q → Anc ops x q
  | [], _, _, h, q, x, hx => h q x hx
  | o :: r, acc, hl, h, q, x, hx => by
    refine ancs_ok (l := r) (acc := acc ++ [dedup (edgesOf o ++ (edgesOf o).flatMap fun e => nthN acc e)]) ?_ ?_ q x hx
    · rw [List.length_append, List.length_singleton, ← List.drop_drop, hl]; rfl
    · intro q x hx
      have ho : ops[acc.length]? = some o := by
        have := congrArg (·[0]?) hl
        simpa using this
      unfold nthN at hx
      rcases Nat.lt_trichotomy q acc.length with hlt | he | hgt
      · rw [List.getElem?_append_left hlt] at hx
        exact h q x hx
      · subst he
        rw [List.getElem?_append_right (Nat.le_refl _), Nat.sub_self] at hx
        simp only [List.getElem?_cons_zero] at hx
        rcases List.mem_append.1 (mem_dedup hx) with hx | hx
        · exact .one ho hx
        · obtain ⟨e, he, hx⟩ := List.mem_flatMap.1 hx
          exact .more ho he (h e x hx)
      · rw [List.getElem?_eq_none (by simp; omega)] at hx
        simp at hx
theorem anc_listed {listed : Array Bool} (hc : ∀ (j : Nat) (o : Oper), ops[j]? = some o → listed.getD j false = true → ∀ e, e ∈ edgesOf o → listed.getD e false = true) {x q : Nat} (h : Anc ops x q) : (∀ o, ops[q]? = some o → ∀ e, e ∈ edgesOf o → listed.getD e false = true) → listed.getD x false = true := by
  induction h with
  | one ho hx => intro hq; exact hq _ ho _ hx
  | more ho he _ ih => intro hq; exact ih fun o' ho' e' he' => hc _ o' ho' (hq _ ho _ he) e' he'

theorem mem_edges {o : Oper} {e : Nat} : e ∈ edgesOf o ↔ ∃ x, x ∈ o.after ∧ Region.binds .any x = true ∧ x.on = e := by
  unfold edgesOf
  simp only [List.mem_map, List.mem_filter, Array.mem_toList_iff]
  exact ⟨fun ⟨x, ⟨h1, h2⟩, h3⟩ => ⟨x, h1, h2, h3⟩, fun ⟨x, h1, h2, h3⟩ => ⟨x, ⟨h1, h2⟩, h3⟩⟩
theorem allLt_ok {i : Nat} : ∀ {l : List Nat}, allLt i l = true → ∀ x, x ∈ l → x < i
  | [], _, x, hx => by simp at hx
  | y :: r, h, x, hx => by
    simp only [allLt, Bool.and_eq_true, Nat.blt_eq] at h
    rcases List.mem_cons.1 hx with rfl | hx
    · exact h.1
    · exact allLt_ok h.2 x hx
theorem edgesLt_ok : ∀ {l : List Oper} {i : Nat}, edgesLt l i = true → ∀ (j : Nat) (o : Oper), l[j]? = some o → ∀ e, e ∈ edgesOf o → e < i + j
  | [], _, _, j, o, h, _, _ => by simp at h
  | x :: r, i, h, j, o, hj, e, he => by
    simp only [edgesLt, Bool.and_eq_true] at h
    cases j with
    | zero => simp at hj; subst hj; exact allLt_ok h.1 e he
    | succ j => have := edgesLt_ok h.2 j o (by simpa using hj) e he; omega
theorem apart_of {anc : List (List Nat)} {x y : Item3} : ∀ {l : List Item3}, allApart ops.toList anc x l = true → y ∈ l → memN x.1 (nthN anc y.1) = true ∨ apartB ops.toList x.2.1 x.2.2 y.2.1 y.2.2 = true
  | z :: r, h, hy => by
    simp only [allApart, Bool.and_eq_true, Bool.or_eq_true] at h
    rcases List.mem_cons.1 hy with rfl | hy
    · exact h.1
    · exact apart_of h.2 hy
theorem pairs_pre {anc : List (List Nat)} {x : Item3} {post : List Item3} : ∀ {pre : List Item3}, pairsOk ops.toList anc (pre ++ x :: post) = true → ∀ y, y ∈ pre → memN y.1 (nthN anc x.1) = true ∨ apartB ops.toList y.2.1 y.2.2 x.2.1 x.2.2 = true
  | [], _, y, hy => by simp at hy
  | z :: pre, h, y, hy => by
    rw [List.cons_append] at h
    simp only [pairsOk, Bool.and_eq_true] at h
    rcases List.mem_cons.1 hy with rfl | hy
    · exact apart_of h.1 (by simp)
    · exact pairs_pre h.2 y hy
theorem allApart_drop {anc : List (List Nat)} {z x : Item3} {post : List Item3} : ∀ {pre : List Item3}, allApart ops.toList anc z (pre ++ x :: post) = true → allApart ops.toList anc z (pre ++ post) = true
  | [], h => by simp only [List.nil_append, allApart, Bool.and_eq_true] at h; exact h.2
  | y :: pre, h => by
    simp only [List.cons_append, allApart, Bool.and_eq_true] at h ⊢
    exact ⟨h.1, allApart_drop h.2⟩
theorem pairs_drop {anc : List (List Nat)} {x : Item3} {post : List Item3} : ∀ {pre : List Item3}, pairsOk ops.toList anc (pre ++ x :: post) = true → pairsOk ops.toList anc (pre ++ post) = true
  | [], h => by simp only [List.nil_append, pairsOk, Bool.and_eq_true] at h; exact h.2
  | y :: pre, h => by
    simp only [List.cons_append, pairsOk, Bool.and_eq_true] at h ⊢
    exact ⟨allApart_drop h.1, pairs_drop h.2⟩
theorem obs_mem {l : List Item3} (h : AllOb (ACalls P) (ATake P) (obsOf l)) : ∀ x, x ∈ l → AllOb (ACalls P) (ATake P) x.2.2.obs := by
  induction l with
  | nil => intro x hx; simp at hx
  | cons y r ih =>
    intro x hx
    obtain ⟨h1, h2⟩ := AllOb.append h
    rcases List.mem_cons.1 hx with rfl | hx
    · exact h1
    · exact ih h2 x hx

theorem draw_ok (htt : ttOk P tt = true) {Q : Exit → Act → World → Prop} {sf : St} {anc : List (List Nat)} (hanc : ∀ q x, x ∈ nthN anc q → Anc ops x q) (hlt : ∀ (j : Nat) (o : Oper), ops[j]? = some o → ∀ e, e ∈ edgesOf o → e < j) (hQ : ∀ J a w, Rel N w0 F0 J a w sf → Q .normal a w) :
    ∀ (n : Nat) (R : List Item3) (listed : Array Bool) (s : St) (J : Inj) (a : Act) (w : World), R.length = n → listed.size = ops.size → (R.map (·.1)).Pairwise (· < ·) → (∀ x, x ∈ R → ops[x.1]? = some x.2.1) → (∀ j, j < ops.size → (listed.getD j true = false ↔ j ∈ R.map (·.1))) →
      (∀ (j : Nat) (o : Oper), ops[j]? = some o → listed.getD j false = true → ∀ e, e ∈ edgesOf o → listed.getD e false = true) → pairsOk ops.toList anc R = true → (∀ x, x ∈ R → AllOb (ACalls P) (ATake P) x.2.2.obs) → Runs tt N orcs ops.toList R s sf → Rel N w0 F0 J a w s → wpAny P .any ops Q n listed a w := by
  intro n
  have hget : ∀ (listed : Array Bool) (j : Nat), j < listed.size → (listed.getD j true = false ↔ ¬ listed.getD j false = true) := by
    intro listed j hj
    simp [Array.getD_eq_getD_getElem?, Array.getElem?_eq_getElem hj]
  have hready : ∀ (R : List Item3) (listed : Array Bool), listed.size = ops.size → (∀ j, j < ops.size → (listed.getD j true = false ↔ j ∈ R.map (·.1))) → ∀ i, i ∈ Region.ready .any ops listed → i ∈ R.map (·.1) ∧ ∀ o, ops[i]? = some o → ∀ e, e ∈ edgesOf o → listed.getD e false = true := by
    intro R listed hsz hR i hi
    obtain ⟨h0, o, ho, hall⟩ := mem_ready.1 hi
    have hlt : i < ops.size := (Array.getElem?_eq_some_iff.1 ho).1
    refine ⟨(hR i hlt).1 h0, fun o' ho' e he => ?_⟩
    rw [ho] at ho'
    obtain rfl := Option.some.inj ho'
    obtain ⟨x, h1, h2, rfl⟩ := mem_edges.1 he
    exact hall x h1 h2
  induction n with
  | zero =>
    intro R listed s J a w hn hsz _ _ hR _ _ _ hr hrel
    obtain rfl : R = [] := List.eq_nil_of_length_eq_zero hn
    refine ⟨?_, hQ J a w (hrel.eqv hr)⟩
    cases hrd : Region.ready .any ops listed with
    | nil => rfl
    | cons i r =>
      have := (hready [] listed hsz hR i (by rw [hrd]; simp)).1
      simp at this
  | succ n ih =>
    intro R listed s J a w hn hsz hsort hops hR hclosed hpairs hobs hr hrel
    refine ⟨fun hnil => ?_, fun i hi => ?_⟩
    · exfalso
      cases R with
      | nil => simp at hn
      | cons x r =>
        have hx := hops x (by simp)
        have hxl : x.1 < ops.size := (Array.getElem?_eq_some_iff.1 hx).1
        have : x.1 ∈ Region.ready .any ops listed := by
          refine mem_ready.2 ⟨(hR x.1 hxl).2 (by simp), x.2.1, hx, fun e he hb => ?_⟩
          have hel := hlt x.1 x.2.1 hx e.on (mem_edges.2 ⟨e, he, hb, rfl⟩)
          refine Classical.byContradiction fun hne => ?_
          have := (hR e.on (by omega)).1 ((hget listed e.on (by omega)).2 hne)
          simp only [List.map_cons, List.mem_cons] at this
          rcases this with h | h
          · omega
          · have : x.1 < e.on := (List.pairwise_cons.1 hsort).1 e.on h
            omega
        rw [hnil] at this
        simp at this
    · obtain ⟨hiR, hedges⟩ := hready R listed hsz hR i hi
      obtain ⟨x, hx, rfl⟩ := List.mem_map.1 hiR
      obtain ⟨pre, post, rfl⟩ := List.append_of_mem hx
      have hap : ∀ y, y ∈ pre → apartB ops.toList y.2.1 y.2.2 x.2.1 x.2.2 = true := fun y hy => by
        rcases pairs_pre hpairs y hy with h | h
        · exfalso
          have hl := anc_listed hclosed (hanc _ _ (memN_iff.1 h)) hedges
          have hyo := hops y (by simp [hy])
          have hyl : y.1 < ops.size := (Array.getElem?_eq_some_iff.1 hyo).1
          exact (hget listed y.1 (by omega)).1 ((hR y.1 hyl).2 (by simp only [List.map_append, List.mem_append]; exact .inl (List.mem_map.2 ⟨y, hy, rfl⟩))) hl
        · exact h
      obtain ⟨hrec, hrest⟩ := runs_front hap hr
      have hxo := hops x (by simp)
      have hxl : x.1 < ops.size := (Array.getElem?_eq_some_iff.1 hxo).1
      have hdup : x.1 ∉ (pre ++ post).map (·.1) := fun hm => by
        simp only [List.map_append, List.map_cons, List.pairwise_append, List.pairwise_cons] at hsort
        simp only [List.map_append, List.mem_append] at hm
        rcases hm with hm | hm
        · have := hsort.2.2 _ hm x.1 (by simp); omega
        · have := hsort.2.1.1 _ hm; omega
      refine step_ok (P := P) htt hxo hrec (hobs x (by simp)) hrel fun J' a' w' hrel' => ih (pre ++ post) _ _ J' a' w' (by simp at hn ⊢; omega) (by simpa using hsz) ?_ ?_ ?_ ?_ (pairs_drop hpairs) ?_ hrest hrel'
      · simp only [List.map_append, List.map_cons, List.pairwise_append, List.pairwise_cons] at hsort ⊢
        exact ⟨hsort.1, hsort.2.1.2, fun a ha b hb => hsort.2.2 a ha b (by simp [hb])⟩
      · intro y hy
        exact hops y (by simp only [List.mem_append, List.mem_cons] at hy ⊢; exact hy.elim .inl fun h => .inr (.inr h))
      · intro j hj
        by_cases hji : x.1 = j
        · subst hji
          constructor
          · intro h
            simp [hsz, hj] at h
          · intro h; exact absurd h hdup
        · rw [getD_set_ne true hji, hR j hj]
          simp only [List.map_append, List.map_cons, List.mem_append, List.mem_cons]
          exact ⟨fun h => h.elim .inl fun h => h.elim (fun e => absurd e.symm hji) .inr, fun h => h.elim .inl fun h => .inr (.inr h)⟩
      · intro j o ho hl e he
        by_cases hji : x.1 = j
        · subst hji
          exact getD_set_true (hedges o ho e he)
        · rw [getD_set_ne false hji] at hl
          exact getD_set_true (hclosed j o ho hl e he)
      · intro y hy
        exact hobs y (by simp only [List.mem_append, List.mem_cons] at hy ⊢; exact hy.elim .inl fun h => .inr (.inr h))

/-- a region that draws its order -/
theorem awp_draw (htt : ttOk P tt = true) (hm : P.follows .mixedOrders = true) {Q : Exit → St → Prop} {s s' : St} (orcs : List (Nat × Orc)) (ts bs : List Nat) {id : Nat} {ops : Array Oper} {obs : List Ob} (h : runDraw tt N orcs ops.toList ts bs s = some (s', obs))
    (hob : AllOb (ACalls P) (ATake P) obs) (hQ : Q .normal s') : AWP P N w0 F0 (.region id ops true) Q s := fun J a w hr => by
  unfold runDraw at h
  cases he : edgesLt ops.toList 0 with
  | false => rw [he] at h; cases h
  | true =>
    rw [he] at h
    simp only [cond_true] at h
    split at h
    · rename_i s1 R h1
      cases hp : pairsOk ops.toList (ancsGo ops.toList []) R with
      | false => rw [hp] at h; cases h
      | true =>
        rw [hp] at h
        obtain ⟨rfl, rfl⟩ : s1.keep ts bs = s' ∧ obsOf R = obs := by simpa using h
        obtain ⟨hruns, hidx, hop⟩ := runRec_runs h1
        have hlen : R.length = ops.size := by have := congrArg List.length hop; simpa using this
        refine wp_region_any hm (draw_ok (P := P) htt (ancs_ok (acc := []) (l := ops.toList) rfl (fun q x hx => by simp [nthN] at hx)) (fun j o ho e hx => by have := edgesLt_ok he j o (by simpa using ho) e hx; omega)
          (fun J' a' w' hR => ⟨J', _, hR.less (fun t v hv => get_keep hv) (fun k c hc => get_keep hc), hQ⟩) ops.size R _ s J a _ hlen (by simp) ?_ ?_ ?_ ?_ hp (obs_mem hob) hruns ?_)
        · rw [hidx]; exact List.pairwise_lt_range'
        · intro x hx
          obtain ⟨k, hk, rfl⟩ := List.getElem_of_mem hx
          have e1 : R[k].1 = k := by
            have := congrArg (·[k]?) hidx
            simp only [List.getElem?_map, List.getElem?_eq_getElem hk, Option.map_some] at this
            rw [List.getElem?_range' (by simpa [← hlen] using hk)] at this
            simpa using this
          have e2 := congrArg (·[k]?) hop
          simp only [List.getElem?_map, List.getElem?_eq_getElem hk, Option.map_some] at e2
          rw [e1]
          simpa using e2.symm
        · intro j hj
          rw [hidx]
          simp [hj, List.mem_range'_1]
        · intro j o _ hl
          simp only [Array.getD_eq_getD_getElem?, Array.getElem?_replicate] at hl
          split at hl <;> simp at hl
        · refine { hr with below := ?_, fl := hr.fl, bo := ?_, tm := ?_ }
          · exact hr.below.trans ⟨rfl, rfl, rfl, Nat.le_refl _, fun _ _ => rfl⟩
          · intro k c hk
            obtain ⟨h1, h2, h3, arr, e, h4, h5⟩ := hr.bo k c hk
            exact ⟨h1, h2, h3, arr, e, h4, h5.imp fun v c _ hc => hc.keep ⟨fun b hb => ⟨hb, rfl⟩, fun k _ => ⟨rfl, fun _ _ => rfl⟩, fun _ _ => rfl⟩⟩
          · intro t v hv
            exact (hr.tm t v hv).keep fun c _ => ⟨fun b hb => ⟨hb, rfl⟩, fun k _ => ⟨rfl, fun _ _ => rfl⟩, fun _ _ => rfl⟩
    · cases h
end
end Go.Proofs.YtjkfmihbmkbjfaaGreat
