/- Regions of the abstract machine: one operation, and operations in the text's order. No program in sight. -/
import Derived.Test.YtjkfmihbmkbjfaaGreatTk
import Derived.Orders
namespace Go.Proofs.YtjkfmihbmkbjfaaGreat
open Go.RowKit

structure Rec where
  avs : List AV
  bn : List (Nat × List C)
  res : Res
  obs : List Ob

def opAVs (s : St) : List Operand → Option (List AV)
  | [] => some []
  | x :: r => match opAV s x, opAVs s r with
    | some v, some vs => some (v :: vs)
    | _, _ => none
def bkeysC : List C → List Nat
  | [] => []
  | c :: r => c.bkeys ++ bkeysC r
def boxesOf (s : St) : List Nat → List (Nat × List C)
  | [] => []
  | k :: r => match get s.bx k with
    | some cs => (k, cs) :: boxesOf s r
    | none => boxesOf s r
def evalOp (tt : List (Nat × TI)) (orc : Orc) (bn : List (Nat × List C)) (dst : Option Nat) (op : Op) (avs : List AV) : Option (Res × List Ob) :=
  match evalP tt orc bn op avs with
  | some (v, obs) => (match orc with
    | .val v' => some (⟨v', [], none, none⟩, .eq v v' :: obs)
    | _ => some (⟨v, [], none, none⟩, obs))
  | none => match evalB tt bn dst op avs with
    | some x => some x
    | none => match evalA tt orc dst op avs with
      | some x => some x
      | none => match evalC orc bn dst op avs with
        | some x => some x
        | none => match evalEp tt orc op avs with
          | some (v, obs) => some (⟨v, [], none, none⟩, obs)
          | none => match evalEs tt op avs with
            | some x => some x
            | none => match evalX tt dst op avs with
              | some x => some x
              | none => evalT orc bn dst op avs
def guardOf (ops : List Oper) (s : St) (o : Oper) : Option Bool :=
  match o.guard with
  | none => some true
  | some (j, want) => match ops[j]? with
    | some oj => (match oj.dst with
      | some t => (match get s.tm t with
        | some (.one (.bool b)) => some (match b, want with
          | true, true => true
          | false, false => true
          | _, _ => false)
        | some (.tup []) => some false
        | _ => none)
      | none => none)
    | none => none
def dstOk (N : Nat) : Option Nat → Bool
  | none => true
  | some d => Nat.blt d N
def mkRec (tt : List (Nat × TI)) (N : Nat) (orc : Orc) (ops : List Oper) (s : St) (o : Oper) : Option Rec :=
  bif dstOk N o.dst then
    match guardOf ops s o with
    | some true => (match opAVs s o.op.operands.toList with
      | some avs => (match evalOp tt orc (boxesOf s (bkeysC (cellsAVs avs))) o.dst o.op avs with
        | some (r, obs) => some ⟨avs, boxesOf s (bkeysC (cellsAVs avs)), r, obs⟩
        | none => none)
      | none => none)
    | some false => some ⟨[], [], ⟨.tup [], [], none, none⟩, []⟩
    | none => none
  else none

section
variable {P : Program} {N : Nat} {w0 : World} {F0 : Nat → Prop} {J : Inj} {a : Act} {w : World} {s : St}

theorem opAVs_all2 : ∀ {xs : List Operand} {vs : List AV}, opAVs s xs = some vs → All2 (fun x v => opAV s x = some v) xs vs
  | [], vs, h => by obtain rfl : [] = vs := by simpa [opAVs] using h
                    exact .nil
  | x :: r, vs, h => by
    simp only [opAVs] at h
    split at h
    · rename_i v vs' e1 e2
      obtain rfl := Option.some.inj h
      exact .cons e1 (opAVs_all2 e2)
    · cases h
theorem boxesOf_get : ∀ {ks : List Nat} {k : Nat} {c : List C}, get (boxesOf s ks) k = some c → get s.bx k = some c
  | [], k, c, h => by simp [boxesOf, get] at h
  | x :: r, k, c, h => by
    simp only [boxesOf] at h
    split at h
    · rename_i cs hx
      simp only [get] at h
      split at h
      · rename_i e
        subst e
        rw [hx]; exact h
      · exact boxesOf_get h
    · exact boxesOf_get h

theorem evalOp_ok {tt : List (Nat × TI)} (htt : ttOk P tt = true) {orc : Orc} {bn : List (Nat × List C)} {o : Oper} {avs : List AV} {r : Res} {obs : List Ob} (h : evalOp tt orc bn o.dst o.op avs = some (r, obs)) (hob : AllOb (ACalls P) (ATake P) obs)
    (hdst : ∀ d, o.dst = some d → d < N) (hrel : Rel N w0 F0 J a w s) (hops : All2 (fun x v => opAV s x = some v) o.op.operands.toList avs) (hbn : ∀ k c, get bn k = some c → get s.bx k = some c) {K : Act → World → Prop} {Q : Exit → Act → World → Prop}
    (hK : ∀ J' a' w', Rel N w0 F0 J' a' w' (s.step o.dst r) → K a' w') : o.wp P a w K Q := by
  unfold evalOp at h
  have hbx : ∀ k c, get bn k = some c → ∃ arr e, w.heap[J.B k]? = some (.cells arr e (0, 0)) ∧ All2 (CR J w) arr.toList c := fun k c hk => by
    obtain ⟨_, _, _, h⟩ := hrel.bo k c (hbn k c hk)
    exact h
  split at h
  · rename_i v obs' hp
    have key : ∀ v', AllOb (ACalls P) (ATake P) obs' → v = v' → (∀ J' a' w', Rel N w0 F0 J' a' w' (s.step o.dst ⟨v', [], none, none⟩) → K a' w') → o.wp P a w K Q := by
      intro v' hob' e hK'
      obtain ⟨u, hu, hr⟩ := evalP_ok (P := P) (A := ACalls P) (J := J) (w := w) htt hp hob' rfl (ρ := a.eval) (fun _ => rfl) (opAVs_ok hrel hops) hbx
      exact wp_of_run hu (hK' J _ _ (hrel.pure o.dst hdst v' u fun _ => e ▸ hr))
    split at h
    · rename_i v'
      obtain ⟨rfl, rfl⟩ : (⟨v', [], none, none⟩ : Res) = r ∧ .eq v v' :: obs' = obs := by simpa using h
      obtain ⟨e, hob'⟩ := AllOb.cons hob
      exact key v' hob' e hK
    · obtain ⟨rfl, rfl⟩ : (⟨v, [], none, none⟩ : Res) = r ∧ obs' = obs := by simpa using h
      exact key v hob rfl hK
  · split at h
    · rename_i x hx
      obtain rfl := Option.some.inj h
      exact evalB_ok (P := P) htt hx hdst hrel hops hbn hK
    · split at h
      · rename_i x hx
        obtain rfl := Option.some.inj h
        exact evalA_ok (P := P) htt hx hob hdst hrel hops hK
      · split at h
        · rename_i x hx
          obtain rfl := Option.some.inj h
          exact evalC_ok (P := P) hx hob hdst hrel hops hbn hK
        · split at h
          · rename_i v obs' hp
            obtain ⟨rfl, rfl⟩ : (⟨v, [], none, none⟩ : Res) = r ∧ obs' = obs := by simpa using h
            obtain ⟨u, hu, hr⟩ := evalEp_ok (P := P) (A := ACalls P) (J := J) (w := w) htt hp hob rfl (ρ := a.eval) (opAVs_ok hrel hops)
            exact wp_of_run hu (hK _ _ _ (hrel.pure o.dst hdst _ _ fun _ => hr))
          · split at h
            · rename_i x hx
              obtain rfl := Option.some.inj h
              exact evalEs_ok (P := P) htt hx hdst hrel hops hK
            · split at h
              · rename_i x hx
                obtain rfl := Option.some.inj h
                exact evalX_ok (P := P) htt hx hob hdst hrel hops hK
              · exact evalT_ok (P := P) h hob hdst hrel hops hbn hK

theorem guard_ok {ops : Array Oper} {o : Oper} {b : Bool} (hrel : Rel N w0 F0 J a w s) (h : guardOf ops.toList s o = some b) : Region.wanted o (yielded ops a.tmps) = b := by
  unfold guardOf at h
  unfold Region.wanted
  split at h
  · rename_i hg
    rw [hg]
    exact Option.some.inj h
  · rename_i j want hg
    rw [hg]
    split at h
    · rename_i oj hj
      split at h
      · rename_i t ht
        split at h
        · rename_i c hc
          have h1 : a.tmps.getD t undef = .bool c := hrel.tm t _ hc
          have h2 : a.tmps[t]? = some (.bool c) := by
            rw [Array.getD_eq_getD_getElem?] at h1
            cases hq : a.tmps[t]? with
            | none => rw [hq] at h1; simp [undef] at h1
            | some u => rw [hq] at h1; simp at h1; rw [h1]
          have hj' : ops[j]? = some oj := by simpa using hj
          simp only [yielded, hj', Option.bind_some, ht, h2]
          obtain rfl := Option.some.inj h
          cases c <;> cases want <;> rfl
        · rename_i hc
          obtain ⟨vs, h1, hv⟩ := hrel.tm t _ hc
          cases hv
          have hj' : ops[j]? = some oj := by simpa using hj
          obtain rfl := Option.some.inj h
          rw [Array.getD_eq_getD_getElem?] at h1
          cases hq : a.tmps[t]? with
          | none => simp [yielded, hj', ht, hq]
          | some u =>
            rw [hq] at h1
            obtain rfl : u = _ := h1
            simp [yielded, hj', ht, hq]
        · cases h
      · cases h
    · cases h

/-- one operation of a region -/
theorem step_ok {tt : List (Nat × TI)} (htt : ttOk P tt = true) {orc : Orc} {ops : Array Oper} {i : Nat} {o : Oper} (hi : ops[i]? = some o) {ρ : Rec} (h : mkRec tt N orc ops.toList s o = some ρ) (hob : AllOb (ACalls P) (ATake P) ρ.obs) (hrel : Rel N w0 F0 J a w s)
    {K : Act → World → Prop} {Q : Exit → Act → World → Prop} (hK : ∀ J' a' w', Rel N w0 F0 J' a' w' (s.step o.dst ρ.res) → K a' w') : wpOp P ops Q i K a w := by
  unfold mkRec at h
  cases hd : dstOk N o.dst with
  | false => rw [hd] at h; cases h
  | true =>
    rw [hd] at h
    simp only [cond_true] at h
    have hdst : ∀ d, o.dst = some d → d < N := fun d e => by rw [e] at hd; simpa [dstOk] using hd
    unfold wpOp
    simp only [hi]
    split at h
    · rename_i hg
      have hw := guard_ok hrel hg
      split at h
      · rename_i avs havs
        split at h
        · rename_i r obs he
          obtain rfl := Option.some.inj h
          rw [if_pos hw]
          exact .inl (evalOp_ok (P := P) htt he hob hdst hrel (opAVs_all2 havs) (fun k c hk => boxesOf_get hk) hK)
        · cases h
      · cases h
    · rename_i hg
      obtain rfl := Option.some.inj h
      have hw := guard_ok hrel hg
      rw [if_neg (by rw [hw]; simp)]
      exact hK J _ _ (hrel.pure o.dst hdst _ _ fun _ => ⟨[], rfl, .nil⟩)
    · cases h

/-- operations in the text's order -/
def orcAt (orcs : List (Nat × Orc)) (i : Nat) : Orc := match get orcs i with
  | some x => x
  | none => .no
def runSeq (tt : List (Nat × TI)) (N : Nat) (orcs : List (Nat × Orc)) (ops : List Oper) : List Oper → Nat → St → Option (St × List Ob)
  | [], _, s => some (s, [])
  | o :: r, i, s => match mkRec tt N (orcAt orcs i) ops s o with
    | some ρ => (match runSeq tt N orcs ops r (i + 1) (s.step o.dst ρ.res) with
      | some (s', obs) => some (s', ρ.obs ++ obs)
      | none => none)
    | none => none
theorem runSeq_ok {tt : List (Nat × TI)} (htt : ttOk P tt = true) {orcs : List (Nat × Orc)} {ops : Array Oper} {Q : Exit → Act → World → Prop} : ∀ (l : List Oper) (i : Nat) {s s' : St} {obs : List Ob} {J : Inj} {a : Act} {w : World}, ops.toList.drop i = l →
    runSeq tt N orcs ops.toList l i s = some (s', obs) → AllOb (ACalls P) (ATake P) obs → Rel N w0 F0 J a w s → (∀ J' a' w', Rel N w0 F0 J' a' w' s' → Q .normal a' w') → wpOps P ops Q (List.range' i l.length) a w
  | [], i, s, s', obs, J, a, w, _, h, _, hrel, hQ => by
    obtain ⟨rfl, rfl⟩ : s = s' ∧ [] = obs := by simpa [runSeq] using h
    exact hQ J a w hrel
  | o :: r, i, s, s', obs, J, a, w, hl, h, hob, hrel, hQ => by
    simp only [runSeq] at h
    split at h
    · rename_i ρ hρ
      split at h
      · rename_i s'' obs' hr
        obtain ⟨rfl, rfl⟩ : s'' = s' ∧ ρ.obs ++ obs' = obs := by simpa using h
        obtain ⟨ho1, ho2⟩ := AllOb.append hob
        have hi : ops[i]? = some o := by
          have := congrArg (·[0]?) hl
          simpa using this
        have hl' : ops.toList.drop (i + 1) = r := by rw [← List.drop_drop, hl]; rfl
        rw [List.length_cons, List.range'_succ, wpOps_cons]
        exact step_ok (P := P) htt hi hρ ho1 hrel fun J' a' w' hR => runSeq_ok htt r (i + 1) hl' hr ho2 hR hQ
      · cases h
    · cases h
end
end Go.Proofs.YtjkfmihbmkbjfaaGreat
