/- Functions of the abstract machine: how a call begins, what it hands back. No program in sight. -/
import Derived.Test.YtjkfmihbmkbjfaaGreatCd
namespace Go.Proofs.YtjkfmihbmkbjfaaGreat
open Go.RowKit

def entryL : Nat → List AV → List (Nat × AV)
  | _, [] => []
  | i, v :: r => (i, v) :: entryL (i + 1) r
def entry (args : List AV) : St := ⟨entryL 0 args, []⟩
/-- the result variables -/
def resOf (tt : List (Nat × TI)) (s : St) : List ResultVar → Option (List AV)
  | [] => some []
  | .tmp t :: r => match get s.tm t, resOf tt s r with
    | some v, some vs => some (v :: vs)
    | _, _ => none
  | .cell a t :: r => match get s.tm a, get tt t, resOf tt s r with
    | some (.one (.ptr k off)), some ti, some vs => (match get s.bx k with
      | some cells => (match asVal ti ((cells.drop off).take ti.size) with
        | some v => some (v :: vs)
        | none => none)
      | none => none)
    | _, _, _ => none
def pairOf : AV → Option (Bool × List C)
  | .one c => some (false, [c])
  | .agg cs => some (true, cs)
  | .tup _ => none
def pairsOf : List AV → Option (List (Bool × List C))
  | [] => some []
  | v :: r => match pairOf v, pairsOf r with
    | some p, some ps => some (p :: ps)
    | _, _ => none
def joined : List AV → Option AV
  | [v] => some v
  | vs => (pairsOf vs).map .tup
def idxN (k : Nat) : List Nat → Nat
  | [] => 0
  | x :: r => bif Nat.beq x k then 0 else idxN k r + 1
def finC (ks : List Nat) : C → C
  | .slc (.own b k) n l => .slc (.own b (idxN k ks)) n l
  | c => c
def finOk : C → Bool
  | .int _ _ => true
  | .bool _ => true
  | .str _ => true
  | .slc .sh _ _ => true
  | .slc .emp _ _ => true
  | .slc (.own b _) _ _ => b
  | _ => false
def gives (tt : List (Nat × TI)) (rs : List ResultVar) (s : St) : Option AV :=
  match resOf tt s rs with
  | some vs => (match joined vs with
    | some v => bif allC finOk v.cells && nodupN (keysOfC v.cells) then some (v.map (finC (keysOfC v.cells))) else none
    | none => none)
  | none => none
def Post (tt : List (Nat × TI)) (rs : List ResultVar) (r : AV) : Exit → St → Prop
  | .normal, s => ∃ frz, gives tt rs (s.map (relC (freezeAll frz) none)) = some r
  | .ret, s => ∃ frz, gives tt rs (s.map (relC (freezeAll frz) none)) = some r
  | _, _ => False
theorem post_ret {tt : List (Nat × TI)} {rs : List ResultVar} {r b : AV} {s : St} (frz : List Nat) (h : gives tt rs (s.map (relC (freezeAll frz) none)) = some b) (e : b = r) : Post tt rs r .ret s := ⟨frz, e ▸ h⟩
theorem post_normal {tt : List (Nat × TI)} {rs : List ResultVar} {r b : AV} {s : St} (frz : List Nat) (h : gives tt rs (s.map (relC (freezeAll frz) none)) = some b) (e : b = r) : Post tt rs r .normal s := ⟨frz, e ▸ h⟩

def resRun (tmps : Array Value) : ResultVar → Sem Value
  | .tmp t => pure (tmps.getD t undef)
  | .cell a t => do loadVar t (← asAddr (tmps.getD a undef))
theorem results_eq (fn : Func) (tmps : Array Value) : results fn tmps = (do
    let vs ← fn.results.mapM (resRun tmps)
    pure (if h : vs.size = 1 then vs[0] else .tuple vs)) := by
  unfold results
  congr 2
def nthL (J : Inj) (ks : List Nat) (i : Nat) : List Nat := match ks[i]? with
  | some k => J.L k
  | none => []
theorem nthL_mem {J : Inj} {ks : List Nat} {i b : Nat} (h : b ∈ nthL J ks i) : ∃ k, ks[i]? = some k ∧ b ∈ J.L k := by
  unfold nthL at h
  split at h
  · rename_i k hk; exact ⟨k, hk, h⟩
  · simp at h

section
variable {P : Program} {N : Nat} {w0 : World} {F0 : Nat → Prop} {J : Inj} {a : Act} {w : World} {s : St}

theorem get_entry : ∀ {args : List AV} {i t : Nat} {v : AV}, get (entryL i args) t = some v → i ≤ t ∧ args[t - i]? = some v
  | [], i, t, v, h => by simp [entryL, get] at h
  | x :: r, i, t, v, h => by
    simp only [entryL, get] at h
    split at h
    · rename_i e
      subst e
      exact ⟨Nat.le_refl _, by simpa using h⟩
    · rename_i hne
      obtain ⟨h1, h2⟩ := get_entry h
      refine ⟨by omega, ?_⟩
      obtain ⟨j, hj⟩ : ∃ j, t - i = j + 1 := ⟨t - i - 1, by omega⟩
      rw [hj, List.getElem?_cons_succ, show j = t - (i + 1) by omega]
      exact h2

theorem resOf_ok {tt : List (Nat × TI)} (htt : ttOk P tt = true) (hrel : Rel N w0 F0 J a w s) : ∀ {rs : List ResultVar} {vs : List AV}, resOf tt s rs = some vs →
    ∃ us : List Value, (rs.mapM (resRun a.tmps)).run P w = .ok us w ∧ All2 (AR J w) us vs
  | [], vs, h => by
    obtain rfl : [] = vs := by simpa [resOf] using h
    exact ⟨[], by simp, .nil⟩
  | .tmp t :: r, vs, h => by
    simp only [resOf] at h
    split at h
    · rename_i v vs' e1 e2
      obtain rfl := Option.some.inj h
      obtain ⟨us, h1, h2⟩ := resOf_ok htt hrel e2
      exact ⟨a.tmps.getD t undef :: us, by simp [List.mapM_cons, resRun, h1], .cons (hrel.tm t v e1) h2⟩
    · cases h
  | .cell x t :: r, vs, h => by
    simp only [resOf] at h
    split at h
    · rename_i k off ti vs' e1 e2 e3
      split at h
      · rename_i cells hk
        split at h
        · rename_i v hval
          obtain rfl := Option.some.inj h
          obtain ⟨us, h1, h2⟩ := resOf_ok htt hrel e3
          have hx : a.tmps.getD x undef = .pointer (some ⟨J.B k, off, none⟩) := hrel.tm x _ e1
          obtain ⟨_, _, _, arr, e, hheap, hall⟩ := hrel.bo k cells hk
          have hc : ∀ (j : Nat) (u : Value), ((arr.toList.drop off).take ti.size)[j]? = some u → w.cell? ⟨J.B k, off + j, none⟩ = some u := by
            have := take_cells (k := ti.size) (drop_cells (w := w) (vs := arr.toList) (b := J.B k) (off := 0) (k := off) (fun j u hj => by
              rw [Array.getElem?_toList] at hj
              simp [World.cell?, hheap, hj]))
            simpa using this
          obtain ⟨u, hu, hr⟩ := asVal_ok (P := P) (ttOk_get htt e2) ((hall.drop off).take ti.size) hval hc
          exact ⟨u :: us, by simp [List.mapM_cons, resRun, hx, asAddr, hu, h1], .cons hr h2⟩
        · cases h
      · cases h
    · cases h

theorem pairs_ok : ∀ {vs : List AV} {ps : List (Bool × List C)} {us : List Value}, pairsOf vs = some ps → All2 (AR J w) us vs → All2 (VA J w) us ps
  | [], ps, us, h, hu => by
    obtain rfl : [] = ps := by simpa [pairsOf] using h
    cases hu
    exact .nil
  | v :: r, ps, us, h, hu => by
    simp only [pairsOf] at h
    split at h
    · rename_i p ps' e1 e2
      obtain rfl := Option.some.inj h
      cases hu with
      | cons h1 h2 =>
        refine .cons ?_ (pairs_ok e2 h2)
        cases v with
        | one c => obtain rfl := Option.some.inj e1; exact ⟨c, rfl, h1⟩
        | agg cs => obtain rfl := Option.some.inj e1; exact h1
        | tup l => cases e1
    · cases h

theorem idxN_get : ∀ {ks : List Nat} {k : Nat}, k ∈ ks → ks[idxN k ks]? = some k
  | [], k, h => by simp at h
  | x :: r, k, h => by
    simp only [idxN]
    by_cases hx : x = k
    · subst hx; simp
    · rw [beq_ne hx]
      simp only [cond_false, List.getElem?_cons_succ]
      exact idxN_get ((List.mem_cons.1 h).resolve_left fun e => hx e.symm)

theorem gives_ok {w' : World} {tt : List (Nat × TI)} (htt : ttOk P tt = true) {fn : Func} {r : AV} (hrel : Rel N w F0 J a w' s) (h : gives tt fn.results.toList s = some r) : ∃ v, (results fn a.tmps).run P w' = .ok v w' ∧ ARet F0 w r (.returned v) w' := by
  unfold gives at h
  split at h
  · rename_i vs hvs
    split at h
    · rename_i x hx
      cases hc : (allC finOk x.cells && nodupN (keysOfC x.cells)) with
      | false => rw [hc] at h; cases h
      | true =>
        rw [hc] at h
        obtain rfl := Option.some.inj h
        simp only [Bool.and_eq_true] at hc
        obtain ⟨hok, hnd⟩ := hc
        have hnd := nodupN_iff.1 hnd
        obtain ⟨us, hrun, hall⟩ := resOf_ok (P := P) htt hrel hvs
        have hres : ∃ v, (results fn a.tmps).run P w' = .ok v w' ∧ AR J w' v x := by
          have hm : (fn.results.mapM (resRun a.tmps)).run P w' = .ok us.toArray w' := by
            rw [Array.mapM_eq_mapM_toList]
            simp [hrun]
          have hgen : (results fn a.tmps).run P w' = .ok (if h : us.toArray.size = 1 then us.toArray[0] else .tuple us.toArray) w' := by
            rw [results_eq]
            simp only [Sem.run_bind, hm, Result.andThen_ok, Sem.run_pure]
          cases hall with
          | nil =>
            obtain rfl : AV.tup [] = x := by simpa [joined, pairsOf] using hx
            exact ⟨.tuple #[], by rw [hgen]; simp, [], rfl, .nil⟩
          | cons h1 h2 =>
            cases h2 with
            | nil =>
              obtain rfl := Option.some.inj hx
              exact ⟨_, by rw [hgen]; simp, h1⟩
            | cons h2 h3 =>
              obtain ⟨ps, hps, rfl⟩ := Option.map_eq_some_iff.1 hx
              exact ⟨_, by rw [hgen]; simp, _, rfl, pairs_ok hps (.cons h1 (.cons h2 h3))⟩
        obtain ⟨v, hv, hvr⟩ := hres
        refine ⟨v, hv, v, nthL J (keysOfC x.cells), rfl, hrel.below, fun i => ?_, fun i b hb => ?_, fun i i' b hb hb' => ?_, ?_⟩
        · unfold nthL
          split
          · exact hrel.nd _
          · simp
        · obtain ⟨k, _, hm⟩ := nthL_mem hb
          exact ⟨(hrel.lo k b hm).1, (hrel.lo k b hm).2.1⟩
        · obtain ⟨k, hk, hm⟩ := nthL_mem hb
          obtain ⟨k', hk', hm'⟩ := nthL_mem hb'
          have := hrel.dj k k' b hm hm'
          subst this
          obtain ⟨l1, e1⟩ := List.getElem?_eq_some_iff.1 hk
          obtain ⟨l2, e2⟩ := List.getElem?_eq_some_iff.1 hk'
          rcases Nat.lt_trichotomy i i' with hlt | he | hlt
          · exact absurd (e1.trans e2.symm) (List.pairwise_iff_getElem.1 hnd i i' l1 l2 hlt)
          · exact he
          · exact absurd (e2.trans e1.symm) (List.pairwise_iff_getElem.1 hnd i' i l2 l1 hlt)
        · refine AR.map _ hvr fun u c hcm hcr => ?_
          have hF : ∀ b, J.F b → (F0 b ∨ (w.heap.size ≤ b ∧ b < w'.heap.size ∧ ∀ i, b ∉ nthL J (keysOfC x.cells) i)) := fun b hb => by
            obtain ⟨h1, h2⟩ := hrel.fl b hb
            refine h2.imp id fun h2 => ⟨h2, h1, fun i hm => ?_⟩
            obtain ⟨k, _, hm⟩ := nthL_mem hm
            exact (hrel.lo k b hm).2.2 hb
          have hfo := allC_mem hok c hcm
          cases c with
          | int | bool | str => exact hcr
          | slc t n l =>
            cases t with
            | emp => exact hcr
            | sh => exact VV.keep (fun b hb => ⟨hF b hb, rfl⟩) hcr
            | vw k => cases hfo
            | put => exact hcr.elim
            | own b k =>
              cases b with
              | false => cases hfo
              | true =>
                show OwnDeep (nthL J (keysOfC x.cells) (idxN k (keysOfC x.cells))) w' u _ _
                unfold nthL
                rw [idxN_get (key_mem hcm rfl)]
                exact hcr
          | _ => cases hfo
    · cases h
  · cases h

/-- a contract, out of a run of the body -/
theorem acalls_of {tt : List (Nat × TI)} (htt : ttOk P tt = true) {f : Nat} {fn : Func} {c : Code} (hf : P.funcs[f]? = some fn) (hb : fn.body = some c) (hok : FnOk P f) {args : List AV} {r : AV} (hn : args.length ≤ fn.ntmps)
    (h : ∀ w0 F0, AWP P fn.ntmps w0 F0 c (Post tt fn.results.toList r) (entry args)) : ACalls P f args r := by
  refine ⟨hok, fun w F vals hF hall => calls_of_wp hf hb ?_⟩
  have hlen := hall.length
  refine wp_mono (h w F (argJ F) _ w ?_) ?_
  · refine { below := Below.refl _ _, nodef := rfl, size := ?_, fl := fun b hb => ⟨hF b hb, .inl hb⟩, f0 := fun b hb => hb, nd := fun k => by simp [argJ], lo := fun k b hb => by simp [argJ] at hb, dj := fun k k' b hb => by simp [argJ] at hb, bo := fun k c hc => by simp [entry, get] at hc, bi := fun k k' c c' hc => by simp [entry, get] at hc, tm := fun t v hv => ?_ }
    · simp; omega
    · obtain ⟨_, ht⟩ := get_entry hv
      obtain ⟨u, hu, hr⟩ := hall.get' ht
      have hlt : t < vals.length := (List.getElem?_eq_some_iff.1 hu).1
      have : (vals.toArray ++ Array.replicate (fn.ntmps - vals.toArray.size) undef).getD t undef = u := by
        rw [Array.getD_eq_getD_getElem?, Array.getElem?_append_left (by simpa using hlt)]
        simp at hu ⊢
        rw [hu]; rfl
      rw [this]
      exact hr
  · rintro e a' w' ⟨J', s', hR, hq⟩
    cases e with
    | normal =>
      obtain ⟨frz, hq⟩ := hq
      obtain ⟨J'', hR⟩ := weak_freeze frz rfl _ _ _ _ _ _ hR
      obtain ⟨v, h1, h2⟩ := gives_ok (P := P) htt (fn := fn) hR hq
      exact ⟨hR.nodef, v, h1, h2⟩
    | ret =>
      obtain ⟨frz, hq⟩ := hq
      obtain ⟨J'', hR⟩ := weak_freeze frz rfl _ _ _ _ _ _ hR
      obtain ⟨v, h1, h2⟩ := gives_ok (P := P) htt (fn := fn) hR hq
      exact ⟨hR.nodef, v, h1, h2⟩
    | _ => exact hq.elim
end
end Go.Proofs.YtjkfmihbmkbjfaaGreat
