/- Calls of the abstract machine: contracts, and what a call makes of a state. No program in sight. -/
import Derived.Test.YtjkfmihbmkbjfaaGreatMs
namespace Go.Proofs.YtjkfmihbmkbjfaaGreat
open Go.RowKit

def argJ (F : Nat → Prop) : Inj := ⟨F, fun _ => [], fun _ => 0⟩
def backJ (F : Nat → Prop) (w w' : World) (L : Nat → List Nat) : Inj := ⟨fun b => F b ∨ (w.heap.size ≤ b ∧ b < w'.heap.size ∧ ∀ k, b ∉ L k), L, fun _ => 0⟩
/-- what a function hands back -/
def ARet (F : Nat → Prop) (w : World) (r : AV) (e : Ending) (w' : World) : Prop :=
  ∃ v L, e = .returned v ∧ Below w.heap.size w w' ∧ (∀ k, (L k).Nodup) ∧ (∀ k b, b ∈ L k → w.heap.size ≤ b ∧ b < w'.heap.size) ∧ (∀ k k' b, b ∈ L k → b ∈ L k' → k = k') ∧ AR (backJ F w w' L) w' v r
def FnOk (P : Program) (f : Nat) : Prop := (P.funcs[f]?).map (fun fn => (fn.name == "runtime.NumGoroutine", fn.body.isNone)) = some (false, false)
/-- a contract -/
def ACalls (P : Program) (f : Nat) (args : List AV) (r : AV) : Prop :=
  FnOk P f ∧ ∀ (w : World) (F : Nat → Prop) (vals : List Value), (∀ b, F b → b < w.heap.size) → All2 (AR (argJ F) w) vals args → Calls P f vals.toArray w (ARet F w r)

/-- what a function does that turns a row of the caller's -/
def TRet (F : Nat → Prop) (L : List Nat) (w : World) (n : Nat) (turn : Bool) (l' : List (List PV)) (e : Ending) (w' : World) : Prop :=
  ∃ u, e = .returned u ∧ (∀ m, m ≤ w.heap.size → (∀ b, b ∈ L → m ≤ b) → Below m w w') ∧ (∀ b, b < w.heap.size → b ∉ L → w'.heap[b]? = w.heap[b]?) ∧
    match turn with
    | true => u = .tuple #[] ∧ ∀ v2 l2, OwnTop F L w v2 n l2 → OwnTop F L w' v2 n (setAll l2 l'.flatten)
    | false => ∃ L' : List Nat, L'.Nodup ∧ (∀ b, b ∈ L' → b < w'.heap.size ∧ (w.heap.size ≤ b ∨ b ∈ L)) ∧ OwnTop F L' w' u n l'
/-- the contract of such a function: its first argument is a row of one block that nobody else reads. mix: the elements of the other arguments may come into the row -/
def ATake (P : Program) : TakeT := fun f n l args mix turn l' =>
  FnOk P f ∧ ∀ (w : World) (F G : Nat → Prop) (L : List Nat) (v : Value) (vals : List Value), (∀ b, F b → G b) → (mix = true → ∀ b, G b → F b) → (∀ b, G b → b < w.heap.size) → L.Nodup → (∀ b, b ∈ L → b < w.heap.size ∧ ¬ G b) →
    OwnTop F L w v n l → All2 (AR (argJ G) w) vals args → Calls P f (v :: vals).toArray w (TRet F L w n turn l')

def namedKeys (d : Nat) : List Nat → List Nat
  | [] => []
  | k :: r => (64 * d + k) :: namedKeys d r
def disjN : List Nat → List Nat → Bool
  | [], _ => true
  | x :: r, l => !(memN x l) && disjN r l
def anyC (f : C → Bool) : List C → Bool
  | [] => false
  | c :: r => f c || anyC f r
def evalCall (bn : List (Nat × List C)) (d f : Nat) (caps : Option (List (List PV))) (avs : List AV) (r : AV) (ptrs : Bool) : Option (Res × List Ob) :=
  match eraseAVs bn avs, caps with
  | some args, some cps =>
    bif allC backC r.cells && nodupN (keysOfC r.cells) then
      bif anyC sharesC r.cells then
        bif !ptrs && allC noPtrC (cellsAVs avs) && disjN (namedKeys d (keysOfC r.cells)) (keysOfC (cellsAVs avs)) then
          some (⟨r.map (nameC d), killAll (namedKeys d (keysOfC r.cells)) ++ freezeAll (keysOfC (cellsAVs avs)), none, none⟩, [.call f (args ++ cps.map fun c => .one (.rptr .sh c)) r])
        else none
      else some (⟨r.map (nameC d), killAll (namedKeys d (keysOfC r.cells)), none, none⟩, [.call f (args ++ cps.map fun c => .one (.rptr .sh c)) r])
    else none
  | _, _ => none
def evalC (orc : Orc) (bn : List (Nat × List C)) (dst : Option Nat) : Op → List AV → Option (Res × List Ob)
  | .call ⟨.value _, _, _⟩, .one (.fn f caps) :: avs =>
    (match dst, orc with
    | some d, .val r => evalCall bn d f (capPVs bn caps) avs r (match caps with
      | [] => false
      | _ => true)
    | _, _ => none)
  | .call ⟨.value _, _, _⟩, .one (.fnr f caps) :: avs =>
    (match dst, orc with
    | some d, .val r => evalCall bn d f (some caps) avs r true
    | _, _ => none)
  | _, _ => none

section
variable {P : Program} {N : Nat} {w0 : World} {F0 : Nat → Prop} {J : Inj} {a : Act} {w : World} {s : St}

theorem wp_callV {o : Oper} {K : Act → World → Prop} {Q : Exit → Act → World → Prop} {x : Operand} {args : Array Operand} {tys : Array TypeId} {n : Nat} {caps : Array Value} (ho : o.op = .call { callee := .value x, args := args, argTypes := tys })
    (hx : a.eval x = .func (.func n) #[] caps) (hf : FnOk P n)
    (h : Calls P n (args.map a.eval ++ caps) w (fun e w'' => match e, w'' with
      | .returned v, w'' => K (a.put o.dst v) w''
      | .panicked c, w'' => Q (.panic c) a w''
      | .outgrown, _ => LetsOut Q)) : o.wp P a w K Q := by
  obtain ⟨fn, hfn, hq⟩ := Option.map_eq_some_iff.1 hf
  simp only [Prod.mk.injEq] at hq
  unfold Oper.wp execOp
  simp only [ho, resolve, Sem.run_bind, hx, Deferred.ofValue, Sem.run_pure, Result.andThen_ok, invoke, Array.empty_append]
  have hcf : (callFunc n (args.map a.eval ++ caps)).run P w = .ok (.enter n (args.map a.eval ++ caps)) w := by
    have h1 : ¬ fn.name = "runtime.NumGoroutine" := by simpa using hq.1
    have h2 : ¬ fn.body = none := fun e => by rw [e] at hq; simp at hq
    unfold callFunc
    simp [hfn, h1, h2]
  rw [hcf]
  rw [Oper.upon_enter]
  exact h.mono fun e w' hh => by cases e <;> exact hh

/-- boxes that a call may look into -/
def BoxF (J : Inj) (w : World) (F : Nat → Prop) (bn : List (Nat × List C)) : Prop :=
  ∀ k x, get bn k = some x → F (J.B k) ∧ (∀ k', k' ∈ keysOfC x → ∀ b, b ∈ J.L k' → F b) ∧ ∃ arr e, w.heap[J.B k]? = some (.cells arr e (0, 0)) ∧ All2 (CR J w) arr.toList x
theorem BoxF.of {bn : List (Nat × List C)} (h : ∀ k b, b ∈ J.L k → b < w.heap.size) (hb : ∀ k x, get bn k = some x → ∃ arr e, w.heap[J.B k]? = some (.cells arr e (0, 0)) ∧ All2 (CR J w) arr.toList x) : BoxF J w (fun b => b < w.heap.size) bn := fun k x hk => by
  obtain ⟨arr, e, h1, h2⟩ := hb k x hk
  exact ⟨block_lt_of_heap h1, fun k' _ b hm => h k' b hm, arr, e, h1, h2⟩
theorem keys_drop : ∀ (n : Nat) {cs : List C} {k : Nat}, k ∈ keysOfC (cs.drop n) → k ∈ keysOfC cs
  | 0, _, _, h => by simpa using h
  | _ + 1, [], _, h => by simp at h; exact h
  | n + 1, _ :: r, _, h => by
    rw [List.drop_succ_cons] at h
    simp only [keysOfC]
    exact List.mem_append_right _ (keys_drop n h)
theorem erase_ok {F : Nat → Prop} {bn : List (Nat × List C)} (hF : ∀ b, J.F b → F b) {v : Value} {c c' : C} (hc : CR J w v c) (he : eraseC bn c = some c') (hL : ∀ k, c.key = some k → ∀ b, b ∈ J.L k → F b)
    (hB : noPtrC c = true ∨ BoxF J w F bn) : CR (argJ F) w v c' := by
  have hbox : BoxF J w F bn → ∀ k off cs, boxPV bn k off = some cs → Reads F w (.pointer (some ⟨J.B k, off, none⟩)) cs := by
    intro h3 k off cs hb
    unfold boxPV at hb
    split at hb
    · rename_i x hx
      obtain ⟨h1, h2, arr, e, hg, hall⟩ := h3 k x hx
      refine ⟨J.B k, off, arr.toList.drop off, rfl, h1, toPVs_vc (hall.drop off) hb (fun b hb => ⟨hF b hb, rfl⟩) (fun k' hk' b hb => ⟨h2 k' (keys_drop off hk') b hb, rfl⟩), ?_⟩
      have := drop_cells (w := w) (vs := arr.toList) (b := J.B k) (off := 0) (k := off) (fun j u hj => by
        rw [Array.getElem?_toList] at hj
        simp [World.cell?, hg, hj])
      simpa using this
    · cases hb
  cases c with
  | int => obtain rfl := Option.some.inj he; exact hc
  | bool => obtain rfl := Option.some.inj he; exact hc
  | str => obtain rfl := Option.some.inj he; exact hc
  | slc t n l =>
    obtain rfl := Option.some.inj he
    exact toPV_vv (X := F) hc rfl (fun b hb => ⟨hF b hb, rfl⟩) fun k hk b hb => ⟨hL k hk b hb, rfl⟩
  | ptr k off =>
    obtain ⟨cs, hcs, rfl⟩ := Option.map_eq_some_iff.1 he
    rcases hB with hB | h3
    · cases hB
    · show Reads F w v cs
      rw [show v = _ from hc]
      exact hbox h3 k off cs hcs
  | rptr t cs =>
    obtain rfl := Option.some.inj he
    refine Reads.keep hc fun b hb => ⟨?_, rfl⟩
    cases t with
    | sh => exact hF b hb
    | emp => exact hb.elim
    | own => exact hb.elim
    | put => exact hb.elim
    | vw k => exact hb.elim (hL k rfl b) (hF b)
  | ept d k n i o cs =>
    obtain rfl := Option.some.inj he
    obtain ⟨g, r, vs, h1, h2, h3, h4, _⟩ := hc
    refine ⟨g, i * n + o, vs, h2, hL k rfl g (by rw [h1]; exact List.mem_cons_self), h3.keep fun b hb => ⟨?_, rfl⟩, h4⟩
    cases d with
    | true => exact hb.elim (hL k rfl b) (hF b)
    | false => exact hF b hb
  | fn f caps =>
    obtain ⟨cs, hcs, rfl⟩ := Option.map_eq_some_iff.1 he
    rcases hB with hB | h3
    · cases hB
    · refine ⟨_, hc, ?_⟩
      clear hc he hL
      induction caps generalizing cs with
      | nil => obtain rfl : [] = cs := by simpa [capPVs] using hcs
               exact .nil
      | cons c caps ih =>
        simp only [capPVs] at hcs
        split at hcs
        · rename_i p ps e1 e2
          obtain rfl := Option.some.inj hcs
          exact .cons (hbox h3 c.1 c.2 p e1) (ih ps e2)
        · cases hcs
  | fnr f caps =>
    obtain rfl := Option.some.inj he
    obtain ⟨vs, rfl, ha⟩ := hc
    exact ⟨vs, rfl, ha.imp fun _ _ _ h => h.keep fun b hb => ⟨hF b hb, rfl⟩⟩
  | dead => cases he

theorem erases_ok {F : Nat → Prop} {bn : List (Nat × List C)} (hF : ∀ b, J.F b → F b) : ∀ {vs : List Value} {avs args : List AV}, All2 (AR J w) vs avs → eraseAVs bn avs = some args → (∀ k, k ∈ keysOfC (cellsAVs avs) → ∀ b, b ∈ J.L k → F b) →
    (allC noPtrC (cellsAVs avs) = true ∨ BoxF J w F bn) → All2 (AR (argJ F) w) vs args
  | _, _, args, .nil, he, _, _ => by obtain rfl : [] = args := by simpa [eraseAVs] using he
                                     exact .nil
  | _, _, args, .cons (b := x) h1 h2, he, hL, hB => by
    have hka : ∀ (cs cs' : List C), keysOfC (cs ++ cs') = keysOfC cs ++ keysOfC cs' := by
      intro cs cs'
      induction cs with
      | nil => rfl
      | cons c cs ih => simp [keysOfC, ih]
    have haa : ∀ (f : C → Bool) (cs cs' : List C), allC f (cs ++ cs') = (allC f cs && allC f cs') := by
      intro f cs cs'
      induction cs with
      | nil => rfl
      | cons c cs ih => simp [allC, ih, Bool.and_assoc]
    simp only [eraseAVs] at he
    split at he
    · rename_i p ps e1 e2
      obtain rfl := Option.some.inj he
      simp only [cellsAVs, hka] at hL
      simp only [cellsAVs, haa, Bool.and_eq_true] at hB
      refine .cons ?_ (erases_ok hF h2 e2 (fun k hk => hL k (List.mem_append_right _ hk)) (hB.imp (fun h => h.2) id))
      have hL1 : ∀ k, k ∈ keysOfC x.cells → ∀ b, b ∈ J.L k → F b := fun k hk => hL k (List.mem_append_left _ hk)
      have hB1 := hB.imp (fun h => h.1) id
      have hlist : ∀ (cs : List C) (us : List Value) (qs : List C), All2 (CR J w) us cs → eraseCs bn cs = some qs → (∀ k, k ∈ keysOfC cs → ∀ b, b ∈ J.L k → F b) → (allC noPtrC cs = true ∨ BoxF J w F bn) → All2 (CR (argJ F) w) us qs := by
        intro cs
        induction cs with
        | nil => intro us qs h he _ _; cases h; obtain rfl : [] = qs := by simpa [eraseCs] using he
                 exact .nil
        | cons c cs ih =>
          intro us qs h he hL hB
          cases h with
          | cons g1 g2 =>
            simp only [eraseCs] at he
            split at he
            · rename_i q qs' f1 f2
              obtain rfl := Option.some.inj he
              simp only [allC, Bool.and_eq_true] at hB
              exact .cons (erase_ok hF g1 f1 (fun k hk => hL k (by simp [keysOfC, hk])) (hB.imp (fun h => h.1) id)) (ih _ _ g2 f2 (fun k hk => hL k (by simp only [keysOfC]; exact List.mem_append_right _ hk)) (hB.imp (fun h => h.2) id))
            · cases he
      cases x with
      | one c =>
        obtain ⟨c', hc', rfl⟩ := Option.map_eq_some_iff.1 e1
        exact erase_ok hF h1 hc' (fun k hk => hL1 k (by simp [AV.cells, keysOfC, hk])) (hB1.imp (fun h => by simpa [AV.cells, allC] using h) id)
      | agg cs =>
        obtain ⟨c', hc', rfl⟩ := Option.map_eq_some_iff.1 e1
        obtain ⟨us, rfl, hu⟩ := h1
        exact ⟨us, rfl, hlist cs us c' hu hc' hL1 hB1⟩
      | tup l => cases e1
    · cases he
end
end Go.Proofs.YtjkfmihbmkbjfaaGreat
