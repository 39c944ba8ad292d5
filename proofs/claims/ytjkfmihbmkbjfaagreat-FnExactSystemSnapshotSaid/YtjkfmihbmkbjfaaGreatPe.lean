/- Pointers to elements of rows of our own, and stores through them: looks. No program in sight. -/
import Derived.Test.YtjkfmihbmkbjfaaGreatCb
namespace Go.Proofs.YtjkfmihbmkbjfaaGreat
open Go.RowKit

def evalEp (tt : List (Nat × TI)) (orc : Orc) : Op → List AV → Option (AV × List Ob)
  | .indexAddr t _ _, [.one (.slc (.own d k) n l), .one (.int _ i)] =>
    (match get tt t, orc with
    | some ⟨.sli e, _, _, _⟩, .rowE r => (match get tt e with
      | some ei => bif Nat.beq ei.size n then some (.one (.ept d k n i.toNat 0 r), [.elem l i r]) else none
      | none => none)
    | _, _ => none)
  | .fieldAddr t _ f, [.one (.ept d k n i o cs)] =>
    (match fieldAt? tt t f with
    | some (o', sz, _) => bif Nat.beq sz 0 then none else some (.one (.ept d k n i (o + o') (cs.drop o')), [])
    | none => none)
  | .nilCheck _, [.one (.ept d k n i o cs)] => some (.one (.ept d k n i o cs), [])
  | .load t _, [.one (.ept d k n i o cs)] =>
    (match get tt t with
    | some ti => bif Nat.ble ti.size cs.length then (match asVal ti ((cs.take ti.size).map (liftC (eptTok d k))) with
      | some v => some (v, [])
      | none => none) else none
    | none => none)
  | _, _ => none

section
variable {P : Program} {A : Nat → List AV → AV → Prop} {T : TakeT} {J : Inj} {w : World}
theorem own_elem {d : Bool} {k n : Nat} {l : List (List PV)} {v : Value} (h : CR J w v (.slc (.own d k) n l)) {i : Nat} {r : List PV} (hi : l[i]? = some r) :
    ∃ g rest cap vs, v = .slice (some ⟨g, 0, none⟩) l.length cap ∧ J.L k = g :: rest ∧ VC (J.X (eptTok d k)) w vs r ∧ (∀ (j : Nat) (u : Value), vs[j]? = some u → w.cell? ⟨g, i * n + j, none⟩ = some u) ∧ ∃ arr e, w.heap[g]? = some (.cells arr e (0, 0)) := by
  have hne : l ≠ [] := fun e => by subst e; simp at hi
  have cellsOf : ∀ (g : Nat) (cur : Array Value) (e : TypeId), w.heap[g]? = some (.cells cur e (0, 0)) → ∀ (j : Nat) (u : Value), (((cur.toList.take (l.length * n)).drop (i * n)).take n)[j]? = some u → w.cell? ⟨g, i * n + j, none⟩ = some u := by
    intro g cur e hg
    have := take_cells (k := n) (drop_cells (w := w) (vs := cur.toList.take (l.length * n)) (b := g) (off := 0) (k := i * n) (fun j u hj => by
      rw [List.getElem?_take] at hj
      split at hj
      · rw [Array.getElem?_toList] at hj
        simp [World.cell?, hg, hj]
      · cases hj))
    simpa using this
  cases d with
  | true =>
    obtain ⟨L', h1, _, h3, h4⟩ := h
    generalize hp : PV.slc n l = p at h1
    cases h1 with
    | int | bool | str => cases hp
    | emp => cases hp; exact absurd rfl hne
    | @slc g cap n' cur e L l' hg hs hr h5 h6 =>
      cases hp
      rcases h4 with h4 | ⟨g', r1, r2, e1, e2⟩
      · cases h4
      · cases e1
        have hv := hr.vr (X := J.X (.vw k)) fun b hb => .inl (h3 b (List.mem_cons_of_mem _ hb))
        exact ⟨g, r2, cap, _, rfl, e2, (hv.get hi).1, cellsOf g cur e hg, cur, e, hg⟩
  | false =>
    rcases h with ⟨e, _⟩ | ⟨g, cap, cur, e, hL, rfl, hg, hs, hr, h1, h2⟩
    · exact absurd e hne
    · exact ⟨g, [], cap, _, rfl, hL, (hr.get hi).1, cellsOf g cur e hg, cur, e, hg⟩

theorem evalEp_ok {tt : List (Nat × TI)} (htt : ttOk P tt = true) {orc : Orc} {op : Op} {avs : List AV} {v : AV} {obs : List Ob} (h : evalEp tt orc op avs = some (v, obs)) (hob : AllOb A T obs)
    {o : Oper} (ho : o.op = op) {ρ : Operand → Value} (hv : All2 (fun x v => AR J w (ρ x) v) op.operands.toList avs) :
    ∃ u, (execOp ρ o).run P w = .ok (.value u) w ∧ AR J w u v := by
  unfold evalEp at h
  split at h
  · -- an element's address
    rename_i t px pi d k n l kk i
    split at h
    · rename_i e n' z q r hg
      split at h
      · rename_i ei hge
        cases hsz : Nat.beq ei.size n with
        | false => rw [hsz] at h; cases h
        | true =>
          rw [hsz] at h
          obtain ⟨rfl, rfl⟩ : AV.one (.ept d k n i.toNat 0 r) = v ∧ [Ob.elem l i r] = obs := by simpa using h
          obtain ⟨h0, hl⟩ : 0 ≤ i ∧ l[i.toNat]? = some r := hob
          have hu := (ttOk_get htt hg).sli
          have hs := sizeOf_run (P := P) (ttOk_get htt hge) w
          have hn : ei.size = n := by simpa using hsz
          cases hv with
          | cons h1 h2 =>
            cases h2 with
            | cons h2 _ =>
              obtain ⟨e2, _⟩ := h2
              obtain ⟨g, rest, cap, vs, e1, hL, hvc, hc, hblk⟩ := own_elem h1 hl
              have hlt : i.toNat < l.length := (List.getElem?_eq_some_iff.1 hl).1
              have hlt' : i < (l.length : Int) := by omega
              refine ⟨.pointer (some ⟨g, 0 + i.toNat * n, none⟩), ?_, g, rest, vs, hL, by simp, hvc, (fun j u hj => by simpa using hc j u hj), hblk⟩
              simp [execOp, ho, e1, e2, Instr.indexAt, asIntOf, run_underlying hu, h0, hlt', hs, hn, Addr.add_lit]
      · cases h
    · cases h
  · -- a field's address
    rename_i t px f d k n i o' cs
    cases hv with
    | cons h1 _ =>
      obtain ⟨g, rest, vs, hL, e1, hvs, hc, hblk⟩ := h1
      split at h
      · rename_i of sz ag hfa
        cases hz : Nat.beq sz 0 with
        | true => rw [hz] at h; cases h
        | false =>
          rw [hz] at h
          obtain ⟨rfl, rfl⟩ : AV.one (.ept d k n i (o' + of) (cs.drop of)) = v ∧ [] = obs := by simpa using h
          unfold fieldAt? at hfa
          split at hfa
          · rename_i fs n1 z hg
            obtain ⟨gs, hu, hfo⟩ := (ttOk_get htt hg).struct
            obtain ⟨fg, inf, dd, k1, rfl, hi, rfl, hd, hag⟩ := field_of hfo hfa
            have k1' : gs[f]? = some fg := by simpa using k1
            refine ⟨.pointer (some ⟨g, i * n + o' + fg.offset, none⟩), ?_, g, rest, vs.drop fg.offset, hL, by rw [Nat.add_assoc], hvs.drop _, ?_, hblk⟩
            · have hsz : inf.size ≠ 0 := fun e => by rw [e] at hz; cases hz
              simp [execOp, ho, e1, Instr.fieldAt, run_underlying hu, k1', Instr.sureAddr, fieldPlace, sizeOf, typeInfo_run hi, hsz, Addr.add_lit]
            · have := drop_cells (k := fg.offset) hc
              simpa [Nat.add_assoc] using this
          · cases hfa
      · cases h
  · -- nilCheck
    rename_i px d k n i o' cs
    obtain ⟨rfl, rfl⟩ : AV.one (.ept d k n i o' cs) = v ∧ [] = obs := by simpa using h
    cases hv with
    | cons h1 _ =>
      obtain ⟨g, rest, vs, hL, e1, hr⟩ := h1
      exact ⟨_, by simp [execOp, ho, e1], g, rest, vs, hL, rfl, hr⟩
  · -- load
    rename_i t px d k n i o' cs
    split at h
    · rename_i ti hg
      cases hle : Nat.ble ti.size cs.length with
      | false => rw [hle] at h; cases h
      | true =>
        rw [hle] at h
        simp only [cond_true] at h
        split at h
        · rename_i v' hval
          obtain ⟨rfl, rfl⟩ : v' = v ∧ [] = obs := by simpa using h
          cases hv with
          | cons h1 _ =>
            obtain ⟨g, rest, vs, hL, e1, hvc, hc, _⟩ := h1
            have hlift : ∀ v p, VV (J.X (eptTok d k)) w v p → CR J w v (liftC (eptTok d k) p) := by
              intro v p hp
              refine liftC_ok (X := J.X (eptTok d k)) (fun c n l hc => ?_) hp
              cases d with
              | true => exact hc
              | false => exact hc
            have hall : All2 (CR J w) (vs.take ti.size) ((cs.take ti.size).map (liftC (eptTok d k))) := (VC.all2 (hvc.take ti.size)).map (liftC (eptTok d k)) fun a p _ hp => hlift a p hp
            obtain ⟨u, hu, hr⟩ := asVal_ok (P := P) (ttOk_get htt hg) hall hval (take_cells hc)
            exact ⟨u, by simp [execOp, ho, e1, Instr.loadAt, Instr.sureAddr, hu], hr⟩
        · cases h
    · cases h
  · cases h
end
end Go.Proofs.YtjkfmihbmkbjfaaGreat
