/- The front part of a row of our own, as a row of our own. No program in sight. -/
import Derived.Test.YtiafgmepdgfpbaaZb
set_option linter.unusedVariables false
set_option linter.unusedSimpArgs false
namespace Go.Proofs.Ytiafgmepdgfpbaa
open Go.RowKit
def evalCut (tt : List (Nat × TI)) (orc : Orc) : Op → List AV → Option (AV × List Ob)
  | .slice t _ none hi none, .one (.slc (.own false k) n l) :: r =>
    (match orc, get tt t with
    | .cut l', some ⟨.sli e, _, _, _⟩ => (match get tt e, optBound l.length hi r with
      | some ei, some (b, []) => bif Nat.beq ei.size n then some (.one (.slc (.own false k) n l'), [.eq (.one (.slc (.own false k) n ((l.take b.toNat).drop (Int.toNat 0)))) (.one (.slc (.own false k) n l')), .rng 0 b l.length]) else none
      | _, _ => none)
    | _, _ => none)
  | _, _ => none
section
variable {P : Program} {A : Nat → List AV → AV → Prop} {T : TakeT} {J : Inj} {w : World}
theorem OwnTop.cut {F : Nat → Prop} {L : List Nat} {oa : Option Addr} {m cap n b : Nat} {l : List (List PV)} (h : OwnTop F L w (.slice oa m cap) n l) (hb : b ≤ l.length) (hm : m = l.length) :
    OwnTop F L w (.slice oa b cap) n (l.take b) := by
  rcases h with ⟨rfl, oa', e⟩ | ⟨g, c, cur, e, hL, e1, hg, hs, hr, h1, h2⟩
  · have hb0 : b = 0 := by simpa using hb
    have := (Value.slice.inj e)
    obtain ⟨e1, e2, e3⟩ := this
    subst hb0
    exact .inl ⟨by simp, oa, by rw [e3]⟩
  · obtain ⟨e1, e2, e3⟩ := Value.slice.inj e1
    subst e1 e3
    have hlb : (l.take b).length = b := by simp; omega
    refine .inr ⟨g, cap, cur, e, hL, by rw [hlb], hg, hs, ?_, by omega, ⟨h2.1, by have := h2.2; omega⟩⟩
    have := hr.take b
    rw [hlb]
    rwa [List.take_take, Nat.min_eq_left (Nat.mul_le_mul_right n hb)] at this
theorem evalCut_ok {tt : List (Nat × TI)} (htt : ttOk P tt = true) {orc : Orc} {op : Op} {avs : List AV} {v : AV} {obs : List Ob} (h : evalCut tt orc op avs = some (v, obs)) (hob : AllOb A T obs)
    {o : Oper} (ho : o.op = op) {ρ : Operand → Value} (hv : All2 (fun x v => AR J w (ρ x) v) op.operands.toList avs) :
    ∃ u, (execOp ρ o).run P w = .ok (.value u) w ∧ AR J w u v := by
  unfold evalCut at h
  split at h
  · rename_i t px hi k n l r
    split at h
    · rename_i l' e n' z q hg
      split at h
      · rename_i ei b hge hhi
        cases hsz : Nat.beq ei.size n with
        | false => rw [hsz] at h; cases h
        | true =>
          rw [hsz] at h
          obtain ⟨rfl, rfl⟩ : AV.one (.slc (.own false k) n l') = v ∧ [Ob.eq (.one (.slc (.own false k) n ((l.take b.toNat).drop (Int.toNat 0)))) (.one (.slc (.own false k) n l')), Ob.rng 0 b l.length] = obs := by simpa using h
          obtain ⟨heq, hob⟩ := AllOb.cons hob
          have heq : AV.one (.slc (.own false k) n ((l.take b.toNat).drop (Int.toNat 0))) = .one (.slc (.own false k) n l') := heq
          obtain ⟨_, hab, hbl⟩ : (0 : Int) ≤ 0 ∧ 0 ≤ b ∧ b ≤ l.length := hob
          have hu := (ttOk_get htt hg).sli
          have hs := sizeOf_run (P := P) (ttOk_get htt hge) w
          have hn : ei.size = n := by simpa using hsz
          have hv' : All2 (fun x v => AR J w (ρ x) v) (px :: (hi.toArray.toList ++ [])) (.one (.slc (.own false k) n l) :: r) := by simpa [Op.operands] using hv
          cases hv' with
          | cons h1 h2 =>
            obtain ⟨_, hhic⟩ := optBound_ok hhi h2
            have h1 : CR J w (ρ px) (.slc (.own false k) n l) := h1
            obtain ⟨oa, cap, e1, hlc, hcm, hemp⟩ := slc_slice h1
            have hsb : (Instr.sliceBounds true l.length cap none (hi.map ρ) none).run P w = .ok (0, b.toNat, cap) w := by
              have e3 : ∀ c, (match (hi.map ρ) with | some v => Instr.sliceBound v cap c | none => (pure l.length : Sem Nat)).run P w = .ok b.toNat w := by
                intro c
                rcases hhic with ⟨rfl, rfl⟩ | ⟨x, k, rfl, hx⟩
                · simp
                · simp only [Option.map_some, hx]
                  exact bound_ok (by omega) (by omega)
              unfold Instr.sliceBounds
              simp only [Sem.run_bind, Sem.run_pure, Result.andThen_ok]
              have e3' := e3 .sliceAcap
              revert e3'
              cases hi.map ρ <;> simp <;> intro e3' <;> simp_all
            have hrun : (execOp ρ o).run P w = .ok (.value (.slice oa b.toNat cap)) w := by
              have e4 : (if cap = 0 then oa else oa.map (·.add (0 * n))) = oa := by
                split
                · rfl
                · cases oa <;> simp [Addr.add]
              simp [execOp, ho, e1, Instr.sliceAt, run_underlying hu, Instr.slice, hsb, hs, hn]
              simpa using e4
            refine ⟨_, hrun, ?_⟩
            rw [← heq]
            have h1 : OwnTop J.F (J.L k) w (ρ px) n l := h1
            rw [e1] at h1
            have h3 := h1.cut (b := b.toNat) (by omega) rfl
            show OwnTop J.F (J.L k) w _ n ((l.take b.toNat).drop (Int.toNat 0))
            simpa using h3
      · cases h
    · cases h
  · cases h
end
end Go.Proofs.Ytiafgmepdgfpbaa
