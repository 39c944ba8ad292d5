/- Stores through pointers to elements: the machine's step. No program in sight. -/
import Derived.Test.YtjkfmihbmkbjfaaGreatPf
namespace Go.Proofs.YtjkfmihbmkbjfaaGreat
open Go.RowKit

def evalEs (tt : List (Nat × TI)) : Op → List AV → Option (Res × List Ob)
  | .store t _ _, [.one (.ept d k n i o pcs), v] =>
    (match get tt t, v.flatCells with
    | some ti, some cs => (match toPVs cs with
      | some ps => bif Nat.beq cs.length ti.size && allAlive cs && Nat.ble (o + ti.size) n && Nat.blt n 4294967296 && Nat.ble ti.size pcs.length && Nat.blt 0 ti.size && nodupN (k :: keysOfC cs) && (allDeep cs || !d) then
          some (⟨.one .dead, (k, some (.put d n i o ps)) :: (bif d then killAll (keysOfC cs) else freezeAll (keysOfC cs)), none, none⟩, []) else none
      | none => none)
    | _, _ => none)
  | _, _ => none

section
variable {P : Program} {N : Nat} {w0 : World} {F0 : Nat → Prop} {J : Inj} {a : Act} {w : World} {s : St}
theorem splice_length {cur vs : List Value} {p : Nat} (h : p + vs.length ≤ cur.length) : (spliceL cur p vs).length = cur.length := by
  unfold spliceL
  simp
  omega
theorem splice_take {cur vs : List Value} {p m : Nat} (h : p + vs.length ≤ m) (hm : m ≤ cur.length) : (spliceL cur p vs).take m = spliceL (cur.take m) p vs := by
  have hl : (cur.take m).length = m := by simp; omega
  have e : spliceL cur p vs = spliceL (cur.take m) p vs ++ cur.drop m := by
    rw [← spliceL_in (by omega), List.take_append_drop]
  rw [e, List.take_left' (by rw [splice_length (by omega), hl])]
theorem splice_out {cur vs : List Value} {p m : Nat} (h : m ≤ p) (hm : p ≤ cur.length) : (spliceL cur p vs).take m = cur.take m := by
  unfold spliceL
  rw [List.append_assoc, List.take_append_of_le_length (by simp; omega), List.take_take, Nat.min_eq_left h]
/-- the row's cells, stored into: in the part that the slice shows -/
theorem splice_row {cur vs : List Value} {i n o len cap : Nat} (hs : cur.length = cap * n) (hl : len ≤ cap) (ho : o + vs.length ≤ n) (hp : i * n + o + vs.length ≤ cur.length) :
    (spliceL cur (i * n + o) vs).take (len * n) = if i < len then spliceL (cur.take (len * n)) (i * n + o) vs else cur.take (len * n) := by
  have hln : len * n ≤ cur.length := by rw [hs]; exact Nat.mul_le_mul_right _ hl
  by_cases hi : i < len
  · rw [if_pos hi]
    refine splice_take ?_ hln
    have : (i + 1) * n ≤ len * n := Nat.mul_le_mul_right _ hi
    rw [Nat.add_mul, Nat.one_mul] at this
    omega
  · rw [if_neg hi]
    refine splice_out ?_ (by omega)
    have : len * n ≤ i * n := Nat.mul_le_mul_right _ (by omega)
    omega
theorem setRow_len (o : Nat) (ps : List PV) : ∀ (l : List (List PV)) (i : Nat), (setRow l i o ps).length = l.length
  | [], _ => rfl
  | _ :: _, 0 => rfl
  | _ :: l, i + 1 => congrArg (· + 1) (setRow_len o ps l i)
theorem toPVs_len : ∀ {cs : List C} {ps : List PV}, toPVs cs = some ps → ps.length = cs.length
  | [], ps, h => by obtain rfl : [] = ps := by simpa [toPVs] using h
                    rfl
  | c :: r, ps, h => by
    simp only [toPVs] at h
    split at h
    · rename_i p ps' e1 e2
      obtain rfl := Option.some.inj h
      exact congrArg (· + 1) (toPVs_len e2)
    · cases h

theorem evalEs_ok {tt : List (Nat × TI)} (htt : ttOk P tt = true) {o : Oper} {avs : List AV} {r : Res} {obs : List Ob} (h : evalEs tt o.op avs = some (r, obs)) (hdst : ∀ d, o.dst = some d → d < N)
    (hrel : Rel N w0 F0 J a w s) (hops : All2 (fun x v => opAV s x = some v) o.op.operands.toList avs) {K : Act → World → Prop} {Q : Exit → Act → World → Prop}
    (hK : ∀ J' a' w', Rel N w0 F0 J' a' w' (s.step o.dst r) → K a' w') : o.wp P a w K Q := by
  have hv := opAVs_ok hrel hops
  generalize ho : o.op = op at h hv
  unfold evalEs at h
  split at h
  · rename_i t px py d k n i o' pcs v
    split at h
    · rename_i ti cs hg hfc
      split at h
      · rename_i ps hps
        cases hc : (Nat.beq cs.length ti.size && allAlive cs && Nat.ble (o' + ti.size) n && Nat.blt n 4294967296 && Nat.ble ti.size pcs.length && Nat.blt 0 ti.size && nodupN (k :: keysOfC cs) && (allDeep cs || !d)) with
        | false => rw [hc] at h; cases h
        | true =>
          rw [hc] at h
          obtain ⟨rfl, rfl⟩ : (⟨.one .dead, (k, some (.put d n i o' ps)) :: (bif d then killAll (keysOfC cs) else freezeAll (keysOfC cs)), none, none⟩ : Res) = r ∧ [] = obs := by simpa using h
          simp only [Bool.and_eq_true, Nat.beq_eq, Nat.ble_eq, Nat.blt_eq, Bool.or_eq_true, Bool.not_eq_true'] at hc
          obtain ⟨⟨⟨⟨⟨⟨⟨c1, c2⟩, c3⟩, c3'⟩, c4⟩, c5⟩, c6⟩, c7⟩ := hc
          have hput : ∀ l, putR l i o' ps = setRow l i o' ps := fun l => by
            unfold putR
            cases hb : Nat.beq o' 4294967296 with
            | false => rfl
            | true => have := Nat.eq_of_beq_eq_true hb; omega
          obtain ⟨hkn, hnd⟩ := List.nodup_cons.1 (nodupN_iff.1 c6)
          cases hv with
          | cons h1 h2 =>
            cases h2 with
            | cons h2 _ =>
              obtain ⟨g, rest, vs, hL, e1, hvs, hcell, arr, e, hheap⟩ := h1
              have hcl := flat_cells h2 hfc c2
              generalize hus : (a.eval py).cells.toList = us at hcl
              have hn : us.length = ti.size := by rw [hcl.length, c1]
              have hgk : g ∈ J.L k := by rw [hL]; exact List.mem_cons_self
              have hvl : vs.length = pcs.length := hvs.length
              have hfit : i * n + o' + us.length ≤ arr.size := by
                have hj : ti.size - 1 < vs.length := by omega
                have := hcell (ti.size - 1) vs[ti.size - 1] (List.getElem?_eq_getElem hj)
                simp only [World.cell?, hheap] at this
                have h3 : arr[i * n + o' + (ti.size - 1)]? = some vs[ti.size - 1] := by simpa using this
                have := (Array.getElem?_eq_some_iff.1 h3).1
                omega
              have hst := run_storeCells_at P g (i * n + o') e us 0 arr w hheap (by simpa using hfit) (allAlive_one hcl c2)
              simp only [Nat.add_zero] at hst
              have hsz := sizeOf_run (P := P) (ttOk_get htt hg) w
              have hrun : (execOp a.eval o).run P w = .ok .skip (w.setRow g (spliceL arr.toList (i * n + o') us).toArray) := by
                have hn' : (a.eval py).cells.size = ti.size := by rw [← hn, ← hus]; simp
                unfold spliceL
                simp only [execOp, ho, Instr.storeAt, e1, Instr.sureAddr, storeVar, Sem.run_bind, Sem.run_pure, Result.andThen_ok, hsz, hn', hus]
                simp [hst]
              generalize hw' : w.setRow g (spliceL arr.toList (i * n + o') us).toArray = w' at hrun
              have hgw : w'.heap[g]? = some (.cells (spliceL arr.toList (i * n + o') us).toArray e (0, 0)) := by rw [← hw']; exact setRow_heap w g arr _ e (0, 0) hheap
              have hother : ∀ b, b ≠ g → w'.heap[b]? = w.heap[b]? := fun b hb => by rw [← hw']; exact setRow_other w g b _ hb
              have hsize : w'.heap.size = w.heap.size := by rw [← hw']; simp [World.setRow]
              have hgF : ¬ J.F g := (hrel.lo k g hgk).2.2
              have hF : ∀ b, J.F b → w'.heap[b]? = w.heap[b]? := fun b hb => hother b fun e => hgF (e ▸ hb)
              have hLx : ∀ x, x ≠ k → ∀ b, b ∈ J.L x → w'.heap[b]? = w.heap[b]? := fun x hx b hb => hother b fun e => hx (hrel.dj x k g (e ▸ hb) hgk)
              have hbelow : Below w0.heap.size w0 w' := by
                refine hrel.below.trans ⟨by rw [← hw']; rfl, by rw [← hw']; rfl, by rw [← hw']; rfl, by omega, fun b hb => hother b fun e => ?_⟩
                have := (hrel.lo k g hgk).1
                omega
              have hlen : ps.length = us.length := by rw [toPVs_len hps, c1, hn]
              have hkx : ∀ x, x ∈ keysOfC cs → x ≠ k := fun x hx e => hkn (e ▸ hx)
              have harr : ∀ (m : Nat), arr.size = m → arr.toList.length = m := fun m h => by simpa using h
              cases d with
              | true =>
                have hdeep : allDeep cs = true := by simpa using c7
                have hget : ∀ x, get ((k, some (.put true n i o' ps)) :: (bif true then killAll (keysOfC cs) else freezeAll (keysOfC cs))) x = if x = k then some (some (.put true n i o' ps)) else if x ∈ keysOfC cs then some none else none := fun x => by
                  by_cases hx : x = k
                  · rw [if_pos hx]; simp [get, hx]
                  · rw [if_neg hx, get_cons_ne hx]; exact get_kill
                obtain ⟨Lv, v1, v2, v3⟩ := toPVs_oc (J := J) (w' := w') hcl hps hdeep (of_nodup hrel hnd) fun x hx b hb => hLx x (hkx x hx) b hb
                have hof : ∀ b, b ∈ J.of cs → b ∉ J.L k := fun b hb hb' => by
                  obtain ⟨x, hx, hm⟩ := mem_of hb
                  exact hkx x hx (hrel.dj x k b hm hb')
                refine wp_of_skip hrun (hK ⟨J.F, fun x => if x = k then J.L k ++ J.of cs else if x ∈ keysOfC cs then [] else J.L x, J.B⟩ _ _ (hrel.upd o.dst hdst _ undef hbelow ⟨fun b hb => ⟨hb, hF b hb⟩, fun x hx => ?_, fun x hx => ?_, fun x x' hx => ?_, fun x t hx => ?_, fun _ _ => rfl, fun x d1 m i1 o1 cs1 hx => ?_⟩ ⟨fun b hb => ?_, hrel.f0, fun x => ?_, fun x b hb => ?_, fun x x' b hb hb' => ?_⟩ (fun _ => trivial) (fun x c hx _ => ?_) (fun x c hx => by cases hx)))
                · rw [hget] at hx
                  split at hx
                  · cases hx
                  · rename_i h3
                    split at hx
                    · cases hx
                    · rename_i h4
                      exact ⟨by show (if _ then _ else _) = _; rw [if_neg h3, if_neg h4], hLx x h3⟩
                · rw [hget] at hx
                  split at hx
                  · cases hx
                  · split at hx <;> cases hx
                · rw [hget] at hx
                  split at hx
                  · cases hx
                  · split at hx <;> cases hx
                · rw [hget] at hx
                  split at hx
                  · exact .inr (.inr ⟨_, _, _, _, _, (Option.some.inj (Option.some.inj hx)).symm⟩)
                  · split at hx <;> cases hx
                · rw [hget] at hx
                  split at hx
                  · rename_i hxk
                    subst hxk
                    cases hx
                    intro v l hcr
                    rw [hput]
                    obtain ⟨L', w1, w2, w3, w4⟩ := hcr
                    show OwnDeep (if x = x then _ else _) w' v n _
                    rw [if_pos rfl]
                    generalize hp : PV.slc n l = p at w1
                    cases w1 with
                    | int | bool | str => cases hp
                    | emp oa n' =>
                      cases hp
                      exact ⟨[], .emp oa n, List.nodup_nil, (fun b hb => by simp at hb), .inl rfl⟩
                    | @slc g1 cap n' cur e2 L1 l' hg1 hs1 hr1 h5 h6 =>
                      cases hp
                      rcases w4 with w4 | ⟨g2, q1, q2, e3, e4⟩
                      · cases w4
                      · cases e3
                        obtain ⟨rfl, rfl⟩ : g1 = g ∧ q2 = rest := by rw [hL] at e4; cases e4; exact ⟨rfl, rfl⟩
                        rw [hheap] at hg1
                        cases hg1
                        obtain ⟨n1, n2⟩ := List.nodup_cons.1 w2
                        have hr2 : OR w' n L1 (arr.toList.take (l.length * n)) l := hr1.keep fun b hb => hother b fun e => n1 (e ▸ hb)
                        obtain ⟨L2, z1, z2, z3⟩ := OR.put v1 v2 (o := o') (by omega) hr2 n2 (fun b hb hb' => hof b (v3 b hb') (w3 b (List.mem_cons_of_mem _ hb))) i
                        rw [← splice_row (cap := cap) (by simpa using hs1) h5 (by omega) (by simpa using hfit)] at z1
                        have hl2 := setRow_len o' ps l i
                        have hgL2 : g1 ∉ L2 := fun hm => by
                          rcases z3 g1 hm with hm | hm
                          · exact n1 hm
                          · exact hof g1 (v3 g1 hm) hgk
                        refine ⟨g1 :: L2, ?_, List.nodup_cons.2 ⟨hgL2, z2⟩, fun b hb => ?_, .inr ⟨g1, L2, q2 ++ J.of cs, rfl, by rw [hL]; rfl⟩⟩
                        · rw [← hl2]
                          refine .slc hgw ?_ ?_ (by omega) (by rw [hl2]; exact h6)
                          · have := splice_length (cur := arr.toList) (vs := us) (p := i * n + o') (by simpa using hfit)
                            simpa [hs1] using this
                          · rw [hl2]; simpa using z1
                        · rcases List.mem_cons.1 hb with rfl | hb
                          · exact List.mem_append_left _ hgk
                          · rcases z3 b hb with hb | hb
                            · exact List.mem_append_left _ (w3 b (List.mem_cons_of_mem _ hb))
                            · exact List.mem_append_right _ (v3 b hb)
                  · split at hx <;> cases hx
                · exact ⟨by have := (hrel.fl b hb).1; omega, (hrel.fl b hb).2⟩
                · show (if x = k then _ else _ : List Nat).Nodup
                  split
                  · exact List.nodup_append.2 ⟨hrel.nd k, of_nodup hrel hnd, fun b hb b' hb' e => hof b' hb' (e ▸ hb)⟩
                  · split
                    · simp
                    · exact hrel.nd x
                · have hb : b ∈ (if x = k then J.L k ++ J.of cs else if x ∈ keysOfC cs then [] else J.L x) := hb
                  have key : ∀ y, b ∈ J.L y → w0.heap.size ≤ b ∧ b < w'.heap.size ∧ ¬ J.F b := fun y hy => by
                    obtain ⟨h3, h4, h5⟩ := hrel.lo y b hy
                    exact ⟨h3, by omega, h5⟩
                  split at hb
                  · rcases List.mem_append.1 hb with hb | hb
                    · exact key k hb
                    · obtain ⟨y, _, hm⟩ := mem_of hb
                      exact key y hm
                  · split at hb
                    · simp at hb
                    · exact key x hb
                · have hb : b ∈ (if x = k then J.L k ++ J.of cs else if x ∈ keysOfC cs then [] else J.L x) := hb
                  have hb' : b ∈ (if x' = k then J.L k ++ J.of cs else if x' ∈ keysOfC cs then [] else J.L x') := hb'
                  have key : ∀ y, y ≠ k → y ∉ keysOfC cs → b ∈ J.L y → b ∈ J.L k ++ J.of cs → False := fun y hy1 hy2 hy hm => by
                    rcases List.mem_append.1 hm with hm | hm
                    · exact hy1 (hrel.dj y k b hy hm)
                    · obtain ⟨z, hz, hm⟩ := mem_of hm
                      exact hy2 (hrel.dj y z b hy hm ▸ hz)
                  split at hb
                  · rename_i hxk
                    split at hb'
                    · rename_i hxk'; rw [hxk, hxk']
                    · rename_i h3
                      split at hb'
                      · simp at hb'
                      · rename_i h4; exact (key x' h3 h4 hb' hb).elim
                  · rename_i h3
                    split at hb
                    · simp at hb
                    · rename_i h4
                      split at hb'
                      · exact (key x h3 h4 hb hb').elim
                      · split at hb'
                        · simp at hb'
                        · exact hrel.dj x x' b hb hb'
                · obtain ⟨_, h3, h4, arr', e', h5, _⟩ := hrel.bo x c hx
                  refine ⟨by simp, h3, fun y hm => ?_, hother _ fun e => h4 k (e ▸ hgk)⟩
                  have hm : J.B x ∈ (if y = k then J.L k ++ J.of cs else if y ∈ keysOfC cs then [] else J.L y) := hm
                  split at hm
                  · rcases List.mem_append.1 hm with hm | hm
                    · exact h4 k hm
                    · obtain ⟨z, _, hm⟩ := mem_of hm
                      exact h4 z hm
                  · split at hm
                    · simp at hm
                    · exact h4 y hm
              | false =>
                have hget : ∀ x, get ((k, some (.put false n i o' ps)) :: (bif false then killAll (keysOfC cs) else freezeAll (keysOfC cs))) x = if x = k then some (some (.put false n i o' ps)) else if x ∈ keysOfC cs then some (some .sh) else none := fun x => by
                  by_cases hx : x = k
                  · rw [if_pos hx]; simp [get, hx]
                  · rw [if_neg hx, get_cons_ne hx]; exact get_freeze
                have hvc := toPVs_vc (J := J) (w' := w') (X := fun b => J.F b ∨ ∃ x, x ∈ keysOfC cs ∧ b ∈ J.L x) hcl hps (fun b hb => ⟨.inl hb, hF b hb⟩) fun x hx b hb => ⟨.inr ⟨x, hx, hb⟩, hLx x (hkx x hx) b hb⟩
                refine wp_of_skip hrun (hK ⟨fun b => J.F b ∨ ∃ x, x ∈ keysOfC cs ∧ b ∈ J.L x, fun x => if x ∈ keysOfC cs then [] else J.L x, J.B⟩ _ _ (hrel.upd o.dst hdst _ undef hbelow ⟨fun b hb => ⟨.inl hb, hF b hb⟩, fun x hx => ?_, fun x hx b hb => ?_, fun x x' hx => ?_, fun x t hx => ?_, fun _ _ => rfl, fun x d1 m i1 o1 cs1 hx => ?_⟩ ⟨fun b hb => ?_, fun b hb => .inl (hrel.f0 b hb), fun x => ?_, fun x b hb => ?_, fun x x' b hb hb' => ?_⟩ (fun _ => trivial) (fun x c hx _ => ?_) (fun x c hx => by cases hx)))
                · rw [hget] at hx
                  split at hx
                  · cases hx
                  · rename_i h3
                    split at hx
                    · cases hx
                    · rename_i h4
                      exact ⟨by show (if _ then _ else _) = _; rw [if_neg h4], hLx x h3⟩
                · rw [hget] at hx
                  split at hx
                  · cases hx
                  · split at hx
                    · rename_i h3; exact ⟨.inr ⟨x, h3, hb⟩, hLx x (hkx x h3) b hb⟩
                    · cases hx
                · rw [hget] at hx
                  split at hx
                  · cases hx
                  · split at hx <;> cases hx
                · rw [hget] at hx
                  split at hx
                  · exact .inr (.inr ⟨_, _, _, _, _, (Option.some.inj (Option.some.inj hx)).symm⟩)
                  · split at hx
                    · exact .inl (Option.some.inj (Option.some.inj hx)).symm
                    · cases hx
                · rw [hget] at hx
                  split at hx
                  · rename_i hxk
                    subst hxk
                    cases hx
                    intro v l hcr
                    rw [hput]
                    show OwnTop _ (if x ∈ keysOfC cs then [] else J.L x) w' v n _
                    rw [if_neg hkn]
                    rcases hcr with ⟨rfl, oa, rfl⟩ | ⟨g1, cap, cur, e2, hL1, rfl, hg1, hs1, hr1, h5, h6⟩
                    · exact .inl ⟨rfl, oa, rfl⟩
                    · obtain rfl : g1 = g := by rw [hL] at hL1; cases hL1; rfl
                      rw [hheap] at hg1
                      cases hg1
                      have hr2 : VR (fun b => J.F b ∨ ∃ x, x ∈ keysOfC cs ∧ b ∈ J.L x) w' n (arr.toList.take (l.length * n)) l := hr1.keep fun b hb => ⟨.inl hb, hF b hb⟩
                      have z1 := VR.put hvc (o := o') (by omega) hr2 i
                      rw [← splice_row (cap := cap) (by simpa using hs1) h5 (by omega) (by simpa using hfit)] at z1
                      have hl2 := setRow_len o' ps l i
                      refine .inr ⟨g1, cap, _, e, hL1, by rw [hl2], hgw, ?_, by rw [hl2]; simpa using z1, by omega, by rw [hl2]; exact h6⟩
                      have := splice_length (cur := arr.toList) (vs := us) (p := i * n + o') (by simpa using hfit)
                      simpa [hs1] using this
                  · split at hx <;> cases hx
                · rcases hb with hb | ⟨x, _, hb⟩
                  · exact ⟨by have := (hrel.fl b hb).1; omega, (hrel.fl b hb).2⟩
                  · have := hrel.lo x b hb
                    exact ⟨by omega, .inr this.1⟩
                · show (if _ then _ else _ : List Nat).Nodup
                  split
                  · simp
                  · exact hrel.nd x
                · have hb : b ∈ (if x ∈ keysOfC cs then [] else J.L x) := hb
                  split at hb
                  · simp at hb
                  · rename_i h3
                    obtain ⟨h4, h5, h6⟩ := hrel.lo x b hb
                    refine ⟨h4, by omega, fun hF => ?_⟩
                    rcases hF with hF | ⟨y, hy, hm⟩
                    · exact h6 hF
                    · exact h3 (hrel.dj x y b hb hm ▸ hy)
                · have hb : b ∈ (if x ∈ keysOfC cs then [] else J.L x) := hb
                  have hb' : b ∈ (if x' ∈ keysOfC cs then [] else J.L x') := hb'
                  split at hb
                  · simp at hb
                  · split at hb'
                    · simp at hb'
                    · exact hrel.dj x x' b hb hb'
                · obtain ⟨_, h3, h4, arr', e', h5, _⟩ := hrel.bo x c hx
                  refine ⟨by simp, fun hF => ?_, fun y hm => ?_, hother _ fun e => h4 k (e ▸ hgk)⟩
                  · rcases hF with hF | ⟨y, _, hm⟩
                    · exact h3 hF
                    · exact h4 y hm
                  · have hm : J.B x ∈ (if y ∈ keysOfC cs then [] else J.L y) := hm
                    split at hm
                    · simp at hm
                    · exact h4 y hm
      · cases h
    · cases h
  · cases h
end
end Go.Proofs.YtjkfmihbmkbjfaaGreat
