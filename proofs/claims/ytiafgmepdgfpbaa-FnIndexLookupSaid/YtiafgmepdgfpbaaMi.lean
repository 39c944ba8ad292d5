/- One row put into another, both of our own, and all that lies below them. No program in sight. -/
import Derived.Test.YtiafgmepdgfpbaaMv
set_option linter.unusedVariables false
set_option linter.unusedSimpArgs false
namespace Go.Proofs.Ytiafgmepdgfpbaa
open Go.RowKit
def evalI (orc : Orc) (dst : Option Nat) : Op → List AV → Option (Res × List Ob)
  | .call ⟨.value _, _, _⟩, [.one (.fn f []), .one (.slc (.own true k) n l), .one (.int .i64 i), .one (.slc (.own true k2) n2 [x])] =>
    (match orc, dst with
    | .ins l', some t => bif Nat.beq n n2 && !(Nat.beq k k2) && !(Nat.beq k (64 * t)) && !(Nat.beq k2 (64 * t)) then
        some (⟨.one (.slc (.own true (64 * t)) n l'), [(64 * t, none), (k, none), (k2, none)], none, none⟩,
          [.ins f n, .rng 0 i l.length, .len (l.length + 1), .eq (.one (.slc .sh n l')) (.one (.slc .sh n (l.take i.toNat ++ [x] ++ l.drop i.toNat)))]) else none
    | _, _ => none)
  | _, _ => none
section
variable {w w' : World}
theorem OR.split : ∀ (j : Nat) {n : Nat} {L : List Nat} {cs : List Value} {l : List (List PV)}, OR w n L cs l → ∃ A B, L = A ++ B ∧ OR w n A (cs.take (j * n)) (l.take j) ∧ OR w n B (cs.drop (j * n)) (l.drop j)
  | 0, n, L, cs, l, h => ⟨[], L, rfl, by simpa using OR.nil n, by simpa using h⟩
  | _ + 1, _, _, _, _, .nil n => ⟨[], [], rfl, by simpa using OR.nil n, by simpa using OR.nil n⟩
  | j + 1, n, _, _, _, .cons (ce := ce) (cs := cs) (L1 := L1) h1 h2 h3 => by
    obtain ⟨A, B, rfl, h4, h5⟩ := OR.split j h3
    have hl : (j + 1) * n = ce.length + j * n := by rw [OC.length h1, h2, Nat.add_mul, Nat.one_mul, Nat.add_comm]
    refine ⟨L1 ++ A, B, by simp, ?_, ?_⟩
    · rw [hl, List.take_length_add_append, List.take_succ_cons]
      exact .cons h1 h2 h4
    · rw [hl, List.drop_length_add_append, List.drop_succ_cons]
      exact h5
end
section
variable {P : Program} {N : Nat} {w0 : Base} {F0 : Nat → Prop} {J : Inj} {a : Act} {w : World} {s : St}
theorem rowDeep {L : List Nat} {v : Value} {n : Nat} {l : List (List PV)} (h : OwnDeep L w v n l) (hl : l.length < 1073741824) :
    ∃ oa cap olds L1, v = .slice oa l.length cap ∧ RowAt w n oa l.length cap olds ∧ OR w n L1 olds l ∧ L1.Nodup ∧ (∀ b, b ∈ L1 → b ∈ L) ∧ (0 < cap → ∃ g, oa = some ⟨g, 0, none⟩ ∧ g ∈ L ∧ g ∉ L1 ∧ ∃ r, L = g :: r) := by
  obtain ⟨L', h1, h2, h3, h4⟩ := h
  generalize hp : PV.slc n l = q at h1
  cases h1 with
  | int | bool | str | any | raw => cases hp
  | emp oa n' =>
    cases hp
    exact ⟨oa, 0, [], [], rfl, ⟨by simp, .inl ⟨rfl, rfl, rfl⟩, Nat.le_refl _, Nat.zero_le _, by simp, by simp⟩, .nil n, List.nodup_nil, fun b hb => (by simp at hb), fun h => by omega⟩
  | @slc g cap n' cur e L1 l' hg hs hr h5 h6 =>
    cases hp
    obtain ⟨n1, n2⟩ := List.nodup_cons.1 h2
    refine ⟨some ⟨g, 0, none⟩, cap, _, L1, rfl, ⟨hr.length, .inr ⟨g, cur, e, rfl, hg, hs, rfl⟩, h5, h6.1, hl, (OR.vr (X := fun _ => True) hr fun _ _ => trivial).ones⟩, hr, n2, fun b hb => h3 b (List.mem_cons_of_mem _ hb), fun _ => ⟨g, rfl, h3 g List.mem_cons_self, n1, ?_⟩⟩
    rcases h4 with h4 | ⟨g2, q1, q2, e3, e4⟩
    · cases h4
    · obtain ⟨rfl, rfl⟩ : g = g2 ∧ L1 = q1 := by simpa using e3
      exact ⟨q2, e4⟩
theorem evalI_ok {orc : Orc} {o : Oper} {avs : List AV} {r : Res} {obs : List Ob} (h : evalI orc o.dst o.op avs = some (r, obs)) (hob : AllOb (ACallsAt P w0) (AKinds P w0) obs) (hdst : ∀ d, o.dst = some d → d < N)
    (hrel : Rel N w0 F0 J a w s) (hops : All2 (fun x v => opAV s x = some v) o.op.operands.toList avs) {K : Act → World → Prop} {Q : Exit → Act → World → Prop}
    (hK : ∀ J' a' w', Rel N w0 F0 J' a' w' (s.step o.dst r) → K a' w') : o.wp P a w K Q := by
  have hv := opAVs_ok hrel hops
  generalize ho : o.op = op at h hv
  generalize hd : o.dst = dst at h
  unfold evalI at h
  split at h
  rotate_left
  · cases h
  rename_i px args tys f k n l i k2 n2 x
  split at h
  rotate_left
  · cases h
  rename_i l' t
  cases hc : (Nat.beq n n2 && !(Nat.beq k k2) && !(Nat.beq k (64 * t)) && !(Nat.beq k2 (64 * t))) with
  | false => rw [hc] at h; cases h
  | true =>
    rw [hc] at h
    simp only [cond_true, Option.some.injEq, Prod.mk.injEq] at h
    obtain ⟨rfl, rfl⟩ := h
    simp only [Bool.and_eq_true, Bool.not_eq_true', Nat.beq_eq] at hc
    obtain ⟨⟨⟨c1, c2⟩, c3⟩, c4⟩ := hc
    subst c1
    have hne : ∀ {x y : Nat}, Nat.beq x y = false → x ≠ y := fun h e => by rw [e] at h; simp at h
    have c2 := hne c2
    have c3 := hne c3
    have c4 := hne c4
    obtain ⟨⟨hfn, hn0, hcall⟩, hob⟩ := AllOb.cons hob
    obtain ⟨⟨i0, _, i1⟩, hob⟩ := AllOb.cons hob
    obtain ⟨hlen, hob⟩ := AllOb.cons hob
    have hlen : l.length + 1 ≤ 1073741824 := hlen
    have hl' : l' = l.take i.toNat ++ [x] ++ l.drop i.toNat := by
      have hob : AV.one (.slc .sh n l') = AV.one (.slc .sh n _) := hob
      simpa using hob
    obtain ⟨j, rfl⟩ : ∃ j : Nat, i = (j : Int) := ⟨i.toNat, by omega⟩
    rw [Int.toNat_natCast] at hl'
    have hj : j ≤ l.length := by omega
    obtain ⟨args⟩ := args
    have hv : All2 (fun x v => AR J w (a.eval x) v) (px :: args) [.one (.fn f []), .one (.slc (.own true k) n l), .one (.int .i64 (j : Int)), .one (.slc (.own true k2) n [x])] := by simpa [Op.operands, Call.operands] using hv
    cases hv with
    | cons hx hv =>
    cases hv with
    | @cons p1 _ _ _ hrow hv =>
    cases hv with
    | @cons p2 _ _ _ hint hv =>
    cases hv with
    | @cons p3 _ _ _ harg hv =>
    cases hv
    have hx : a.eval px = .func (.func f) #[] #[] := by simpa [AR, CR] using hx
    obtain ⟨hint, _⟩ : a.eval p2 = .int .i64 (j : Int) ∧ InR .i64 (j : Int) := hint
    obtain ⟨oa, cap, olds, L1, hrv, hR, hOR, hn1, hs1, hg1⟩ := rowDeep hrow (by omega)
    obtain ⟨ob, vc, vs0, Lx, hav, hRx, hORx, hnx, hsx, hgx⟩ := rowDeep harg (by simp)
    have hvc : 0 < vc := by have h9 : 1 ≤ vc := hRx.le; omega
    obtain ⟨vb, rfl, hvb, hvbx, _⟩ := hgx hvc
    have hlo := hrel.lo k
    have hlo2 := hrel.lo k2
    have hdj : ∀ b, b ∈ J.L k → b ∉ J.L k2 := fun b h1 h2 => c2 (hrel.dj k k2 b h1 h2)
    have hvl : vs0.length = n := by rw [hRx.len]; simp
    have hOne : OneAt w n oa cap vb 0 vs0 := by
      refine ⟨hvl, fun j' u hj' => ?_, hRx.ones, fun g hg hcap e => ?_⟩
      · rcases hRx.row with ⟨_, h0, _⟩ | ⟨g, cur, e, h1, h2, h3, h4⟩
        · simp at h0
        · obtain rfl : vb = g := by simpa using h1
          rw [← h4, List.getElem?_take] at hj'
          split at hj'
          · have : cur[j']? = some u := by simpa using hj'
            simp [World.cell?, h2, this]
          · cases hj'
      · obtain ⟨g', h5, h6, _⟩ := hg1 hcap
        rw [hg] at h5
        obtain rfl : g = g' := by simpa using h5
        exact hdj g h6 (e ▸ hvb)
    have hC := hcall w oa l.length cap olds j vb 0 vc vs0 hR hOne hj
    refine wp_callV ho hx hfn ?_
    have hvals : (({ toList := [p1, p2, p3] } : Array Operand).map a.eval ++ #[]) = #[.slice oa l.length cap, .int .i64 (j : Int), .slice (some ⟨vb, 0, none⟩) 1 vc] := by
      have hav : a.eval p3 = .slice (some ⟨vb, 0, none⟩) 1 vc := hav
      simp [hrv, hint, hav]
    rw [hvals]
    refine hC.mono fun e w' hret => ?_
    obtain ⟨u, rfl, hT⟩ := hret
    obtain ⟨g', cap', cur', e', rfl, hg, hs, ht, h1, h2, h3⟩ := hT.row
    have hszw := hT.size
    have hsame : ∀ b, b < w.heap.size → b ∉ J.L k ∨ b ∈ L1 → w'.heap[b]? = w.heap[b]? := fun b hb hnb => by
      rcases h3 with ⟨h3, hcp, h4⟩ | ⟨_, _, h4⟩
      · obtain ⟨g, h5, h6, h7, _⟩ := hg1 hcp
        rw [h3] at h5
        obtain rfl : g' = g := by simpa using h5
        exact h4 b fun e => hnb.elim (fun h => h (e ▸ h6)) fun h => h7 (e ▸ h)
      · exact h4 b hb
    have hglt := block_lt_of_heap hg
    have hgc : (g' ∈ J.L k ∧ g' ∉ L1) ∨ w.heap.size ≤ g' := by
      rcases h3 with ⟨h3, hcp, h4⟩ | ⟨h3, _, h4⟩
      · obtain ⟨g, h5, h6, h7, _⟩ := hg1 hcp
        rw [h3] at h5
        obtain rfl : g' = g := by simpa using h5
        exact .inl ⟨h6, h7⟩
      · exact .inr h3
    have hx2 : ∀ b, b ∈ Lx → b ∈ J.L k2 := hsx
    have hgx : g' ∉ Lx := fun hm => hgc.elim (fun h => hdj g' h.1 (hx2 _ hm)) fun h => by have := (hlo2 g' (hx2 _ hm)).2.1; omega
    have hgl : g' ∉ L1 := fun hm => hgc.elim (fun h => h.2 hm) fun h => by have := (hlo g' (hs1 _ hm)).2.1; omega
    obtain ⟨A, B, rfl, hA, hB⟩ := OR.split j hOR
    obtain ⟨nA, nB, nAB⟩ := List.nodup_append.1 hn1
    let L' := g' :: (A ++ (Lx ++ B))
    have hL'n : L'.Nodup := by
      refine List.nodup_cons.2 ⟨fun hm => ?_, List.nodup_append.2 ⟨nA, List.nodup_append.2 ⟨hnx, nB, fun p hp q hq e => ?_⟩, fun p hp q hq e => ?_⟩⟩
      · simp only [List.mem_append] at hm
        rcases hm with hm | hm | hm
        · exact hgl (List.mem_append_left _ hm)
        · exact hgx hm
        · exact hgl (List.mem_append_right _ hm)
      · exact hdj q (hs1 q (List.mem_append_right _ hq)) (hx2 q (e ▸ hp))
      · subst e
        rcases List.mem_append.1 hq with hq | hq
        · exact hdj p (hs1 p (List.mem_append_left _ hp)) (hx2 p hq)
        · exact nAB p hp p hq rfl
    have hL's : ∀ b, b ∈ L' → b = g' ∨ b ∈ A ++ B ∨ b ∈ Lx := fun b hb => by
      simp only [L', List.mem_cons, List.mem_append] at hb ⊢
      rcases hb with hb | hb | hb | hb
      · exact .inl hb
      · exact .inr (.inl (.inl hb))
      · exact .inr (.inr hb)
      · exact .inr (.inl (.inr hb))
    let J' : Inj := ⟨J.F, fun y => if y = 64 * t then L' else if y = k then [] else if y = k2 then [] else J.L y, J.B⟩
    have hJt : J'.L (64 * t) = L' := if_pos rfl
    have hJ : ∀ y b, b ∈ J'.L y → (y = 64 * t ∧ b ∈ L') ∨ (y ≠ 64 * t ∧ y ≠ k ∧ y ≠ k2 ∧ b ∈ J.L y) := fun y b hb => by
      have hb : b ∈ (if y = 64 * t then L' else if y = k then [] else if y = k2 then [] else J.L y) := hb
      split at hb
      · rename_i h; exact .inl ⟨h, hb⟩
      · rename_i h
        split at hb
        · simp at hb
        · rename_i h'
          split at hb
          · simp at hb
          · rename_i h''; exact .inr ⟨h, h', h'', hb⟩
    have hget : ∀ y, get [(64 * t, (none : Option Tok)), (k, none), (k2, none)] y = if y = 64 * t ∨ y = k ∨ y = k2 then some none else none := fun y => by
      by_cases e1 : y = 64 * t
      · rw [if_pos (.inl e1)]; simp [get, e1]
      · rw [get_cons_ne e1]
        by_cases e2 : y = k
        · rw [if_pos (.inr (.inl e2))]; simp [get, e2]
        · rw [get_cons_ne e2]
          by_cases e3 : y = k2
          · rw [if_pos (.inr (.inr e3))]; simp [get, e3]
          · rw [get_cons_ne e3, if_neg (by simp [e1, e2, e3])]; rfl
    have hLy : ∀ y, y ≠ k → ∀ b, b ∈ J.L y → w'.heap[b]? = w.heap[b]? := fun y hy b hb => hsame b (hrel.lo y b hb).2.1 (.inl fun hm => hy (hrel.dj y k b hb hm))
    have hF : ∀ b, J.F b → w'.heap[b]? = w.heap[b]? := fun b hb => hsame b (hrel.fl b hb).1 (.inl fun hm => (hlo b hm).2.2 hb)
    have hbelow : w0.Keeps w' := hrel.below.step hT.os hT.tape hT.output hszw fun b hb hnl => hsame b hb (.inl fun hm => hnl (hlo b hm).1)
    have hORn : OR w' n (A ++ (Lx ++ B)) (olds.take (j * n) ++ vs0 ++ olds.drop (j * n)) (l.take j ++ [x] ++ l.drop j) := by
      rw [List.append_assoc, List.append_assoc]
      refine OR.append (OR.append (hB.keep fun b hb => ?_) (hORx.keep fun b hb => ?_)) (hA.keep fun b hb => ?_)
      · exact hsame b (hlo b (hs1 b (List.mem_append_right _ hb))).2.1 (.inr (List.mem_append_right _ hb))
      · exact hLy k2 (fun e => c2 e.symm) b (hx2 b hb)
      · exact hsame b (hlo b (hs1 b (List.mem_append_left _ hb))).2.1 (.inr (List.mem_append_left _ hb))
    have hlen' : (l.take j ++ [x] ++ l.drop j).length = l.length + 1 := by simp; omega
    have hres : CR J' w' (.slice (some ⟨g', 0, none⟩) (l.length + 1) cap') (.slc (.own true (64 * t)) n l') := by
      show OwnDeep (J'.L (64 * t)) w' _ n l'
      rw [hJt, hl']
      refine .of ?_ hL'n
      have := OV.slc (n := n) (cap := cap') (l := l.take j ++ [x] ++ l.drop j) (L := A ++ (Lx ++ B)) hg hs (by rw [hlen', ht]; exact hORn) (by rw [hlen']; exact h1) ⟨h2, by rw [hlen']; exact hlen⟩
      rw [hlen'] at this
      exact this
    show K (a.put o.dst _) w'
    rw [hd] at hK ⊢
    have htN := hdst t hd
    refine hK J' _ w' (hrel.upd (J' := J') (w' := w') (some t) (fun d e => by cases e; exact htN) ⟨.one (.slc (.own true (64 * t)) n l'), [(64 * t, none), (k, none), (k2, none)], none, none⟩ _ hbelow
      ⟨fun b hb => ⟨hb, hF b hb⟩, fun y hy => ?_, fun y hy => ?_, fun y y' hy => ?_, fun y tk hy => ?_, fun _ _ => rfl, fun y d1 m i1 o1 cs1 hy => ?_⟩
      ⟨fun b hb => ⟨by have := (hrel.fl b hb).1; omega, (hrel.fl b hb).2⟩, hrel.f0, fun y => ?_, fun y b hb => ?_, fun y y' b hb hb' => ?_⟩ (fun _ => hres) (fun y c hy _ => ?_) (fun y c hy => by cases hy))
    · rw [hget] at hy
      split at hy
      · cases hy
      · rename_i h
        simp only [not_or] at h
        exact ⟨by show (if _ then _ else _) = _; rw [if_neg h.1, if_neg h.2.1, if_neg h.2.2], hLy y h.2.1⟩
    · rw [hget] at hy; split at hy <;> cases hy
    · rw [hget] at hy; split at hy <;> cases hy
    · rw [hget] at hy; split at hy <;> cases hy
    · rw [hget] at hy; split at hy <;> cases hy
    · show (if y = 64 * t then L' else if y = k then [] else if y = k2 then [] else J.L y : List Nat).Nodup
      split
      · exact hL'n
      · split
        · simp
        · split
          · simp
          · exact hrel.nd y
    · rcases hJ y b hb with ⟨_, hb⟩ | ⟨_, _, _, hb⟩
      · rcases hL's b hb with rfl | hb | hb
        · rcases hgc with ⟨hg1, _⟩ | hg1
          · have := hlo b hg1; exact ⟨this.1, hglt, this.2.2⟩
          · exact ⟨.inl (Nat.le_trans hrel.below.size hg1), hglt, fun hf => by have := (hrel.fl b hf).1; omega⟩
        · have := hlo b (hs1 b hb); exact ⟨this.1, by omega, this.2.2⟩
        · have := hlo2 b (hx2 b hb); exact ⟨this.1, by omega, this.2.2⟩
      · have := hrel.lo y b hb; exact ⟨this.1, by omega, this.2.2⟩
    · have own : ∀ z, z ≠ k → z ≠ k2 → b ∈ J.L z → b ∉ L' := fun z z1 z2 hz hm => by
        rcases hL's b hm with rfl | hm | hm
        · rcases hgc with ⟨hg1, _⟩ | hg1
          · exact z1 (hrel.dj z k b hz hg1)
          · have := (hrel.lo z b hz).2.1; omega
        · exact z1 (hrel.dj z k b hz (hs1 b hm))
        · exact z2 (hrel.dj z k2 b hz (hx2 b hm))
      rcases hJ y b hb with ⟨e1, hb⟩ | ⟨e1, e2, e3, hb⟩ <;> rcases hJ y' b hb' with ⟨e1', hb'⟩ | ⟨e1', e2', e3', hb'⟩
      · rw [e1, e1']
      · exact absurd hb (own y' e2' e3' hb')
      · exact absurd hb' (own y e2 e3 hb)
      · exact hrel.dj y y' b hb hb'
    · obtain ⟨_, q1, q2, arr', e', q3, _⟩ := hrel.bo y c hy
      have hlt := block_lt_of_heap q3
      refine ⟨by simp, q1, fun z hm => ?_, hsame _ hlt (.inl (q2 k))⟩
      rcases hJ z _ hm with ⟨_, hm⟩ | ⟨_, _, _, hm⟩
      · rcases hL's _ hm with e | hm | hm
        · rcases hgc with ⟨hg1, _⟩ | hg1
          · exact q2 k (e ▸ hg1)
          · omega
        · exact q2 k (hs1 _ hm)
        · exact q2 k2 (hx2 _ hm)
      · exact q2 z hm
end
end Go.Proofs.Ytiafgmepdgfpbaa
