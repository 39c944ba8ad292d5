/- A slice taken out of a row of our own: the row keeps a hole where it stood, and the slice is a row of its own. No program in sight. -/
import Derived.Test.YtiafgmepdgfpbaaGs
set_option linter.unusedVariables false
set_option linter.unusedSimpArgs false
namespace Go.Proofs.Ytiafgmepdgfpbaa
open Go.RowKit
def isHold (k : Nat) : C → Option (Nat × List (List PV))
  | .slc (.own true k') n l => bif Nat.beq k k' then some (n, l) else none
  | _ => none
def holdCs (k : Nat) : List C → List (Nat × List (List PV))
  | [] => []
  | c :: r => match isHold k c with
    | some x => x :: holdCs k r
    | none => holdCs k r
def holdTm (k : Nat) : List (Nat × AV) → List (Nat × List (List PV))
  | [] => []
  | p :: r => holdCs k p.2.cells ++ holdTm k r
def holdBx (k : Nat) : List (Nat × List C) → List (Nat × List (List PV))
  | [] => []
  | p :: r => holdCs k p.2 ++ holdBx k r
def holders (s : St) (k : Nat) : List (Nat × List (List PV)) := holdTm k s.tm ++ holdBx k s.bx
def ghostRec (t q th : Nat) (r : List PV) (s : St) : Option (Res × List Ob) :=
  match get s.tm t, get s.tm q, get s.tm th with
  | some (.one (.raw v)), some (.one (.ept true k n i o (.raw v' :: _))), some (.one (.slc (.own true k') n' l)) =>
    (match r.drop o, holders s k with
    | .slc n2 l2 :: _, [_] => bif Nat.beq n n' && Nat.beq k k' && Nat.blt o 4294967296 && !(Nat.beq k (64 * t)) then
        some (⟨.one (.slc (.own true (64 * t)) n2 l2), [(k, some (.put true n i o [.any])), (64 * t, none)], none, none⟩, [.elem l (i : Int) r, .eq (.one (.raw v)) (.one (.raw v'))]) else none
    | _, _ => none)
  | _, _, _ => none
theorem holdCs_mem {k : Nat} {x : Nat × List (List PV)} {c : C} (hc : isHold k c = some x) : ∀ {cs : List C}, c ∈ cs → x ∈ holdCs k cs
  | [], h => by cases h
  | b :: r, h => by
    simp only [holdCs]
    rcases List.mem_cons.1 h with rfl | h
    · rw [hc]; exact List.mem_cons_self
    · cases isHold k b with
      | some y => exact List.mem_cons_of_mem _ (holdCs_mem hc h)
      | none => exact holdCs_mem hc h
theorem holdTm_mem {k : Nat} {x : Nat × List (List PV)} {c : C} (hc : isHold k c = some x) {t : Nat} {v : AV} : ∀ {tm : List (Nat × AV)}, get tm t = some v → c ∈ v.cells → x ∈ holdTm k tm
  | [], h, _ => by cases h
  | (u, a) :: r, h, hm => by
    simp only [get] at h
    simp only [holdTm, List.mem_append]
    split at h
    · obtain rfl := Option.some.inj h
      exact .inl (holdCs_mem hc hm)
    · exact .inr (holdTm_mem hc h hm)
theorem holdBx_mem {k : Nat} {x : Nat × List (List PV)} {c : C} (hc : isHold k c = some x) {t : Nat} {v : List C} : ∀ {tm : List (Nat × List C)}, get tm t = some v → c ∈ v → x ∈ holdBx k tm
  | [], h, _ => by cases h
  | (u, a) :: r, h, hm => by
    simp only [get] at h
    simp only [holdBx, List.mem_append]
    split at h
    · obtain rfl := Option.some.inj h
      exact .inl (holdCs_mem hc hm)
    · exact .inr (holdBx_mem hc h hm)
def St.has (s : St) (c : C) : Prop := (∃ t v, get s.tm t = some v ∧ c ∈ v.cells) ∨ ∃ t v, get s.bx t = some v ∧ c ∈ v
theorem St.has.hold {s : St} {c : C} (h : s.has c) {k : Nat} {x : Nat × List (List PV)} (hc : isHold k c = some x) : x ∈ holders s k := by
  rcases h with ⟨t, v, h1, h2⟩ | ⟨t, v, h1, h2⟩
  · exact List.mem_append_left _ (holdTm_mem hc h1 h2)
  · exact List.mem_append_right _ (holdBx_mem hc h1 h2)
def Uniq (s : St) (k th : Nat) : Prop := (∀ t v c x, get s.tm t = some v → c ∈ v.cells → isHold k c = some x → t = th) ∧ ∀ t v c x, get s.bx t = some v → c ∈ v → isHold k c ≠ some x
theorem Uniq.eqv {s s' : St} {k th : Nat} (h : Uniq s k th) (he : s.eqv s') : Uniq s' k th := ⟨fun t v c x h1 => h.1 t v c x ((he.1 t).trans h1), fun t v c x h1 => h.2 t v c x ((he.2 t).trans h1)⟩
theorem holdTm_two {k : Nat} {x y : Nat × List (List PV)} {c d : C} (hc : isHold k c = some x) (hd : isHold k d = some y) {t u : Nat} (htu : t ≠ u) {v w : AV} : ∀ {tm : List (Nat × AV)}, get tm t = some v → c ∈ v.cells → get tm u = some w → d ∈ w.cells → 2 ≤ (holdTm k tm).length
  | [], h, _, _, _ => by cases h
  | (z, a) :: r, h, hm, h', hm' => by
    simp only [get] at h h'
    simp only [holdTm, List.length_append]
    have pos : ∀ {c : C} {x : Nat × List (List PV)} {cs : List C}, isHold k c = some x → c ∈ cs → 1 ≤ (holdCs k cs).length := fun h1 h2 => List.length_pos_of_mem (holdCs_mem h1 h2)
    by_cases h1 : z = t
    · subst h1
      rw [if_pos rfl] at h
      obtain rfl := Option.some.inj h
      rw [if_neg htu] at h'
      have e1 := pos hc hm
      have e2 : 1 ≤ (holdTm k r).length := List.length_pos_of_mem (holdTm_mem hd h' hm')
      omega
    · rw [if_neg h1] at h
      by_cases h2 : z = u
      · subst h2
        rw [if_pos rfl] at h'
        obtain rfl := Option.some.inj h'
        have e1 := pos hd hm'
        have e2 : 1 ≤ (holdTm k r).length := List.length_pos_of_mem (holdTm_mem hc h hm)
        omega
      · rw [if_neg h2] at h'
        have := holdTm_two hc hd htu h hm h' hm'
        omega
theorem uniq_of {s : St} {k th : Nat} {c : C} {x : Nat × List (List PV)} (hc : isHold k c = some x) (hth : get s.tm th = some (.one c)) (h1 : (holders s k).length = 1) : Uniq s k th := by
  have e1 : 1 ≤ (holdTm k s.tm).length := List.length_pos_of_mem (holdTm_mem hc hth (by simp [AV.cells]))
  have e2 : (holders s k).length = (holdTm k s.tm).length + (holdBx k s.bx).length := by simp [holders]
  refine ⟨fun t v c' x' g1 g2 g3 => Classical.byContradiction fun hne => ?_, fun t v c' x' g1 g2 g3 => ?_⟩
  · have := holdTm_two hc g3 (fun e => hne e.symm) hth (by simp [AV.cells]) g1 g2
    omega
  · have : 1 ≤ (holdBx k s.bx).length := List.length_pos_of_mem (holdBx_mem g3 g1 g2)
    omega
/-! ### the blocks of an owned value are those that memory says -/
section
variable {w w' : World}
mutual
theorem OV.least : ∀ {L : List Nat} {v : Value} {p : PV}, OV w L v p → ∃ M, OV w M v p ∧ M.Sublist L ∧ ∀ L', OV w L' v p → ∀ b, b ∈ M → b ∈ L'
  | _, _, _, .int h => ⟨[], .int h, List.Sublist.refl _, fun _ _ _ hb => by cases hb⟩
  | _, _, _, .bool b => ⟨[], .bool b, List.Sublist.refl _, fun _ _ _ hb => by cases hb⟩
  | _, _, _, .str h => ⟨[], .str h, List.Sublist.refl _, fun _ _ _ hb => by cases hb⟩
  | _, _, _, .emp oa n => ⟨[], .emp oa n, List.Sublist.refl _, fun _ _ _ hb => by cases hb⟩
  | _, _, _, .any h1 h2 => ⟨[], .any h1 h2, List.Sublist.refl _, fun _ _ _ hb => by cases hb⟩
  | _, _, _, .raw h1 h2 => ⟨[], .raw h1 h2, List.Sublist.refl _, fun _ _ _ hb => by cases hb⟩
  | _, _, _, @OV.slc _ g cap n cur e L l hg hs hr h1 h2 => by
    by_cases hc : cap = 0
    · subst hc
      obtain rfl : l = [] := List.length_eq_zero_iff.1 (by omega)
      exact ⟨[], .emp _ n, by simp, fun _ _ _ hb => by cases hb⟩
    · obtain ⟨M, m1, m2, m3⟩ := OR.least hr
      refine ⟨g :: M, .slc hg hs m1 h1 h2, m2.cons_cons g, fun L' h b hb => ?_⟩
      generalize hv : Value.slice (some ⟨g, 0, none⟩) l.length cap = v at h
      generalize hp : PV.slc n l = p at h
      cases h with
      | emp => injection hv with _ _ e; exact absurd e hc
      | int | bool | str | any | raw => cases hp
      | @slc g9 cap9 n9 cur9 e9 L9 l9 hg' hs' hr' h1' h2' =>
        cases hp
        obtain ⟨rfl, rfl⟩ : g = g9 ∧ cap = cap9 := by simpa using hv
        obtain ⟨rfl, rfl⟩ : _ ∧ _ := by simpa using Option.some.inj (hg.symm.trans hg')
        rcases List.mem_cons.1 hb with rfl | hb
        · exact List.mem_cons_self
        · exact List.mem_cons_of_mem _ (m3 _ hr' b hb)
theorem OC.least : ∀ {L : List Nat} {vs : List Value} {ps : List PV}, OC w L vs ps → ∃ M, OC w M vs ps ∧ M.Sublist L ∧ ∀ L', OC w L' vs ps → ∀ b, b ∈ M → b ∈ L'
  | _, _, _, .nil => ⟨[], .nil, List.Sublist.refl _, fun _ _ _ hb => by cases hb⟩
  | _, _, _, .cons h1 h2 => by
    obtain ⟨M1, a1, a2, a3⟩ := OV.least h1
    obtain ⟨M2, b1, b2, b3⟩ := OC.least h2
    refine ⟨M1 ++ M2, .cons a1 b1, a2.append b2, fun L' h b hb => ?_⟩
    cases h with
    | cons h1' h2' =>
      rcases List.mem_append.1 hb with hb | hb
      · exact List.mem_append_left _ (a3 _ h1' b hb)
      · exact List.mem_append_right _ (b3 _ h2' b hb)
theorem OR.least : ∀ {n : Nat} {L : List Nat} {cs : List Value} {l : List (List PV)}, OR w n L cs l → ∃ M, OR w n M cs l ∧ M.Sublist L ∧ ∀ L', OR w n L' cs l → ∀ b, b ∈ M → b ∈ L'
  | _, _, _, _, .nil n => ⟨[], .nil n, List.Sublist.refl _, fun _ _ _ hb => by cases hb⟩
  | _, _, _, _, .cons (ce := ce) (cs := cs) (r := r) (l := l) h1 h2 h3 => by
    obtain ⟨M1, a1, a2, a3⟩ := OC.least h1
    obtain ⟨M2, b1, b2, b3⟩ := OR.least h3
    refine ⟨M1 ++ M2, .cons a1 h2 b1, a2.append b2, fun L' h b hb => ?_⟩
    generalize hq : ce ++ cs = q at h
    cases h with
    | @cons n' L1' L2' ce' cs' r' l' h1' h2' h3' =>
      obtain ⟨rfl, rfl⟩ := List.append_inj hq (by rw [OC.length h1, OC.length h1'])
      rcases List.mem_append.1 hb with hb | hb
      · exact List.mem_append_left _ (a3 _ h1' b hb)
      · exact List.mem_append_right _ (b3 _ h3' b hb)
end
theorem OV.anyOf {L : List Nat} {v : Value} {p : PV} (h : OV w L v p) : OV w' [] v .any := by
  cases h with
  | any h1 h2 => exact .any h1 h2
  | raw h1 h2 => exact .any h1 h2
  | _ => exact .any rfl rfl
theorem OC.hole : ∀ (o : Nat) {L : List Nat} {vs : List Value} {ps : List PV} {p : PV}, OC w L vs ps → ps[o]? = some p → ∃ v A M B, vs[o]? = some v ∧ L = A ++ (M ++ B) ∧ OV w M v p ∧ OC w (A ++ B) vs (ps.take o ++ [.any] ++ ps.drop (o + 1))
  | _, _, _, _, _, .nil, h => by simp at h
  | 0, _, _, _, _, .cons (L1 := L1) (L2 := L2) (v := v) h1 h2, h => by
    obtain rfl := Option.some.inj h
    exact ⟨v, [], L1, L2, rfl, rfl, h1, OC.cons (L1 := []) h1.anyOf h2⟩
  | o + 1, _, _, _, _, .cons (L1 := L1) (L2 := L2) h1 h2, h => by
    obtain ⟨v, A, M, B, e1, rfl, h3, h4⟩ := OC.hole o h2 (by simpa using h)
    refine ⟨v, L1 ++ A, M, B, by simpa using e1, by simp, h3, ?_⟩
    rw [List.append_assoc]
    exact OC.cons h1 h4
theorem OR.hole : ∀ {n : Nat} {L : List Nat} {cs : List Value} {l : List (List PV)}, OR w n L cs l → ∀ {i o : Nat} {r : List PV} {p : PV}, l[i]? = some r → r[o]? = some p → ∃ v A M B, cs[i * n + o]? = some v ∧ L = A ++ (M ++ B) ∧ OV w M v p ∧ OR w n (A ++ B) cs (setRow l i o [.any])
  | _, _, _, _, .nil _, i, _, _, _, h, _ => by simp at h
  | n, _, _, _, .cons (ce := ce) (cs := cs) (L1 := L1) (L2 := L2) h1 h2 h3, 0, o, _, p, h, hp => by
    obtain rfl := Option.some.inj h
    obtain ⟨v, A, M, B, e1, rfl, h4, h5⟩ := OC.hole o h1 hp
    have hlt := (List.getElem?_eq_some_iff.1 e1).1
    have hlt2 := (List.getElem?_eq_some_iff.1 hp).1
    refine ⟨v, A, M, B ++ L2, ?_, by simp, h4, ?_⟩
    · rw [Nat.zero_mul, Nat.zero_add, List.getElem?_append_left hlt]; exact e1
    · rw [← List.append_assoc]
      refine .cons h5 ?_ h3
      simp; omega
  | n, _, _, _, .cons (ce := ce) (cs := cs) (L1 := L1) (L2 := L2) h1 h2 h3, i + 1, o, _, p, h, hp => by
    obtain ⟨v, A, M, B, e1, rfl, h4, h5⟩ := OR.hole h3 (i := i) (by simpa using h) hp
    have hl := OC.length h1
    refine ⟨v, L1 ++ A, M, B, ?_, by simp, h4, ?_⟩
    · have : (i + 1) * n + o = ce.length + (i * n + o) := by rw [hl, h2, Nat.add_mul, Nat.one_mul]; omega
      rw [this, List.getElem?_append_right (by omega)]
      simpa using e1
    · rw [List.append_assoc]
      exact .cons h1 h2 h5
theorem OwnDeep.hole {L : List Nat} {v : Value} {n : Nat} {l : List (List PV)} (h : OwnDeep L w v n l) {i o : Nat} {r : List PV} {p : PV} (hi : l[i]? = some r) (ho : r[o]? = some p) :
    ∃ g rest cur e u M, L = g :: rest ∧ w.heap[g]? = some (.cells cur e (0, 0)) ∧ cur.toList[i * n + o]? = some u ∧ OV w M u p ∧ M.Nodup ∧ g ∉ M ∧ (∀ b, b ∈ M → b ∈ rest) ∧
      ∀ v', OwnDeep L w v' n l → ∀ K, (∀ b, b ∈ L → b ∉ M → b ∈ K) → (∃ r', K = g :: r') → OwnDeep K w v' n (setRow l i o [.any]) := by
  have key : ∀ v', OwnDeep L w v' n l → ∃ g rest cap cur e u A M B, v' = .slice (some ⟨g, 0, none⟩) l.length cap ∧ L = g :: rest ∧ w.heap[g]? = some (.cells cur e (0, 0)) ∧ cur.size = cap * n ∧ l.length ≤ cap ∧ Cap l.length cap ∧ (cur.toList.take (l.length * n))[i * n + o]? = some u ∧ OV w M u p ∧
      OR w n (A ++ (M ++ B)) (cur.toList.take (l.length * n)) l ∧ (g :: (A ++ (M ++ B))).Nodup ∧ (∀ b, b ∈ A ++ (M ++ B) → b ∈ L) ∧ OR w n (A ++ B) (cur.toList.take (l.length * n)) (setRow l i o [.any]) := by
    intro v' h
    obtain ⟨L', h1, h2, h3, h4⟩ := h
    generalize hp : PV.slc n l = q at h1
    cases h1 with
    | int | bool | str | any | raw => cases hp
    | emp => cases hp; simp at hi
    | @slc g cap n' cur e L1 l' hg hs hr h5 h6 =>
      cases hp
      rcases h4 with h4 | ⟨g2, q1, q2, e3, e4⟩
      · cases h4
      · cases e3
        obtain ⟨u, A, M, B, e1, rfl, h7, h8⟩ := hr.hole hi ho
        exact ⟨g, q2, cap, cur, e, u, A, M, B, rfl, e4, hg, hs, h5, h6, e1, h7, hr, h2, fun b hb => h3 b (List.mem_cons_of_mem _ hb), h8⟩
  obtain ⟨g, rest, cap, cur, e, u, A, M, B, rfl, rfl, hg, hs, h5, h6, e1, h7, hr, hnd, hsub, h8⟩ := key v h
  obtain ⟨n1, n2⟩ := List.nodup_cons.1 hnd
  obtain ⟨M0, k1, k2, k3⟩ := h7.least
  have hgM : g ∉ M0 := fun hm => n1 (by simp [k2.subset hm])
  obtain ⟨_, m2, _⟩ := List.nodup_append.1 n2
  have m1 : M0.Nodup := k2.nodup (List.nodup_append.1 m2).1
  refine ⟨g, rest, cur, e, u, M0, rfl, hg, ?_, k1, m1, hgM, fun b hb => ?_, fun v' hv' K hK hKg => ?_⟩
  · rw [List.getElem?_take] at e1
    split at e1
    · exact e1
    · cases e1
  · rcases List.mem_cons.1 (hsub b (by simp [k2.subset hb])) with rfl | h
    · exact absurd hb hgM
    · exact h
  · obtain ⟨g', rest', cap', cur', e', u', A', M', B', rfl, hL', hg', hs', h5', h6', e1', h7', hr', hnd', hsub', h8'⟩ := key v' hv'
    obtain ⟨rfl, rfl⟩ : g = g' ∧ rest = rest' := by simpa using hL'
    obtain ⟨rfl, rfl⟩ : cur = cur' ∧ e = e' := by simpa using Option.some.inj (hg.symm.trans hg')
    obtain rfl : u = u' := Option.some.inj (e1.symm.trans e1')
    have hin : ∀ b, b ∈ M0 → b ∈ M' := fun b hb => k3 _ h7' b hb
    obtain ⟨n1', n2'⟩ := List.nodup_cons.1 hnd'
    obtain ⟨a1, a2, a3⟩ := List.nodup_append.1 n2'
    obtain ⟨_, a4, a5⟩ := List.nodup_append.1 a2
    have hl2 := setRow_len o [.any] l i
    obtain ⟨r', rfl⟩ := hKg
    refine ⟨g :: (A' ++ B'), ?_, List.nodup_cons.2 ⟨fun hm => n1' ?_, ?_⟩, fun b hb => ?_, .inr ⟨g, _, r', rfl, rfl⟩⟩
    · have := OV.slc (n := n) (cap := cap') (l := setRow l i o [.any]) hg hs' (by rw [hl2]; exact h8') (by rw [hl2]; exact h5') (by rw [hl2]; exact h6')
      rw [hl2] at this
      exact this
    · rcases List.mem_append.1 hm with hm | hm
      · exact List.mem_append_left _ hm
      · exact List.mem_append_right _ (List.mem_append_right _ hm)
    · exact List.nodup_append.2 ⟨a1, a4, fun x hx y hy => a3 x hx y (List.mem_append_right _ hy)⟩
    · rcases List.mem_cons.1 hb with rfl | hb
      · exact List.mem_cons_self
      · refine hK b ?_ fun hm => ?_
        · rcases List.mem_append.1 hb with hb | hb
          · exact hsub' b (List.mem_append_left _ hb)
          · exact hsub' b (List.mem_append_right _ (List.mem_append_right _ hb))
        · rcases List.mem_append.1 hb with hb | hb
          · exact a3 b hb b (List.mem_append_left _ (hin b hm)) rfl
          · exact a5 b (hin b hm) b hb rfl
end
/-! ### a step whose cells are turned one by one -/
section
variable {P : Program} {N : Nat} {w0 : Base} {F0 : Nat → Prop} {J J' : Inj} {a : Act} {w w' : World} {s : St}
theorem AR.map2 {v : Value} {x : AV} (f : C → C) (h : AR J w v x) (hk : ∀ u c, c ∈ x.cells → CR J w u c → CR J' w' u (f c)) : AR J' w' v (x.map f) := AR.map f h hk
theorem Rel.turn (h : Rel N w0 F0 J a w s) (d : Nat) (av : AV) (rl : List (Nat × Option Tok)) (hrl : rl ≠ []) (hB : J'.B = J.B) (hF : ∀ b, J'.F b ↔ J.F b)
    (hm : ∀ c, s.has c → ∀ u, CR J w u c → CR J' w u (relC rl none c)) (hn : Names w0 F0 J' w) (hv : AR J' w (a.tmps.getD d undef) av) (hbx : ∀ k c, get s.bx k = some c → ∀ k', J.B k ∉ J'.L k') :
    Rel N w0 F0 J' a w (s.step (some d) ⟨av, rl, none, none⟩) := by
  have hst : s.step (some d) ⟨av, rl, none, none⟩ = ⟨ins d av (s.map (relC rl none)).tm, (s.map (relC rl none)).bx⟩ := by
    cases rl with
    | nil => exact absurd rfl hrl
    | cons x r => rfl
  rw [hst]
  refine { below := h.below, nodef := h.nodef, size := h.size, fl := hn.fl, f0 := hn.f0, nd := hn.nd, lo := hn.lo, dj := hn.dj, bo := ?_, nb := h.nb, cb := fun b hb => by rw [hB]; exact h.cb b hb, bi := ?_, tm := ?_ }
  · intro k c hk
    simp only [St.map, get_map (List.map _)] at hk
    obtain ⟨y, hy, rfl⟩ := Option.map_eq_some_iff.1 hk
    obtain ⟨h4, h5, _, arr, e, h6, h7⟩ := h.bo k y hy
    rw [hB]
    exact ⟨h4, fun hf => h5 ((hF _).1 hf), hbx k y hy, arr, e, h6, h7.map _ fun u c hc hr => hm c (.inr ⟨k, y, hy, hc⟩) u hr⟩
  · intro k k' c c' hk hk' e
    simp only [St.map, get_map (List.map _)] at hk hk'
    obtain ⟨y, hy, rfl⟩ := Option.map_eq_some_iff.1 hk
    obtain ⟨y', hy', rfl⟩ := Option.map_eq_some_iff.1 hk'
    rw [hB] at e
    exact h.bi k k' y y' hy hy' e
  · intro t x hx
    simp only [get_ins] at hx
    by_cases hdt : d = t
    · rw [if_pos hdt] at hx
      obtain rfl := Option.some.inj hx
      exact hdt ▸ hv
    · rw [if_neg hdt] at hx
      simp only [St.map, get_map (AV.map _)] at hx
      obtain ⟨y, hy, rfl⟩ := Option.map_eq_some_iff.1 hx
      exact AR.map _ (h.tm t y hy) fun u c hc hr => hm c (.inl ⟨t, y, hy, hc⟩) u hr
structure Ghost (t q th : Nat) (r : List PV) (s : St) (g : Res) (obs : List Ob) : Prop where
  ok : ∃ v k n i o v' cs l n2 l2 tl, get s.tm t = some (.one (.raw v)) ∧ get s.tm q = some (.one (.ept true k n i o (.raw v' :: cs))) ∧ get s.tm th = some (.one (.slc (.own true k) n l)) ∧ r.drop o = .slc n2 l2 :: tl ∧ Uniq s k th ∧ o < 4294967296 ∧ k ≠ 64 * t ∧
    g = ⟨.one (.slc (.own true (64 * t)) n2 l2), [(k, some (.put true n i o [.any])), (64 * t, none)], none, none⟩ ∧ obs = [.elem l (i : Int) r, .eq (.one (.raw v)) (.one (.raw v'))]
theorem ghost_of {t q th : Nat} {r : List PV} {g : Res} {obs : List Ob} (h : ghostRec t q th r s = some (g, obs)) : Ghost t q th r s g obs := by
  unfold ghostRec at h
  split at h
  rotate_left
  · cases h
  rename_i v k n i o v' cs k' n' l h1 h2 h3
  split at h
  rotate_left
  · cases h
  rename_i n2 l2 tl x hdr hh
  cases hc : (Nat.beq n n' && Nat.beq k k' && Nat.blt o 4294967296 && !(Nat.beq k (64 * t))) with
  | false => rw [hc] at h; cases h
  | true =>
    rw [hc] at h
    simp only [cond_true, Option.some.injEq, Prod.mk.injEq] at h
    obtain ⟨rfl, rfl⟩ := h
    simp only [Bool.and_eq_true, Bool.not_eq_true', Nat.beq_eq, Nat.blt_eq] at hc
    obtain ⟨⟨⟨c1, c0⟩, c2⟩, c3⟩ := hc
    subst c1
    subst c0
    exact ⟨v, k, n, i, o, v', cs, l, n2, l2, tl, h1, h2, h3, hdr, uniq_of (c := .slc (.own true k) n l) (x := (n, l)) (by simp [isHold]) h3 (by rw [hh]; rfl), c2, fun e => by rw [← e] at c3; simp at c3, rfl, rfl⟩
theorem Ghost.eqv {t q th : Nat} {r : List PV} {g : Res} {obs : List Ob} {s' : St} (h : Ghost t q th r s g obs) (he : s.eqv s') : Ghost t q th r s' g obs := by
  obtain ⟨v, k, n, i, o, v', cs, l, n2, l2, tl, h1, h2, h3, h4, h5, h6⟩ := h.ok
  exact ⟨v, k, n, i, o, v', cs, l, n2, l2, tl, (he.1 t).symm.trans h1, (he.1 q).symm.trans h2, (he.1 th).symm.trans h3, h4, h5.eqv he, h6⟩
theorem ghost_ok {t q th : Nat} {rr : List PV} {g : Res} {obs : List Ob} {A : Nat → List AV → AV → Prop} {T : TakeT} (h : Ghost t q th rr s g obs) (hob : AllOb A T obs) (hrel : Rel N w0 F0 J a w s) : ∃ J', Rel N w0 F0 J' a w (s.step (some t) g) := by
    obtain ⟨v, k, n, i, o', v', pcs, l, n2, l2, tl, ht, hq, hgt, hdr, hU, c2, hkd, rfl, rfl⟩ := h.ok
    obtain ⟨hob1, hob2⟩ := AllOb.cons hob
    obtain ⟨_, hl⟩ : 0 ≤ (i : Int) ∧ l[(i : Int).toNat]? = some rr := hob1
    have hl : l[i]? = some rr := hl
    have hvv : AV.one (.raw v) = AV.one (.raw v') := hob2
    obtain rfl : v = v' := by simpa using hvv
    have hro : rr[o']? = some (.slc n2 l2) := by
      have := congrArg (·[0]?) hdr
      simpa using this
    have huniq : ∀ c x, s.has c → isHold k c = some x → c = .slc (.own true k) n l := fun c x hc hx => by
      rcases hc with ⟨t', v', h1, h2⟩ | ⟨t', v', h1, h2⟩
      · have e := hU.1 t' v' c x h1 h2 hx
        subst e
        rw [hgt] at h1
        obtain rfl := Option.some.inj h1
        simpa [AV.cells] using h2
      · exact absurd hx (hU.2 t' v' c x h1 h2)
    have hput : putR l i o' [.any] = setRow l i o' [.any] := by
      unfold putR
      cases hb : Nat.beq o' 4294967296 with
      | false => rfl
      | true => have := Nat.eq_of_beq_eq_true hb; omega
    have hheld : OwnDeep (J.L k) w _ n l := hrel.tm th _ hgt
    obtain ⟨g, rest, cur, e, u, M, hL, hheap, hu, hM, hMn, hgM, hMs, hhole⟩ := hheld.hole hl hro
    have h1 : CR J w _ (.ept true k n i o' (.raw v :: pcs)) := hrel.tm q _ hq
    obtain ⟨g', rest', vs, hL', e1, hvc, hcell, _⟩ := h1
    have hva : a.tmps.getD t undef = v := (show CR J w _ (.raw v) from hrel.tm t _ ht).1
    obtain ⟨rfl, rfl⟩ : g = g' ∧ rest = rest' := by rw [hL] at hL'; simpa using hL'
    have hMk : ∀ b, b ∈ M → b ∈ J.L k := fun b hb => by rw [hL]; exact List.mem_cons_of_mem _ (hMs b hb)
    let K2 := (J.L k).filter fun b => decide (b ∉ M)
    have hK2 : ∀ b, b ∈ K2 ↔ b ∈ J.L k ∧ b ∉ M := fun b => by simp [K2]
    have hK2g : ∃ r', K2 = g :: r' := ⟨rest.filter fun b => decide (b ∉ M), by simp [K2, hL, hgM]⟩
    let J' : Inj := ⟨J.F, fun x => if x = 64 * t then M else if x = k then K2 else J.L x, J.B⟩
    have hJd : J'.L (64 * t) = M := if_pos rfl
    have hJk : J'.L k = K2 := (if_neg hkd).trans (if_pos rfl)
    have hJx : ∀ x, x ≠ 64 * t → x ≠ k → J'.L x = J.L x := fun x h1 h2 => (if_neg h1).trans (if_neg h2)
    have hget : ∀ x, get [(k, some (Tok.put true n i o' [.any])), (64 * t, none)] x = if x = k then some (some (.put true n i o' [.any])) else if x = 64 * t then some none else none := fun x => by
      by_cases h1 : x = k
      · rw [if_pos h1]; simp [get, h1]
      · rw [if_neg h1, get_cons_ne h1]
        by_cases h2 : x = 64 * t
        · rw [if_pos h2]; simp [get, h2]
        · rw [if_neg h2, get_cons_ne h2]; rfl
    have hnew : CR J' w u (.slc (.own true (64 * t)) n2 l2) := by
      show OwnDeep (J'.L (64 * t)) w u n2 l2
      rw [hJd]
      exact .of hM hMn
    have huv : u = v := by
      cases hvc with
      | @cons y _ ys _ g1 g2 =>
        cases g1
        have hc := hcell 0 v rfl
        simp only [World.cell?, hheap] at hc
        have hc : cur[i * n + o' + 0]? = some v := by simpa using hc
        have : cur[i * n + o']? = some u := by simpa using hu
        rw [Nat.add_zero] at hc
        exact Option.some.inj (this.symm.trans hc)
    subst huv
    have stay : ∀ x, x ≠ k → x ≠ 64 * t → J'.L x = J.L x := fun x h1 h2 => hJx x h2 h1
    refine ⟨J', hrel.turn t _ _ (by simp) rfl (fun b => Iff.rfl) (fun c hc u' hcr => ?_) ⟨hrel.fl, hrel.f0, fun x => ?_, fun x b hb => ?_, fun x x' b hb hb' => ?_⟩ (by rw [hva]; exact hnew) fun x c hx y hy => ?_⟩
    ·
      cases c with
      | int | bool | str | raw | dead => exact hcr
      | slc t n' l' =>
        cases t with
        | sh => exact hcr
        | emp => exact hcr
        | put => exact hcr.elim
        | own dd x =>
          simp only [relC, relT, Tok.key, hget]
          by_cases h1 : x = k
          · subst h1
            rw [if_pos rfl]
            show CR J' w u' (bif sameB dd true && Nat.beq n' n then .slc (.own dd x) n' (putR l' i o' [.any]) else .dead)
            cases hb : sameB dd true && Nat.beq n' n with
            | false => trivial
            | true =>
              simp only [Bool.and_eq_true] at hb
              obtain rfl := sameB_eq hb.1
              have := huniq _ (n', l') hc (by simp [isHold])
              obtain ⟨rfl, rfl⟩ : n' = n ∧ l' = l := by simpa using this
              show OwnDeep (J'.L x) w u' n' _
              rw [hJk, hput]
              exact hhole u' hcr K2 (fun b h1 h2 => (hK2 b).2 ⟨h1, h2⟩) hK2g
          · rw [if_neg h1]
            by_cases h2 : x = 64 * t
            · rw [if_pos h2]; trivial
            · rw [if_neg h2]
              cases dd with
              | true => show OwnDeep (J'.L x) w u' n' l'; rw [stay x h1 h2]; exact hcr
              | false => show OwnTop J.F (J'.L x) w u' n' l'; rw [stay x h1 h2]; exact hcr
        | vw x =>
          simp only [relC, relT, Tok.key, hget]
          by_cases h1 : x = k
          · rw [if_pos h1]; trivial
          · rw [if_neg h1]
            by_cases h2 : x = 64 * t
            · rw [if_pos h2]; trivial
            · rw [if_neg h2]
              exact VV.keep (fun b hb => ⟨hb.imp (fun hb => by rw [stay x h1 h2]; exact hb) id, rfl⟩) hcr
      | ptr x off => exact hcr
      | rptr t cs =>
        cases t with
        | sh => exact hcr
        | emp => exact hcr
        | put => obtain ⟨_, _, _, _, hf, _⟩ := hcr; exact hf.elim
        | own dd x => obtain ⟨_, _, _, _, hf, _⟩ := hcr; exact hf.elim
        | vw x =>
          simp only [relC, relT, Tok.key, hget]
          by_cases h1 : x = k
          · rw [if_pos h1]; trivial
          · rw [if_neg h1]
            by_cases h2 : x = 64 * t
            · rw [if_pos h2]; trivial
            · rw [if_neg h2]
              exact Reads.keep hcr fun b hb => ⟨hb.imp (fun hb => by rw [stay x h1 h2]; exact hb) id, rfl⟩
      | ept dd x n' i' o1 cs =>
        simp only [relC, hget]
        obtain ⟨g1, r1, vs1, q1, q2, q3, q4, arr, ty, q5⟩ := hcr
        by_cases h1 : x = k
        · subst h1
          rw [if_pos rfl]
          obtain ⟨rfl, rfl⟩ : g = g1 ∧ rest = r1 := by rw [hL] at q1; simpa using q1
          obtain ⟨r', hr'⟩ := hK2g
          exact ⟨g, r', vs1, hJk.trans hr', q2, q3.anys, q4, arr, ty, q5⟩
        · rw [if_neg h1]
          by_cases h2 : x = 64 * t
          · rw [if_pos h2]; trivial
          · rw [if_neg h2]
            refine ⟨g1, r1, vs1, (stay x h1 h2).trans q1, q2, q3.keep fun b hb => ⟨?_, rfl⟩, q4, arr, ty, q5⟩
            cases dd with
            | true => exact hb.imp (fun hb => by rw [stay x h1 h2]; exact hb) id
            | false => exact hb
      | fn f caps => exact hcr
      | fnr f caps => exact hcr
    · show (J'.L x).Nodup
      by_cases h2 : x = 64 * t
      · rw [h2, hJd]; exact hMn
      · by_cases h1 : x = k
        · rw [h1, hJk]; exact (hrel.nd k).filter _
        · rw [hJx x h2 h1]; exact hrel.nd x
    · have hb : b ∈ J'.L x := hb
      by_cases h2 : x = 64 * t
      · rw [h2, hJd] at hb; exact hrel.lo k b (hMk b hb)
      · by_cases h1 : x = k
        · rw [h1, hJk] at hb; exact hrel.lo k b ((hK2 b).1 hb).1
        · rw [hJx x h2 h1] at hb; exact hrel.lo x b hb
    · have own : ∀ y, b ∈ J'.L y → (y = 64 * t ∧ b ∈ M) ∨ (y = k ∧ y ≠ 64 * t ∧ b ∈ J.L k ∧ b ∉ M) ∨ (y ≠ 64 * t ∧ y ≠ k ∧ b ∈ J.L y) := fun y hy => by
        by_cases h2 : y = 64 * t
        · rw [h2, hJd] at hy; exact .inl ⟨h2, hy⟩
        · by_cases h1 : y = k
          · rw [h1, hJk] at hy
            exact .inr (.inl ⟨h1, h2, (hK2 b).1 hy⟩)
          · rw [hJx y h2 h1] at hy
            exact .inr (.inr ⟨h2, h1, hy⟩)
      rcases own x hb with ⟨h1, h2⟩ | ⟨h1, _, h2, h3⟩ | ⟨h1, h2, h3⟩ <;> rcases own x' hb' with ⟨h1', h2'⟩ | ⟨h1', _, h2', h3'⟩ | ⟨h1', h2', h3'⟩
      · rw [h1, h1']
      · exact absurd h2 h3'
      · exact absurd (hrel.dj x' k b h3' (hMk b h2)) h2'
      · exact absurd h2' h3
      · rw [h1, h1']
      · exact absurd (hrel.dj x' k b h3' h2) h2'
      · exact absurd (hrel.dj x k b h3 (hMk b h2')) h2
      · exact absurd (hrel.dj x k b h3 h2') h2
      · exact hrel.dj x x' b h3 h3'
    · have hy : J.B x ∈ J'.L y := hy
      obtain ⟨_, _, hnl, _⟩ := hrel.bo x c hx
      by_cases h2 : y = 64 * t
      · rw [h2, hJd] at hy; exact hnl k (hMk _ hy)
      · by_cases h1 : y = k
        · rw [h1, hJk] at hy; exact hnl k ((hK2 _).1 hy).1
        · rw [hJx y h2 h1] at hy; exact hnl y hy
end
end Go.Proofs.Ytiafgmepdgfpbaa
