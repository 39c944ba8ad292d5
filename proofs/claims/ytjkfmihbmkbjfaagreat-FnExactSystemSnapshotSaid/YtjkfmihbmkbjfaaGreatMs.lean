/- Append does what the machine does: the theorem. No program in sight. -/
import Derived.Test.YtjkfmihbmkbjfaaGreatMr
namespace Go.Proofs.YtjkfmihbmkbjfaaGreat
open Go.RowKit
section
variable {P : Program} {A : Nat → List AV → AV → Prop} {T : TakeT} {N : Nat} {w0 : World} {F0 : Nat → Prop} {J : Inj} {a : Act} {w : World} {s : St}

theorem row_reads {w : World} {g : Nat} {cur : Array Value} {e : TypeId} (hg : w.heap[g]? = some (.cells cur e (0, 0))) (m : Nat) : ∀ (j : Nat) (u : Value), (cur.toList.take m)[j]? = some u → w.cell? (Addr.add ⟨g, 0, none⟩ j) = some u := by
  intro j u hj
  rw [List.getElem?_take] at hj
  split at hj
  · rw [Array.getElem?_toList] at hj
    simp [World.cell?, hg, hj, Addr.add_lit]
  · cases hj

theorem dest_ok (h : Rel N w0 F0 J a w s) {t1 : Tok} {n1 n : Nat} {l1 : List (List PV)} {v1 : Value} {g1 : List Nat} {d1 : Bool} (hc : CR J w v1 (.slc t1 n1 l1)) (hd : destOf t1 = some (g1, d1)) (hn : nOk t1 n1 n = true) :
    ∃ (oa : Option Addr) (cap : Nat) (olds : List Value) (L : List Nat), v1 = .slice oa l1.length cap ∧ olds.length = l1.length * n ∧ (∀ ad, oa = some ad → ∀ (j : Nat) (u : Value), olds[j]? = some u → w.cell? (ad.add j) = some u) ∧ (oa = none → l1.length = 0) ∧
      (cap = 0 ∨ ∃ g cur e0, oa = some ⟨g, 0, none⟩ ∧ w.heap[g]? = some (.cells cur e0 (0, 0)) ∧ cur.size = cap * n ∧ cur.toList.take (l1.length * n) = olds) ∧ l1.length ≤ cap ∧ cap ≤ maxLen ∧
      (∀ g, oa = some ⟨g, 0, none⟩ → cap ≠ 0 → (∃ k, k ∈ g1 ∧ g ∈ J.L k) ∧ g ∉ L) ∧
      VR (fun b => J.F b ∨ b ∈ L) w n olds l1 ∧ (d1 = true → OR w n L olds l1) ∧ L.Nodup ∧ ∀ b, b ∈ L → ∃ k, k ∈ g1 ∧ b ∈ J.L k := by
  cases t1 with
  | sh => cases hd
  | vw k => cases hd
  | put => cases hd
  | emp =>
    obtain ⟨rfl, rfl⟩ : [] = g1 ∧ true = d1 := by simpa [destOf] using hd
    obtain ⟨rfl, oa, rfl⟩ := hc
    exact ⟨oa, 0, [], [], rfl, by simp, by simp, fun _ => rfl, .inl rfl, Nat.le_refl _, Nat.zero_le _, fun _ _ h => absurd rfl h, .nil n, fun _ => .nil n, by simp, by simp⟩
  | own d k =>
    obtain ⟨rfl, rfl⟩ : [k] = g1 ∧ d = d1 := by simpa [destOf] using hd
    obtain rfl : n1 = n := by simpa [nOk] using hn
    have hnd := h.nd k
    cases d with
    | true =>
      obtain ⟨L0, hc, hnd, hsub, _⟩ := hc
      generalize hp : PV.slc n1 l1 = p at hc
      cases hc with
      | int | bool | str => cases hp
      | emp oa n' =>
        cases hp
        exact ⟨oa, 0, [], [], rfl, by simp, by simp, fun _ => rfl, .inl rfl, Nat.le_refl _, Nat.zero_le _, fun _ _ h => absurd rfl h, .nil n1, fun _ => .nil n1, by simp, by simp⟩
      | @slc g cap n' cur e L l hg hs hr h1 h2 =>
        cases hp
        have hnd := List.nodup_cons.1 hnd
        refine ⟨some ⟨g, 0, none⟩, cap, _, L, rfl, hr.length, fun ad e => (by cases e; exact row_reads hg _), (fun e => by cases e), .inr ⟨g, cur, _, rfl, hg, hs, rfl⟩, h1, h2.1, fun g' e _ => ?_, hr.vr fun b hb => .inr hb, fun _ => hr, hnd.2, fun b hb => ⟨k, by simp, hsub b (List.mem_cons_of_mem _ hb)⟩⟩
        cases e
        exact ⟨⟨k, by simp, hsub _ List.mem_cons_self⟩, hnd.1⟩
    | false =>
      have hc : OwnTop J.F (J.L k) w v1 n1 l1 := hc
      rcases hc with ⟨rfl, oa, rfl⟩ | ⟨g, cap, cur, e, hL, rfl, hg, hs, hr, h1, h2⟩
      · exact ⟨oa, 0, [], [], rfl, by simp, by simp, fun _ => rfl, .inl rfl, Nat.le_refl _, Nat.zero_le _, fun _ _ h => absurd rfl h, .nil n1, (fun h => by cases h), by simp, by simp⟩
      · refine ⟨some ⟨g, 0, none⟩, cap, _, [], rfl, hr.length, fun ad e => (by cases e; exact row_reads hg _), (fun e => by cases e), .inr ⟨g, cur, e, rfl, hg, hs, rfl⟩, h1, h2.1, fun g' e _ => ?_, hr.keep fun b hb => ⟨.inl hb, rfl⟩, (fun e => by cases e), by simp, by simp⟩
        cases e
        exact ⟨⟨k, by simp, by rw [hL]; simp⟩, by simp⟩

theorem VC.ones {X : Nat → Prop} {w : World} : ∀ {vs : List Value} {ps : List PV}, VC X w vs ps → ∀ u, u ∈ vs → u.oneCell' = true
  | _, _, .nil, u, hu => by simp at hu
  | _, _, .cons h1 h2, u, hu => by
    rcases List.mem_cons.1 hu with rfl | hu
    · cases h1 <;> rfl
    · exact VC.ones h2 u hu
theorem VR.ones {X : Nat → Prop} {w : World} : ∀ {n : Nat} {cs : List Value} {l : List (List PV)}, VR X w n cs l → ∀ u, u ∈ cs → u.oneCell' = true
  | _, _, _, .nil _, u, hu => by simp at hu
  | _, _, _, .cons h1 h2 h3, u, hu => (List.mem_append.1 hu).elim (VC.ones h1 u) (VR.ones h3 u)

theorem src_vv {X : Nat → Prop} {n : Nat} {l : List (List PV)} {v : Value} {t e : TypeId} (hu : P.underlying t = some (.slice e)) (h : VV X w v (.slc n l)) : ∃ news, Src P n t v l.length news w ∧ VR X w n news l := by
  generalize hp : PV.slc n l = p at h
  cases h with
  | int | bool | str => cases hp
  | @emp oa cap n' hcap =>
    cases hp
    cases oa with
    | none => exact ⟨[], Src.ofNil w hu cap, .nil n⟩
    | some ad => exact ⟨[], Src.ofSlice w hu ad 0 cap [] (by simp) (by simp) (by simp), .nil n⟩
  | slc hb hc hr h1 h2 =>
    cases hp
    exact ⟨_, Src.ofSlice w hu _ _ _ _ hr.length (fun j u hj => by rw [Addr.add_lit]; exact hc j u hj) hr.ones, hr⟩

theorem src_ok (h : Rel N w0 F0 J a w s) {t e : TypeId} (hu : P.underlying t = some (.slice e)) {fl : Bool} {t2 : Tok} {n2 n : Nat} {l2 : List (List PV)} {v2 : Value} (hc : CR J w v2 (.slc t2 n2 l2)) (hn : nOk t2 n2 n = true) (hfl : fl = true → RowsLike l2) :
    ∃ (news : List Value) (L : List Nat), Src P n t v2 l2.length news w ∧ ((srcOf fl t2).2 = true → OR w n L news l2) ∧ L.Nodup ∧ (∀ b, b ∈ L → ∃ k, k ∈ (srcOf fl t2).1 ∧ b ∈ J.L k) ∧
      ((fl = true → ∀ w', OR w' n [] news l2) ∧ (fl = true → L = [])) ∧ (fl = false → VR (fun b => J.F b ∨ ∃ k, k ∈ (srcOf fl t2).1 ∧ b ∈ J.L k) w n news l2) := by
  have hflat : ∀ X, fl = true → VV X w v2 (.slc n l2) → ∃ news, Src P n t v2 l2.length news w ∧ ∀ w', OR w' n [] news l2 := fun X hf hv => by
    obtain ⟨news, h1, h2⟩ := src_vv hu hv
    exact ⟨news, h1, fun w' => h2.orr (hfl hf)⟩
  cases t2 with
  | emp =>
    obtain ⟨rfl, oa, rfl⟩ := hc
    have hs : Src P n t (.slice oa 0 0) 0 [] w := by
      cases oa with
      | none => exact Src.ofNil w hu 0
      | some ad => exact Src.ofSlice w hu ad 0 0 [] (by simp) (by simp) (by simp)
    exact ⟨[], [], hs, fun _ => .nil n, by simp, by simp, ⟨fun _ _ => .nil n, fun _ => rfl⟩, fun _ => .nil n⟩
  | sh =>
    obtain rfl : n2 = n := by simpa [nOk] using hn
    cases fl with
    | true =>
      obtain ⟨news, h1, h2⟩ := hflat _ rfl hc
      exact ⟨news, [], h1, fun _ => h2 w, by simp, by simp, ⟨fun _ => h2, fun _ => rfl⟩, fun h => by cases h⟩
    | false =>
      obtain ⟨news, h1, h2⟩ := src_vv (P := P) hu (X := J.F) hc
      exact ⟨news, [], h1, (fun h => by simp [srcOf] at h), by simp, by simp, ⟨(fun h => by cases h), fun _ => rfl⟩, fun _ => h2.keep fun b hb => ⟨.inl hb, rfl⟩⟩
  | put => exact hc.elim
  | vw k =>
    obtain rfl : n2 = n := by simpa [nOk] using hn
    cases fl with
    | true =>
      obtain ⟨news, h1, h2⟩ := hflat _ rfl hc
      exact ⟨news, [], h1, fun _ => h2 w, by simp, by simp, ⟨fun _ => h2, fun _ => rfl⟩, fun h => by cases h⟩
    | false =>
      obtain ⟨news, h1, h2⟩ := src_vv (P := P) hu (X := J.X (.vw k)) hc
      exact ⟨news, [], h1, (fun h => by simp [srcOf] at h), by simp, by simp, ⟨(fun h => by cases h), fun _ => rfl⟩, fun _ => h2.keep fun b hb => ⟨hb.elim (fun h => .inr ⟨k, by simp [srcOf], h⟩) .inl, rfl⟩⟩
  | own d k =>
    obtain rfl : n2 = n := by simpa [nOk] using hn
    cases fl with
    | true =>
      have : ∃ X, VV X w v2 (.slc n2 l2) := by
        cases d with
        | true => exact ⟨_, OwnDeep.vv (X := fun _ => True) hc fun _ _ => ⟨trivial, rfl⟩⟩
        | false => exact ⟨_, OwnTop.vv (X := fun _ => True) hc (fun _ _ => ⟨trivial, rfl⟩) fun _ _ => ⟨trivial, rfl⟩⟩
      obtain ⟨X, hX⟩ := this
      obtain ⟨news, h1, h2⟩ := hflat _ rfl hX
      exact ⟨news, [], h1, fun _ => h2 w, by simp, by simp, ⟨fun _ => h2, fun _ => rfl⟩, fun h => by cases h⟩
    | false =>
      cases d with
      | false =>
        obtain ⟨news, h1, h2⟩ := src_vv (P := P) hu (X := fun b => J.F b ∨ b ∈ J.L k) (OwnTop.vv hc (fun _ hb => ⟨.inl hb, rfl⟩) fun _ hb => ⟨.inr hb, rfl⟩)
        exact ⟨news, [], h1, (fun h => by simp [srcOf] at h), by simp, by simp, ⟨(fun h => by cases h), fun _ => rfl⟩, fun _ => h2.keep fun b hb => ⟨hb.imp id fun h => ⟨k, by simp [srcOf], h⟩, rfl⟩⟩
      | true =>
        have hnd := h.nd k
        obtain ⟨L0, hc, hnd, hsub, _⟩ := hc
        generalize hp : PV.slc n2 l2 = p at hc
        cases hc with
        | int | bool | str => cases hp
        | emp oa n' =>
          cases hp
          have hs : Src P n2 t (.slice oa 0 0) 0 [] w := by
            cases oa with
            | none => exact Src.ofNil w hu 0
            | some ad => exact Src.ofSlice w hu ad 0 0 [] (by simp) (by simp) (by simp)
          exact ⟨[], [], hs, fun _ => .nil n2, by simp, by simp, ⟨(fun h => by cases h), fun _ => rfl⟩, fun _ => .nil n2⟩
        | @slc g cap n' cur e L l hg hs hr h1 h2 =>
          cases hp
          have hnd := List.nodup_cons.1 hnd
          have hvr : VR (fun b => J.F b ∨ ∃ k', k' ∈ [k] ∧ b ∈ J.L k') w n2 (cur.toList.take (l2.length * n2)) l2 := hr.vr fun b hb => .inr ⟨k, by simp, hsub b (List.mem_cons_of_mem _ hb)⟩
          refine ⟨_, L, Src.ofSlice w hu ⟨g, 0, none⟩ l2.length cap _ hr.length (row_reads hg _) hvr.ones, fun _ => hr, hnd.2, fun b hb => ⟨k, by simp [srcOf], hsub b (List.mem_cons_of_mem _ hb)⟩, ⟨(fun h => by cases h), (fun h => by cases h)⟩, fun _ => ?_⟩
          simpa [srcOf] using hvr

theorem append_none {t e ty : TypeId} {ei : TI} (hu : P.underlying t = some (.slice e)) (hei : TiOk P e ei) {oa : Option Addr} {v2 : Value} (hs : Src P ei.size t v2 0 [] w) :
    (Builtin.append_ #[t, t] ty #[.slice oa 0 0, v2]).run P w = .ok (.slice oa 0 0) w := by
  obtain ⟨inf, z, hi, hsz, hby, hz, hzs, _⟩ := hei.info
  have h1 := hs.len w
  have h2 := hs.cells
  rw [← hsz] at h2
  cases oa <;> simp [Builtin.append_, run_underlying hu, sizeOf, typeInfo_run hi, h1, h2, storeCells]

theorem get_app {α : Type} {k : Nat} : ∀ {l r : List (Nat × α)}, get (l ++ r) k = (match get l k with | some x => some x | none => get r k)
  | [], r => rfl
  | (x, y) :: l, r => by
    simp only [List.cons_append, get]
    split
    · rfl
    · exact get_app

set_option maxHeartbeats 2000000 in
theorem evalA_ok {tt : List (Nat × TI)} (htt : ttOk P tt = true) {orc : Orc} {o : Oper} {avs : List AV} {r : Res} {obs : List Ob} (h : evalA tt orc o.dst o.op avs = some (r, obs)) (hob : AllOb A T obs) (hdst : ∀ d, o.dst = some d → d < N)
    (hrel : Rel N w0 F0 J a w s) (hops : All2 (fun x v => opAV s x = some v) o.op.operands.toList avs) {K : Act → World → Prop} {Q : Exit → Act → World → Prop}
    (hK : ∀ J' a' w', Rel N w0 F0 J' a' w' (s.step o.dst r) → K a' w') : o.wp P a w K Q := by
  have hv := opAVs_ok hrel hops
  generalize ho : o.op = op at h hv
  generalize hd : o.dst = dst at h
  unfold evalA at h
  split at h
  · rename_i args tys t1 n1 l1 t2 n2 l2
    split at h
    rotate_left
    · cases h
    rename_i t t' htys
    obtain rfl : tys = #[t, t'] := Array.ext' (by simpa using htys)
    split at h
    · rename_i d e n0 z0 q0 g1 d1 hg hdest
      split at h
      · rename_i ei hge
        generalize hS : srcOf (isFlat orc) t2 = S2 at h
        cases hc : (Nat.beq t t' && Nat.blt 0 ei.size && nOk t1 n1 ei.size && nOk t2 n2 ei.size && !(memN (64 * d) (g1 ++ S2.1)) && nodupN (g1 ++ S2.1)) with
        | false => rw [hc] at h; cases h
        | true =>
          rw [hc] at h
          simp only [cond_true, Option.some.injEq, Prod.mk.injEq] at h
          obtain ⟨rfl, rfl⟩ := h
          simp only [Bool.and_eq_true, Nat.beq_eq, Nat.blt_eq, Bool.not_eq_true'] at hc
          obtain ⟨⟨⟨⟨⟨rfl, c2⟩, c3⟩, c4⟩, c5⟩, c6⟩ := hc
          have hnk : 64 * d ∉ g1 ++ S2.1 := fun hm => by rw [memN_iff.2 hm] at c5; cases c5
          have hnd := nodupN_iff.1 c6
          obtain ⟨hlim, hob2⟩ := AllOb.cons hob
          have hlim : l1.length + l2.length ≤ 1073741824 := hlim
          have hfl : isFlat orc = true → RowsLike l2 := fun hf => by rw [hf] at hob2; exact hob2
          have hu := (ttOk_get htt hg).sli
          have hei := ttOk_get htt hge
          have hv0 : All2 (fun x v => AR J w (a.eval x) v) args.toList [.one (.slc t1 n1 l1), .one (.slc t2 n2 l2)] := by simpa [Op.operands, Call.operands] using hv
          obtain ⟨px, py, hargs⟩ : ∃ px py, args = #[px, py] := by
            have hl := hv0.length
            obtain ⟨l⟩ := args
            match l, hl with
            | [px, py], _ => exact ⟨px, py, rfl⟩
          subst hargs
          have hv' : All2 (fun x v => AR J w (a.eval x) v) [px, py] [.one (.slc t1 n1 l1), .one (.slc t2 n2 l2)] := hv0
          cases hv' with
          | cons h1 h2 =>
            cases h2 with
            | cons h2 _ =>
              obtain ⟨oa, cap, olds, L, e1, hol, hread, hnone, hrow, hlc, hcm, htop, hvr1, hor1, hnd1, hL1⟩ := dest_ok hrel h1 hdest c3
              obtain ⟨news, L2, hsrc, hor2, hnd2, hL2, ⟨hflat1, hflat2⟩, hvr2⟩ := src_ok (P := P) hrel hu h2 c4 hfl
              rw [hS] at hor2 hL2 hvr2
              have hexec : ∀ u w', (Builtin.append_ #[t, t] o.type #[.slice oa l1.length cap, a.eval py]).run P w = .ok u w' → (execOp a.eval o).run P w = .ok (.value u) w' := fun u w' hr => by
                simp only [execOp, ho, resolve, invoke, builtin, Sem.run_bind, Sem.run_pure, Result.andThen_ok, List.map_toArray, List.map_cons, List.map_nil, e1, hr]
              have hG : ∀ k, k ∈ g1 ++ S2.1 → k ≠ 64 * d := fun k hk e => hnk (e ▸ hk)
              have hgone : ∀ k, k ∉ g1 ++ S2.1 → k ≠ 64 * d → get ((64 * d, none) :: (killAll g1 ++ (bif d1 && S2.2 then killAll S2.1 else freezeAll S2.1))) k = none := fun k hk hn => by
                rw [get_cons_ne hn, get_app, get_kill, if_neg fun hm => hk (List.mem_append_left _ hm)]
                cases d1 && S2.2
                · simp only [cond_false]; rw [get_freeze, if_neg fun hm => hk (List.mem_append_right _ hm)]
                · simp only [cond_true]; rw [get_kill, if_neg fun hm => hk (List.mem_append_right _ hm)]
              have hdead : ∀ k, k ∈ g1 → get ((64 * d, none) :: (killAll g1 ++ (bif d1 && S2.2 then killAll S2.1 else freezeAll S2.1))) k = some none := fun k hk => by
                rw [get_cons_ne (hG k (List.mem_append_left _ hk)), get_app, get_kill, if_pos hk]
              have hsrck : ∀ k, k ∈ S2.1 → get ((64 * d, none) :: (killAll g1 ++ (bif d1 && S2.2 then killAll S2.1 else freezeAll S2.1))) k = some (if (d1 && S2.2) = true then none else some .sh) := fun k hk => by
                have hng : k ∉ g1 := fun hm => (List.nodup_append.1 hnd).2.2 k hm k hk rfl
                rw [get_cons_ne (hG k (List.mem_append_right _ hk)), get_app, get_kill, if_neg hng]
                cases d1 && S2.2
                · simp only [cond_false]; rw [get_freeze, if_pos hk]; simp
                · simp only [cond_true]; rw [get_kill, if_pos hk]; simp
              by_cases hempty : cap = 0 ∧ l2.length = 0
              · -- nothing to nothing
                obtain ⟨hc0, hl0⟩ := hempty
                have hl1 : l1 = [] := List.eq_nil_of_length_eq_zero (by omega)
                have hl2 : l2 = [] := List.eq_nil_of_length_eq_zero hl0
                subst hl1 hl2 hc0
                have hnews : news = [] := List.eq_nil_of_length_eq_zero (by rw [hsrc.newsLen]; simp)
                subst hnews
                refine wp_of_run (hexec _ _ (append_none hu hei hsrc)) ?_
                rw [hd] at hK ⊢
                refine hK ⟨fun b => J.F b ∨ ∃ k, k ∈ g1 ++ S2.1 ∧ b ∈ J.L k, fun k => if k = 64 * d then [] else if k ∈ g1 ++ S2.1 then [] else J.L k, J.B⟩ _ _ (hrel.grab (some d) (fun d' e => by cases e; exact hdst d hd) _ _ (64 * d) (g1 ++ S2.1) rfl rfl hrel.below (Nat.le_refl _) rfl (fun k hk => if_neg hk)
                  (fun b hb => .inl hb) (fun b hb => hb.imp id fun hk => ⟨hk, by simp⟩) hgone (fun _ => by simp [get]) (fun k hk => ?_) (fun b hb _ => rfl) (by simp) (fun b hb => by simp at hb) (fun _ => ?_))
                · rcases List.mem_append.1 hk with hk' | hk'
                  · exact .inl (hdead k hk')
                  · rw [hsrck k hk']
                    by_cases hD : (d1 && S2.2) = true
                    · exact .inl (by simp [hD])
                    · exact .inr (.inl ⟨by simp [hD], fun b hb => ⟨.inr ⟨k, hk, hb⟩, rfl⟩⟩)
                · show CR _ w (.slice oa 0 0) (.slc (.own (d1 && S2.2) (64 * d)) ei.size [])
                  cases d1 && S2.2
                  · exact .inl ⟨rfl, oa, rfl⟩
                  · show OwnDeep (if 64 * d = 64 * d then [] else _) w _ _ _
                    rw [if_pos rfl]
                    exact ⟨[], .emp oa _, List.nodup_nil, fun b hb => hb, .inl rfl⟩
              · obtain ⟨g', cap', cur', e', w', hrun, hg', hcs', htk', hlc', hcm', hos, htape, hout, hsize, hwhere⟩ := append_run (ty := o.type) hu hei c2 hol hread hnone hrow hlc hsrc hlim (fun e => by omega) hcm
                refine wp_of_run (hexec _ _ hrun) ?_
                rw [hd] at hK ⊢
                -- where the row lies
                have hw1 : (∃ k, k ∈ g1 ∧ g' ∈ J.L k) ∧ g' ∉ L ∨ w.heap.size ≤ g' := by
                  rcases hwhere with ⟨cur, e0, hoa, _, hc0, _⟩ | ⟨hgs, _⟩
                  · exact .inl (htop g' hoa hc0)
                  · exact .inr (by omega)
                have hw2 : ∀ b, b < w.heap.size → b ≠ g' → w'.heap[b]? = w.heap[b]? := by
                  intro b hb hne
                  rcases hwhere with ⟨cur, e0, _, _, _, hsame⟩ | ⟨_, _, hsame⟩
                  · exact hsame b hne
                  · exact hsame b hb
                have hglt : g' < w'.heap.size := block_lt_of_heap hg'
                have hgF : ¬ J.F g' := fun hF => by
                  rcases hw1 with ⟨⟨k, _, hm⟩, _⟩ | hge
                  · exact (hrel.lo k g' hm).2.2 hF
                  · have := (hrel.fl g' hF).1; omega
                have hgS : ∀ k, k ∉ g1 → g' ∉ J.L k := fun k hk hm => by
                  rcases hw1 with ⟨⟨k', hk', hm'⟩, _⟩ | hge
                  · exact hk (hrel.dj k k' g' hm hm' ▸ hk')
                  · have := (hrel.lo k g' hm).2.1; omega
                have hgL : g' ∉ L := by
                  rcases hw1 with ⟨_, h⟩ | hge
                  · exact h
                  · intro hm; obtain ⟨k, _, hm'⟩ := hL1 g' hm; have := (hrel.lo k g' hm').2.1; omega
                have hgL2 : g' ∉ L2 := fun hm => by
                  obtain ⟨k, hk, hm'⟩ := hL2 g' hm
                  exact hgS k (fun hk' => (List.nodup_append.1 hnd).2.2 k hk' k hk rfl) hm'
                have hbelow : Below w0.heap.size w0 w' := by
                  refine hrel.below.trans ⟨hos, htape, hout, hsize, fun b hb => ?_⟩
                  have h0 := hrel.below.size
                  refine hw2 b (by omega) fun e => ?_
                  rcases hw1 with ⟨⟨k, _, hm⟩, _⟩ | hge
                  · have := (hrel.lo k g' hm).1; omega
                  · omega
                have hlt1 : ∀ b, b ∈ L → b < w.heap.size := fun b hb => by obtain ⟨k, _, hm⟩ := hL1 b hb; exact (hrel.lo k b hm).2.1
                have hlt2 : ∀ b, b ∈ L2 → b < w.heap.size := fun b hb => by obtain ⟨k, _, hm⟩ := hL2 b hb; exact (hrel.lo k b hm).2.1
                have hlen : (l1 ++ l2).length = l1.length + l2.length := List.length_append
                by_cases hD : (d1 && S2.2) = true
                · have hD' := hD
                  simp only [Bool.and_eq_true] at hD'
                  have hndA : (g' :: (L ++ L2)).Nodup := by
                    refine List.nodup_cons.2 ⟨fun hm => (List.mem_append.1 hm).elim hgL hgL2, List.nodup_append.2 ⟨hnd1, hnd2, fun b hb b' hb' e => ?_⟩⟩
                    subst e
                    obtain ⟨k, hk, hm⟩ := hL1 b hb
                    obtain ⟨k', hk', hm'⟩ := hL2 b hb'
                    have := hrel.dj k k' b hm hm'
                    subst this
                    exact (List.nodup_append.1 hnd).2.2 k hk k hk' rfl
                  refine hK ⟨J.F, fun k => if k = 64 * d then g' :: (L ++ L2) else if k ∈ g1 ++ S2.1 then [] else J.L k, J.B⟩ _ _ (hrel.grab (some d) (fun d' e => by cases e; exact hdst d hd) _ _ (64 * d) (g1 ++ S2.1) rfl rfl hbelow hsize rfl (fun k hk => if_neg hk)
                    (fun b hb => hb) (fun b hb => .inl hb) hgone (fun _ => by simp [get]) (fun k hk => ?_) (fun b hb hn => hw2 b hb fun e => ?_) ?_ (fun b hb => ?_) (fun _ => ?_))
                  · rcases List.mem_append.1 hk with hk' | hk'
                    · exact .inl (hdead k hk')
                    · exact .inl (by rw [hsrck k hk', if_pos hD])
                  · rcases hw1 with ⟨⟨k, hk, hm⟩, _⟩ | hge
                    · exact hn k (List.mem_append_left _ hk) (e ▸ hm)
                    · omega
                  · simp only [if_true]
                    exact hndA
                  · simp only [if_true, List.mem_cons, List.mem_append] at hb
                    rcases hb with rfl | hb | hb
                    · refine ⟨hglt, ?_⟩
                      rcases hw1 with ⟨⟨k, hk, hm⟩, _⟩ | hge
                      · exact .inr ⟨k, List.mem_append_left _ hk, hm⟩
                      · exact .inl hge
                    · obtain ⟨k, hk, hm⟩ := hL1 b hb
                      exact ⟨by have := hlt1 b hb; omega, .inr ⟨k, List.mem_append_left _ hk, hm⟩⟩
                    · obtain ⟨k, hk, hm⟩ := hL2 b hb
                      exact ⟨by have := hlt2 b hb; omega, .inr ⟨k, List.mem_append_right _ hk, hm⟩⟩
                  · show CR _ w' _ (.slc (.own (d1 && S2.2) (64 * d)) ei.size (l1 ++ l2))
                    rw [hD]
                    show OwnDeep (if 64 * d = 64 * d then _ else _) w' _ _ _
                    rw [if_pos rfl, ← hlen]
                    refine .of (.slc hg' hcs' ?_ (by omega) ⟨hcm', by omega⟩) hndA
                    rw [hlen, htk']
                    exact OR.append ((hor2 hD'.2).keep fun b hb => hw2 b (hlt2 b hb) fun e => hgL2 (e ▸ hb)) ((hor1 hD'.1).keep fun b hb => hw2 b (hlt1 b hb) fun e => hgL (e ▸ hb))
                · refine hK ⟨fun b => J.F b ∨ ((∃ k, k ∈ g1 ++ S2.1 ∧ b ∈ J.L k) ∧ b ≠ g'), fun k => if k = 64 * d then [g'] else if k ∈ g1 ++ S2.1 then [] else J.L k, J.B⟩ _ _ (hrel.grab (some d) (fun d' e => by cases e; exact hdst d hd) _ _ (64 * d) (g1 ++ S2.1) rfl rfl hbelow hsize rfl (fun k hk => if_neg hk)
                    (fun b hb => .inl hb) (fun b hb => hb.imp id fun hk => ⟨hk.1, by simpa using hk.2⟩) hgone (fun _ => by simp [get]) (fun k hk => ?_) (fun b hb hn => hw2 b hb fun e => ?_) (by simp) (fun b hb => ?_) (fun _ => ?_))
                  · rcases List.mem_append.1 hk with hk' | hk'
                    · exact .inl (hdead k hk')
                    · have hng : k ∉ g1 := fun hm => (List.nodup_append.1 hnd).2.2 k hm k hk' rfl
                      refine .inr (.inl ⟨by rw [hsrck k hk', if_neg hD], fun b hb => ?_⟩)
                      have hne : b ≠ g' := fun e => hgS k hng (e ▸ hb)
                      exact ⟨.inr ⟨⟨k, hk, hb⟩, hne⟩, hw2 b (hrel.lo k b hb).2.1 hne⟩
                  · rcases hw1 with ⟨⟨k, hk, hm⟩, _⟩ | hge
                    · exact hn k (List.mem_append_left _ hk) (e ▸ hm)
                    · omega
                  · simp only [if_true, List.mem_singleton] at hb
                    subst hb
                    refine ⟨hglt, ?_⟩
                    rcases hw1 with ⟨⟨k, hk, hm⟩, _⟩ | hge
                    · exact .inr ⟨k, List.mem_append_left _ hk, hm⟩
                    · exact .inl hge
                  · show CR _ w' _ (.slc (.own (d1 && S2.2) (64 * d)) ei.size (l1 ++ l2))
                    rw [show (d1 && S2.2) = false by simpa using hD]
                    refine .inr ⟨g', cap', cur', e', by simp, by rw [hlen], hg', hcs', ?_, by omega, hcm', by omega⟩
                    rw [hlen, htk']
                    have hk1 : VR (fun b => J.F b ∨ ((∃ k, k ∈ g1 ++ S2.1 ∧ b ∈ J.L k) ∧ b ≠ g')) w' ei.size olds l1 := hvr1.keep fun b hb => by
                      rcases hb with hb | hb
                      · exact ⟨.inl hb, hw2 b (hrel.fl b hb).1 fun e => hgF (e ▸ hb)⟩
                      · obtain ⟨k, hk, hm⟩ := hL1 b hb
                        have hne : b ≠ g' := fun e => hgL (e ▸ hb)
                        exact ⟨.inr ⟨⟨k, List.mem_append_left _ hk, hm⟩, hne⟩, hw2 b (hlt1 b hb) hne⟩
                    refine VR.append ?_ hk1
                    cases hf : isFlat orc with
                    | true => exact (hflat1 hf w').vr fun b hb => by simp at hb
                    | false =>
                      refine (hvr2 hf).keep fun b hb => ?_
                      rcases hb with hb | ⟨k, hk, hm⟩
                      · exact ⟨.inl hb, hw2 b (hrel.fl b hb).1 fun e => hgF (e ▸ hb)⟩
                      · have hng : k ∉ g1 := fun hm => (List.nodup_append.1 hnd).2.2 k hm k hk rfl
                        have hne : b ≠ g' := fun e => hgS k hng (e ▸ hm)
                        exact ⟨.inr ⟨⟨k, List.mem_append_right _ hk, hm⟩, hne⟩, hw2 b (hrel.lo k b hm).2.1 hne⟩
      · cases h
    · cases h
  · cases h
end
end Go.Proofs.YtjkfmihbmkbjfaaGreat
