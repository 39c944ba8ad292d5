/- Boxes, stores and literals of slices do what the machine does. No program in sight. -/
import Derived.Test.YtjkfmihbmkbjfaaGreatMo
namespace Go.Proofs.YtjkfmihbmkbjfaaGreat
open Go.RowKit

def evalB (tt : List (Nat × TI)) (bn : List (Nat × List C)) (dst : Option Nat) : Op → List AV → Option (Res × List Ob)
  | .alloc t, [] =>
    (match dst, get tt t with
    | some d, some ti => bif allC noPtrC ti.zero then some (⟨.one (.ptr d 0), [], some d, some (d, ti.zero)⟩, []) else none
    | _, _ => none)
  | .box _ _, [v] =>
    (match dst, v.flatCells with
    | some d, some cs => bif allAlive cs && allC noPtrC cs then some (⟨.one (.ptr d 0), [], some d, some (d, cs)⟩, []) else none
    | _, _ => none)
  | .store t _ _, [.one (.ptr k off), v] =>
    (match get tt t, get bn k, v.flatCells with
    | some ti, some cells, some cs => bif Nat.beq cs.length ti.size && allAlive cs && Nat.ble (off + ti.size) cells.length then some (⟨.one .dead, [], none, some (k, cells.take off ++ cs ++ cells.drop (off + ti.size))⟩, []) else none
    | _, _, _ => none)
  | .buildSlice t len ps, avs =>
    (match dst, get tt t, partsOf 0 ps.toList avs with
    | some d, some ⟨.sli e, _, _, _⟩, some css => (match get tt e, rowsPV css with
      | some ei, some rows => bif Nat.beq css.length len && allLen ei.size css && Nat.ble (len * ei.size) 1000 && Nat.blt 0 ei.size && !(memN (64 * d) (keysOfC css.flatten)) && nodupN (keysOfC css.flatten) then
          some (bif allDeep css.flatten then ⟨.one (.slc (.own true (64 * d)) ei.size rows), (64 * d, none) :: viewAll (64 * d) (keysOfC css.flatten), none, none⟩
            else ⟨.one (.slc (.own false (64 * d)) ei.size rows), (64 * d, none) :: freezeAll (keysOfC css.flatten), none, none⟩, [])
        else none
      | _, _ => none)
    | _, _, _ => none)
  | _, _ => none

section
variable {P : Program} {N : Nat} {w0 : World} {F0 : Nat → Prop} {J : Inj} {a : Act} {w : World} {s : St}

theorem wp_of_run {o : Oper} {K : Act → World → Prop} {Q : Exit → Act → World → Prop} {v : Value} {w' : World} (h : (execOp a.eval o).run P w = .ok (.value v) w') (k : K (a.put o.dst v) w') : o.wp P a w K Q := by
  unfold Oper.wp
  rw [h]
  exact k
theorem wp_of_skip {o : Oper} {K : Act → World → Prop} {Q : Exit → Act → World → Prop} {w' : World} (h : (execOp a.eval o).run P w = .ok .skip w') (k : K (a.put o.dst undef) w') : o.wp P a w K Q := by
  unfold Oper.wp
  rw [h]
  exact k
theorem constAV_ok {v : Value} {x : AV} (h : constAV v = some x) : AR J w v x := by
  unfold constAV at h
  split at h
  · rename_i k n
    cases hb : (decide (k.min ≤ n) && decide (n ≤ k.max)) with
    | false => rw [hb] at h; cases h
    | true =>
      rw [hb] at h
      obtain rfl := Option.some.inj h
      simp at hb
      exact ⟨rfl, hb⟩
  · obtain rfl := Option.some.inj h; rfl
  · rename_i t
    cases hb : Nat.ble t.size 1000000 with
    | false => rw [hb] at h; cases h
    | true =>
      rw [hb] at h
      obtain rfl := Option.some.inj h
      exact ⟨rfl, Nat.le_trans (by simpa using hb) (by decide)⟩
  · obtain rfl := Option.some.inj h; exact ⟨rfl, none, rfl⟩
  · cases h
theorem opAV_ok (h : Rel N w0 F0 J a w s) {x : Operand} {v : AV} (hx : opAV s x = some v) : AR J w (a.eval x) v := by
  cases x with
  | tmp t => exact h.tm t v hx
  | const c => exact constAV_ok hx
  | func f => obtain rfl := Option.some.inj hx; rfl
  | global g => cases hx
theorem opAVs_ok (h : Rel N w0 F0 J a w s) {xs : List Operand} {vs : List AV} (hx : All2 (fun x v => opAV s x = some v) xs vs) : All2 (fun x v => AR J w (a.eval x) v) xs vs := hx.imp fun _ _ _ hv => opAV_ok h hv

theorem fill_seq {n : Nat} : ∀ (vs : List Value) (i : Nat) (cells : Array Value), (∀ v, v ∈ vs → v.cells.size = n) → cells.size = (i + vs.length) * n →
    ∃ out, Instr.fill (fun i => some (i * n, n)) cells ((List.range' i vs.length).zip vs) = some out ∧ out.toList = cells.toList.take (i * n) ++ vs.flatMap (·.cells.toList)
  | [], i, cells, _, hs => ⟨cells, rfl, by simp; rw [List.take_of_length_le (by simp [hs])]⟩
  | v :: vs, i, cells, hn, hs => by
    have hvn := hn v List.mem_cons_self
    have hfit : i * n + v.cells.toList.length ≤ cells.size := by
      simp only [Array.length_toList, hvn, hs, List.length_cons]
      have : (i + 1) * n ≤ (i + (vs.length + 1)) * n := Nat.mul_le_mul_right _ (by omega)
      rw [Nat.add_mul, Nat.one_mul] at this
      exact this
    have hput := foldl_put v.cells.toList (i * n) 0 cells hfit
    rw [Nat.add_zero] at hput
    have hput' : v.cells.zipIdx.foldl (fun cs x => cs.setIfInBounds (i * n + x.2) x.1) cells = putCells cells (i * n) v.cells.toList := by
      rw [← hput, ← Array.foldl_toList]
      simp
    obtain ⟨out, h1, h2⟩ := fill_seq (n := n) vs (i + 1) (putCells cells (i * n) v.cells.toList) (fun u hu => hn u (List.mem_cons_of_mem _ hu)) (by rw [size_putCells, hs, List.length_cons]; congr 1; omega)
    refine ⟨out, ?_, ?_⟩
    · simp only [List.length_cons, List.range'_succ, List.zip_cons_cons, Instr.fill]
      rw [if_neg (by simp [hvn]; simpa [hvn] using hfit)]
      exact (congrArg (fun z => Instr.fill _ z _) hput').trans h1
    · rw [h2, putCells_list hfit]
      have hl : (cells.toList.take (i * n) ++ v.cells.toList).length = (i + 1) * n := by
        simp only [List.length_append, List.length_take, Array.length_toList, hvn, Nat.add_mul, Nat.one_mul]
        rw [Nat.min_eq_left (by simp [hvn] at hfit; omega)]
      rw [← hl, List.take_left]
      simp

theorem parts_ok : ∀ {ps : List (Nat × Operand)} {avs : List AV} {css : List (List C)} {i n : Nat} {ρ : Operand → Value}, partsOf i ps avs = some css → allLen n css = true → All2 (fun x v => AR J w (ρ x) v) (ps.map (·.2)) avs →
    (ps.map fun p => (p.1, ρ p.2)) = (List.range' i css.length).zip (ps.map fun p => ρ p.2) ∧ ps.length = css.length ∧ (∀ v, v ∈ ps.map (fun p => ρ p.2) → v.cells.size = n) ∧ All2 (CR J w) ((ps.map fun p => ρ p.2).flatMap (·.cells.toList)) css.flatten
  | [], [], css, i, n, ρ, h, _, _ => by
    obtain rfl : [] = css := by simpa [partsOf] using h
    exact ⟨rfl, rfl, by simp, .nil⟩
  | [], _ :: _, _, _, _, _, h, _, _ => by simp [partsOf] at h
  | _ :: _, [], _, _, _, _, h, _, _ => by simp [partsOf] at h
  | (j, x) :: ps, v :: avs, css, i, n, ρ, h, hl, hv => by
    simp only [partsOf] at h
    cases hij : Nat.beq i j with
    | false => rw [hij] at h; cases h
    | true =>
      rw [hij] at h
      obtain rfl : i = j := by simpa using hij
      simp only [cond_true] at h
      split at h
      · rename_i cs r hc hr
        obtain rfl := Option.some.inj h
        simp only [allLen, Bool.and_eq_true, Nat.beq_eq] at hl
        cases hv with
        | cons h1 h2 =>
          obtain ⟨e1, e2, e3, e4⟩ := parts_ok hr hl.2 h2
          have hcl := flat_cells h1 hc hl.1.2
          have hcn : (ρ x).cells.size = n := by have := hcl.length; simp at this; omega
          refine ⟨?_, by simp [e2], fun u hu => ?_, ?_⟩
          · simp only [List.map_cons, List.length_cons, List.range'_succ, List.zip_cons_cons, e1]
          · simp only [List.map_cons, List.mem_cons] at hu
            rcases hu with rfl | hu
            · exact hcn
            · exact e3 u hu
          · simp only [List.map_cons, List.flatMap_cons, List.flatten_cons]
            exact hcl.append e4
      · cases h

/-- the blocks that cells of ours take along -/
def Inj.of (J : Inj) : List C → List Nat
  | [] => []
  | .slc (.own true k) _ _ :: r => J.L k ++ J.of r
  | _ :: r => J.of r
theorem toPV_vv {X : Nat → Prop} {w' : World} {v : Value} {c : C} {p : PV} (h : CR J w v c) (hp : toPV c = some p) (hF : ∀ b, J.F b → X b ∧ w'.heap[b]? = w.heap[b]?) (hL : ∀ k, c.key = some k → ∀ b, b ∈ J.L k → X b ∧ w'.heap[b]? = w.heap[b]?) : VV X w' v p := by
  cases c with
  | int => obtain rfl := Option.some.inj hp; obtain ⟨rfl, h⟩ := h; exact .int h
  | bool => obtain rfl := Option.some.inj hp; obtain rfl := h; exact .bool _
  | str => obtain rfl := Option.some.inj hp; obtain ⟨rfl, h⟩ := h; exact .str h
  | slc t n l =>
    obtain rfl := Option.some.inj hp
    cases t with
    | sh => exact VV.keep hF h
    | emp => obtain ⟨rfl, oa, rfl⟩ := h; exact .emp oa n (Nat.zero_le _)
    | vw k => exact VV.keep (fun b hb => by rcases hb with hb | hb
                                            · exact hL k rfl b hb
                                            · exact hF b hb) h
    | own d k =>
      cases d with
      | true => exact OwnDeep.vv h (hL k rfl)
      | false => exact OwnTop.vv h hF (hL k rfl)
    | put => exact h.elim
  | _ => cases hp
theorem toPVs_vc {X : Nat → Prop} {w' : World} : ∀ {vs : List Value} {cs : List C} {ps : List PV}, All2 (CR J w) vs cs → toPVs cs = some ps → (∀ b, J.F b → X b ∧ w'.heap[b]? = w.heap[b]?) → (∀ k, k ∈ keysOfC cs → ∀ b, b ∈ J.L k → X b ∧ w'.heap[b]? = w.heap[b]?) → VC X w' vs ps
  | _, _, ps, .nil, h, _, _ => by obtain rfl : [] = ps := by simpa [toPVs] using h
                                  exact .nil
  | _, _, ps, .cons (b := c) h1 h2, h, hF, hL => by
    simp only [toPVs] at h
    split at h
    · rename_i p ps' e1 e2
      obtain rfl := Option.some.inj h
      exact .cons (toPV_vv h1 e1 hF fun k hk => hL k (by simp [keysOfC, hk])) (toPVs_vc h2 e2 hF fun k hk => hL k (by simp only [keysOfC]; exact List.mem_append_right _ hk))
    · cases h
theorem toPV_ov {w' : World} {v : Value} {c : C} {p : PV} (h : CR J w v c) (hp : toPV c = some p) (hd : deepC c = true) (hL : ∀ k, c.key = some k → ∀ b, b ∈ J.L k → w'.heap[b]? = w.heap[b]?) : ∃ L, OV w' L v p ∧ L.Nodup ∧ ∀ b, b ∈ L → b ∈ J.of [c] := by
  cases c with
  | int => obtain rfl := Option.some.inj hp; obtain ⟨rfl, h⟩ := h; exact ⟨[], .int h, List.nodup_nil, fun b hb => by simp at hb⟩
  | bool => obtain rfl := Option.some.inj hp; obtain rfl := h; exact ⟨[], .bool _, List.nodup_nil, fun b hb => by simp at hb⟩
  | str => obtain rfl := Option.some.inj hp; obtain ⟨rfl, h⟩ := h; exact ⟨[], .str h, List.nodup_nil, fun b hb => by simp at hb⟩
  | slc t n l =>
    obtain rfl := Option.some.inj hp
    cases t with
    | emp => obtain ⟨rfl, oa, rfl⟩ := h; exact ⟨[], .emp oa n, List.nodup_nil, fun b hb => by simp at hb⟩
    | own d k =>
      cases d with
      | true =>
        simp only [Inj.of, List.append_nil]
        obtain ⟨L, h1, h2, h3, _⟩ := h
        exact ⟨L, OV.keep h1 fun b hb => hL k rfl b (h3 b hb), h2, h3⟩
      | false => cases hd
    | _ => cases hd
  | _ => cases hp
theorem Inj.of_cons (J : Inj) (c : C) (r : List C) : J.of (c :: r) = J.of [c] ++ J.of r := by
  cases c with
  | slc t n l => cases t with
    | own d k => cases d <;> simp [Inj.of]
    | _ => simp [Inj.of]
  | _ => simp [Inj.of]
theorem toPVs_oc {w' : World} : ∀ {vs : List Value} {cs : List C} {ps : List PV}, All2 (CR J w) vs cs → toPVs cs = some ps → allDeep cs = true → (J.of cs).Nodup → (∀ k, k ∈ keysOfC cs → ∀ b, b ∈ J.L k → w'.heap[b]? = w.heap[b]?) → ∃ L, OC w' L vs ps ∧ L.Nodup ∧ ∀ b, b ∈ L → b ∈ J.of cs
  | _, _, ps, .nil, h, _, _, _ => by obtain rfl : [] = ps := by simpa [toPVs] using h
                                     exact ⟨[], .nil, List.nodup_nil, fun b hb => by simp at hb⟩
  | _, _, ps, .cons (b := c) h1 h2, h, hd, hn, hL => by
    simp only [toPVs] at h
    simp only [allDeep, Bool.and_eq_true] at hd
    split at h
    · rename_i p ps' e1 e2
      obtain rfl := Option.some.inj h
      rw [Inj.of_cons] at hn ⊢
      obtain ⟨hn1, hn2, hn3⟩ := List.nodup_append.1 hn
      obtain ⟨L1, a1, a2, a3⟩ := toPV_ov h1 e1 hd.1 fun k hk => hL k (by simp [keysOfC, hk])
      obtain ⟨L2, b1, b2, b3⟩ := toPVs_oc h2 e2 hd.2 hn2 fun k hk => hL k (by simp only [keysOfC]; exact List.mem_append_right _ hk)
      refine ⟨L1 ++ L2, .cons a1 b1, List.nodup_append.2 ⟨a2, b2, fun x hx y hy => hn3 x (a3 x hx) y (b3 y hy)⟩, fun b hb => ?_⟩
      rcases List.mem_append.1 hb with hb | hb
      · exact List.mem_append_left _ (a3 b hb)
      · exact List.mem_append_right _ (b3 b hb)
    · cases h
theorem mem_of {J : Inj} : ∀ {cs : List C} {b : Nat}, b ∈ J.of cs → ∃ k, k ∈ keysOfC cs ∧ b ∈ J.L k
  | [], b, h => by simp [Inj.of] at h
  | c :: r, b, h => by
    rw [Inj.of_cons] at h
    rcases List.mem_append.1 h with h | h
    · cases c with
      | slc t n l => cases t with
        | own d k => cases d with
          | true => exact ⟨k, by simp [keysOfC, C.key, Tok.key], by simpa [Inj.of] using h⟩
          | false => simp [Inj.of] at h
        | _ => simp [Inj.of] at h
      | _ => simp [Inj.of] at h
    · obtain ⟨k, h1, h2⟩ := mem_of h
      exact ⟨k, by simp only [keysOfC]; exact List.mem_append_right _ h1, h2⟩
theorem of_mem {J : Inj} : ∀ {cs : List C}, allDeep cs = true → (∀ c, c ∈ cs → ∃ p, toPV c = some p) → ∀ {k : Nat}, k ∈ keysOfC cs → ∀ {b : Nat}, b ∈ J.L k → b ∈ J.of cs
  | [], _, _, k, h, _, _ => by simp [keysOfC] at h
  | c :: r, hd, hp, k, h, b, hb => by
    simp only [allDeep, Bool.and_eq_true] at hd
    simp only [keysOfC] at h
    rw [Inj.of_cons]
    rcases List.mem_append.1 h with h | h
    · refine List.mem_append_left _ ?_
      cases c with
      | slc t n l => cases t with
        | own d k' => cases d with
          | true =>
            simp [C.key, Tok.key] at h
            subst h
            simpa [Inj.of] using hb
          | false => cases hd.1
        | _ => simp_all [deepC, C.key, Tok.key]
      | rptr t cs => obtain ⟨p, e⟩ := hp _ List.mem_cons_self; cases e
      | ept d k n i o cs => obtain ⟨p, e⟩ := hp _ List.mem_cons_self; cases e
      | _ => simp [C.key] at h
    · exact List.mem_append_right _ (of_mem hd.2 (fun c hc => hp c (List.mem_cons_of_mem _ hc)) h hb)
theorem of_nodup (h : Rel N w0 F0 J a w s) : ∀ {cs : List C}, (keysOfC cs).Nodup → (J.of cs).Nodup
  | [], _ => by simp [Inj.of]
  | c :: r, hn => by
    simp only [keysOfC] at hn
    obtain ⟨h1, h2, h3⟩ := List.nodup_append.1 hn
    rw [Inj.of_cons]
    refine List.nodup_append.2 ⟨?_, of_nodup h h2, fun b hb b' hb' e => ?_⟩
    · cases c with
      | slc t n l => cases t with
        | own d k => cases d with
          | true => simpa [Inj.of] using h.nd k
          | false => simp [Inj.of]
        | _ => simp [Inj.of]
      | _ => simp [Inj.of]
    · subst e
      obtain ⟨k, hk, hm⟩ := mem_of hb
      obtain ⟨k', hk', hm'⟩ := mem_of hb'
      have := h.dj k k' b hm hm'
      subst this
      simp [keysOfC] at hk
      exact h3 k (by simp [hk]) k hk' rfl
theorem toPVs_all : ∀ {cs : List C} {ps : List PV}, toPVs cs = some ps → ∀ c, c ∈ cs → ∃ p, toPV c = some p
  | [], _, _, c, hc => by simp at hc
  | x :: r, ps, h, c, hc => by
    simp only [toPVs] at h
    split at h
    · rename_i p ps' e1 e2
      rcases List.mem_cons.1 hc with rfl | hc
      · exact ⟨p, e1⟩
      · exact toPVs_all e2 c hc
    · cases h
theorem rows_flat : ∀ {css : List (List C)} {rows : List (List PV)} {n : Nat}, rowsPV css = some rows → allLen n css = true → toPVs css.flatten = some rows.flatten ∧ rows.length = css.length ∧ ∀ r, r ∈ rows → r.length = n
  | [], rows, n, h, _ => by obtain rfl : [] = rows := by simpa [rowsPV] using h
                            exact ⟨rfl, rfl, by simp⟩
  | cs :: css, rows, n, h, hl => by
    simp only [rowsPV] at h
    simp only [allLen, Bool.and_eq_true, Nat.beq_eq] at hl
    split at h
    · rename_i p ps e1 e2
      obtain rfl := Option.some.inj h
      obtain ⟨h1, h2, h3⟩ := rows_flat e2 hl.2
      have happ : ∀ (cs cs' : List C) (p p' : List PV), toPVs cs = some p → toPVs cs' = some p' → toPVs (cs ++ cs') = some (p ++ p') ∧ p.length = cs.length := by
        intro cs
        induction cs with
        | nil => intro cs' p p' h1 h2; obtain rfl : [] = p := by simpa [toPVs] using h1
                 exact ⟨h2, rfl⟩
        | cons c cs ih =>
          intro cs' p p' h1 h2
          simp only [toPVs] at h1
          split at h1
          · rename_i q qs f1 f2
            obtain rfl := Option.some.inj h1
            obtain ⟨g1, g2⟩ := ih cs' qs p' f2 h2
            exact ⟨by simp [toPVs, f1, g1], by simp [g2]⟩
          · cases h1
      obtain ⟨g1, g2⟩ := happ cs css.flatten p ps.flatten e1 h1
      exact ⟨g1, by simp [h2], fun r hr => by rcases List.mem_cons.1 hr with rfl | hr
                                              · omega
                                              · exact h3 r hr⟩
    · cases h
theorem VC.rows {X : Nat → Prop} {w : World} {n : Nat} : ∀ {rows : List (List PV)} {vs : List Value}, VC X w vs rows.flatten → (∀ r, r ∈ rows → r.length = n) → VR X w n vs rows
  | [], vs, h, _ => by cases h; exact .nil n
  | r :: rows, vs, h, hn => by
    have hl := h.length
    simp only [List.flatten_cons, List.length_append] at hl
    have h1 := h.take r.length
    have h2 := h.drop r.length
    simp only [List.flatten_cons, List.take_left, List.drop_left] at h1 h2
    rw [← List.take_append_drop r.length vs]
    exact .cons h1 (hn r List.mem_cons_self) (VC.rows h2 fun r hr => hn r (List.mem_cons_of_mem _ hr))
theorem OC.split {w : World} : ∀ {ps ps' : List PV} {L : List Nat} {vs : List Value}, OC w L vs (ps ++ ps') → ∃ L1 L2 vs1 vs2, L = L1 ++ L2 ∧ vs = vs1 ++ vs2 ∧ OC w L1 vs1 ps ∧ OC w L2 vs2 ps'
  | [], ps', L, vs, h => ⟨[], L, [], vs, rfl, rfl, .nil, h⟩
  | p :: ps, ps', L, vs, h => by
    generalize hq : p :: ps ++ ps' = q at h
    cases h with
    | nil => cases hq
    | cons h1 h2 =>
      cases hq
      obtain ⟨L1, L2, vs1, vs2, rfl, rfl, h3, h4⟩ := OC.split h2
      exact ⟨_, L2, _, vs2, (List.append_assoc ..).symm, rfl, .cons h1 h3, h4⟩
theorem OC.rows {w : World} {n : Nat} : ∀ {rows : List (List PV)} {L : List Nat} {vs : List Value}, OC w L vs rows.flatten → (∀ r, r ∈ rows → r.length = n) → OR w n L vs rows
  | [], L, vs, h, _ => by cases h; exact .nil n
  | r :: rows, L, vs, h, hn => by
    obtain ⟨L1, L2, vs1, vs2, rfl, rfl, h1, h2⟩ := OC.split h
    exact .cons h1 (hn r List.mem_cons_self) (OC.rows h2 fun r hr => hn r (List.mem_cons_of_mem _ hr))
theorem get_view {nk k : Nat} : ∀ {keys : List Nat}, get (viewAll nk keys) k = if k ∈ keys then some (some (.vw nk)) else none
  | [] => by simp [viewAll, get]
  | x :: r => by
    simp only [viewAll, get, get_view (keys := r), List.mem_cons]
    by_cases hx : x = k
    · simp [hx]
    · simp [hx, fun e => hx (Eq.symm e)]
      by_cases hk : k = x
      · exact absurd hk.symm hx
      · simp [hk]
theorem get_freeze {k : Nat} : ∀ {keys : List Nat}, get (freezeAll keys) k = if k ∈ keys then some (some .sh) else none
  | [] => by simp [freezeAll, get]
  | x :: r => by
    simp only [freezeAll, get, get_freeze (keys := r), List.mem_cons]
    by_cases hx : x = k
    · simp [hx]
    · by_cases hk : k = x
      · exact absurd hk.symm hx
      · simp [hx, hk]
theorem get_kill {k : Nat} : ∀ {keys : List Nat}, get (killAll keys) k = if k ∈ keys then some none else none
  | [] => by simp [killAll, get]
  | x :: r => by
    simp only [killAll, get, get_kill (keys := r), List.mem_cons]
    by_cases hx : x = k
    · simp [hx]
    · by_cases hk : k = x
      · exact absurd hk.symm hx
      · simp [hx, hk]
end
end Go.Proofs.YtjkfmihbmkbjfaaGreat
