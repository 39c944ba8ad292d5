/- Every quiet operation of the abstract machine does what the machine does. No program in sight. -/
import Derived.Test.YtjkfmihbmkbjfaaGreatPo
namespace Go.Proofs.YtjkfmihbmkbjfaaGreat
open Go.RowKit
section
variable {P : Program} {A : Nat → List AV → AV → Prop} {T : TakeT} {J : Inj} {w : World}

theorem inR_len {n : Nat} (h : n ≤ maxLen) : InR .i64 (n : Int) := by
  unfold maxLen at h
  exact (inR_i64 _).2 ⟨by omega, by omega⟩
theorem inR_byte (b : UInt8) : InR .u8 (b.toNat : Int) := by
  have := b.toNat_lt
  simp [InR, IntKind.min, IntKind.max, IntKind.bits, IntKind.signed]
  omega

theorem zeros_ok : ∀ {vs : List Value} {cs : List C}, zerosOk vs cs = true → All2 (CR J w) vs cs
  | [], [], _ => .nil
  | [], _ :: _, h => by simp [zerosOk] at h
  | _ :: _, [], h => by simp [zerosOk] at h
  | v :: vs, c :: cs, h => by
    simp only [zerosOk, Bool.and_eq_true] at h
    refine .cons ?_ (zeros_ok h.2)
    have h1 := h.1
    unfold zeroOk at h1
    split at h1
    · simp at h1
      obtain ⟨⟨rfl, rfl⟩, rfl⟩ := h1
      refine ⟨rfl, ?_⟩
      cases ‹IntKind› <;> simp [InR, IntKind.min, IntKind.max, IntKind.bits, IntKind.signed]
    · simp at h1
      obtain ⟨rfl, rfl⟩ := h1
      rfl
    · rename_i s t
      simp at h1
      obtain ⟨rfl, rfl⟩ := h1
      exact ⟨rfl, Nat.zero_le _⟩
    · exact ⟨rfl, none, rfl⟩
    · cases h1

theorem foldl_put : ∀ (us : List Value) (o k : Nat) (cells : Array Value), o + k + us.length ≤ cells.size →
    (us.zipIdx k).foldl (fun cs (c, j) => cs.setIfInBounds (o + j) c) cells = putCells cells (o + k) us
  | [], _, _, _, _ => rfl
  | u :: us, o, k, cells, h => by
    simp only [List.zipIdx_cons, List.foldl_cons, putCells]
    rw [foldl_put us o (k + 1) _ (by simp at h ⊢; omega)]
    rfl
theorem putCells_list {us : List Value} {o : Nat} {cells : Array Value} (h : o + us.length ≤ cells.size) : (putCells cells o us).toList = cells.toList.take o ++ us ++ cells.toList.drop (o + us.length) := by
  apply List.ext_getElem?
  intro j
  rw [Array.getElem?_toList]
  by_cases h1 : j < o
  · rw [putCells_out us o cells j (.inl h1), List.append_assoc, List.getElem?_append_left (by simp; omega), List.getElem?_take, if_pos h1, Array.getElem?_toList]
  · by_cases h2 : j < o + us.length
    · obtain ⟨k, rfl⟩ : ∃ k, j = o + k := ⟨j - o, by omega⟩
      have hl : (cells.toList.take o).length = o := by simp; omega
      rw [putCells_in us o cells k h (by omega), List.append_assoc, List.getElem?_append_right (by omega), hl, List.getElem?_append_left (by omega)]
      congr 1
      omega
    · rw [putCells_out us o cells j (.inr (by omega))]
      have hl : (cells.toList.take o ++ us).length = o + us.length := by simp; omega
      rw [List.getElem?_append_right (by omega), hl, List.getElem?_drop, Array.getElem?_toList]
      congr 1
      omega
theorem alive_cells {v : Value} {c : C} (h : CR J w v c) (ha : alive c = true) : v.cells = #[v] ∧ v.oneCell' = true := by
  have key : ∀ n l X, VV X w v (.slc n l) → v.cells = #[v] ∧ v.oneCell' = true := by
    intro n l X hv
    generalize PV.slc n l = p at hv
    cases hv <;> exact ⟨rfl, rfl⟩
  cases c with
  | int => obtain ⟨rfl, _⟩ := h; exact ⟨rfl, rfl⟩
  | bool => obtain rfl := h; exact ⟨rfl, rfl⟩
  | str => obtain ⟨rfl, _⟩ := h; exact ⟨rfl, rfl⟩
  | slc t n l => obtain ⟨oa, cap, rfl, _⟩ := slc_slice h; exact ⟨rfl, rfl⟩
  | ptr k o => obtain rfl := h; exact ⟨rfl, rfl⟩
  | rptr t cs => obtain ⟨b, off, vs, rfl, _⟩ := h; exact ⟨rfl, rfl⟩
  | ept d k n i o cs => obtain ⟨g, r, vs, _, rfl, _⟩ := h; exact ⟨rfl, rfl⟩
  | fn f caps => obtain rfl := h; exact ⟨rfl, rfl⟩
  | fnr f caps => obtain ⟨vs, rfl, _⟩ := h; exact ⟨rfl, rfl⟩
  | dead => cases ha
theorem allAlive_one : ∀ {vs : List Value} {cs : List C}, All2 (CR J w) vs cs → allAlive cs = true → ∀ u, u ∈ vs → u.oneCell' = true
  | _, _, .nil, _, u, hu => by simp at hu
  | _, _, .cons h1 h2, h, u, hu => by
    simp only [allAlive, Bool.and_eq_true] at h
    rcases List.mem_cons.1 hu with rfl | hu
    · exact (alive_cells h1 h.1).2
    · exact allAlive_one h2 h.2 u hu
/-- the cells of a value -/
theorem flat_cells {v : Value} {x : AV} {cs : List C} (h : AR J w v x) (hf : x.flatCells = some cs) (ha : allAlive cs = true) : All2 (CR J w) v.cells.toList cs := by
  cases x with
  | one c =>
    obtain rfl : [c] = cs := by simpa [AV.flatCells] using hf
    simp only [allAlive, Bool.and_true] at ha
    have := (alive_cells (v := v) (c := c) h ha).1
    rw [this]
    exact .cons h .nil
  | agg l =>
    obtain rfl : l = cs := by simpa [AV.flatCells] using hf
    obtain ⟨vs, rfl, h2⟩ := h
    exact h2
  | tup l => cases hf
theorem fill_ok (place : Nat → Option (Nat × Nat)) {fs : List (Nat × Nat × Bool)} (hp : ∀ i o sz ag, fs[i]? = some (o, sz, ag) → place i = some (o, sz)) :
    ∀ (l : List (Nat × AV)) (vs : List Value) (cells : Array Value) (cs cs' : List C), All2 (CR J w) cells.toList cs → All2 (fun v p => AR J w v p.2) vs l → fillC fs cs l = some cs' →
      ∃ out, Instr.fill place cells ((l.map (·.1)).zip vs) = some out ∧ All2 (CR J w) out.toList cs' := by
  intro l
  induction l with
  | nil =>
    intro vs cells cs cs' hc hv h
    cases hv
    obtain rfl : cs = cs' := by simpa [fillC] using h
    exact ⟨cells, rfl, hc⟩
  | cons p l ih =>
    intro vs cells cs cs' hc hv h
    obtain ⟨i, x⟩ := p
    cases hv with
    | cons h1 h2 =>
      rename_i v vs
      simp only [fillC] at h
      split at h
      · rename_i o sz ag ys hi hy
        cases hb : (Nat.beq ys.length sz && Nat.ble (o + sz) cs.length && allAlive ys) with
        | false => rw [hb] at h; cases h
        | true =>
          rw [hb] at h
          simp only [Bool.and_eq_true, Nat.beq_eq, Nat.ble_eq] at hb
          obtain ⟨⟨e1, e2⟩, e3⟩ := hb
          have hcl := flat_cells h1 hy e3
          have hn : v.cells.size = sz := by have := hcl.length; simp at this; omega
          have hcs := hc.length
          simp at hcs
          have hput := foldl_put v.cells.toList o 0 cells (by simp; omega)
          have hput' : v.cells.zipIdx.foldl (fun cs x => cs.setIfInBounds (o + x.2) x.1) cells = putCells cells o v.cells.toList := by
            rw [Nat.add_zero] at hput
            rw [← hput, ← Array.foldl_toList]
            simp
          have hc' : All2 (CR J w) (putCells cells o v.cells.toList).toList (cs.take o ++ ys ++ cs.drop (o + sz)) := by
            rw [putCells_list (by simp; omega)]
            refine ((hc.take o).append hcl).append ?_
            rw [show o + v.cells.toList.length = o + sz by simp; omega]
            exact hc.drop _
          obtain ⟨out, ho, ha⟩ := ih vs _ _ cs' hc' h2 h
          refine ⟨out, ?_, ha⟩
          simp only [List.map_cons, List.zip_cons_cons, Instr.fill, hp i o sz ag hi]
          rw [if_neg (by simp [hn]; omega)]
          exact (congrArg (fun z => Instr.fill place z _) hput').trans ho
      · cases h

/-! ### == of structs -/
theorem cellsEq_len : ∀ {ls : List LK} {xs ys : List C} {b : Bool}, cellsEq ls xs ys = some b → xs.length = ls.length ∧ ys.length = ls.length
  | [], [], [], _, _ => ⟨rfl, rfl⟩
  | [], [], _ :: _, _, h => by cases h
  | [], _ :: _, _, _, h => by cases h
  | _ :: _, [], _, _, h => by cases h
  | _ :: _, _ :: _, [], _, h => by cases h
  | l :: ls, x :: xs, y :: ys, b, h => by
    simp only [cellsEq] at h
    split at h
    · rename_i e1 e2
      have := cellsEq_len e2
      exact ⟨by simp [this.1], by simp [this.2]⟩
    · cases h
theorem cellsEq_app : ∀ {ls ls' : List LK} {xs ys : List C} {b : Bool}, cellsEq (ls ++ ls') xs ys = some b → ∃ p q, cellsEq ls (xs.take ls.length) (ys.take ls.length) = some p ∧ cellsEq ls' (xs.drop ls.length) (ys.drop ls.length) = some q ∧ b = (p && q)
  | [], ls', xs, ys, b, h => ⟨true, b, by simp [cellsEq], by simpa using h, rfl⟩
  | l :: ls, ls', [], ys, b, h => by cases h
  | l :: ls, ls', x :: xs, [], b, h => by cases h
  | l :: ls, ls', x :: xs, y :: ys, b, h => by
    simp only [List.cons_append, cellsEq] at h
    split at h
    · rename_i p0 q0 e1 e2
      obtain rfl := Option.some.inj h
      obtain ⟨p, q, h1, h2, rfl⟩ := cellsEq_app e2
      exact ⟨p0 && p, q, by simp [cellsEq, e1, h1], by simpa using h2, by rw [Bool.and_assoc]⟩
    · cases h
/-- the value that cells of a type make -/
def asV (P : Program) (t : Nat) (vs : List Value) : Value := match P.underlying t with
  | some (.struct _) => .agg vs.toArray
  | _ => vs.headD undef
theorem asV_one {t : Nat} {dd : TypeDesc} (h : P.underlying t = some dd) (hag : aggOf dd = false) (v : Value) : asV P t [v] = v := by
  unfold asV
  rw [h]
  cases dd <;> first | rfl | cases hag
theorem eqFs_ok {f : Nat → Option (List LK)} {d : Nat} (hf : ∀ t l, f t = some l → ∀ {vs us : List Value} {xs ys : List C} {b : Bool}, All2 (CR J w) vs xs → All2 (CR J w) us ys → cellsEq l xs ys = some b → (Op.equalIn d t (asV P t vs) (asV P t us)).run P w = .ok b w)
    (hk : ∀ t l, f t = some l → (∃ fs, P.underlying t = some (.struct fs)) ∨ (l.length = 1 ∧ ∃ dd, P.underlying t = some dd ∧ aggOf dd = false)) : ∀ (gs : List Field) (off : Nat) (l : List LK), eqFs P f gs off = some l → ∀ {VS US : List Value} {xs ys : List C} {b : Bool}, All2 (CR J w) (VS.drop off) xs → All2 (CR J w) (US.drop off) ys →
      cellsEq l xs ys = some b → (Op.eqFields d VS.toArray US.toArray gs).run P w = .ok b w
  | [], off, l, h, VS, US, xs, ys, b, h1, h2, he => by
    obtain rfl : [] = l := by simpa [eqFs] using h
    have hl := cellsEq_len he
    obtain rfl : xs = [] := List.eq_nil_of_length_eq_zero (by simpa using hl.1)
    obtain rfl : ys = [] := List.eq_nil_of_length_eq_zero (by simpa using hl.2)
    obtain rfl : true = b := by simpa [cellsEq] using he
    simp [Op.eqFields]
  | g :: gs, off, l, h, VS, US, xs, ys, b, h1, h2, he => by
    simp only [eqFs] at h
    cases hn : decide (g.name = "_") with
    | true => rw [hn] at h; cases h
    | false =>
      rw [hn] at h
      cases hb : Nat.beq g.offset off with
      | false => rw [hb] at h; cases h
      | true =>
        rw [hb] at h
        simp only [cond_true, cond_false] at h
        have hoff : g.offset = off := by simpa using hb
        split at h
        · rename_i l1 inf hsz hi
          cases hc : (Nat.beq inf.size l1.length && Nat.blt 0 l1.length) with
          | false => rw [hc] at h; cases h
          | true =>
            rw [hc] at h
            simp only [Bool.and_eq_true, Nat.beq_eq, Nat.blt_eq] at hc
            obtain ⟨hc1, hc2⟩ := hc
            simp only [cond_true] at h
            split at h
            · rename_i m hm
              obtain rfl := Option.some.inj h
              obtain ⟨p, q, e1, e2, rfl⟩ := cellsEq_app he
              have hle := cellsEq_len he
              have hlv := h1.length
              have hlu := h2.length
              simp only [List.length_drop, List.length_append] at hlv hlu hle
              have r1 := hf g.type l1 hsz (h1.take l1.length) (h2.take l1.length) e1
              have hd1 : All2 (CR J w) (VS.drop (off + l1.length)) (xs.drop l1.length) := by rw [← List.drop_drop]; exact h1.drop _
              have hd2 : All2 (CR J w) (US.drop (off + l1.length)) (ys.drop l1.length) := by rw [← List.drop_drop]; exact h2.drop _
              have r2 := eqFs_ok hf hk gs (off + l1.length) m hm hd1 hd2 e2
              have hpart : ∀ (VS : List Value), off + l1.length ≤ VS.length → (part g.type VS.toArray g.offset).run P w = .ok (asV P g.type ((VS.drop off).take l1.length)) w := by
                intro VS hV
                rw [hoff]
                rcases hk g.type l1 hsz with ⟨fs, hfs⟩ | ⟨h1l, dd, hdd, hag⟩
                · unfold part asV
                  rw [hfs]
                  simp only [Sem.run_bind, run_isAgg_of hfs, Result.andThen_ok, aggOf]
                  simp [sizeOf, typeInfo_run hi, hc1, List.take_drop, Nat.add_comm]
                · have hh : VS[off]? = some VS[off] := List.getElem?_eq_getElem (by omega)
                  have hv : asV P g.type ((VS.drop off).take l1.length) = VS[off] := by
                    rw [h1l, List.drop_eq_getElem_cons (by omega)]
                    exact asV_one hdd hag _
                  unfold part
                  simp only [Sem.run_bind, run_isAgg_of hdd, Result.andThen_ok, hag]
                  rw [hv]
                  simp [hh]
              have hn' : ¬ g.name = "_" := by simpa using hn
              simp only [Op.eqFields, ne_eq, hn', not_false_eq_true, if_true, Sem.run_bind, hpart VS (by omega), hpart US (by omega), Result.andThen_ok, r1]
              cases p
              · simp
              · simp [r2]
            · cases h
        · cases h
theorem eqType_kind : ∀ {n t : Nat} {l : List LK}, eqType P n t = some l → (∃ fs, P.underlying t = some (.struct fs)) ∨ (l.length = 1 ∧ ∃ dd, P.underlying t = some dd ∧ aggOf dd = false)
  | 0, t, l, h => by cases h
  | n + 1, t, l, h => by
    simp only [eqType] at h
    split at h
    · rename_i hu; obtain rfl := Option.some.inj h; exact .inr ⟨rfl, _, hu, rfl⟩
    · rename_i hu; obtain rfl := Option.some.inj h; exact .inr ⟨rfl, _, hu, rfl⟩
    · rename_i hu; obtain rfl := Option.some.inj h; exact .inr ⟨rfl, _, hu, rfl⟩
    · rename_i hu; exact .inl ⟨_, hu⟩
    · cases h
theorem one_cell {l : LK} {vs us : List Value} {xs ys : List C} {b : Bool} (h1 : All2 (CR J w) vs xs) (h2 : All2 (CR J w) us ys) (he : cellsEq [l] xs ys = some b) : ∃ x y v u, vs = [v] ∧ us = [u] ∧ CR J w v x ∧ CR J w u y ∧ cellEq l x y = some b := by
  have hl := cellsEq_len he
  match xs, ys, hl with
  | [x], [y], _ =>
    cases h1 with
    | cons g1 g1' =>
      cases g1'
      cases h2 with
      | cons g2 g2' =>
        cases g2'
        refine ⟨x, y, _, _, rfl, rfl, g1, g2, ?_⟩
        simp only [cellsEq] at he
        split at he
        · rename_i p q e1 e2
          obtain rfl : true = q := by simpa using e2
          rw [e1]; simpa using he
        · cases he
theorem cellEq_int {x y : C} {b : Bool} (h : cellEq .int x y = some b) : ∃ k a a2, x = .int k a ∧ y = .int k a2 ∧ (a == a2) = b := by
  cases x with
  | int k a => cases y with
    | int k2 a2 =>
      by_cases hk : k = k2
      · subst hk
        simp only [cellEq, decide_true, cond_true, Option.some.injEq] at h
        exact ⟨k, a, a2, rfl, rfl, h⟩
      · simp [cellEq, hk] at h
    | _ => cases h
  | _ => cases h
theorem cellEq_bool {x y : C} {b : Bool} (h : cellEq .bool x y = some b) : ∃ a a2, x = .bool a ∧ y = .bool a2 ∧ (a == a2) = b := by
  cases x with
  | bool a => cases y with
    | bool a2 => exact ⟨a, a2, rfl, rfl, Option.some.inj h⟩
    | _ => cases h
  | _ => cases h
theorem cellEq_str {x y : C} {b : Bool} (h : cellEq .str x y = some b) : ∃ a a2, x = .str a ∧ y = .str a2 ∧ (a.toList == a2.toList) = b := by
  cases x with
  | str a => cases y with
    | str a2 => exact ⟨a, a2, rfl, rfl, Option.some.inj h⟩
    | _ => cases h
  | _ => cases h
theorem eqType_ok : ∀ (n t : Nat) (l : List LK), eqType P n t = some l → ∀ (d : Nat), n ≤ d → ∀ {vs us : List Value} {xs ys : List C} {b : Bool}, All2 (CR J w) vs xs → All2 (CR J w) us ys → cellsEq l xs ys = some b → (Op.equalIn d t (asV P t vs) (asV P t us)).run P w = .ok b w
  | 0, t, l, h => by cases h
  | n + 1, t, l, h => by
    intro d hd vs us xs ys b h1 h2 he
    obtain ⟨d, rfl⟩ : ∃ k, d = k + 1 := ⟨d - 1, by omega⟩
    simp only [eqType] at h
    split at h
    · rename_i k hu
      obtain rfl := Option.some.inj h
      obtain ⟨x, y, v, u, rfl, rfl, c1, c2, hc⟩ := one_cell h1 h2 he
      rw [asV_one hu rfl, asV_one hu rfl]
      obtain ⟨k1, a, a2, rfl, rfl, rfl⟩ := cellEq_int hc
      obtain ⟨rfl, _⟩ := c1
      obtain ⟨rfl, _⟩ := c2
      exact run_equalIn_int w d t k1 k a a2 hu
    · rename_i hu
      obtain rfl := Option.some.inj h
      obtain ⟨x, y, v, u, rfl, rfl, c1, c2, hc⟩ := one_cell h1 h2 he
      rw [asV_one hu rfl, asV_one hu rfl]
      obtain ⟨a, a2, rfl, rfl, rfl⟩ := cellEq_bool hc
      obtain rfl := c1
      obtain rfl := c2
      exact run_equalIn_bool w d t _ _ hu
    · rename_i hu
      obtain rfl := Option.some.inj h
      obtain ⟨x, y, v, u, rfl, rfl, c1, c2, hc⟩ := one_cell h1 h2 he
      rw [asV_one hu rfl, asV_one hu rfl]
      obtain ⟨a, a2, rfl, rfl, rfl⟩ := cellEq_str hc
      obtain ⟨rfl, _⟩ := c1
      obtain ⟨rfl, _⟩ := c2
      exact run_equalIn_string w d t _ _ hu
    · rename_i fs hu
      cases hs : P.stoodInHeld t with
      | true => rw [hs] at h; cases h
      | false =>
        rw [hs] at h
        simp only [cond_false] at h
        have hfo : P.fieldsOf t = fs := by unfold Program.fieldsOf; rw [hu]
        have ev : ∀ vs, asV P t vs = .agg vs.toArray := fun vs => by unfold asV; rw [hu]
        rw [ev, ev, run_equalIn_agg w d t _ _ (by rw [hfo]; exact hu) hs, hfo]
        exact eqFs_ok (fun t' l' h' => eqType_ok n t' l' h' d (by omega)) (fun t' l' h' => eqType_kind h') fs.toList 0 l h (VS := vs) (US := us) (by simpa using h1) (by simpa using h2) he
    · cases h
theorem sameLK_ok : ∀ {l m : List LK}, sameLK l m = true → l = m
  | [], [], _ => rfl
  | [], _ :: _, h => by cases h
  | x :: _, [], h => by cases x <;> cases h
  | x :: l, y :: m, h => by
    cases x <;> cases y <;> simp only [sameLK] at h <;> first | cases h | rw [sameLK_ok h]
theorem eqStruct_ok {t : Nat} {i : TI} (hti : TiOk P t i) {x : LK} {ls : List LK} (hl : i.eq = x :: ls) (op : BinOp) (px py : Operand) {vs us : List Value} {xs ys : List C} {b : Bool} (h1 : All2 (CR J w) vs xs) (h2 : All2 (CR J w) us ys) (he : cellsEq (x :: ls) xs ys = some b) :
    (eqGuard op t px py (.agg vs.toArray) (.agg us.toArray)).run P w = .ok () w ∧ (Op.equalIn 10000 t (.agg vs.toArray) (.agg us.toArray)).run P w = .ok b w := by
  have h := hti.eqs
  unfold eqOk at h
  rw [hl] at h
  simp only [Bool.and_eq_true, Bool.not_eq_true'] at h
  obtain ⟨⟨hg, hs⟩, ht⟩ := h
  refine ⟨run_eqGuard_agg w op t px py _ _ hg, ?_⟩
  split at hs
  · rename_i fs hu
    split at ht
    · rename_i m hm
      have := sameLK_ok ht
      have ev : ∀ vs, asV P t vs = .agg vs.toArray := fun vs => by unfold asV; rw [hu]
      rw [← ev, ← ev]
      exact eqType_ok 9 t m hm 10000 (by decide) h1 h2 (by rw [← this]; exact he)
    · cases ht
  · cases hs
end
end Go.Proofs.YtjkfmihbmkbjfaaGreat
