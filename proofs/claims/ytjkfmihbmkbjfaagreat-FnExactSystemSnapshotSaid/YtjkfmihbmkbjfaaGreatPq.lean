/- Every quiet operation of the abstract machine does what the machine does: the theorem. No program in sight. -/
import Derived.Test.YtjkfmihbmkbjfaaGreatPp
namespace Go.Proofs.YtjkfmihbmkbjfaaGreat
open Go.RowKit
section
variable {P : Program} {A : Nat → List AV → AV → Prop} {T : TakeT} {J : Inj} {w : World}

theorem bound_ok {code : BoundsCode} {lo : Int} {y : Nat} {k : IntKind} (h1 : 0 ≤ lo) (h2 : lo ≤ y) : (Instr.sliceBound (.int k lo) y code).run P w = .ok lo.toNat w := by
  simp [Instr.sliceBound, asIntOf, h1, h2]
theorem optBound_ok {ρ : Operand → Value} {d : Int} {lo : Option Operand} {r r' : List AV} {a : Int} {xs : List Operand} (h : optBound d lo r = some (a, r')) (hv : All2 (fun x v => AR J w (ρ x) v) (lo.toArray.toList ++ xs) r) :
    All2 (fun x v => AR J w (ρ x) v) xs r' ∧ ((lo = none ∧ a = d) ∨ ∃ x k, lo = some x ∧ ρ x = .int k a) := by
  unfold optBound at h
  split at h
  · obtain ⟨rfl, rfl⟩ : _ = a ∧ _ = r' := by simpa using h
    exact ⟨by simpa using hv, .inl ⟨rfl, rfl⟩⟩
  · obtain ⟨rfl, rfl⟩ : _ = a ∧ _ = r' := by simpa using h
    simp only [Option.toArray, List.cons_append, List.nil_append] at hv
    cases hv with
    | cons h1 h2 => exact ⟨h2, .inr ⟨_, _, rfl, h1.1⟩⟩
  · cases h

set_option maxHeartbeats 2000000 in
theorem evalP_ok {tt : List (Nat × TI)} (htt : ttOk P tt = true) {orc : Orc} {bn : List (Nat × List C)} {op : Op} {avs : List AV} {v : AV} {obs : List Ob} (h : evalP tt orc bn op avs = some (v, obs)) (hob : AllOb A T obs)
    {o : Oper} (ho : o.op = op) {ρ : Operand → Value} (hf : ∀ f, ρ (.func f) = .func (.func f) #[] #[]) (hv : All2 (fun x v => AR J w (ρ x) v) op.operands.toList avs)
    (hbx : ∀ k c, get bn k = some c → ∃ arr e, w.heap[J.B k]? = some (.cells arr e (0, 0)) ∧ All2 (CR J w) arr.toList c) :
    ∃ u, (execOp ρ o).run P w = .ok (.value u) w ∧ AR J w u v := by
  unfold evalP at h
  split at h
  · -- move
    rename_i x v'
    obtain ⟨rfl, rfl⟩ : v' = v ∧ [] = obs := by simpa using h
    cases hv with
    | cons h1 _ => exact ⟨_, by simp [execOp, ho], h1⟩
  · -- assign
    rename_i x v'
    obtain ⟨rfl, rfl⟩ : v' = v ∧ [] = obs := by simpa using h
    cases hv with
    | cons h1 _ => exact ⟨_, by simp [execOp, ho], h1⟩
  · -- pick
    rename_i xc xa xb c a b
    obtain ⟨rfl, rfl⟩ : (bif c then a else b) = v ∧ [] = obs := by simpa using h
    cases hv with
    | cons h1 h2 =>
      cases h2 with
      | cons h2 h3 =>
        cases h3 with
        | cons h3 _ =>
          have h1 : ρ xc = .bool c := h1
          refine ⟨if c then ρ xa else ρ xb, by simp [execOp, ho, h1, asBool], ?_⟩
          cases c
          · exact h3
          · exact h2
  · -- binOp
    rename_i op t px py ty x y
    cases hv with
    | cons h1 h2 =>
      cases h2 with
      | cons h2 _ =>
        split at h
        · rename_i c obs' hb
          obtain ⟨rfl, rfl⟩ : AV.one c = v ∧ obs' = obs := by simpa using h
          obtain ⟨u, hu, hc⟩ := binC_ok (P := P) hb hob h1 h2 t px py
          exact ⟨u, by simp only [execOp, ho, Sem.run_bind, hu] at hu ⊢; simp [hu], hc⟩
        · split at h
          · rename_i a b _
            split at h
            · rename_i c obs' hb
              obtain ⟨rfl, rfl⟩ : AV.one c = v ∧ obs' = obs := by simpa using h
              have e1 : ρ px = .bool a := h1
              have e2 : ρ py = .bool b := h2
              obtain ⟨u, hu, hc⟩ := binBool_ok (J := J) (w := w) htt hb px py
              exact ⟨u, by simp only [execOp, ho, e1, e2, Sem.run_bind] at hu ⊢; simp [hu], hc⟩
            · cases h
          · cases h
  · -- binOp of structs
    rename_i op t px py ty xs ys
    cases hv with
    | cons h1 h2 =>
      cases h2 with
      | cons h2 _ =>
        obtain ⟨vs, e1, hvs⟩ := h1
        obtain ⟨us, e2, hus⟩ := h2
        split at h
        · rename_i k0 n0 z0 l0 ls0 hg
          have heq := fun {vs us : List Value} {xs ys : List C} {b : Bool} h1 h2 h3 => eqStruct_ok (P := P) (J := J) (w := w) (vs := vs) (us := us) (xs := xs) (ys := ys) (b := b) (ttOk_get htt hg) rfl op px py h1 h2 h3
          split at h
          · rename_i b hb
            obtain ⟨rfl, rfl⟩ : AV.one (.bool b) = v ∧ [] = obs := by simpa using h
            obtain ⟨g, hr⟩ := heq hvs hus hb
            exact ⟨.bool b, by simp [execOp, ho, e1, e2, g, run_eql_struct, hr, Result.andThen], rfl⟩
          · rename_i b hb
            obtain ⟨rfl, rfl⟩ : AV.one (.bool (!b)) = v ∧ [] = obs := by simpa using h
            obtain ⟨g, hr⟩ := heq hvs hus hb
            exact ⟨.bool (!b), by simp [execOp, ho, e1, e2, g, run_neq_struct, hr, Result.andThen], rfl⟩
          · cases h
        · cases h
  · -- unOp
    rename_i op t px x
    cases hv with
    | cons h1 _ =>
      split at h
      · rename_i b
        obtain ⟨rfl, rfl⟩ : AV.one (.bool (!b)) = v ∧ [] = obs := by simpa using h
        have e1 : ρ px = .bool b := h1
        exact ⟨_, by simp [execOp, ho, e1, Op.unary], rfl⟩
      · rename_i k n
        obtain ⟨rfl, rfl⟩ : AV.one (.int k (k.wrap (0 - n))) = v ∧ [] = obs := by simpa using h
        have e1 : ρ px = .int k n := h1.1
        exact ⟨.int k (k.wrap (0 - n)), by simp [execOp, ho, e1, Op.unary, Op.intArith], rfl, inR_wrap _ _⟩
      · cases h
  · -- field
    rename_i t px f cs
    cases hv with
    | cons h1 _ =>
      obtain ⟨vs, e1, hvs⟩ := h1
      have hfield : ∀ o sz ag, fieldAt? tt t f = some (o, sz, ag) → ∃ gs g inf d, P.underlying t = some (.struct gs) ∧ gs[f]? = some g ∧ g.offset = o ∧ P.info? g.type = some inf ∧ inf.size = sz ∧ P.underlying g.type = some d ∧ aggOf d = ag := by
        intro o sz ag hfa
        unfold fieldAt? at hfa
        split at hfa
        · rename_i fs n z hg
          obtain ⟨gs, hu, hfo⟩ := (ttOk_get htt hg).struct
          obtain ⟨g, inf, d, k1, k2⟩ := field_of hfo hfa
          exact ⟨gs, g, inf, d, hu, by simpa using k1, k2⟩
        · cases hfa
      split at h
      · rename_i o' sz hfa
        obtain ⟨gs, g, inf, d, hu, hg, rfl, hi, rfl, hd, hag⟩ := hfield _ _ _ hfa
        cases hle : Nat.ble (g.offset + inf.size) cs.length with
        | false => rw [hle] at h; cases h
        | true =>
          rw [hle] at h
          obtain ⟨rfl, rfl⟩ : AV.agg _ = v ∧ [] = obs := by simpa using h
          refine ⟨.agg (vs.toArray.extract g.offset (g.offset + inf.size)), ?_, (vs.drop g.offset).take inf.size, ?_, (hvs.drop _).take _⟩
          · simp [execOp, ho, e1, Instr.field, run_underlying hu, hg, asAgg, part, run_isAgg_of hd, hag, sizeOf, typeInfo_run hi]
          · simp [List.take_drop, Nat.add_comm]
      · rename_i o' sz hfa
        obtain ⟨gs, g, inf, d, hu, hg, rfl, hi, rfl, hd, hag⟩ := hfield _ _ _ hfa
        split at h
        · rename_i c hc
          obtain ⟨rfl, rfl⟩ : AV.one c = v ∧ [] = obs := by simpa using h
          obtain ⟨u, hu', hcr⟩ := hvs.get' hc
          exact ⟨u, by simp [execOp, ho, e1, Instr.field, run_underlying hu, hg, asAgg, part, run_isAgg_of hd, hag, hu'], hcr⟩
        · cases h
      · cases h
  · -- extract
    rename_i px i l
    cases hv with
    | cons h1 _ =>
      obtain ⟨vs, e1, hvs⟩ := h1
      split at h
      · rename_i cs hc
        obtain ⟨rfl, rfl⟩ : AV.agg cs = v ∧ [] = obs := by simpa using h
        obtain ⟨u, hu, hcr⟩ := hvs.get' hc
        exact ⟨u, by simp [execOp, ho, e1, Instr.extract, hu], hcr⟩
      · rename_i c hc
        obtain ⟨rfl, rfl⟩ : AV.one c = v ∧ [] = obs := by simpa using h
        obtain ⟨u, hu, c', e, hcr⟩ := hvs.get' hc
        obtain rfl : c = c' := by simpa using e
        exact ⟨u, by simp [execOp, ho, e1, Instr.extract, hu], hcr⟩
      · cases h
  · -- fieldAddr of a box
    rename_i t px f k off
    cases hv with
    | cons h1 _ =>
      have e1 : ρ px = .pointer (some ⟨J.B k, off, none⟩) := h1
      split at h
      · rename_i o' sz ag hfa
        cases hz : Nat.beq sz 0 with
        | true => rw [hz] at h; cases h
        | false =>
          rw [hz] at h
          obtain ⟨rfl, rfl⟩ : AV.one (.ptr k (off + o')) = v ∧ [] = obs := by simpa using h
          unfold fieldAt? at hfa
          split at hfa
          · rename_i fs n z hg
            obtain ⟨gs, hu, hfo⟩ := (ttOk_get htt hg).struct
            obtain ⟨g, inf, d, k1, rfl, hi, rfl, hd, hag⟩ := field_of hfo hfa
            have k1' : gs[f]? = some g := by simpa using k1
            refine ⟨.pointer (some ⟨J.B k, off + g.offset, none⟩), ?_, rfl⟩
            have hsz : inf.size ≠ 0 := fun e => by rw [e] at hz; cases hz
            simp [execOp, ho, e1, Instr.fieldAt, run_underlying hu, k1', Instr.sureAddr, fieldPlace, sizeOf, typeInfo_run hi, hsz, Addr.add_lit]
          · cases hfa
      · cases h
  · -- fieldAddr behind a pointer
    rename_i t px f tok cs
    cases hv with
    | cons h1 _ =>
      obtain ⟨b, off, vs, e1, hb, hvs, hc⟩ := h1
      split at h
      · rename_i o' sz ag hfa
        cases hz : Nat.beq sz 0 with
        | true => rw [hz] at h; cases h
        | false =>
          rw [hz] at h
          obtain ⟨rfl, rfl⟩ : AV.one (.rptr tok (cs.drop o')) = v ∧ [] = obs := by simpa using h
          unfold fieldAt? at hfa
          split at hfa
          · rename_i fs n z hg
            obtain ⟨gs, hu, hfo⟩ := (ttOk_get htt hg).struct
            obtain ⟨g, inf, d, k1, rfl, hi, rfl, hd, hag⟩ := field_of hfo hfa
            have k1' : gs[f]? = some g := by simpa using k1
            refine ⟨.pointer (some ⟨b, off + g.offset, none⟩), ?_, b, off + g.offset, vs.drop g.offset, rfl, hb, hvs.drop _, drop_cells hc⟩
            have hsz : inf.size ≠ 0 := fun e => by rw [e] at hz; cases hz
            simp [execOp, ho, e1, Instr.fieldAt, run_underlying hu, k1', Instr.sureAddr, fieldPlace, sizeOf, typeInfo_run hi, hsz, Addr.add_lit]
          · cases hfa
      · cases h
  · -- nilCheck
    rename_i px k off
    obtain ⟨rfl, rfl⟩ : AV.one (.ptr k off) = v ∧ [] = obs := by simpa using h
    cases hv with
    | cons h1 _ =>
      have e1 : ρ px = .pointer (some ⟨J.B k, off, none⟩) := h1
      exact ⟨_, by simp [execOp, ho, e1], rfl⟩
  · rename_i px t cs
    obtain ⟨rfl, rfl⟩ : AV.one (.rptr t cs) = v ∧ [] = obs := by simpa using h
    cases hv with
    | cons h1 _ =>
      obtain ⟨b, off, vs, e1, hr⟩ := h1
      exact ⟨_, by simp [execOp, ho, e1], b, off, vs, rfl, hr⟩
  · -- build
    rename_i t ps
    split at h
    · rename_i fs n zero q hg
      cases hsz : Nat.beq ps.size avs.length with
      | false => rw [hsz] at h; cases h
      | true =>
        rw [hsz] at h
        simp only [cond_true] at h
        split at h
        · rename_i cs hfill
          obtain ⟨rfl, rfl⟩ : AV.agg cs = v ∧ [] = obs := by simpa using h
          have hti := ttOk_get htt hg
          obtain ⟨gs, hu, hfo⟩ := hti.struct
          obtain ⟨inf, z, hi, _, _, hz, hzs, hzo⟩ := hti.info
          have hops : All2 (fun v p => AR J w v p.2) (ps.toList.map fun p => ρ p.2) ((ps.toList.map (·.1)).zip avs) := by
            have hv' : All2 (fun x v => AR J w (ρ x) v) (ps.toList.map (·.2)) avs := by simpa [Op.operands] using hv
            clear hv hsz hfill h
            generalize ps.toList = l at hv' ⊢
            induction l generalizing avs with
            | nil => cases hv'; exact .nil
            | cons p l ih =>
              cases hv' with
              | cons h1 h2 => exact .cons h1 (ih h2)
          have hplaces : ∀ (i o sz : Nat) (ag : Bool), fs[i]? = some (o, sz, ag) → ((fs.map fun x => (x.1, x.2.1)).toArray)[i]? = some (o, sz) := by
            intro i o sz ag hi'
            simp [hi']
          obtain ⟨out, ho', hall⟩ := fill_ok (J := J) (w := w) (fun i => ((fs.map fun x => (x.1, x.2.1)).toArray)[i]?) hplaces _ _ z.cells zero cs (zeros_ok hzo) hops hfill
          have hpl : ∀ (gs : List Field) (fs : List (Nat × Nat × Bool)), fieldsOk P gs fs = true → gs.mapM (fun f => (P.info? f.type).map fun i => (f.offset, i.size)) = some (fs.map fun x => (x.1, x.2.1)) := by
            intro gs
            induction gs with
            | nil => intro fs h; cases fs <;> simp_all [fieldsOk]
            | cons g gs ih =>
              intro fs h
              cases fs with
              | nil => simp [fieldsOk] at h
              | cons x fs =>
                have h' := h
                simp only [fieldsOk, Bool.and_eq_true] at h'
                obtain ⟨g', inf', d', k1, k2, k3, k4, _⟩ := field_of (f := 0) (o := x.1) (sz := x.2.1) (ag := x.2.2) h rfl
                obtain rfl : g = g' := by simpa using k1
                simp [k3, k2, k4, ih fs h'.2]
          have hb : P.built t (ps.toList.map fun p => (p.1, ρ p.2)) = some out := by
            have hzip : (((ps.toList.map (·.1)).zip avs).map (·.1)).zip (ps.toList.map fun p => ρ p.2) = ps.toList.map fun p => (p.1, ρ p.2) := by
              have hl : ps.toList.length = avs.length := by simpa using hsz
              rw [List.map_fst_zip (by simp [hl])]
              generalize ps.toList = l
              induction l with
              | nil => rfl
              | cons p l ih => simp [ih]
            rw [hzip] at ho'
            simp only [Program.built, hi, hu, hz, hpl _ _ hfo]
            exact ho'
          refine ⟨.agg out, ?_, out.toList, by simp, hall⟩
          have := run_build w t (ps.map fun p => (p.1, ρ p.2)) out (by simpa using hb)
          simp [execOp, ho, this]
        · cases h
    · cases h
  · -- makeFunc
    rename_i f first caps
    cases hsz : Nat.beq first.size 0 with
    | false => rw [hsz] at h; cases h
    | true =>
      rw [hsz] at h
      simp only [cond_true] at h
      have hfe : first = #[] := Array.eq_empty_of_size_eq_zero (by simpa using hsz)
      subst hfe
      split at h
      · rename_i cps hp
        obtain ⟨rfl, rfl⟩ : AV.one (.fn f cps) = v ∧ [] = obs := by simpa using h
        have key : ∀ (xs : List Operand) (avs : List AV) (cps : List (Nat × Nat)), All2 (fun x v => AR J w (ρ x) v) xs avs → ptrKeys avs = some cps → xs.map ρ = cps.map fun c => .pointer (some ⟨J.B c.1, c.2, none⟩) := by
          intro xs avs cps hv
          induction hv generalizing cps with
          | nil => intro h; simp [ptrKeys] at h; subst h; rfl
          | cons h1 _ ih =>
            intro h
            unfold ptrKeys at h
            split at h
            · rename_i e; cases e
            · rename_i e
              cases e
              obtain ⟨r, hr, rfl⟩ := Option.map_eq_some_iff.1 h
              simp only [List.map_cons, ih r hr]
              rw [show _ = _ from h1]
            · cases h
        have hx := key caps.toList avs cps (by simpa [Op.operands] using hv) hp
        refine ⟨.func (.func f) #[] (caps.map ρ), by simp [execOp, ho, Instr.makeFunc], ?_⟩
        show _ = _
        rw [← hx, ← Array.toList_map]
      · cases h
  · -- convert
    rename_i s d px k0 n
    split at h
    · rename_i i0 k z1 z2 q hs hd
      obtain ⟨rfl, rfl⟩ : AV.one (.int k (k.wrap n)) = v ∧ [] = obs := by simpa using h
      cases hv with
      | cons h1 _ =>
        obtain ⟨e1, _⟩ := h1
        obtain ⟨d', hd', _⟩ := (ttOk_get htt hs).und
        have hk := (ttOk_get htt hd).int
        exact ⟨.int k (k.wrap n), by simp [execOp, ho, e1, convert, run_underlying hd', run_underlying hk, Conv.intToInt], rfl, inR_wrap _ _⟩
    · cases h
  · -- len
    rename_i args tys x
    split at h
    · rename_i t ht
      split at h
      · rename_i i0 n z q tok n' l hg
        obtain ⟨rfl, rfl⟩ : AV.one (.int .i64 l.length) = v ∧ [] = obs := by simpa using h
        cases hv' : args.toList with
        | nil => simp [Op.operands, Call.operands, hv'] at hv; cases hv
        | cons a0 r0 =>
          simp [Op.operands, Call.operands, hv'] at hv
          cases hv with
          | cons h1 h2 =>
            cases h2
            have hargs : args = #[a0] := by apply Array.ext'; simpa using hv'
            subst hargs
            obtain ⟨oa, cap, e1, hlc, hcm, _⟩ := slc_slice h1
            have hu := (ttOk_get htt hg).sli
            refine ⟨.int .i64 l.length, ?_, rfl, inR_len (Nat.le_trans hlc hcm)⟩
            simp [execOp, ho, resolve, invoke, builtin, Builtin.len_, ht, e1, run_underlying hu, goInt]
      · rename_i i0 n z q s hg
        obtain ⟨rfl, rfl⟩ : AV.one (.int .i64 s.size) = v ∧ [] = obs := by simpa using h
        cases hv' : args.toList with
        | nil => simp [Op.operands, Call.operands, hv'] at hv; cases hv
        | cons a0 r0 =>
          simp [Op.operands, Call.operands, hv'] at hv
          cases hv with
          | cons h1 h2 =>
            cases h2
            have hargs : args = #[a0] := by apply Array.ext'; simpa using hv'
            subst hargs
            obtain ⟨e1, hs⟩ := h1
            have hu := (ttOk_get htt hg).str
            refine ⟨.int .i64 s.size, ?_, rfl, inR_len hs⟩
            simp [execOp, ho, resolve, invoke, builtin, Builtin.len_, ht, e1, run_underlying hu, goInt]
      · cases h
    · cases h
  · -- index of a string
    rename_i t px pi s k i
    split at h
    · rename_i n z hg
      obtain ⟨rfl, rfl⟩ : AV.one (.int .u8 (strAt s i)) = v ∧ [Ob.idx i s.size] = obs := by simpa using h
      have hu := (ttOk_get htt hg).str
      obtain ⟨h0, hlt⟩ : 0 ≤ i ∧ i < s.size := hob
      cases hv with
      | cons h1 h2 =>
        cases h2 with
        | cons h2 _ =>
          obtain ⟨e1, _⟩ := h1
          obtain ⟨e2, _⟩ := h2
          have hlt' : i.toNat < s.size := by omega
          have hstr : strAt s i = (s[i.toNat].toNat : Int) := by
            have hl : i.toNat < s.data.toList.length := by simpa using hlt'
            simp only [strAt, List.getD_eq_getElem?_getD, List.getElem?_eq_getElem hl]
            rfl
          refine ⟨.int .u8 (strAt s i), ?_, rfl, by rw [hstr]; exact inR_byte _⟩
          rw [hstr]
          simp [execOp, ho, e1, e2, Instr.index, asIntOf, run_underlying hu, h0, hlt']
    · cases h
  · -- indexAddr
    rename_i t px pi tok n l k i
    split at h
    · rename_i e n' z q r tok' hg hct
      split at h
      · rename_i ei hge
        cases hsz : Nat.beq ei.size n with
        | false => rw [hsz] at h; cases h
        | true =>
          rw [hsz] at h
          obtain ⟨rfl, rfl⟩ : AV.one (.rptr tok' r) = v ∧ [Ob.elem l i r] = obs := by simpa using h
          obtain ⟨h0, hl⟩ : 0 ≤ i ∧ l[i.toNat]? = some r := hob
          have hu := (ttOk_get htt hg).sli
          have hs := sizeOf_run (P := P) (ttOk_get htt hge) w
          have hn : ei.size = n := by simpa using hsz
          cases hv with
          | cons h1 h2 =>
            cases h2 with
            | cons h2 _ =>
              obtain ⟨e2, _⟩ := h2
              obtain ⟨b, off, cap, vs, e1, hX, hvc, hrn, hc⟩ := slc_elem h1 hct hl
              have hlt : i.toNat < l.length := (List.getElem?_eq_some_iff.1 hl).1
              have hlt' : i < (l.length : Int) := by omega
              refine ⟨.pointer (some ⟨b, off + i.toNat * n, none⟩), ?_, b, off + i.toNat * n, vs, rfl, hX, hvc, hc⟩
              simp [execOp, ho, e1, e2, Instr.indexAt, asIntOf, run_underlying hu, h0, hlt', hs, hn, Addr.add_lit]
      · cases h
    · cases h
  · -- part of a slice
    rename_i t px lo hi tok n l r
    split at h
    · rename_i e n' z q hg
      split at h
      · rename_i ei a r1 hge hlo
        split at h
        · rename_i b hhi
          cases hsz : Nat.beq ei.size n with
          | false => rw [hsz] at h; cases h
          | true =>
            rw [hsz] at h
            obtain ⟨rfl, rfl⟩ : AV.one (.slc (subTok tok) n ((l.take b.toNat).drop a.toNat)) = v ∧ [Ob.rng a b l.length] = obs := by simpa using h
            obtain ⟨h0, hab, hbl⟩ : 0 ≤ a ∧ a ≤ b ∧ b ≤ l.length := hob
            have hu := (ttOk_get htt hg).sli
            have hs := sizeOf_run (P := P) (ttOk_get htt hge) w
            have hn : ei.size = n := by simpa using hsz
            have hv' : All2 (fun x v => AR J w (ρ x) v) (px :: (lo.toArray.toList ++ (hi.toArray.toList ++ []))) (.one (.slc tok n l) :: r) := by simpa [Op.operands] using hv
            cases hv' with
            | cons h1 h2 =>
              obtain ⟨h3, hloc⟩ := optBound_ok hlo h2
              obtain ⟨_, hhic⟩ := optBound_ok hhi h3
              obtain ⟨oa, cap, e1, hlc, hcm, hemp⟩ := slc_slice h1
              have hsb : (Instr.sliceBounds true l.length cap (lo.map ρ) (hi.map ρ) none).run P w = .ok (a.toNat, b.toNat, cap) w := by
                have e3 : ∀ c, (match (hi.map ρ) with | some v => Instr.sliceBound v cap c | none => (pure l.length : Sem Nat)).run P w = .ok b.toNat w := by
                  intro c
                  rcases hhic with ⟨rfl, rfl⟩ | ⟨x, k, rfl, hx⟩
                  · simp
                  · simp only [Option.map_some, hx]
                    exact bound_ok (by omega) (by omega)
                have e4 : ∀ c, (match (lo.map ρ) with | some v => Instr.sliceBound v b.toNat c | none => (pure 0 : Sem Nat)).run P w = .ok a.toNat w := by
                  intro c
                  rcases hloc with ⟨rfl, rfl⟩ | ⟨x, k, rfl, hx⟩
                  · simp
                  · simp only [Option.map_some, hx]
                    exact bound_ok (by omega) (by omega)
                unfold Instr.sliceBounds
                simp only [Sem.run_bind, Sem.run_pure, Result.andThen_ok]
                have e3' := e3 .sliceAcap
                have e4' := e4 .sliceB
                revert e3' e4'
                cases lo.map ρ <;> cases hi.map ρ <;> simp <;> intro e3' e4' <;> simp_all
              have hrun : (execOp ρ o).run P w = .ok (.value (.slice (if cap = a.toNat then oa else oa.map (·.add (a.toNat * n))) (b.toNat - a.toNat) (cap - a.toNat))) w := by
                simp [execOp, ho, e1, Instr.sliceAt, run_underlying hu, Instr.slice, hsb, hs, hn]
              refine ⟨_, hrun, ?_⟩
              have hlen : ((l.take b.toNat).drop a.toNat).length = b.toNat - a.toNat := by simp; omega
              have key : ∀ X : Nat → Prop, VV X w (ρ px) (.slc n l) → VV X w (.slice (if cap = a.toNat then oa else oa.map (·.add (a.toNat * n))) (b.toNat - a.toNat) (cap - a.toNat)) (.slc n ((l.take b.toNat).drop a.toNat)) := by
                intro X hX
                by_cases hca : cap = a.toNat
                · rw [if_pos hca]
                  have h9 : b.toNat - a.toNat = 0 := by omega
                  have h10 : (l.take b.toNat).drop a.toNat = [] := List.eq_nil_of_length_eq_zero (by omega)
                  rw [h9, h10]
                  exact .emp _ n (by omega)
                · rw [if_neg hca]
                  rw [e1] at hX
                  exact hX.sub (by omega) (by omega) _ ⟨by omega, by omega⟩
              cases tok with
              | sh => exact key _ h1
              | put => exact h1.elim
              | vw k => exact key _ h1
              | emp =>
                have hc0 := hemp rfl
                obtain ⟨hl, _⟩ := h1
                subst hl
                refine ⟨by simp, if cap = a.toNat then oa else oa.map (·.add (a.toNat * n)), ?_⟩
                have h9 : b.toNat - a.toNat = 0 := by simp at hbl; omega
                rw [h9, hc0]
                simp
              | own d k =>
                cases d with
                | true => exact key _ (OwnDeep.vv h1 fun b hb => ⟨Or.inl hb, rfl⟩)
                | false => exact key _ (OwnTop.vv h1 (fun b hb => ⟨.inr hb, rfl⟩) fun b hb => ⟨.inl hb, rfl⟩)
        · cases h
      · cases h
    · cases h
  · -- part of a string
    rename_i t px lo hi s r
    split at h
    · rename_i n' z hg
      split at h
      · rename_i a r1 hlo
        split at h
        · rename_i b hhi
          obtain ⟨rfl, rfl⟩ : AV.one (.str (s.extract a.toNat b.toNat)) = v ∧ [Ob.rng a b s.size] = obs := by simpa using h
          obtain ⟨h0, hab, hbl⟩ : 0 ≤ a ∧ a ≤ b ∧ b ≤ s.size := hob
          have hu := (ttOk_get htt hg).str
          have hv' : All2 (fun x v => AR J w (ρ x) v) (px :: (lo.toArray.toList ++ (hi.toArray.toList ++ []))) (.one (.str s) :: r) := by simpa [Op.operands] using hv
          cases hv' with
          | cons h1 h2 =>
            obtain ⟨h3, hloc⟩ := optBound_ok hlo h2
            obtain ⟨_, hhic⟩ := optBound_ok hhi h3
            obtain ⟨e1, hsm⟩ := h1
            have hsb : (Instr.sliceBounds false s.size s.size (lo.map ρ) (hi.map ρ) none).run P w = .ok (a.toNat, b.toNat, s.size) w := by
              have e3 : ∀ c, (match (hi.map ρ) with | some v => Instr.sliceBound v s.size c | none => (pure s.size : Sem Nat)).run P w = .ok b.toNat w := by
                intro c
                rcases hhic with ⟨rfl, rfl⟩ | ⟨x, k, rfl, hx⟩
                · simp
                · simp only [Option.map_some, hx]
                  exact bound_ok (by omega) (by omega)
              have e4 : ∀ c, (match (lo.map ρ) with | some v => Instr.sliceBound v b.toNat c | none => (pure 0 : Sem Nat)).run P w = .ok a.toNat w := by
                intro c
                rcases hloc with ⟨rfl, rfl⟩ | ⟨x, k, rfl, hx⟩
                · simp
                · simp only [Option.map_some, hx]
                  exact bound_ok (by omega) (by omega)
              unfold Instr.sliceBounds
              simp only [Sem.run_bind, Sem.run_pure, Result.andThen_ok]
              have e3' := e3 .sliceAlen
              have e4' := e4 .sliceB
              revert e3' e4'
              cases lo.map ρ <;> cases hi.map ρ <;> simp <;> intro e3' e4' <;> simp_all
            refine ⟨.string (s.extract a.toNat b.toNat), ?_, rfl, ?_⟩
            · simp [execOp, ho, e1, Instr.sliceAt, run_underlying hu, Instr.slice, hsb]
            · simp only [ByteArray.size_extract]; omega
        · cases h
      · cases h
    · cases h
  · -- load out of a box
    rename_i t px k off
    split at h
    · rename_i ti cells hg hk
      split at h
      · rename_i v' hval
        obtain ⟨rfl, rfl⟩ : v' = v ∧ [] = obs := by simpa using h
        cases hv with
        | cons h1 _ =>
          have e1 : ρ px = .pointer (some ⟨J.B k, off, none⟩) := h1
          obtain ⟨arr, e, hheap, hall⟩ := hbx k cells hk
          have hc : ∀ (j : Nat) (u : Value), ((arr.toList.drop off).take ti.size)[j]? = some u → w.cell? ⟨J.B k, off + j, none⟩ = some u := by
            have := take_cells (k := ti.size) (drop_cells (w := w) (vs := arr.toList) (b := J.B k) (off := 0) (k := off) (fun j u hj => by
              rw [Array.getElem?_toList] at hj
              simp [World.cell?, hheap, hj]))
            simpa using this
          obtain ⟨u, hu, hr⟩ := asVal_ok (P := P) (ttOk_get htt hg) ((hall.drop off).take ti.size) hval hc
          exact ⟨u, by simp [execOp, ho, e1, Instr.loadAt, Instr.sureAddr, hu], hr⟩
      · cases h
    · cases h
  · -- load behind a pointer
    rename_i t px tok cs
    split at h
    · rename_i ti hg
      cases hle : Nat.ble ti.size cs.length with
      | false => rw [hle] at h; cases h
      | true =>
        rw [hle] at h
        simp only [cond_true] at h
        split at h
        · rename_i v' hval
          obtain ⟨rfl, rfl⟩ : v' = v ∧ [] = obs := by simpa using h
          cases hv with
          | cons h1 _ =>
            obtain ⟨b, off, vs, e1, hX, hvc, hc⟩ := h1
            have hlift : ∀ v p, VV (J.X tok) w v p → CR J w v (liftC tok p) := by
              intro v p hp
              refine liftC_ok (X := J.X tok) (fun c n l hc => ?_) hp
              cases tok with
              | sh => exact hc
              | vw k => exact hc
              | emp => exact hX.elim
              | put => exact hX.elim
              | own d k => exact hX.elim
            have hall : All2 (CR J w) (vs.take ti.size) ((cs.take ti.size).map (liftC tok)) := (VC.all2 (hvc.take ti.size)).map (liftC tok) fun a p _ hp => hlift a p hp
            obtain ⟨u, hu, hr⟩ := asVal_ok (P := P) (ttOk_get htt hg) hall hval (take_cells hc)
            exact ⟨u, by simp [execOp, ho, e1, Instr.loadAt, Instr.sureAddr, hu], hr⟩
        · cases h
    · cases h
  · cases h
end
end Go.Proofs.YtjkfmihbmkbjfaaGreat
