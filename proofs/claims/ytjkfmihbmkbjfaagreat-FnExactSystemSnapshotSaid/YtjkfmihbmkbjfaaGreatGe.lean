/- Typed data as pure data: 'enc'; the contracts of the abstract machine and the contracts in terms of 'rd' and 'own'. No program in sight. -/
import Derived.Test.YtjkfmihbmkbjfaaGreatFn
namespace Go.Proofs.YtjkfmihbmkbjfaaGreat
open Go.RowKit
open GoD (rd own)

class GoE (α : Type) extends GoD α where
  enc : α → List PV
  enc_len : ∀ a, (enc a).length = GoD.n α
  n_pos : 0 < GoD.n α
  /-- no list in it is longer than what any append makes -/
  wide : α → Prop
  wide_size : ∀ {a : α}, GoD.size a ≤ 1073741824 → wide a
  vc_wide : ∀ {X : Nat → Prop} {w : World} {cs : List Value} {a : α}, VC X w cs (enc a) → wide a
  rd_vc : ∀ {w : World} {cs : List Value} {a : α}, rd w cs a → wide a → VC (fun b => b < w.heap.size) w cs (enc a)
  vc_rd : ∀ {X : Nat → Prop} {w : World} {cs : List Value} {a : α}, VC X w cs (enc a) → rd w cs a
  own_oc : ∀ {L : List Nat} {w : World} {cs : List Value} {a : α}, own L w cs a → wide a → OC w L cs (enc a)
  oc_own : ∀ {L : List Nat} {w : World} {cs : List Value} {a : α}, OC w L cs (enc a) → L.Nodup → own L w cs a
open GoE (enc wide)

instance instGoEInt : GoE Int where
  enc a := [.int .i64 a]
  enc_len _ := rfl
  n_pos := Nat.zero_lt_one
  wide _ := True
  wide_size _ := trivial
  vc_wide _ := trivial
  rd_vc h _ := by obtain ⟨rfl, h⟩ := h; exact .cons (.int ((inR_i64 _).2 h)) .nil
  vc_rd h := by
    cases h with
    | cons h1 h2 => cases h2; cases h1; exact ⟨rfl, (inR_i64 _).1 ‹_›⟩
  own_oc h _ := by obtain ⟨rfl, rfl, h⟩ := h; exact OC.cons (L1 := []) (L2 := []) (.int ((inR_i64 _).2 h)) .nil
  oc_own h _ := by
    cases h with
    | cons h1 h2 => cases h2; cases h1; exact ⟨rfl, rfl, (inR_i64 _).1 ‹_›⟩
instance instGoEBool : GoE Bool where
  enc a := [.bool a]
  enc_len _ := rfl
  n_pos := Nat.zero_lt_one
  wide _ := True
  wide_size _ := trivial
  vc_wide _ := trivial
  rd_vc h _ := by rw [show _ = _ from h]; exact .cons (.bool _) .nil
  vc_rd h := by
    cases h with
    | cons h1 h2 => cases h2; cases h1; rfl
  own_oc h _ := by obtain ⟨rfl, rfl⟩ := h; exact OC.cons (L1 := []) (L2 := []) (.bool _) .nil
  oc_own h _ := by
    cases h with
    | cons h1 h2 => cases h2; cases h1; exact ⟨rfl, rfl⟩
instance instGoEStr : GoE ByteArray where
  enc a := [.str a]
  enc_len _ := rfl
  n_pos := Nat.zero_lt_one
  wide _ := True
  wide_size _ := trivial
  vc_wide _ := trivial
  rd_vc h _ := by obtain ⟨rfl, h⟩ := h; exact .cons (.str h) .nil
  vc_rd h := by
    cases h with
    | cons h1 h2 => cases h2; cases h1; exact ⟨rfl, ‹_›⟩
  own_oc h _ := by obtain ⟨rfl, rfl, h⟩ := h; exact OC.cons (L1 := []) (L2 := []) (.str h) .nil
  oc_own h _ := by
    cases h with
    | cons h1 h2 => cases h2; cases h1; exact ⟨rfl, rfl, ‹_›⟩

theorem VC.split {X : Nat → Prop} {w : World} : ∀ {ps ps' : List PV} {vs : List Value}, VC X w vs (ps ++ ps') → ∃ vs1 vs2, vs = vs1 ++ vs2 ∧ VC X w vs1 ps ∧ VC X w vs2 ps'
  | [], ps', vs, h => ⟨[], vs, rfl, .nil, h⟩
  | p :: ps, ps', vs, h => by
    generalize hq : p :: ps ++ ps' = q at h
    cases h with
    | nil => cases hq
    | cons h1 h2 =>
      cases hq
      obtain ⟨vs1, vs2, rfl, h3, h4⟩ := VC.split h2
      exact ⟨_, vs2, rfl, .cons h1 h3, h4⟩

instance instGoEProd {α β : Type} [GoE α] [GoE β] : GoE (α × β) where
  enc p := enc p.1 ++ enc p.2
  enc_len p := by rw [List.length_append, GoE.enc_len, GoE.enc_len]; rfl
  n_pos := Nat.lt_of_lt_of_le (GoE.n_pos (α := α)) (Nat.le_add_right _ _)
  wide p := wide p.1 ∧ wide p.2
  wide_size h := ⟨GoE.wide_size (Nat.le_trans (Nat.le_add_right _ _) h), GoE.wide_size (Nat.le_trans (Nat.le_add_left _ _) h)⟩
  vc_wide h := by
    obtain ⟨c1, c2, rfl, h1, h2⟩ := VC.split h
    exact ⟨GoE.vc_wide h1, GoE.vc_wide h2⟩
  rd_vc h hw := by
    obtain ⟨c1, c2, rfl, h1, h2⟩ := h
    exact VC.append (GoE.rd_vc h2 hw.2) (GoE.rd_vc h1 hw.1)
  vc_rd h := by
    obtain ⟨c1, c2, rfl, h1, h2⟩ := VC.split h
    exact ⟨c1, c2, rfl, GoE.vc_rd h1, GoE.vc_rd h2⟩
  own_oc h hw := by
    obtain ⟨_, c1, c2, L1, L2, rfl, rfl, h1, h2⟩ := h
    exact OC.append (GoE.own_oc h2 hw.2) (GoE.own_oc h1 hw.1)
  oc_own h hn := by
    obtain ⟨L1, L2, c1, c2, rfl, rfl, h1, h2⟩ := OC.split h
    obtain ⟨n1, n2, _⟩ := List.nodup_append.1 hn
    exact ⟨hn, c1, c2, L1, L2, rfl, rfl, GoE.oc_own h1 n1, GoE.oc_own h2 n2⟩

/-- rows of typed data -/
def eL {α : Type} [GoE α] (l : List α) : List (List PV) := l.map enc
section
variable {α : Type} [GoE α]
theorem eL_nil : eL ([] : List α) = [] := rfl
theorem eL_cons (a : α) (l : List α) : eL (a :: l) = enc a :: eL l := rfl
theorem eL_append (l m : List α) : eL (l ++ m) = eL l ++ eL m := by simp [eL]
theorem eL_length (l : List α) : (eL l).length = l.length := by simp [eL]
theorem eL_take (l : List α) (k : Nat) : (eL l).take k = eL (l.take k) := by simp [eL]
theorem eL_drop (l : List α) (k : Nat) : (eL l).drop k = eL (l.drop k) := by simp [eL]
theorem eL_get {l : List α} {i : Nat} {a : α} (h : l[i]? = some a) : (eL l)[i]? = some (enc a) := by simp [eL, h]

theorem rows_of {w : World} {X : Nat → Prop} {b off : Nat} : ∀ (l : List α), (∀ i a, l[i]? = some a → ∃ ce : List Value, ce.length = GoD.n α ∧ (∀ j v, ce[j]? = some v → w.cell? ⟨b, off + i * GoD.n α + j, none⟩ = some v) ∧ VC X w ce (enc a)) →
    ∃ cs, (∀ (j : Nat) (u : Value), cs[j]? = some u → w.cell? ⟨b, off + j, none⟩ = some u) ∧ VR X w (GoD.n α) cs (eL l)
  | [], _ => ⟨[], by simp, .nil _⟩
  | a :: l, h => by
    obtain ⟨ce, h1, h2, h3⟩ := h 0 a rfl
    obtain ⟨cs, h4, h5⟩ := rows_of (b := b) (off := off + GoD.n α) l fun i x hx => by
      obtain ⟨c, k1, k2, k3⟩ := h (i + 1) x (by simpa using hx)
      refine ⟨c, k1, fun j v hj => ?_, k3⟩
      have := k2 j v hj
      rw [Nat.add_mul, Nat.one_mul] at this
      rw [show off + GoD.n α + i * GoD.n α + j = off + (i * GoD.n α + GoD.n α) + j by omega]
      exact this
    refine ⟨ce ++ cs, fun j u hj => ?_, .cons h3 (GoE.enc_len a) h5⟩
    rcases Nat.lt_or_ge j ce.length with hlt | hge
    · rw [List.getElem?_append_left hlt] at hj
      have := h2 j u hj
      simpa using this
    · rw [List.getElem?_append_right hge] at hj
      have := h4 _ u hj
      rw [show off + GoD.n α + (j - ce.length) = off + j by omega] at this
      exact this
theorem own_rows {w : World} : ∀ (l : List α) (Ls : List (List Nat)) (cs : List Value), (∀ a, a ∈ l → wide a) → Ls.length = l.length → cs.length = l.length * GoD.n α → (∀ i Li a, Ls[i]? = some Li → l[i]? = some a → own Li w ((cs.drop (i * GoD.n α)).take (GoD.n α)) a) → OR w (GoD.n α) Ls.flatten cs (eL l)
  | [], Ls, cs, _, h1, h2, _ => by
    obtain rfl : Ls = [] := List.eq_nil_of_length_eq_zero h1
    obtain rfl : cs = [] := List.eq_nil_of_length_eq_zero (by simpa using h2)
    exact .nil _
  | a :: l, [], cs, _, h1, _, _ => by simp at h1
  | a :: l, Li :: Ls, cs, hw, h1, h2, h => by
    have h0 := h 0 Li a rfl rfl
    rw [Nat.zero_mul, List.drop_zero] at h0
    have hr := own_rows l Ls (cs.drop (GoD.n α)) (fun x hx => hw x (List.mem_cons_of_mem _ hx)) (by simpa using h1) (by rw [List.length_drop, h2, List.length_cons, Nat.add_mul, Nat.one_mul]; omega) fun i Lj x hi hx => by
      have := h (i + 1) Lj x (by simpa using hi) (by simpa using hx)
      rw [Nat.add_mul, Nat.one_mul, Nat.add_comm, ← List.drop_drop] at this
      exact this
    rw [← List.take_append_drop (GoD.n α) cs]
    exact .cons (GoE.own_oc h0 (hw a List.mem_cons_self)) (GoE.enc_len a) hr
theorem rows_own {w : World} : ∀ (l : List α) (L : List Nat) (cs : List Value), OR w (GoD.n α) L cs (eL l) → L.Nodup → ∃ Ls : List (List Nat), L = Ls.flatten ∧ Ls.length = l.length ∧ ∀ i Li a, Ls[i]? = some Li → l[i]? = some a → own Li w ((cs.drop (i * GoD.n α)).take (GoD.n α)) a
  | [], L, cs, h, _ => by cases h; exact ⟨[], rfl, rfl, by simp⟩
  | a :: l, L, cs, h, hn => by
    cases h with
    | @cons _ L1 L2 ce cs' _ _ h1 h2 h3 =>
      obtain ⟨n1, n2, _⟩ := List.nodup_append.1 hn
      obtain ⟨Ls, rfl, e2, e3⟩ := rows_own l L2 cs' h3 n2
      have hce : ce.length = GoD.n α := by rw [h1.length, GoE.enc_len]
      refine ⟨L1 :: Ls, rfl, by simp [e2], fun i Li x hi hx => ?_⟩
      cases i with
      | zero =>
        simp at hi hx
        subst hi hx
        rw [Nat.zero_mul, List.drop_zero, ← hce, List.take_left]
        exact GoE.oc_own h1 n1
      | succ i =>
        have := e3 i Li x (by simpa using hi) (by simpa using hx)
        rw [Nat.add_mul, Nat.one_mul, Nat.add_comm, ← List.drop_drop, ← hce, List.drop_left, hce]
        exact this

def wideS (l : List α) : Prop := l.length ≤ 1073741824 ∧ ∀ a, a ∈ l → wide a
theorem rdS_vv {w : World} {v : Value} {l : List α} (h : rdS w [v] l) (hw : wideS l) : VV (fun b => b < w.heap.size) w v (.slc (GoD.n α) (eL l)) := by
  obtain ⟨oa, cap, e, hl, hm, hel⟩ := h
  obtain rfl : v = _ := by simpa using e
  cases hlc : l with
  | nil => exact .emp oa _ hm
  | cons a l' =>
    obtain ⟨b, off, ce0, hoa, hc0, hcell, hrd0⟩ := hel 0 a (by rw [hlc]; rfl)
    subst hoa
    obtain ⟨cs, h1, h2⟩ := rows_of (X := fun b => b < w.heap.size) (w := w) (b := b) (off := off) l fun i x hx => by
      obtain ⟨b', off', ce, e', k1, k2, k3⟩ := hel i x hx
      obtain ⟨rfl, rfl⟩ : b = b' ∧ off = off' := by simpa using e'
      exact ⟨ce, k1, k2, GoE.rd_vc k3 (hw.2 x (List.mem_of_getElem? hx))⟩
    rw [← hlc, ← eL_length (l := l)]
    refine .slc ?_ h1 h2 (by rw [eL_length]; exact hl) ⟨hm, by rw [eL_length]; exact hw.1⟩
    have hnp := GoE.n_pos (α := α)
    have := hcell 0 ce0[0] (List.getElem?_eq_getElem (by omega))
    exact World.block_lt_of_cell? _ _ this
theorem vv_rdS {X : Nat → Prop} {w : World} {v : Value} {l : List α} (h : VV X w v (.slc (GoD.n α) (eL l))) : rdS w [v] l := by
  generalize hp : PV.slc (GoD.n α) (eL l) = p at h
  cases h with
  | int | bool | str => cases hp
  | @emp oa cap n hcap =>
    simp only [PV.slc.injEq] at hp
    have : l = [] := by
      cases l with
      | nil => rfl
      | cons a l => simp [eL] at hp
    subst this
    exact ⟨oa, cap, rfl, Nat.zero_le _, hcap, by simp⟩
  | @slc b off cap n cs l' hb hc hr h1 h2 =>
    simp only [PV.slc.injEq] at hp
    obtain ⟨rfl, rfl⟩ := hp
    refine ⟨_, cap, by rw [eL_length], by simpa [eL_length] using h1, h2.1, fun i a hi => ⟨b, off, (cs.drop (i * GoD.n α)).take (GoD.n α), rfl, ?_, ?_, ?_⟩⟩
    · exact (hr.get (eL_get hi)).1.length.trans (GoE.enc_len a)
    · exact take_cells (drop_cells hc)
    · exact GoE.vc_rd (hr.get (eL_get hi)).1
theorem ownS_ov {L : List Nat} {w : World} {v : Value} {l : List α} (h : ownS L w [v] l) (hw : wideS l) : OV w L v (.slc (GoD.n α) (eL l)) := by
  obtain ⟨hnd, ⟨rfl, rfl, oa, e⟩ | ⟨g, cap, cur, e, Ls, hv, hg, hl, hm, hs, rfl, hLs, hel⟩⟩ := h
  · obtain rfl : v = _ := by simpa using e
    exact .emp oa _
  · obtain rfl : v = _ := by simpa using hv
    rw [← eL_length (l := l)]
    refine .slc hg hs ?_ (by simpa [eL_length] using hl) ⟨hm, by rw [eL_length]; exact hw.1⟩
    have hroom : l.length * GoD.n α ≤ cur.size := by rw [hs]; exact Nat.mul_le_mul_right _ hl
    refine own_rows l Ls _ hw.2 hLs (by simp [eL_length]; omega) fun i Li a hi ha => ?_
    have hlt : i < l.length := (List.getElem?_eq_some_iff.1 ha).1
    have := hel i Li a hi ha
    rw [List.drop_take, List.take_take, eL_length, Nat.min_eq_left (by
      have := Nat.mul_le_mul_right (GoD.n α) (show i + 1 ≤ l.length by omega)
      rw [Nat.add_mul, Nat.one_mul] at this
      omega)]
    exact this
theorem ov_ownS {L : List Nat} {w : World} {v : Value} {l : List α} (h : OV w L v (.slc (GoD.n α) (eL l))) (hn : L.Nodup) : ownS L w [v] l := by
  generalize hp : PV.slc (GoD.n α) (eL l) = p at h
  cases h with
  | int | bool | str => cases hp
  | emp oa n =>
    simp only [PV.slc.injEq] at hp
    have : l = [] := by
      cases l with
      | nil => rfl
      | cons a l => simp [eL] at hp
    subst this
    exact ⟨by simp, .inl ⟨rfl, rfl, oa, rfl⟩⟩
  | @slc g cap n cur e L l' hg hs hr h1 h2 =>
    simp only [PV.slc.injEq] at hp
    obtain ⟨rfl, rfl⟩ := hp
    obtain ⟨Ls, rfl, e2, e3⟩ := rows_own l L _ hr (List.nodup_cons.1 hn).2
    refine ⟨hn, .inr ⟨g, cap, cur, e, Ls, by rw [eL_length], hg, by simpa [eL_length] using h1, h2.1, hs, rfl, e2, fun i Li a hi ha => ?_⟩⟩
    have hlt : i < l.length := (List.getElem?_eq_some_iff.1 ha).1
    have := e3 i Li a hi ha
    rw [List.drop_take, List.take_take, eL_length, Nat.min_eq_left (by
      have := Nat.mul_le_mul_right (GoD.n α) (show i + 1 ≤ l.length by omega)
      rw [Nat.add_mul, Nat.one_mul] at this
      omega)] at this
    exact this
theorem rows_wide {X : Nat → Prop} {w : World} : ∀ {l : List α} {cs : List Value}, VR X w (GoD.n α) cs (eL l) → ∀ a, a ∈ l → wide a
  | [], _, _, a, ha => by simp at ha
  | x :: l, cs, h, a, ha => by
    cases h with
    | cons h1 h2 h3 =>
      rcases List.mem_cons.1 ha with rfl | ha
      · exact GoE.vc_wide h1
      · exact rows_wide h3 a ha
theorem vv_wide {X : Nat → Prop} {w : World} {v : Value} {l : List α} (h : VV X w v (.slc (GoD.n α) (eL l))) : wideS l := by
  generalize hp : PV.slc (GoD.n α) (eL l) = p at h
  cases h with
  | int | bool | str => cases hp
  | emp oa n hcap =>
    simp only [PV.slc.injEq] at hp
    have : l = [] := by
      cases l with
      | nil => rfl
      | cons a l => simp [eL] at hp
    subst this
    exact ⟨Nat.zero_le _, by simp⟩
  | @slc b off cap n cs l' hb hc hr h1 h2 =>
    simp only [PV.slc.injEq] at hp
    obtain ⟨rfl, rfl⟩ := hp
    exact ⟨by have := h2.2; rwa [eL_length] at this, rows_wide hr⟩
end
theorem VC.one {X : Nat → Prop} {w : World} {v : Value} {p : PV} (h : VC X w [v] [p]) : VV X w v p := by cases h; assumption
theorem OC.one {w : World} {L : List Nat} {v : Value} {p : PV} (h : OC w L [v] [p]) : OV w L v p := by
  generalize hv : [v] = vs at h
  generalize hp : [p] = ps at h
  cases h with
  | nil => cases hv
  | cons h1 h2 =>
    cases hv
    cases hp
    cases h2
    rw [List.append_nil]
    exact h1
theorem VC.one' {X : Nat → Prop} {w : World} {vs : List Value} {p : PV} (h : VC X w vs [p]) : ∃ v, vs = [v] ∧ VV X w v p := by
  cases h with
  | cons h1 h2 => cases h2; exact ⟨_, rfl, h1⟩
theorem OC.one' {w : World} {L : List Nat} {vs : List Value} {p : PV} (h : OC w L vs [p]) : ∃ v, vs = [v] ∧ OV w L v p := by
  obtain ⟨v, e⟩ : ∃ v, vs = [v] := by
    have := h.length
    match vs, this with
    | [v], _ => exact ⟨v, rfl⟩
  subst e
  exact ⟨v, rfl, h.one⟩
instance instGoEList {α : Type} [GoE α] : GoE (List α) where
  enc l := [.slc (GoD.n α) (eL l)]
  enc_len _ := rfl
  n_pos := Nat.zero_lt_one
  wide := wideS
  wide_size h := ⟨Nat.le_trans (size_list_len _) h, fun a ha => by
    obtain ⟨i, hi⟩ := List.mem_iff_getElem?.1 ha
    exact GoE.wide_size (Nat.le_trans (size_list_get hi) h)⟩
  vc_wide hc := by
    obtain ⟨v, rfl, h⟩ := VC.one' hc
    exact vv_wide h
  rd_vc h hw := by
    have h : rdS _ _ _ := h
    obtain ⟨oa, cap, rfl, _⟩ := id h
    exact .cons (rdS_vv h hw) .nil
  vc_rd hc := by
    obtain ⟨v, rfl, h⟩ := VC.one' hc
    exact vv_rdS h
  own_oc h hw := by
    have h : ownS _ _ _ _ := h
    obtain ⟨oa, cap, rfl, _⟩ := ownS_rdS h
    have := OC.cons (ownS_ov h hw) .nil
    rw [List.append_nil] at this
    exact this
  oc_own hc hn := by
    obtain ⟨v, rfl, h⟩ := OC.one' hc
    exact ov_ownS h hn

/-! ### cells of an argument, cells of a result -/
def shC : PV → C := liftC .sh
/-- the cells of a result: each slice owned, named in turn -/
def owC : Nat → List PV → List C
  | _, [] => []
  | k, .slc n l :: r => .slc (.own true k) n l :: owC (k + 1) r
  | k, .int a b :: r => .int a b :: owC k r
  | k, .bool b :: r => .bool b :: owC k r
  | k, .str b :: r => .str b :: owC k r
section
variable {X : Nat → Prop} {F : Nat → Prop} {w w' : World} {L : Nat → List Nat}
theorem sh_all {J : Inj} : ∀ {vs : List Value} {ps : List PV}, VC J.F w vs ps → All2 (CR J w) vs (ps.map shC)
  | _, _, .nil => .nil
  | _, _, .cons h1 h2 => .cons (liftC_ok (J := J) (tok := .sh) (X := J.F) (fun _ _ _ h => h) h1) (sh_all h2)
theorem sh_vc {J : Inj} : ∀ {ps : List PV} {vs : List Value}, All2 (CR J w) vs (ps.map shC) → VC J.F w vs ps
  | [], vs, h => by cases h; exact .nil
  | p :: ps, vs, h => by
    cases h with
    | cons h1 h2 =>
      refine .cons ?_ (sh_vc h2)
      cases p with
      | int => obtain ⟨rfl, h⟩ := h1; exact .int h
      | bool => obtain rfl := h1; exact .bool _
      | str => obtain ⟨rfl, h⟩ := h1; exact .str h
      | slc n l => exact h1
def owL (L : Nat → List Nat) : Nat → List PV → List Nat
  | _, [] => []
  | k, .slc _ _ :: r => L k ++ owL L (k + 1) r
  | k, _ :: r => owL L k r
theorem owL_mem {L : Nat → List Nat} : ∀ {ps : List PV} {k b : Nat}, b ∈ owL L k ps → ∃ j, k ≤ j ∧ b ∈ L j
  | [], k, b, h => by simp [owL] at h
  | .int _ _ :: ps, k, b, h => owL_mem (ps := ps) h
  | .bool _ :: ps, k, b, h => owL_mem (ps := ps) h
  | .str _ :: ps, k, b, h => owL_mem (ps := ps) h
  | .slc n l :: ps, k, b, h => by
    rcases List.mem_append.1 h with h | h
    · exact ⟨k, Nat.le_refl _, h⟩
    · obtain ⟨j, h1, h2⟩ := owL_mem (ps := ps) h
      exact ⟨j, by omega, h2⟩
theorem ow_oc {J : Inj} (hd : ∀ k k' b, b ∈ J.L k → b ∈ J.L k' → k = k') : ∀ {ps : List PV} {vs : List Value} {k : Nat}, All2 (CR J w) vs (owC k ps) → ∃ L, OC w L vs ps ∧ L.Nodup ∧ ∀ b, b ∈ L → b ∈ owL J.L k ps
  | [], vs, k, h => by cases h; exact ⟨[], .nil, List.nodup_nil, fun b hb => by simp at hb⟩
  | .int a b :: ps, vs, k, h => by
    cases h with
    | cons h1 h2 => obtain ⟨rfl, h⟩ := h1; obtain ⟨L, h3, h4, h5⟩ := ow_oc hd h2; exact ⟨L, OC.cons (L1 := []) (.int h) h3, h4, h5⟩
  | .bool b :: ps, vs, k, h => by
    cases h with
    | cons h1 h2 => obtain rfl := h1; obtain ⟨L, h3, h4, h5⟩ := ow_oc hd h2; exact ⟨L, OC.cons (L1 := []) (.bool _) h3, h4, h5⟩
  | .str b :: ps, vs, k, h => by
    cases h with
    | cons h1 h2 => obtain ⟨rfl, h⟩ := h1; obtain ⟨L, h3, h4, h5⟩ := ow_oc hd h2; exact ⟨L, OC.cons (L1 := []) (.str h) h3, h4, h5⟩
  | .slc n l :: ps, vs, k, h => by
    cases h with
    | cons h1 h2 =>
      obtain ⟨L, h3, h4, h5⟩ := ow_oc hd h2
      obtain ⟨L0, a1, a2, a3, _⟩ := h1
      refine ⟨L0 ++ L, OC.cons a1 h3, List.nodup_append.2 ⟨a2, h4, fun b hb b' hb' e => ?_⟩, fun b hb => ?_⟩
      · subst e
        obtain ⟨j, h6, h7⟩ := owL_mem (h5 b hb')
        have := hd _ _ b (a3 b hb) h7
        omega
      · rcases List.mem_append.1 hb with hb | hb
        · exact List.mem_append_left _ (a3 b hb)
        · exact List.mem_append_right _ (h5 b hb)
theorem owL_nd {L : Nat → List Nat} (hn : ∀ k, (L k).Nodup) (hd : ∀ k k' b, b ∈ L k → b ∈ L k' → k = k') : ∀ {ps : List PV} {k : Nat}, (owL L k ps).Nodup
  | [], k => by simp [owL]
  | .int _ _ :: ps, k => owL_nd hn hd (ps := ps)
  | .bool _ :: ps, k => owL_nd hn hd (ps := ps)
  | .str _ :: ps, k => owL_nd hn hd (ps := ps)
  | .slc n l :: ps, k => List.nodup_append.2 ⟨hn k, owL_nd hn hd (ps := ps), fun b hb b' hb' e => by
      subst e
      obtain ⟨j, h1, h2⟩ := owL_mem hb'
      have := hd _ _ b hb h2
      omega⟩
end

/-! ### from the machine's contracts to the walks' -/
section
variable {α : Type} [GoE α] {P : Program}
def argA (a : α) : AV := .agg ((enc a).map shC)
def resA (a : α) : AV := .agg (owC 0 (enc a))
def argS (l : List α) : AV := .one (.slc .sh (GoD.n α) (eL l))
def resS (l : List α) : AV := .one (.slc (.own true 0) (GoD.n α) (eL l))
def shS (l : List α) : AV := .one (.slc .sh (GoD.n α) (eL l))
def intA (n : Int) : AV := .one (.int .i64 n)
def strA (s : ByteArray) : AV := .one (.str s)
def boolA (b : Bool) : AV := .one (.bool b)


/-- what a call of a contract gives, for arguments that are read -/
theorem arg_agg {w : World} {cs : List Value} {a : α} (h : rd w cs a) (hw : wide a) : AR (argJ fun b => b < w.heap.size) w (.agg cs.toArray) (argA a) := ⟨cs, rfl, sh_all (J := argJ fun b => b < w.heap.size) (GoE.rd_vc h hw)⟩
theorem arg_sli {w : World} {v : Value} {l : List α} (h : rd w [v] l) (hw : wide l) : AR (argJ fun b => b < w.heap.size) w v (argS l) := rdS_vv h hw
theorem arg_int {w : World} {F : Nat → Prop} {n : Int} (h : I64 n) : AR (argJ F) w (.int .i64 n) (intA n) := ⟨rfl, (inR_i64 n).2 h⟩
theorem arg_str {w : World} {F : Nat → Prop} {s : ByteArray} (h : s.size ≤ maxLen) : AR (argJ F) w (.string s) (strA s) := ⟨rfl, h⟩
theorem arg_bool {w : World} {F : Nat → Prop} (b : Bool) : AR (argJ F) w (.bool b) (boolA b) := rfl
theorem ACalls.run {f : Nat} {args : List AV} {r : AV} (h : ACalls P f args r) {w : World} {vals : List Value} (hv : All2 (AR (argJ fun b => b < w.heap.size) w) vals args) : Calls P f vals.toArray w (ARet (fun b => b < w.heap.size) w r) :=
  h.2 w _ vals (fun _ h => h) hv
theorem ret_agg {w : World} {F : Nat → Prop} {a : α} {e : Ending} {w' : World} (h : ARet F w (resA a) e w') : RetA w a e w' := by
  obtain ⟨v, L, rfl, hb, hn, hl, hd, vs, rfl, hr⟩ := h
  obtain ⟨L', ho, hn', hs⟩ := ow_oc hd hr
  exact ⟨vs, _, rfl, hb, GoE.oc_own ho hn', fun b hm => by obtain ⟨k, _, hk⟩ := owL_mem (hs b hm); exact (hl k b hk).1⟩
theorem ret_sli {w : World} {F : Nat → Prop} {l : List α} {e : Ending} {w' : World} (h : ARet F w (resS l) e w') : RetS w l e w' := by
  obtain ⟨v, L, rfl, hb, hn, hl, hd, hr⟩ := h
  obtain ⟨L', h1, h2, h3, _⟩ := hr
  exact ⟨v, L', rfl, hb, ov_ownS h1 h2, fun b hm => (hl 0 b (h3 b hm)).1⟩
theorem ret_shs {w : World} {F : Nat → Prop} {l : List α} {e : Ending} {w' : World} (h : ARet F w (shS l) e w') : RetRS w l e w' := by
  obtain ⟨v, L, rfl, hb, hn, hl, hd, hr⟩ := h
  exact ⟨v, rfl, hb, vv_rdS hr⟩
theorem ret_sha {w : World} {F : Nat → Prop} {a : α} {e : Ending} {w' : World} (h : ARet F w (argA a) e w') : RetRA w a e w' := by
  obtain ⟨v, L, rfl, hb, hn, hl, hd, vs, rfl, hr⟩ := h
  exact ⟨vs, rfl, hb, GoE.vc_rd (sh_vc hr)⟩
theorem ret_int {w : World} {F : Nat → Prop} {n : Int} {e : Ending} {w' : World} (h : ARet F w (intA n) e w') : Ret w (.int .i64 n) e w' := by
  obtain ⟨v, L, rfl, hb, _, _, _, rfl, _⟩ := h
  exact ⟨rfl, hb⟩
theorem ret_bool {w : World} {F : Nat → Prop} {b : Bool} {e : Ending} {w' : World} (h : ARet F w (boolA b) e w') : Ret w (.bool b) e w' := by
  obtain ⟨v, L, rfl, hb, _, _, _, rfl⟩ := h
  exact ⟨rfl, hb⟩
theorem ret_str {w : World} {F : Nat → Prop} {s : ByteArray} {e : Ending} {w' : World} (h : ARet F w (strA s) e w') : Ret w (.string s) e w' := by
  obtain ⟨v, L, rfl, hb, _, _, _, rfl, _⟩ := h
  exact ⟨rfl, hb⟩
end
end Go.Proofs.YtjkfmihbmkbjfaaGreat
