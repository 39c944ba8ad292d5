/- The abstract machine's quiet operations do what the machine does. No program in sight. -/
import Derived.Test.YtjkfmihbmkbjfaaGreatPu
namespace Go.Proofs.YtjkfmihbmkbjfaaGreat
open Go.RowKit

def Ob.holds (A : Nat → List AV → AV → Prop) (T : TakeT) : Ob → Prop
  | .call f args r => A f args r
  | .eq a b => a = b
  | .elem l i r => 0 ≤ i ∧ l[i.toNat]? = some r
  | .rng lo hi n => 0 ≤ lo ∧ lo ≤ hi ∧ hi ≤ n
  | .idx i n => 0 ≤ i ∧ i < n
  | .flat l => RowsLike l
  | .len n => n ≤ 1073741824
  | .slen n => n ≤ maxLen
  | .nz n => n ≠ 0
  | .inr k n => InR k n
  | .take f n l args mix turn l' => T f n l args mix turn l'
def AllOb (A : Nat → List AV → AV → Prop) (T : TakeT) : List Ob → Prop
  | [] => True
  | [x] => x.holds A T
  | x :: r => x.holds A T ∧ AllOb A T r
theorem AllOb.cons {A : Nat → List AV → AV → Prop} {T : TakeT} {x : Ob} {r : List Ob} (h : AllOb A T (x :: r)) : x.holds A T ∧ AllOb A T r := by
  cases r with
  | nil => exact ⟨h, trivial⟩
  | cons y r => exact h
theorem AllOb.append {A : Nat → List AV → AV → Prop} {T : TakeT} : ∀ {x y : List Ob}, AllOb A T (x ++ y) → AllOb A T x ∧ AllOb A T y
  | [], y, h => ⟨trivial, h⟩
  | [a], y, h => AllOb.cons h
  | a :: b :: r, y, h => by
    obtain ⟨h1, h2⟩ := AllOb.cons h
    obtain ⟨h3, h4⟩ := AllOb.append (x := b :: r) h2
    exact ⟨⟨h1, h3⟩, h4⟩

section
variable {P : Program} {A : Nat → List AV → AV → Prop} {T : TakeT} {J : Inj} {w : World}

theorem binC_ok {op : BinOp} {x y c : C} {obs : List Ob} {vx vy : Value} (h : binC op x y = some (c, obs)) (hob : AllOb A T obs) (hx : CR J w vx x) (hy : CR J w vy y) (t : TypeId) (px py : Operand) :
    ∃ u, (do eqGuard op t px py vx vy; binOp op t vx vy : Sem Value).run P w = .ok u w ∧ CR J w u c := by
  unfold binC at h
  split at h
  · rename_i k a k' b
    obtain ⟨rfl, ha⟩ := hx
    obtain ⟨rfl, hb⟩ := hy
    by_cases hk : k = k'
    · subst hk
      simp only [decide_true, cond_true] at h
      cases op <;> simp [binInt] at h <;> obtain ⟨rfl, rfl⟩ := h
      case quo =>
        have hz : ¬ (b = 0) := hob
        exact ⟨_, by simp [eqGuard, binOp, Op.intDiv, hz], rfl, inR_wrap _ _⟩
      case rem =>
        have hz : ¬ (b = 0) := hob.1
        exact ⟨_, by simp [eqGuard, binOp, Op.intDiv, hz], rfl, hob.2⟩
      all_goals first
        | exact ⟨_, by simp [eqGuard, binOp, Op.intArith], rfl, inR_wrap _ _⟩
        | exact ⟨_, by simp [eqGuard, binOp, Op.intCmp], rfl⟩
    · simp [hk] at h
  · rename_i a b
    obtain ⟨rfl, ha⟩ := hx
    obtain ⟨rfl, hb⟩ := hy
    cases op <;> simp [binStr] at h <;> obtain ⟨rfl, rfl⟩ := h
    case add =>
      have hz : a.size + b.size ≤ maxLen := hob
      have hz' : ¬ (((a.size + b.size : Nat) : Int) > IntKind.i64.max) := by unfold maxLen at hz; simp [IntKind.max, IntKind.bits, IntKind.signed]; omega
      refine ⟨.string (a ++ b), ?_, rfl, by simpa using hz⟩
      simp only [eqGuard, binOp, Op.stringOp, if_neg hz']
      rfl
    all_goals exact ⟨_, by simp [eqGuard, binOp, Op.stringOp], rfl⟩
  · cases h
theorem binBool_ok {tt : List (Nat × TI)} (htt : ttOk P tt = true) {op : BinOp} {t : Nat} {a b : Bool} {c : C} {obs : List Ob} (h : binBool tt op t a b = some (c, obs)) (px py : Operand) :
    ∃ u, (do eqGuard op t px py (.bool a) (.bool b); binOp op t (.bool a) (.bool b) : Sem Value).run P w = .ok u w ∧ CR J w u c := by
  unfold binBool at h
  split at h
  · rename_i n z hg
    have hu := (ttOk_get htt hg).bool
    have he : (Op.equal t (.bool a) (.bool b)).run P w = .ok (a == b) w := run_equalIn_bool w 9999 t a b hu
    cases op <;> simp at h <;> obtain ⟨rfl, rfl⟩ := h
    · exact ⟨_, by simp [eqGuard, binOp, he], rfl⟩
    · exact ⟨_, by simp [eqGuard, binOp, he], rfl⟩
  · cases h

theorem typeInfo_run {t : Nat} {inf : TypeInfo} (h : P.info? t = some inf) (w : World) : (typeInfo t).run P w = .ok inf w := by simp [typeInfo, h]
theorem sizeOf_run {t : Nat} {i : TI} (h : TiOk P t i) (w : World) : (sizeOf t).run P w = .ok i.size w := by
  obtain ⟨inf, z, h1, h2, _⟩ := h.info
  simp [sizeOf, typeInfo_run h1, h2]

theorem asVal_ok {ti : TI} {t : Nat} (hti : TiOk P t ti) {vs : List Value} {cs : List C} {v : AV} (hall : All2 (CR J w) vs cs) (hv : asVal ti cs = some v) {b off : Nat} (hc : ∀ (j : Nat) (u : Value), vs[j]? = some u → w.cell? ⟨b, off + j, none⟩ = some u) :
    ∃ u, (loadVar t ⟨b, off, none⟩).run P w = .ok u w ∧ AR J w u v := by
  obtain ⟨d, hd, hagg⟩ := hti.agg
  unfold asVal at hv
  cases ha : ti.agg with
  | true =>
    rw [ha] at hv
    simp only [] at hv
    cases hl : Nat.beq cs.length ti.size with
    | false => rw [hl] at hv; cases hv
    | true =>
      rw [hl] at hv
      obtain rfl := Option.some.inj hv
      have hlen : vs.length = ti.size := by rw [hall.length]; simpa using hl
      have hld := run_loadCells_list (P := P) w ⟨b, off, none⟩ vs (fun j u hj => by rw [Addr.add_lit]; exact hc j u hj)
      refine ⟨.agg vs.toArray, ?_, vs, rfl, hall⟩
      rw [hlen] at hld
      simp [loadVar, run_isAgg_of hd, hagg, ha, sizeOf_run hti, hld]
  | false =>
    rw [ha] at hv
    simp only [] at hv
    split at hv
    · obtain rfl := Option.some.inj hv
      cases hall with
      | cons h1 h2 =>
        cases h2
        rename_i u
        refine ⟨u, ?_, h1⟩
        have := hc 0 u rfl
        rw [Nat.add_zero] at this
        simp [loadVar, run_isAgg_of hd, hagg, ha, load, Sem.run, this]
    · cases hv

theorem liftC_ok {tok : Tok} {X : Nat → Prop} (hX : ∀ c n l, VV X w c (.slc n l) → CR J w c (.slc tok n l)) {v : Value} {p : PV} (h : VV X w v p) : CR J w v (liftC tok p) := by
  cases p with
  | int k n => cases h; exact ⟨rfl, ‹_›⟩
  | bool b => cases h; rfl
  | str s => cases h; exact ⟨rfl, ‹_›⟩
  | slc n l => exact hX v n l h
theorem childTok_X {tok : Tok} (ht : tok = .sh ∨ ∃ k, tok = .vw k) {v : Value} {n : Nat} {l : List (List PV)} (h : VV (J.X tok) w v (.slc n l)) : CR J w v (.slc tok n l) := by
  rcases ht with rfl | ⟨k, rfl⟩
  · exact h
  · exact h

theorem drop_cells {vs : List Value} {b off k : Nat} (hc : ∀ (j : Nat) (u : Value), vs[j]? = some u → w.cell? ⟨b, off + j, none⟩ = some u) : ∀ (j : Nat) (u : Value), (vs.drop k)[j]? = some u → w.cell? ⟨b, off + k + j, none⟩ = some u := by
  intro j u hj
  rw [List.getElem?_drop] at hj
  rw [Nat.add_assoc]
  exact hc _ u hj
theorem take_cells {vs : List Value} {b off k : Nat} (hc : ∀ (j : Nat) (u : Value), vs[j]? = some u → w.cell? ⟨b, off + j, none⟩ = some u) : ∀ (j : Nat) (u : Value), (vs.take k)[j]? = some u → w.cell? ⟨b, off + j, none⟩ = some u := by
  intro j u hj
  rw [List.getElem?_take] at hj
  split at hj
  · exact hc _ u hj
  · cases hj

/-- the elements of a slice, wherever it lies -/
theorem slc_elem {tok tok' : Tok} {n : Nat} {l : List (List PV)} {v : Value} (h : CR J w v (.slc tok n l)) (ht : childTok tok = some tok') {i : Nat} {r : List PV} (hi : l[i]? = some r) :
    ∃ b off cap vs, v = .slice (some ⟨b, off, none⟩) l.length cap ∧ J.X tok' b ∧ VC (J.X tok') w vs r ∧ r.length = n ∧ ∀ (j : Nat) (u : Value), vs[j]? = some u → w.cell? ⟨b, off + i * n + j, none⟩ = some u := by
  have key : ∀ X : Nat → Prop, VV X w v (.slc n l) → ∃ b off cap vs, v = .slice (some ⟨b, off, none⟩) l.length cap ∧ X b ∧ VC X w vs r ∧ r.length = n ∧ ∀ (j : Nat) (u : Value), vs[j]? = some u → w.cell? ⟨b, off + i * n + j, none⟩ = some u := by
    intro X hv
    generalize hp : PV.slc n l = p at hv
    cases hv with
    | int | bool | str => cases hp
    | emp oa n' hcap => cases hp; simp at hi
    | slc hb hc hr h1 h2 =>
      cases hp
      obtain ⟨h3, h4⟩ := hr.get hi
      refine ⟨_, _, _, _, rfl, hb, h3, h4, ?_⟩
      exact take_cells (drop_cells hc)
  cases tok with
  | sh => obtain rfl : Tok.sh = tok' := by simpa [childTok] using ht
          exact key _ h
  | emp => cases ht
  | put => cases ht
  | vw k => obtain rfl : Tok.vw k = tok' := by simpa [childTok] using ht
            exact key _ h
  | own d k =>
    obtain rfl : Tok.vw k = tok' := by simpa [childTok] using ht
    cases d with
    | true => exact key _ (OwnDeep.vv h fun b hb => ⟨Or.inl hb, rfl⟩)
    | false => exact key _ (OwnTop.vv h (fun b hb => ⟨.inr hb, rfl⟩) fun b hb => ⟨.inl hb, rfl⟩)
theorem slc_slice {tok : Tok} {n : Nat} {l : List (List PV)} {v : Value} (h : CR J w v (.slc tok n l)) : ∃ oa cap, v = .slice oa l.length cap ∧ l.length ≤ cap ∧ cap ≤ maxLen ∧ (tok = .emp → cap = 0) := by
  have key : ∀ X : Nat → Prop, VV X w v (.slc n l) → ∃ oa cap, v = .slice oa l.length cap ∧ l.length ≤ cap ∧ cap ≤ maxLen := by
    intro X hv
    generalize hp : PV.slc n l = p at hv
    cases hv with
    | int | bool | str => cases hp
    | emp oa n' hcap => cases hp; exact ⟨oa, _, rfl, Nat.zero_le _, hcap⟩
    | slc hb hc hr h1 h2 => cases hp; exact ⟨_, _, rfl, h1, h2.1⟩
  cases tok with
  | sh => obtain ⟨a, b, c, d, e⟩ := key _ h; exact ⟨a, b, c, d, e, by simp⟩
  | emp => obtain ⟨rfl, oa, rfl⟩ := h; exact ⟨oa, 0, rfl, Nat.le_refl _, Nat.zero_le _, fun _ => rfl⟩
  | vw k => obtain ⟨a, b, c, d, e⟩ := key _ h; exact ⟨a, b, c, d, e, by simp⟩
  | put => exact h.elim
  | own d k =>
    cases d with
    | true => obtain ⟨a, b, c, d, e⟩ := key (fun _ => True) (OwnDeep.vv h fun b hb => ⟨trivial, rfl⟩); exact ⟨a, b, c, d, e, by simp⟩
    | false => obtain ⟨a, b, c, d, e⟩ := key (fun _ => True) (OwnTop.vv h (fun b hb => ⟨trivial, rfl⟩) fun b hb => ⟨trivial, rfl⟩); exact ⟨a, b, c, d, e, by simp⟩
/-- part of a slice -/
theorem VV.sub {X : Nat → Prop} {n lo hi cap : Nat} {l : List (List PV)} {oa : Option Addr} (h : VV X w (.slice oa l.length cap) (.slc n l)) (h1 : lo ≤ hi) (h2 : hi ≤ l.length) (m : Nat) (hm : hi - lo ≤ m ∧ m ≤ maxLen) :
    VV X w (.slice (oa.map (·.add (lo * n))) (hi - lo) m) (.slc n ((l.take hi).drop lo)) := by
  have hlen : ((l.take hi).drop lo).length = hi - lo := by simp [Nat.min_eq_left h2]
  generalize hp : PV.slc n l = p at h
  generalize hv : Value.slice oa l.length cap = v at h
  cases h with
  | int | bool | str => cases hp
  | emp oa' n' hcap =>
    cases hp
    simp at h2
    subst h2
    have : lo = 0 := by omega
    subst this
    simpa using VV.emp (X := X) (w := w) (oa.map (·.add (0 * n))) n hm.2
  | @slc b off cap' n' cs l' hb hc hr h3 h4 =>
    cases hp
    cases hv
    rw [← hlen]
    simp only [Option.map_some, Addr.add_lit]
    refine .slc (cs := (cs.take (hi * n)).drop (lo * n)) hb ?_ ((hr.take hi).drop lo) (by rw [hlen]; exact hm.1) ⟨hm.2, by have := h4.2; omega⟩
    exact drop_cells (take_cells hc)
end
end Go.Proofs.YtjkfmihbmkbjfaaGreat
