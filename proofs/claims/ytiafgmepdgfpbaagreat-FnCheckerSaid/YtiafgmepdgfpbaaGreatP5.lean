/- Texts of this proof, put together by a program: Ev, Ex, Ey, Eva, Evb, Tw, Clr, Inr, Ins, Df, Eua, Eub, Gb, Cua, Cub, Cuc, Cud, Vsa, Vs, Drl, Dra, Drs, Ixa, Eli, Wk, Ixd. -/
import Derived.Test.YtiafgmepdgfpbaaGreatP4
import Derived.KernelRfl
import Derived.Laws.Externs
import Derived.Lib.AppendZerosOnto
import Derived.Deep.RegionLaw
set_option linter.unusedVariables false
set_option linter.unusedSimpArgs false
namespace Go.Proofs.YtiafgmepdgfpbaaGreat
section
section
variable {φ : Type} (fs : List φ) (idOf : φ → Int)
def sel (p : φ → Bool) : List Int := (fs.filter p).map idOf
theorem Tu {p q : φ → Bool} : ∀ (l : List φ), (∀ f, f ∈ l → p f = true → q f = true) → (l.filter p).length ≤ (l.filter q).length ∧ ((l.filter q).length ≤ (l.filter p).length → l.filter p = l.filter q)
  | [], _ => ⟨Nat.le_refl _, fun _ => rfl⟩
  | f :: l, h => by
    obtain ⟨h1, h2⟩ := Tu l fun g hg => h g (List.mem_cons_of_mem _ hg)
    have h0 := h f (List.mem_cons_self ..)
    cases hp : p f with
    | true =>
      have hq := h0 hp
      simp only [List.filter_cons, hp, hq, if_true, List.length_cons]
      exact ⟨by omega, fun hl => by rw [h2 (by omega)]⟩
    | false =>
      cases hq : q f with
      | true =>
        simp only [List.filter_cons, hp, hq, if_true, List.length_cons, Bool.false_eq_true, if_false]
        exact ⟨by omega, fun hl => absurd hl (by omega)⟩
      | false =>
        simp only [List.filter_cons, hp, hq, Bool.false_eq_true, if_false]
        exact ⟨h1, h2⟩
theorem sel_len (p : φ → Bool) : (sel fs idOf p).length ≤ fs.length := by
  unfold sel; rw [List.length_map]; exact List.length_filter_le _ _
variable {fs idOf}
theorem sel_grow {p q : φ → Bool} (h : ∀ f, f ∈ fs → p f = true → q f = true) (hn : sel fs idOf p ≠ sel fs idOf q) : (sel fs idOf p).length + 1 ≤ (sel fs idOf q).length := by
  obtain ⟨h1, h2⟩ := Tu fs h
  unfold sel at hn ⊢
  rw [List.length_map, List.length_map]
  refine Nat.lt_of_le_of_ne h1 fun e => hn ?_
  rw [h2 (by omega)]
theorem sel_sub {p q : φ → Bool} (h : ∀ f, f ∈ fs → p f = true → q f = true) {x : Int} (hx : x ∈ sel fs idOf p) : x ∈ sel fs idOf q := by
  unfold sel at hx ⊢
  obtain ⟨f, hf, rfl⟩ := List.mem_map.1 hx
  obtain ⟨h1, h2⟩ := List.mem_filter.1 hf
  exact List.mem_map.2 ⟨f, List.mem_filter.2 ⟨h1, h f h1 h2⟩, rfl⟩
end
abbrev CD := ByteArray × List Int
def GK (out : List CD) (k : Nat) (ids : List Int) : List CD := out.set k ((nth out k).1, ids)
theorem R8 {out : List CD} {k : Nat} (x : CD) (hk : k < out.length) (j : Nat) : nth (out.set k x) j = if j = k then x else nth out j := by
  unfold nth
  simp only [List.getD_eq_getElem?_getD, List.getElem?_set]
  by_cases h : k = j
  · subst h; simp [hk]
  simp [h, Ne.symm h]
theorem CN {out : List CD} {k : Nat} (ids : List Int) (hk : k < out.length) : (GK out k ids).map (·.1) = out.map (·.1) := by
  unfold GK
  rw [List.map_set]
  refine List.ext_getElem (by simp) fun i h1 h2 => ?_
  rw [List.getElem_set]
  split
  · rename_i h; subst h; simp [nth, List.getD, hk]
  rfl
def Tv (B : Nat) (act : Nat → Bool) : Nat → List CD → Nat
  | _, [] => 0
  | k, r :: l => (bif act k then B - r.2.length else 0) + Tv B act (k + 1) l
theorem GL (B : Nat) (act : Nat → Bool) : ∀ (l : List CD) (k : Nat), Tv B act k l ≤ l.length * B
  | [], k => by simp [Tv]
  | r :: l, k => by
    have := GL B act l (k + 1)
    simp only [Tv, List.length_cons, Nat.add_mul, Nat.one_mul]
    cases act k with
    | true => simp only [cond_true]; omega
    | false => simp only [cond_false]; omega
theorem AO (B : Nat) (act : Nat → Bool) (x : CD) : ∀ (l : List CD) (k i : Nat), i < l.length → act (k + i) = true → (nth l i).2.length + 1 ≤ x.2.length → x.2.length ≤ B → Tv B act k (l.set i x) + 1 ≤ Tv B act k l
  | [], k, i, hi, _, _, _ => by simp at hi
  | r :: l, k, 0, _, ha, h1, h2 => by
    have e : nth (r :: l) 0 = r := rfl
    rw [e] at h1
    rw [Nat.add_zero] at ha
    simp only [List.set, Tv, ha, cond_true]
    omega
  | r :: l, k, i + 1, hi, ha, h1, h2 => by
    have := AO B act x l (k + 1) i (by simpa using hi) (by rwa [show k + 1 + i = k + (i + 1) by omega]) h1 h2
    simp only [List.set, Tv]
    omega
section
variable {φ : Type} {fs : List φ} {idOf : φ → Int} (m : Nat → List CD → φ → Bool) (act : Nat → Bool)
def LeC (a b : List CD) : Prop := ∀ j, (∀ x, x ∈ (nth a j).2 → x ∈ (nth b j).2) ∧ (act j = false → (nth a j).2 = (nth b j).2)
variable (fs idOf)
def GoodC (out : List CD) : Prop := ∀ k, k < out.length → act k = true → ∃ p : φ → Bool, (nth out k).2 = sel fs idOf p ∧ ∀ f, f ∈ fs → p f = true → m k out f = true
def MonoC (nm : List ByteArray) : Prop := ∀ a b : List CD, a.map (·.1) = nm → b.map (·.1) = nm → LeC act a b → ∀ k, k < nm.length → act k = true → ∀ f, f ∈ fs → m k a f = true → m k b f = true
def Ok (s : List CD × Bool) (k : Nat) : List CD × Bool := bif act k then (if sel fs idOf (m k s.1) = (nth s.1 k).2 then s else (GK s.1 k (sel fs idOf (m k s.1)), true)) else s
def Ol (ks : List Nat) (s : List CD × Bool) : List CD × Bool := ks.foldl (Ok fs idOf m act) s
variable {fs idOf m act} {nm : List ByteArray}
structure StateC (fs : List φ) (idOf : φ → Int) (m : Nat → List CD → φ → Bool) (act : Nat → Bool) (nm : List ByteArray) (o out : List CD) : Prop where
  names : out.map (·.1) = nm
  good : GoodC fs idOf m act out
  rest : ∀ j, act j = false → nth out j = nth o j
theorem stepC_ok (hm : MonoC fs m act nm) {o : List CD} {s : List CD × Bool} (h : StateC fs idOf m act nm o s.1) {k : Nat} (hk : k < nm.length) :
    StateC fs idOf m act nm o (Ok fs idOf m act s k).1 ∧ Tv fs.length act 0 (Ok fs idOf m act s k).1 ≤ Tv fs.length act 0 s.1 ∧ ((Ok fs idOf m act s k).2 = true → s.2 = true ∨ Tv fs.length act 0 (Ok fs idOf m act s k).1 + 1 ≤ Tv fs.length act 0 s.1) := by
  unfold Ok
  cases ha : act k with
  | false => exact ⟨h, Nat.le_refl _, .inl⟩
  | true =>
    simp only [cond_true]
    split
    · exact ⟨h, Nat.le_refl _, .inl⟩
    rename_i hne
    have hlen : nm.length = s.1.length := by rw [← h.names, List.length_map]
    have hk' : k < s.1.length := by omega
    obtain ⟨p, hp1, hp2⟩ := h.good k hk' ha
    rw [hp1] at hne
    have hgrow := sel_grow (idOf := idOf) hp2 (Ne.symm hne)
    have hnames : (GK s.1 k (sel fs idOf (m k s.1))).map (·.1) = nm := by rw [CN _ hk', h.names]
    have hle : LeC act s.1 (GK s.1 k (sel fs idOf (m k s.1))) := fun j => by
      unfold GK
      rw [R8 _ hk']
      by_cases hj : j = k
      · subst hj
        rw [if_pos rfl]
        exact ⟨fun x hx => sel_sub hp2 (hp1 ▸ hx), fun hf => absurd ha (by simp [hf])⟩
      rw [if_neg hj]
      exact ⟨fun _ hx => hx, fun _ => rfl⟩
    have hmono := hm _ _ h.names hnames hle
    have hr : Tv fs.length act 0 (GK s.1 k (sel fs idOf (m k s.1))) + 1 ≤ Tv fs.length act 0 s.1 :=
      AO _ _ _ _ 0 k hk' (by rw [Nat.zero_add]; exact ha) (by rw [hp1]; exact hgrow) (sel_len _ _ _)
    refine ⟨⟨hnames, fun j hj hja => ?_, fun j hj => ?_⟩, Nat.le_of_succ_le hr, fun _ => .inr hr⟩
    · have hj' : j < s.1.length := by unfold GK at hj; rwa [List.length_set] at hj
      by_cases e : j = k
      · subst e
        refine ⟨m j s.1, ?_, fun f hf hmf => hmono j (by omega) hja f hf hmf⟩
        unfold GK; rw [R8 _ hk', if_pos rfl]
      obtain ⟨p', h1, h2⟩ := h.good j hj' hja
      refine ⟨p', ?_, fun f hf hpf => hmono j (by omega) hja f hf (h2 f hf hpf)⟩
      unfold GK; rw [R8 _ hk', if_neg e]; exact h1
    have e : j ≠ k := fun e => absurd ha (by simp [← e, hj])
    unfold GK; rw [R8 _ hk', if_neg e]; exact h.rest j hj
theorem AP (hm : MonoC fs m act nm) {o : List CD} : ∀ (ks : List Nat) (s : List CD × Bool), (∀ k, k ∈ ks → k < nm.length) → StateC fs idOf m act nm o s.1 →
    StateC fs idOf m act nm o (Ol fs idOf m act ks s).1 ∧ Tv fs.length act 0 (Ol fs idOf m act ks s).1 ≤ Tv fs.length act 0 s.1 ∧ ((Ol fs idOf m act ks s).2 = true → s.2 = true ∨ Tv fs.length act 0 (Ol fs idOf m act ks s).1 + 1 ≤ Tv fs.length act 0 s.1)
  | [], s, _, h => ⟨h, Nat.le_refl _, .inl⟩
  | k :: ks, s, hks, h => by
    obtain ⟨h1, h2, h3⟩ := stepC_ok hm h (hks k (List.mem_cons_self ..))
    obtain ⟨g1, g2, g3⟩ := AP hm ks _ (fun j hj => hks j (List.mem_cons_of_mem _ hj)) h1
    refine ⟨g1, Nat.le_trans g2 h2, fun hc => ?_⟩
    rcases g3 hc with hc | hc
    · rcases h3 hc with hc | hc
      · exact .inl hc
      exact .inr (Nat.le_trans (Nat.add_le_add_right g2 1) hc)
    exact .inr (Nat.le_trans hc h2)
theorem whlC {R S T : Type} {F : S → Rd R S T} {out : S → List CD} {ch : S → Bool} {n : Nat} (hn : n = nm.length)
    (hF : ∀ s, ch s = true → ∃ s', F s = .next s' ∧ (out s', ch s') = Ol fs idOf m act (List.range n) (out s, false))
    (hE : ∀ s, ch s = false → ∃ t, F s = .brk t)
    (hm : MonoC fs m act nm) {o : List CD} : ∀ (k : Nat) (s : S), StateC fs idOf m act nm o (out s) → Tv fs.length act 0 (out s) + (bif ch s then 2 else 1) ≤ k →
    ∃ s', StateC fs idOf m act nm o (out s') ∧ ch s' = false ∧ ∃ t, F s' = .brk t ∧ whl F k s = some (.brk t)
  | 0, s, _, hk => by cases hc : ch s <;> simp [hc] at hk
  | k + 1, s, h, hk => by
    cases hc : ch s with
    | false =>
      obtain ⟨t, ht⟩ := hE s hc
      exact ⟨s, h, hc, t, ht, by simp only [whl, ht]⟩
    | true =>
      rw [hc] at hk
      simp only [cond_true] at hk
      obtain ⟨s', h1, h2⟩ := hF s hc
      obtain ⟨g1, g2, g3⟩ := AP hm (o := o) (List.range n) (out s, false) (fun j hj => by rw [← hn]; exact List.mem_range.1 hj) h
      rw [← h2] at g1 g2 g3
      simp only [whl, h1]
      refine whlC hn hF hE hm k s' g1 ?_
      simp only [Bool.false_eq_true, false_or] at g3
      cases hc' : ch s' with
      | false => simp only [cond_false]; have : Tv fs.length act 0 (out s') ≤ Tv fs.length act 0 (out s) := g2; omega
      | true => simp only [cond_true]; have : Tv fs.length act 0 (out s') + 1 ≤ Tv fs.length act 0 (out s) := g3 hc'; omega
end
/-! ### a slice that is nil, handed on -/
open Go.RowKit in
def ArgLe (a b : AV) : Prop := ∀ (J : Inj) (w : World) (v : Value), AR J w v a → AR J w v b
theorem ArgLe.rfl (a : AV) : ArgLe a a := fun _ _ _ h => h
theorem ArgLe.nil (n : Nat) : ArgLe (.one (.slc .sh 0 [])) (.one (.slc .sh n [])) := fun J w v h => by
  have h' : VV J.F w v (.slc 0 []) := h
  show VV J.F w v (.slc n [])
  generalize hp : PV.slc 0 ([] : List (List PV)) = p at h'
  cases h' with
  | int | bool | str | any | raw => cases hp
  | emp oa m hc => exact .emp oa n hc
  | @slc b off cap m cs l hx hcells hr hle hcap =>
    cases hp
    exact .emp _ n hcap.1
/-! ### a flat row of ours, handed back -/
end
section
open Go.RowKit
/-! ### each node but the last is named once -/
def Bu (n : X7) (c : Int) : Bool := ((n.2.1 == c) && (n.1 == 6 || n.1 == 7 || n.1 == 5)) || ((n.2.2.1 == c) && (n.1 == 6 || n.1 == 7))
theorem GM (c : Int) (k : Nat) (a : X7) (s : Int) (h0 : 0 ≤ s) (h1 : s ≤ 1000) : ∃ s', Ji c k a s = .next s' ∧ s + (bif Bu a c then 1 else 0) ≤ s' ∧ s' ≤ s + 2 := by
  have w1 : IntKind.i64.wrap (s + 1) = s + 1 := IntWalk.i64_in _ (by omega)
  have w2 : IntKind.i64.wrap (s + 1 + 1) = s + 1 + 1 := IntWalk.i64_in _ (by omega)
  unfold Ji Bu
  rw [w1, w2]
  cases (a.2.1 == c) <;> cases (a.2.2.1 == c) <;> cases (a.1 == 6) <;> cases (a.1 == 7) <;> cases (a.1 == 5) <;> exact ⟨_, rfl, by first | (simp; done) | (simp; omega) | omega, by omega⟩
theorem KZ (c : Int) : ∀ (l : List X7) (k : Nat) (s : Int), 0 ≤ s → s + 2 * l.length ≤ 1000 → ∃ s', Xp (Ji c) W0 l k s = .brk s' ∧ s + (l.filter fun n => Bu n c).length ≤ s'
  | [], k, s, _, _ => ⟨s, rfl, by simp⟩
  | a :: l, k, s, h0, h1 => by
    rw [List.length_cons] at h1
    obtain ⟨s1, e1, g1, g2⟩ := GM c k a s h0 (by omega)
    have hp : 0 ≤ s1 := by cases hb : Bu a c <;> (rw [hb] at g1; simp at g1; omega)
    obtain ⟨s2, e2, g3⟩ := KZ c l (k + 1) s1 hp (by omega)
    refine ⟨s2, by simp only [Xp, e1]; exact e2, ?_⟩
    rw [List.filter_cons]
    cases hb : Bu a c with
    | true => rw [hb] at g1; simp only [cond_true] at g1; simp only [if_true, List.length_cons]; omega
    | false => rw [hb] at g1; simp only [cond_false] at g1; simp only [Bool.false_eq_true, if_false]; omega
theorem two_of {α : Type} {p : α → Bool} {l : List α} {i j : Nat} {a b : α} (hij : i < j) (hi : l[i]? = some a) (hj : l[j]? = some b) (ha : p a = true) (hb : p b = true) : 2 ≤ (l.filter p).length := by
  have e : l = l.take j ++ l.drop j := (List.take_append_drop j l).symm
  rw [e, List.filter_append, List.length_append]
  have h1 : 1 ≤ ((l.take j).filter p).length := List.length_pos_of_mem (a := a) (List.mem_filter.2 ⟨List.mem_of_getElem? (i := i) (by rw [List.getElem?_take, if_pos hij]; exact hi), ha⟩)
  have h2 : 1 ≤ ((l.drop j).filter p).length := List.length_pos_of_mem (a := b) (List.mem_filter.2 ⟨List.mem_of_getElem? (i := 0) (by rw [List.getElem?_drop]; exact hj), hb⟩)
  omega
theorem vq_refs {q : List X7} (h : Qv q = true) {i : Nat} (hi : i + 1 < q.length) : Z7 q (i : Int) = 1 := by
  obtain ⟨⟨t, ht⟩, _⟩ := FO h
  have := N4 (fun k a t => by unfold Yu; generalize (_ || _ : Bool) = c; cases c <;> simp) ht i (nth q i) (Kh (by omega))
  unfold Yu at this
  rw [Nat.zero_add] at this
  have hd : decide (((i : Nat) : Int) < ((q.length : Int) - 1)) = true := decide_eq_true (by omega)
  rw [hd, Bool.true_and] at this
  cases hn : (Z7 q ((i : Nat) : Int) != (1 : Int)) with
  | false => exact V6 hn
  | true => rw [hn, Bool.or_true] at this; simp at this
theorem ref_once {q : List X7} (h : Qv q = true) {c i j : Nat} (hc : c + 1 < q.length) (hij : i < j) (hj : j < q.length) (h1 : Bu (nth q i) (c : Int) = true) (h2 : Bu (nth q j) (c : Int) = true) : False := by
  have hr := vq_refs h hc
  have hl := (Rf h).2
  obtain ⟨s, e, g⟩ := KZ (c : Int) q 0 0 (by omega) (by omega)
  unfold Z7 at hr
  rw [e] at hr
  have := two_of (p := fun n => Bu n (c : Int)) hij (Kh (by omega)) (Kh hj) h1 h2
  simp only [Out.on] at hr
  omega
theorem GN {q : List X7} (h : Qv q = true) {c i : Nat} (hi : i < q.length) (hr : Bu (nth q i) (c : Int) = true) : c < i := by
  obtain ⟨h1, h2⟩ := Cz h (k := (i : Int)) (by omega) (by omega)
  rw [Int.toNat_natCast] at h1 h2
  unfold Bu at hr
  simp only [Bool.or_eq_true, Bool.and_eq_true, beq_iff_eq] at hr
  rcases hr with ⟨e, hop⟩ | ⟨e, hop⟩
  · have := h1 (by omega); omega
  have := h2 (by omega); omega
/-! ### below a negation -/
theorem ZV {L : List Bool} {i : Nat} (x : Bool) (hi : i < L.length) (j : Nat) : nth (L.set i x) j = if j = i then x else nth L j := by
  unfold nth
  simp only [List.getD_eq_getElem?_getD, List.getElem?_set]
  by_cases h : i = j
  · subst h; simp [hi]
  simp [h, Ne.symm h]
theorem neg_step {q : List X7} (h : Qv q = true) {k : Nat} (hk : k < q.length) (s : List Bool) (hs : s.length = q.length) : ∃ s', Y3 q k s = .next s' ∧ s'.length = q.length ∧
    (∀ j : Nat, Bu (nth q (q.length - 1 - k)) (j : Int) = false → nth s' j = nth s j) ∧
    (∀ j : Nat, Bu (nth q (q.length - 1 - k)) (j : Int) = true → nth s' j = (nth s (q.length - 1 - k) || ((nth q (q.length - 1 - k)).1 == 5))) := by
  have hdn : Int.toNat (dn ((q.length : Int) - 1) k) = q.length - 1 - k := by rw [UG]; omega
  obtain ⟨hl, hr⟩ := Cz h (k := ((q.length - 1 - k : Nat) : Int)) (by omega) (by omega)
  rw [Int.toNat_natCast] at hl hr
  have hlt : q.length - 1 - k < s.length := by omega
  unfold Y3
  rw [hdn]
  generalize q.length - 1 - k = i at hl hr hlt ⊢
  generalize nth q i = n at hl hr ⊢
  generalize (nth s i || (n.1 == 5)) = b
  have both : ∀ (e5 : (n.1 == (5 : Int)) = false), (n.1 = 6 ∨ n.1 = 7) → (List.set (List.set s (Int.toNat n.2.1) b) (Int.toNat n.2.2.1) b).length = q.length ∧ (∀ j : Nat, Bu n (j : Int) = false → nth (List.set (List.set s (Int.toNat n.2.1) b) (Int.toNat n.2.2.1) b) j = nth s j) ∧ (∀ j : Nat, Bu n (j : Int) = true → nth (List.set (List.set s (Int.toNat n.2.1) b) (Int.toNat n.2.2.1) b) j = b) := fun e5 h67 => by
    obtain ⟨g1, g2⟩ := hl (.inr h67)
    obtain ⟨g3, g4⟩ := hr h67
    have hop : (n.1 == 6 || n.1 == 7) = true := by rcases h67 with e | e <;> simp [e]
    have hlen : (List.set s (Int.toNat n.2.1) b).length = s.length := List.length_set ..
    refine ⟨by rw [List.length_set, hlen, hs], fun j hj => ?_, fun j hj => ?_⟩
    · simp only [Bu, hop, Bool.true_or, Bool.and_true, Bool.or_eq_false_iff, beq_eq_false_iff_ne, ne_eq] at hj
      rw [Ec _ (by omega), Ec _ (by omega)]
    simp only [Bu, hop, Bool.true_or, Bool.and_true, Bool.or_eq_true, beq_iff_eq] at hj
    rw [ZV _ (by omega), ZV _ (by omega)]
    split
    · rfl
    rw [if_pos (by omega)]
  by_cases h5 : n.1 = 5
  · obtain ⟨g1, g2⟩ := hl (.inl h5)
    simp only [h5, beq_self_eq_true, cond_true]
    refine ⟨_, rfl, by rw [List.length_set, hs], fun j hj => ?_, fun j hj => ?_⟩
    · have : n.2.1 ≠ (j : Int) := by simpa [Bu, h5] using hj
      exact Ec _ (by omega)
    have : n.2.1 = (j : Int) := by simpa [Bu, h5] using hj
    rw [ZV _ (by omega), if_pos (by omega)]
  have e5 : (n.1 == (5 : Int)) = false := beq_eq_false_iff_ne.2 h5
  rw [e5, cond_false]
  by_cases h6 : n.1 = 6
  · simp only [h6, beq_self_eq_true, cond_true]
    exact ⟨_, rfl, both e5 (.inl h6)⟩
  by_cases h7 : n.1 = 7
  · simp only [h7, beq_self_eq_true, cond_true]
    exact ⟨_, rfl, both e5 (.inr h7)⟩
  have e6 : (n.1 == (6 : Int)) = false := beq_eq_false_iff_ne.2 h6
  have e7 : (n.1 == (7 : Int)) = false := beq_eq_false_iff_ne.2 h7
  rw [e6, e7, cond_false, cond_false]
  refine ⟨_, rfl, hs, fun _ _ => rfl, fun j hj => ?_⟩
  simp [Bu, e5, e6, e7] at hj
def GO (q : List X7) (k : Nat) (s : List Bool) : Prop := s.length = q.length ∧ ∀ i, q.length ≤ i + k → i < q.length → ∀ c : Nat, Bu (nth q i) (c : Int) = true → nth s c = (nth s i || ((nth q i).1 == 5))
theorem neg_next {q : List X7} (h : Qv q = true) {k : Nat} (hk : k < q.length) {s : List Bool} (hs : GO q k s) : ∃ s', Y3 q k s = .next s' ∧ GO q (k + 1) s' := by
  obtain ⟨s', h1, h2, h3, h4⟩ := neg_step h hk s hs.1
  have hself : nth s' (q.length - 1 - k) = nth s (q.length - 1 - k) := h3 _ (by
    cases hr : Bu (nth q (q.length - 1 - k)) ((q.length - 1 - k : Nat) : Int) with
    | false => rfl
    | true => have := GN h (by omega) hr; omega)
  refine ⟨s', h1, h2, fun i hi1 hi2 c hc => ?_⟩
  by_cases e : i = q.length - 1 - k
  · subst e
    rw [h4 c hc, hself]
  have hci := GN h hi2 hc
  have n1 : Bu (nth q (q.length - 1 - k)) (c : Int) = false := by
    cases hr : Bu (nth q (q.length - 1 - k)) (c : Int) with
    | false => rfl
    | true => exact (ref_once h (c := c) (i := q.length - 1 - k) (j := i) (by omega) (by omega) hi2 hr hc).elim
  have n2 : Bu (nth q (q.length - 1 - k)) (i : Int) = false := by
    cases hr : Bu (nth q (q.length - 1 - k)) (i : Int) with
    | false => rfl
    | true => have := GN h (by omega) hr; omega
  rw [h3 c n1, h3 i n2]
  exact hs.2 i (by omega) hi2 c hc
theorem AQ {q : List X7} (h : Qv q = true) : ∀ (n k : Nat) (s : List Bool), k + n = q.length → GO q k s → ∃ s', Ha (Y3 q) Wr n k s = .brk s' ∧ GO q q.length s'
  | 0, k, s, hk, hs => ⟨s, rfl, by rw [show k = q.length by omega] at hs; exact hs⟩
  | n + 1, k, s, hk, hs => by
    obtain ⟨s1, h1, h2⟩ := neg_next h (by omega) hs
    obtain ⟨s2, h3, h4⟩ := AQ h n (k + 1) s1 (by omega) h2
    exact ⟨s2, by simp only [Ha, h1]; exact h3, h4⟩
theorem AS {q : List X7} (h : Qv q = true) : GO q q.length (Xd q) := by
  unfold Xd
  obtain ⟨s, h1, h2⟩ := AQ h (List.length q) 0 (List.replicate (Int.toNat (q.length : Int)) false) (by omega) ⟨by simp, fun i h1 h2 => by omega⟩
  rw [h]
  simp only [Bool.not_true, cond_false, h1, Out.on]
  exact h2
theorem neg_name {q : List X7} {i : Nat} (hi : i < (Xd q).length) (hn : nth (Xd q) i = true) (hd : Y5 (nth q i) = true) : (nth q i).2.2.2.1 ∈ Xj q := by
  have key : ∀ (l : List Bool) (k : Nat) (s : List ByteArray), ∃ t, Xp (Jt q true) Vx l k s = .brk t ∧ (∀ x, x ∈ s → x ∈ t) ∧ ∀ j, l[j]? = some true → Y5 (nth q (k + j)) = true → (nth q (k + j)).2.2.2.1 ∈ t := by
    intro l
    induction l with
    | nil => intro k s; exact ⟨s, rfl, fun _ h => h, fun j h => by simp at h⟩
    | cons a l ih =>
      intro k s
      simp only [Xp, Jt]
      cases hc : (Y5 (nth q k) && (a == true)) with
      | true =>
        obtain ⟨t, h1, h2, h3⟩ := ih (k + 1) (s ++ [(nth q k).2.2.2.1])
        refine ⟨t, h1, fun x hx => h2 x (List.mem_append_left _ hx), fun j hj hnm => ?_⟩
        cases j with
        | zero => exact h2 _ (List.mem_append_right _ (by simp))
        | succ j =>
          have := h3 j (by simpa using hj) (by rwa [show k + 1 + j = k + (j + 1) by omega])
          rwa [show k + 1 + j = k + (j + 1) by omega] at this
      | false =>
        obtain ⟨t, h1, h2, h3⟩ := ih (k + 1) s
        refine ⟨t, h1, h2, fun j hj hnm => ?_⟩
        cases j with
        | zero =>
          obtain rfl : a = true := by simpa using hj
          rw [Nat.add_zero] at hnm
          rw [hnm] at hc; cases hc
        | succ j =>
          have := h3 j (by simpa using hj) (by rwa [show k + 1 + j = k + (j + 1) by omega])
          rwa [show k + 1 + j = k + (j + 1) by omega] at this
  unfold Xj Jy
  obtain ⟨t, h1, _, h3⟩ := key (Xd q) 0 []
  rw [h1]
  simp only [Out.on]
  have := h3 i (by rw [Kh hi, hn]) (by rwa [Nat.zero_add])
  rw [Nat.zero_add] at this
  exact ((Oa t).2 _).2 this
/-! ### what a node says -/
theorem ZW (l : List Int) (x : Int) : Vi l x = true ↔ x ∈ l := by
  unfold Vi Vu Ab
  have key : ∀ (l : List Int) (k : Nat), decide (((Xp (Jk x) Vt l k ()).on fun _ => -1) ≥ 0) = true ↔ x ∈ l := by
    intro l
    induction l with
    | nil => intro k; simp [Xp, Out.on, Vt]
    | cons a l ih =>
      intro k
      by_cases h : x = a
      · subst h; simp [Xp, Jk, Out.on]
      have e1 : (x == a) = false := beq_eq_false_iff_ne.2 h
      simp only [Xp, Jk, e1, cond_false]
      rw [ih (k + 1)]
      simp [h]
  exact key l 0
structure Seen (q : List X7) (a b : List Qp) : Prop where
  grow : ∀ nm x, x ∈ X5 a nm → x ∈ X5 b nm
  same : ∀ nm, nm ∈ Xj q → X5 a nm = X5 b nm
theorem XZ {q : List X7} (hv : Qv q = true) {a b : List Qp} (hs : Seen q a b) (f : X9) : ∀ (n : Nat) (k : Nat), k < n → k < q.length →
    (nth (Xd q) k = true → Xq n q (k : Int) f a = Xq n q (k : Int) f b) ∧ (Xq n q (k : Int) f a = true → Xq n q (k : Int) f b = true)
  | 0, _, h, _ => absurd h (by omega)
  | n + 1, k, hkn, hk => by
    obtain ⟨hl, hr⟩ := Cz hv (k := (k : Int)) (by omega) (by omega)
    rw [Int.toNat_natCast] at hl hr
    obtain ⟨hlen, hneg⟩ := AS hv
    have hneg := hneg k (by omega) hk
    have hop := vn_op (ZH hv (Kh hk))
    have hnm := neg_name (q := q) (i := k) (by omega)
    have ih := XZ hv hs f n
    unfold Xq
    rw [Int.toNat_natCast]
    generalize nth q k = m at hl hr hneg hop hnm ⊢
    have kid : ∀ c : Int, 0 ≤ c → c < (k : Int) → Bu m c = true → ((nth (Xd q) k || (m.1 == 5)) = true → Xq n q c f a = Xq n q c f b) ∧ (Xq n q c f a = true → Xq n q c f b = true) := fun c h0 h1 hrf => by
      obtain ⟨j, rfl⟩ : ∃ j : Nat, c = (j : Int) := ⟨Int.toNat c, by omega⟩
      obtain ⟨g1, g2⟩ := ih j (by omega) (by omega)
      exact ⟨fun hn => g1 ((hneg j hrf).trans hn), g2⟩
    rcases hop with h | h | h | h | h | h | h | h | h
    · simp [h]
    · simp [h]
    · simp [h]
    · simp [h]
    · obtain ⟨k1, k2⟩ := hl (.inl h)
      obtain ⟨g1, _⟩ := kid m.2.1 k1 k2 (by simp [Bu, h])
      have := g1 (by simp [h])
      simp [h, this]
    · obtain ⟨k1, k2⟩ := hl (.inr (.inl h))
      obtain ⟨k3, k4⟩ := hr (.inl h)
      obtain ⟨g1, g2⟩ := kid m.2.1 k1 k2 (by simp [Bu, h])
      obtain ⟨g3, g4⟩ := kid m.2.2.1 k3 k4 (by simp [Bu, h])
      refine ⟨fun hn => ?_, fun hm => ?_⟩
      · simp [h, g1 (by simp [hn]), g3 (by simp [hn])]
      simp [h] at hm ⊢
      exact ⟨g2 hm.1, g4 hm.2⟩
    · obtain ⟨k1, k2⟩ := hl (.inr (.inr h))
      obtain ⟨k3, k4⟩ := hr (.inr h)
      obtain ⟨g1, g2⟩ := kid m.2.1 k1 k2 (by simp [Bu, h])
      obtain ⟨g3, g4⟩ := kid m.2.2.1 k3 k4 (by simp [Bu, h])
      refine ⟨fun hn => ?_, fun hm => ?_⟩
      · simp [h, g1 (by simp [hn]), g3 (by simp [hn])]
      simp [h] at hm ⊢
      exact hm.imp g2 g4
    · refine ⟨fun hn => ?_, fun hm => ?_⟩
      · simp [h, hs.same _ (hnm hn (by simp [Y5, h]))]
      simp [h] at hm ⊢
      exact (ZW _ _).2 (hs.grow _ _ ((ZW _ _).1 hm))
    refine ⟨fun hn => ?_, fun hm => ?_⟩
    · simp [h, hs.same _ (hnm hn (by simp [Y5, h]))]
    simp [h] at hm ⊢
    exact ⟨hm.1, (ZW _ _).2 (hs.grow _ _ ((ZW _ _).1 hm.2))⟩
theorem VB {q : List X7} {a b : List Qp} (hs : Seen q a b) (f : X9) (h : Kk q f a = true) : Kk q f b = true := by
  unfold Kk at h ⊢
  cases hv : Qv q with
  | false => rw [hv] at h; cases h
  | true =>
    rw [hv, Bool.true_and] at h
    rw [Bool.true_and]
    have hl := Rf hv
    have e : ((q.length : Int) - 1) = ((q.length - 1 : Nat) : Int) := by omega
    rw [e] at h ⊢
    exact (XZ hv hs f q.length (q.length - 1) (by omega) (by omega)).2 h
theorem YA (s : Xo) (q : List X7) (r : List Qp) : Yp s q r = sel s.2.1 (fun f => f.1) fun f => Kk q f r := by
  unfold Yp
  rw [Ek (f := Ue q r) (p := fun f => Kk q f r) (g := fun f => f.1) (fun _ _ _ => rfl)]
  rfl
/-! ### strata that hold -/
theorem F5 {d : List Ys} {L : List Int} (h : Qz d = (L, true)) : Y7 d = true ∧ L.length = d.length ∧ Sat (Jh d) d.length L ∧ ∀ j, 0 ≤ nth L j := by
  unfold Qz at h
  cases hv : Y7 d with
  | false => rw [hv] at h; simp at h
  | true =>
    rw [hv] at h
    simp only [Bool.not_true, cond_false] at h
    have h5 := Ep hv
    have hw := F3 (d := d) (f := Ub d) (e := Uc) (F := Vh d) (fun _ _ _ => rfl) (fun _ _ => rfl) (fun _ => rfl) (by omega) (d.length * d.length + 3) (List.replicate d.length 0) true (Bi _).1 (Bi _).2
    have hsome : (Pu (Jh d) d.length d.length (d.length * d.length + 3) (true, List.replicate d.length 0)).isSome = true := by
      have := Dp d h5
      rw [Int.toNat_natCast, hw, Option.isSome_map] at this
      exact this
    obtain ⟨r, hr⟩ := Option.isSome_iff_exists.1 hsome
    unfold E6 at h
    rw [Int.toNat_natCast, hw, hr] at h
    have hw' : ∀ i e, e ∈ Jh d i → e.2 ≤ 1 ∧ e.1 < d.length := fun i e he => ⟨(I4 d i e he).1, (I4 d i e he).2.1⟩
    obtain ⟨h1, _⟩ := R3 hw' _ 0 true r (fun e => by cases e) hr
    cases r with
    | none => simp [endD, Out.on] at h
    | some M =>
      have e : M = L := by simpa [endD, Out.on] using h
      subst e
      obtain ⟨hrest, hM⟩ := h1 M rfl
      rw [hM]
      exact ⟨rfl, V7 _ _ _, Od (V7 _ _ _) hrest, fun j => H6 _ _ j _⟩
theorem GP {d : List Ys} {L : List Int} (h : Qz d = (L, true)) : ∀ j, nth L j ≤ (d.length : Int) := by
  obtain ⟨hv, hlen, _, _⟩ := F5 h
  have h5 := Ep hv
  unfold Qz at h
  rw [hv] at h
  simp only [Bool.not_true, cond_false] at h
  have hw := F3 (d := d) (f := Ub d) (e := Uc) (F := Vh d) (fun _ _ _ => rfl) (fun _ _ => rfl) (fun _ => rfl) (by omega) (d.length * d.length + 3) (List.replicate d.length 0) true (Bi _).1 (Bi _).2
  have hsome : (Pu (Jh d) d.length d.length (d.length * d.length + 3) (true, List.replicate d.length 0)).isSome = true := by
    have := Dp d h5
    rw [Int.toNat_natCast, hw, Option.isSome_map] at this
    exact this
  obtain ⟨r, hr⟩ := Option.isSome_iff_exists.1 hsome
  unfold E6 at h
  rw [Int.toNat_natCast, hw, hr] at h
  have hw' : ∀ i e, e ∈ Jh d i → e.2 ≤ 1 ∧ e.1 < d.length := fun i e he => ⟨(I4 d i e he).1, (I4 d i e he).2.1⟩
  obtain ⟨h1, _⟩ := R3 hw' _ 0 true r (fun e => by cases e) hr
  cases r with
  | none => simp [endD, Out.on] at h
  | some M =>
    have e : M = L := by simpa [endD, Out.on] using h
    subst e
    obtain ⟨hrest, hM⟩ := h1 M rfl
    intro j
    by_cases hj : j < d.length
    · rw [hM]; exact Int.le_of_lt (UL hw' hrest j hj)
    have : nth M j = 0 := ZK (by omega)
    omega
theorem E8 {d : List Ys} {w : Int} {nm : ByteArray} : ∀ {l : List ByteArray}, nm ∈ l → 0 ≤ Xa d nm → (Int.toNat (Xa d nm), w) ∈ Ka d w l
  | x :: l, h, h0 => by
    simp only [Ka]
    rcases List.mem_cons.1 h with rfl | h
    · rw [if_pos h0]; exact List.mem_cons_self ..
    split
    · exact List.mem_cons_of_mem _ (E8 h h0)
    exact E8 h h0
theorem YB {d : List Ys} {L : List Int} (h : Qz d = (L, true)) {i : Nat} (hi : i < d.length) {nm : ByteArray} (hn : nm ∈ Xj (nth d i).2) (h0 : 0 ≤ Xa d nm) : nth L (Int.toNat (Xa d nm)) < nth L i := by
  obtain ⟨_, _, hs, _⟩ := F5 h
  have hm : (Int.toNat (Xa d nm), (1 : Int)) ∈ Jh d i := by
    unfold Jh
    rw [if_pos hi]
    exact List.mem_append_right _ (E8 hn h0)
  have := (Bc.1 (hs i hi)).2 _ hm
  simp only at this
  omega
theorem GQ (nm : ByteArray) : ∀ (d : List Ys) (o : List Qp) (k : Nat), o.map (·.1) = d.map (·.1) →
    (Xp (Q7 nm) Xu d k () = .brk () ∧ Xp (W3 nm) He o k () = .brk ()) ∨
    ∃ i : Nat, i < d.length ∧ Xp (Q7 nm) Xu d k () = .ret (((k + i : Nat)) : Int) ∧ Xp (W3 nm) He o k () = .ret (nth o i).2
  | [], [], _, _ => .inl ⟨rfl, rfl⟩
  | [], _ :: _, _, h => by simp at h
  | _ :: _, [], _, h => by simp at h
  | a :: d, b :: o, k, h => by
    simp only [List.map_cons, List.cons.injEq] at h
    obtain ⟨h1, h2⟩ := h
    simp only [Xp, Q7, W3, H9, h1]
    cases (a.1.toList == nm.toList) with
    | true => exact .inr ⟨0, by simp, rfl, rfl⟩
    | false =>
      simp only [cond_false]
      rcases GQ nm d o (k + 1) h2 with h | ⟨i, hi, h3, h4⟩
      · exact .inl h
      exact .inr ⟨i + 1, by simpa using hi, by rw [h3, show k + 1 + i = k + (i + 1) by omega], h4⟩
theorem Gu {d : List Ys} {o : List Qp} (h : o.map (·.1) = d.map (·.1)) (nm : ByteArray) : (Xa d nm < 0 ∧ X5 o nm = []) ∨ (0 ≤ Xa d nm ∧ Int.toNat (Xa d nm) < d.length ∧ X5 o nm = (nth o (Int.toNat (Xa d nm))).2) := by
  unfold Xa Zb X5
  rcases GQ nm d o 0 h with ⟨h1, h2⟩ | ⟨i, hi, h1, h2⟩
  · rw [h1, h2]
    refine .inl ⟨?_, ?_⟩
    · show (-1 : Int) < 0; omega
    rfl
  rw [h1, h2]
  simp only [Out.on, Nat.zero_add, Int.toNat_natCast]
  exact .inr ⟨by omega, hi, trivial⟩
abbrev P2 (d : List Ys) (k : Nat) (o : List Qp) (f : X9) : Bool := Kk (nth d k).2 f o
theorem mono_ok {d : List Ys} {L : List Int} (h : Qz d = (L, true)) (fs : List X9) {act : Nat → Bool} {level : Int} (ha : ∀ k, act k = true → nth L k = level) : MonoC fs (P2 d) act (d.map (·.1)) := by
  intro a b hna hnb hle k hk hact f _ hm
  rw [List.length_map] at hk
  refine VB (⟨fun nm x hx => ?_, fun nm hn => ?_⟩ : Seen (nth d k).2 a b) f hm
  · rcases Gu hna nm with ⟨h1, h2⟩ | ⟨h1, h2, h3⟩
    · rw [h2] at hx; simp at hx
    rcases Gu hnb nm with ⟨g1, _⟩ | ⟨_, _, g3⟩
    · omega
    rw [h3] at hx
    rw [g3]
    exact (hle _).1 x hx
  rcases Gu hna nm with ⟨h1, h2⟩ | ⟨h1, h2, h3⟩
  · rcases Gu hnb nm with ⟨_, g2⟩ | ⟨g1, _, _⟩
    · rw [h2, g2]
    omega
  rcases Gu hnb nm with ⟨g1, _⟩ | ⟨_, _, g3⟩
  · omega
  rw [h3, g3]
  refine (hle _).2 ?_
  have hlt := YB h hk hn h1
  cases hp : act (Int.toNat (Xa d nm)) with
  | false => rfl
  | true => have := ha _ hp; have := ha _ hact; omega
structure EvS (d : List Ys) (L : List Int) (on : Nat → Bool) (fs : List X9) (k : Int) (o : List Qp) : Prop where
  names : o.map (·.1) = d.map (·.1)
  none : ∀ j, k ≤ nth L j → on j = true → (nth o j).2 = []
  some_ : ∀ j, j < d.length → on j = true → ∃ p : X9 → Bool, (nth o j).2 = sel fs (fun f => f.1) p
def R9 (L : List Int) (on : Nat → Bool) (k : Int) (j : Nat) : Bool := (nth L j == k) && on j
theorem GR {d : List Ys} {L : List Int} {on : Nat → Bool} {fs : List X9} {k : Int} {o : List Qp} (h : EvS d L on fs k o) : StateC fs (fun f : X9 => f.1) (P2 d) (R9 L on k) (d.map (·.1)) o o :=
  ⟨h.names, fun j _ hj => ⟨fun _ => false, by
    unfold R9 at hj
    simp only [Bool.and_eq_true, beq_iff_eq] at hj
    rw [h.none j (by omega) hj.2]; simp [sel], fun f _ hf => by cases hf⟩, fun _ _ => rfl⟩
theorem evS_next {d : List Ys} {L : List Int} {on : Nat → Bool} {k : Int} {o o' : List Qp} {fs : List X9} (h : EvS d L on fs k o) (h' : StateC fs (fun f : X9 => f.1) (P2 d) (R9 L on k) (d.map (·.1)) o o') : EvS d L on fs (k + 1) o' :=
  ⟨h'.names, fun j hj hon => by
    rw [h'.rest j (by unfold R9; rw [Bool.and_eq_false_iff]; exact .inl (beq_eq_false_iff_ne.2 (by omega)))]
    exact h.none j (by omega) hon, fun j hj hon => by
    cases ha : R9 L on k j with
    | false => rw [h'.rest j ha]; exact h.some_ j hj hon
    | true =>
      have hlen : o'.length = d.length := by have := congrArg List.length h'.names; simpa using this
      obtain ⟨p, hp, _⟩ := h'.good j (by omega) ha
      exact ⟨p, hp⟩⟩
theorem P3 {d : List Ys} {L : List Int} {on : Nat → Bool} {fs : List X9} {k : Int} {o : List Qp} (h : EvS d L on fs k o) : List.length o = List.length d := by have := congrArg List.length h.names; simpa using this
theorem AT (a b : List Int) : Yx a b = decide (a = b) := by
  by_cases h : a.length = b.length
  · exact GJ a b h
  have hb : ((a.length : Int) != (b.length : Int)) = true := by simpa using fun e : (a.length : Int) = (b.length : Int) => h (by omega)
  unfold Yx
  rw [hb, decide_eq_false (fun e => h (congrArg List.length e))]
  rfl
def StepE (s : Xo) (d : List Ys) (L : List Int) (on : Nat → Bool) (lv : Int) {R T : Type} (f : Nat → Ys → List Qp × Bool → Rd R (List Qp × Bool) T) : Prop :=
  ∀ k a o c, d[k]? = some a → f k a (o, c) = bif R9 L on lv k then (bif !(decide (Yp s a.2 o = (nth o k).2)) then .next (List.set o k ((nth o k).1, Yp s a.2 o), true) else .next (o, c)) else .next (o, c)
theorem P4 {R : Type} {s : Xo} {d : List Ys} {L : List Int} {on : Nat → Bool} {lv : Int} {f : Nat → Ys → List Qp × Bool → Rd R (List Qp × Bool) (List Qp × Bool)} {e : Nat → List Qp × Bool → List Qp × Bool}
    (hf : StepE s d L on lv f) (he : ∀ k s, e k s = s) : ∀ (l : List Ys) (k : Nat) (o : List Qp) (c : Bool), d.drop k = l → Xp f e l k (o, c) = .brk (Ol s.2.1 (fun f : X9 => f.1) (P2 d) (R9 L on lv) (List.range' k l.length) (o, c))
  | [], k, o, c, _ => by simp [Xp, Ol, he]
  | a :: l, k, o, c, hl => by
    have hk : d[k]? = some a := by
      have := congrArg (·[0]?) hl
      simpa using this
    have ha : nth d k = a := Iw hk
    have hrest : d.drop (k + 1) = l := by rw [← List.drop_drop, hl]; rfl
    have hp : Ol s.2.1 (fun f : X9 => f.1) (P2 d) (R9 L on lv) (List.range' k (a :: l).length) (o, c) = Ol s.2.1 (fun f : X9 => f.1) (P2 d) (R9 L on lv) (List.range' (k + 1) l.length) (Ok s.2.1 (fun f : X9 => f.1) (P2 d) (R9 L on lv) (o, c) k) := by
      rw [List.length_cons, List.range'_succ]; rfl
    have hsel : sel s.2.1 (fun f : X9 => f.1) (P2 d k o) = Yp s a.2 o := by rw [YA, ← ha]
    rw [hp]
    simp only [Xp, hf k a o c hk]
    unfold Ok
    cases R9 L on lv k with
    | false => simp only [cond_false]; exact P4 hf he l (k + 1) o c hrest
    | true =>
      simp only [cond_true, hsel]
      by_cases hq : Yp s a.2 o = (nth o k).2
      · rw [decide_eq_true hq, if_pos hq]; exact P4 hf he l (k + 1) o c hrest
      rw [decide_eq_false hq, if_neg hq]; exact P4 hf he l (k + 1) _ true hrest
theorem ev_run {R' : Type} {s : Xo} {d : List Ys} {L : List Int} {on : Nat → Bool} {lv : Int} {f : Nat → Ys → List Qp × Bool → Rd (Rd R' (List Qp × Int × Bool) (List Qp × Int)) (List Qp × Bool) (List Qp × Bool)} {e : Nat → List Qp × Bool → List Qp × Bool} {F : List Qp × Int × Bool → Rd R' (List Qp × Int × Bool) (List Qp × Int)}
    (hf : StepE s d L on lv f) (he : ∀ k s, e k s = s) (hF : ∀ x, F x = bif x.2.2 then (Out.on (Xp f e d 0 (x.1, false)) fun y => .next (y.1, IntKind.i64.wrap (x.2.1 + 1), y.2)) else .brk (x.1, x.2.1))
    (hS : Qz d = (L, true)) {o : List Qp} (h : EvS d L on s.2.1 lv o) (p : Int) :
    ∃ o' p', whl F (List.length d * List.length s.2.1 + 2) (o, p, true) = some (.brk (o', p')) ∧ EvS d L on s.2.1 (lv + 1) o' := by
  have hlen : o.length = d.length := by have := congrArg List.length h.names; simpa using this
  have hroom := GL s.2.1.length (R9 L on lv) o 0
  rw [hlen] at hroom
  obtain ⟨s', h1, hc, t, h2, h3⟩ := whlC (fs := s.2.1) (idOf := fun f : X9 => f.1) (m := P2 d) (act := R9 L on lv) (nm := d.map (·.1)) (F := F) (out := fun x => x.1) (ch := fun x => x.2.2) (n := d.length) (by simp)
    (fun x hx => ⟨_, by rw [hF, hx, cond_true, P4 hf he d 0 x.1 false rfl]; rfl, by rw [List.range_eq_range']⟩)
    (fun x hx => ⟨_, by rw [hF, hx, cond_false]⟩) (mono_ok hS s.2.1 fun k hk => by unfold R9 at hk; simp only [Bool.and_eq_true, beq_iff_eq] at hk; exact hk.1) (o := o) (List.length d * List.length s.2.1 + 2) (o, p, true) (GR h) (by simp only [cond_true]; omega)
  have hc' : s'.2.2 = false := hc
  have hb : F s' = .brk (s'.1, s'.2.1) := by rw [hF, hc']; rfl
  rw [hb] at h2
  cases h2
  exact ⟨s'.1, s'.2.1, h3, evS_next h h1⟩
theorem Sa {R T : Type} {d : List Ys} {L : List Int} {on : Nat → Bool} {fs : List X9} {g : Ys → List Int} {f : Nat → Ys → List Qp → Rd R (List Qp) T} {e : Nat → List Qp → T} (hf : ∀ k a s, f k a s = .next (s ++ [(a.1, g a)])) (hg : ∀ j, j < d.length → on j = true → g (nth d j) = []) :
    Xp f e d 0 [] = .brk (e d.length (d.map fun a => (a.1, g a))) ∧ EvS d L on fs 0 (d.map fun a => (a.1, g a)) := by
  refine ⟨by rw [Gn (g := fun a => ((a.1, g a) : Qp)) hf]; simp, ?_, fun j _ hj => ?_, fun j hj hon => ?_⟩
  · rw [List.map_map]; rfl
  · by_cases hjl : j < d.length
    · have : nth (d.map fun a => ((a.1, g a) : Qp)) j = ((nth d j).1, g (nth d j)) := by simp [nth, List.getD, hjl]
      rw [this]; exact hg j hjl hj
    have : nth (d.map fun a => ((a.1, g a) : Qp)) j = default := by simp [nth, List.getD, hjl]
    rw [this]; rfl
  have : nth (d.map fun a => ((a.1, g a) : Qp)) j = ((nth d j).1, g (nth d j)) := by simp [nth, List.getD, hj]
  exact ⟨fun _ => false, by rw [this, hg j hj hon]; simp [sel]⟩
theorem I7 {d : List Ys} (h : ((Qz d)).2 = true) : List.length ((Qz d)).1 = List.length d ∧ List.length d ≤ 5 ∧ ∀ x, x ∈ ((Qz d)).1 → 0 ≤ x ∧ x ≤ 5 := by
  have hS : Qz d = ((Qz d).1, true) := Prod.ext rfl h
  obtain ⟨hv, hlen, hs, h0⟩ := F5 hS
  have h5 := Ep hv
  refine ⟨hlen, h5, fun x hx => ?_⟩
  obtain ⟨i, hi, rfl⟩ := ZM hx
  refine ⟨h0 i, ?_⟩
  have hb := GP hS i
  omega
open GoE (enc wide)
def I8 (_ : Nat) (a0 : Ys) (s0 : (List ByteArray)) : Rd ((List ByteArray)) ((List ByteArray)) ((List ByteArray)) := (.next (s0 ++ [a0.1]))
def I9 (_ : Nat) (s0 : (List ByteArray)) : (List ByteArray) := s0
def Yg (d : (List Ys)) : (List ByteArray) := (Out.on (Xp I8 I9 d 0 []) (fun y0 => y0))
def Ac (v : ByteArray) (k0 : Nat) (a0 : ByteArray) (_ : Unit) : Rd (Int) (Unit) (Unit) := (bif (v.toList == a0.toList) then (.ret ((k0 : Nat) : Int)) else (.next ()))
def Dq (_ : Nat) (_ : Unit) : Unit := ()
def E9 (s_ : (List ByteArray)) (v : ByteArray) : Int := (Out.on (Xp (Ac v) Dq s_ 0 ()) (fun _ => -1))
def Yy (s_ : (List ByteArray)) (v : ByteArray) : Bool := decide ((E9 s_ v) ≥ (0 : Int))
def Dy (x : (List Int)) (k0 : Nat) (s0 : Int) : Rd (Int) (Int) (Int) := (.next (max s0 (nth x (k0 + 1))))
def G7 (_ : Nat) (s0 : Int) : Int := s0
def Om (x : (List Int)) : Int := (Out.on (Ha (Dy x) G7 (x.length - 1) 0 (nth x 0)) (fun y0 => y0))
def Um (d : (List Ys)) : Int := (bif ((!(((Qz d)).2)) || (((((Qz d)).1).length : Int) == (0 : Int))) then -1 else (Om (((Qz d)).1)))
def Kw (s2_ : (List Int)) (k0 : Nat) (a0 : Int) (_ : Unit) : Rd (Bool) (Unit) (Unit) := (bif (a0 != (nth s2_ k0)) then (.ret false) else (.next ()))
def Uf (_ : Nat) (_ : Unit) : Unit := ()
def Zq (s1_ : (List Int)) (s2_ : (List Int)) : Bool := (bif ((s1_.length : Int) != (s2_.length : Int)) then false else (Out.on (Xp (Kw s2_) Uf s1_ 0 ()) (fun _ => true)))
theorem F6 (s1_ : (List Int)) (s2_ : (List Int)) : ACalls Tryz.prog 28 [.h s1_, .h s2_] (.b (Zq s1_ s2_)) := by
 refine en Qa Tryz.func28 fun w0 F0 hG => ?_
 refine sn Qa [0, 1, 4] [] (p0) ?_
 refine Qc ?_
 refine tn Qa [0, 1, 4, 10] [] (pl 1 s1_ (pl 3 s2_ p0)) ?_
 refine ck ((s1_.length : Int) != (s2_.length : Int)) (fun h1 => ?_) (fun h1 => ?_)
 ·
  refine tu Qa [(4, .b false)] [] [] [] (p0) ?_
  refine Qe ?_
  exact pb [] (Q1 h1 (rfl))
 have h1d := V6 h1
 refine Qh ?_
 refine Qc ?_
 refine tu Qa [(4, .b false), (12, .i (s1_.length : Int)), (13, .i 0)] [] [] [] (pl 1 s1_ p0) ?_
 refine wT 0 0 .sh s1_ (fun hw2 hl3 => ?_)
 refine Ii (Kw s2_) Uf s1_ () (fun k0 _ => [(13, .i ((k0 : Nat) : Int))]) [13] (fun _ => []) [0, 1, 12, 13] wf0 (fun k0 s0 hk0 hI0 => ?_) (fun k0 s0 hk0 hI0 => ?_) (fun y0 hD0 => ?_)
 ·
  obtain ⟨a0, hx0⟩ := Xr (l := s1_) (i := k0) hk0
  refine su Qa [(14, .b true)] [] [] [] (pe 0 (Qw (decide_eq_true (p := ((k0 : Nat) : Int) < (s1_.length : Int)) (by omega))) p0) ?_
  refine Qc ?_
  refine ckT ?_
  refine Qh ?_
  refine Qc ?_
  refine Qt ?_
  refine sn Qa [0, 1, 4, 5, 12, 13] [] (p0) ?_
  refine wT 1 0 .sh s2_ (fun hw5 hl6 => ?_)
  have hx4 := ng s2_ k0
  refine tN Qa Yc [0, 1, 4, 12, 13, 24] [] (pn 2 hx0 (pn 6 hx4 p0)) ?_
  refine ck (a0 != (nth s2_ k0)) (fun h7 => ?_) (fun h7 => ?_)
  ·
   refine tu Qa [] [14] [] [] (p0) ?_
   refine Qe ?_
   have hr8 : (Xp (Kw s2_) Uf s1_ 0 ()) = .ret false := Zt hx0 (Q1 h7 (rfl)) hI0
   exact pb [] (Ql h1 (Ie hr8))
  have h7d := V6 h7
  refine Qh ?_
  refine qu Qa [(13, .i ((k0 + 1 : Nat) : Int))] [13, 14] [] [] (pe 0 (Jw (Qy k0 (by omega))) p0) ?_
  exact xw _ (Q0 hx0 (Ql h7 (rfl)) hI0)
 ·
  refine sn Qa [0, 1, 4, 12, 13, 14] [] (pe 0 (Qw (decide_eq_false (p := ((k0 : Nat) : Int) < (s1_.length : Int)) (by omega))) p0) ?_
  refine Qc ?_
  refine ckF ?_
  refine Q2 ?_
  exact xw _ (Xs hk0 (rfl) hI0)
 refine sn Qa [4] [] (p0) ?_
 refine Qe ?_
 exact pb [] (Ql h1 (Un hD0 (rfl)))
def Kb (r : (List Qp)) (names : (List ByteArray)) (_ : Nat) (a0 : Ys) (s0 : (List Qp)) : Rd ((List Qp) × Int × Bool) ((List Qp)) ((List Qp)) := (bif (!(Yy names a0.1)) then (.next (s0 ++ [(a0.1, (X5 r a0.1))])) else (.next (s0 ++ [((a0.1, []) : Qp)])))
def K4 (_ : Nat) (s0 : (List Qp)) : (List Qp) := s0
def Vz (s_ : Xo) (d : (List Ys)) (names : (List ByteArray)) (k1 : Nat) (k3 : Nat) (a3 : Ys) (s3 : (List Qp) × Bool) : Rd (Rd (Rd ((List Qp) × Int × Bool) ((List Qp) × Int) ((List Qp) × Int)) ((List Qp) × Int × Bool) ((List Qp) × Int)) ((List Qp) × Bool) ((List Qp) × Bool) := (bif (((nth (((Qz d)).1) k3) != ((k1 : Nat) : Int)) || (!(Yy names a3.1))) then (.next (s3.1, s3.2)) else (bif (!(Zq (Yp s_ a3.2 s3.1) ((nth s3.1 k3).2))) then (.next (List.set s3.1 k3 ((nth s3.1 k3).1, (Yp s_ a3.2 s3.1)), true)) else (.next (s3.1, s3.2))))
def Hf (_ : Nat) (s3 : (List Qp) × Bool) : (List Qp) × Bool := (s3.1, s3.2)
def Kc (s_ : Xo) (d : (List Ys)) (names : (List ByteArray)) (k1 : Nat) (s2 : (List Qp) × Int × Bool) : Rd (Rd ((List Qp) × Int × Bool) ((List Qp) × Int) ((List Qp) × Int)) ((List Qp) × Int × Bool) ((List Qp) × Int) := (bif s2.2.2 then (Out.on (Xp (Vz s_ d names k1) Hf d 0 (s2.1, false)) (fun y3 => (.next (y3.1, IntKind.i64.wrap (s2.2.1 + 1), y3.2)))) else (.brk (s2.1, s2.2.1)))
def Kd (s_ : Xo) (d : (List Ys)) (names : (List ByteArray)) (k1 : Nat) (s1 : (List Qp) × Int) : Rd ((List Qp) × Int × Bool) ((List Qp) × Int) ((List Qp) × Int) := (Out.on (E6 (Kc s_ d names k1) (List.length d * List.length s_.2.1 + 2) (s1.1, s1.2, true)) (fun y2 => (.next (y2.1, y2.2))))
def Bk (_ : Nat) (s1 : (List Qp) × Int) : (List Qp) × Int := (s1.1, s1.2)
def Ke (s_ : Xo) (d : (List Ys)) (r : (List Qp)) (names : (List ByteArray)) : (List Qp) × Int × Bool := (bif ((!(((Qz d)).2)) || (!(Y4 s_))) then ([], 0, false) else (Out.on (Xp (Kb r names) K4 d 0 []) (fun y0 => (Out.on (Ha (Kd s_ d names) Bk (Int.toNat ((Um d) + 1)) 0 (y0, 0)) (fun y1 => (y1.1, y1.2, true))))))
theorem eqI_go (b : List Int) : ∀ (l : List Int) (k : Nat), l.length = (b.drop k).length → Out.on (Xp (Kw b) Uf l k ()) (fun _ => true) = decide (l = b.drop k)
  | [], k, h => by
    have : b.drop k = [] := List.eq_nil_of_length_eq_zero (by rw [← h]; rfl)
    rw [this]; rfl
  | a :: l, k, h => by
    have hk : k < b.length := by simp only [List.length_cons, List.length_drop] at h; omega
    have hd : b.drop k = nth b k :: b.drop (k + 1) := by
      rw [List.drop_eq_getElem_cons hk, show nth b k = b[k] by simp [nth, List.getD, hk]]
    rw [hd] at h ⊢
    simp only [Xp, Kw]
    by_cases e : a = nth b k
    · rw [show (a != nth b k) = false by simp [e], cond_false, eqI_go b l (k + 1) (by simpa using h)]
      simp [e]
    rw [show (a != nth b k) = true by simp [e], cond_true]
    simp [e, Out.on]
theorem eqI_eq (a b : List Int) (h : a.length = b.length) : Zq a b = decide (a = b) := by
 unfold Zq
 rw [show ((a.length : Int) != (b.length : Int)) = false by simp [h], cond_false, eqI_go b a 0 (by simpa using h), List.drop_zero]
theorem GS (a b : List Int) : Zq a b = decide (a = b) := by
  by_cases h : a.length = b.length
  · exact eqI_eq a b h
  have hb : ((a.length : Int) != (b.length : Int)) = true := by simpa using fun e : (a.length : Int) = (b.length : Int) => h (by omega)
  unfold Zq
  rw [hb, decide_eq_false (fun e => h (congrArg List.length e))]
  rfl
def onD (d : List Ys) (names : List ByteArray) (j : Nat) : Bool := Yy names (nth d j).1
theorem Fo (s_ : Xo) (d : List Ys) (names : List ByteArray) (k1 : Nat) : StepE s_ d (Qz d).1 (onD d names) (k1 : Int) (Vz s_ d names k1) := by
 intro k a o c hk
 have ha : nth d k = a := Iw hk
 unfold Vz R9 onD
 rw [ha, GS]
 simp only [bne]
 cases (nth (Qz d).1 k == (k1 : Int)) <;> cases Yy names a.1 <;> rfl
section
variable {s_ : Xo} {d : List Ys} {names : List ByteArray} {k1 : Nat} {o : List Qp} {p : Int}
theorem Gv (hS : ((Qz d)).2 = true) (h : EvS d ((Qz d)).1 (onD d names) s_.2.1 (k1 : Int) o) : ∃ o' p', whl (Kc s_ d names k1) (List.length d * List.length s_.2.1 + 2) (o, p, true) = some (.brk (o', p')) ∧ EvS d ((Qz d)).1 (onD d names) s_.2.1 ((k1 : Int) + 1) o' :=
 ev_run (f := Vz s_ d names k1) (e := Hf) (Fo s_ d names k1) (fun _ _ => rfl) (fun _ => rfl) (Prod.ext rfl hS) h p
def On (r : List Qp) (names : List ByteArray) (a : Ys) : List Int := bif (!(Yy names a.1)) then (X5 r a.1) else []
end
def Zu (s_ : Xo) (d : (List Ys)) : (List Qp) × Bool := (((Ke s_ d [] (Yg d))).1, ((Ke s_ d [] (Yg d))).2.2)
def Wk (_ : Nat) (a0 : Int) (s0 : Int) : Rd (Int) (Int) (Int) := (bif decide (a0 > s0) then (.next a0) else (.next s0))
def Ao (_ : Nat) (s0 : Int) : Int := s0
def Kr (d : (List Ys)) : Int := (Out.on (Xp Wk Ao (((Xn d)).1) 0 (-1)) (fun y0 => y0))
theorem G8 (d : (List Ys)) : ACalls Tryz.prog 118 [.h d] (.i (Kr d)) := by
 refine en Qa Tryz.func118 fun w0 F0 hG => ?_
 refine sn Qa [0, 2] [] (p0) ?_
 refine tn Qa [2, 3] [] (pc 1 (I5 d) p0) ?_
 refine tu Qa [(2, .i 0), (3, .o 576 (((Xn d)).1)), (5, .i (-1))] [0] [] [] (p0) ?_
 refine Qc ?_
 refine sn Qa [2, 3, 5, 6] [] (p0) ?_
 refine mz [(6, .i 0)] [] [] [] ?_
 refine wT 3 0 (.own true 576) (((Xn d)).1) (fun hw1 hl2 => ?_)
 refine Ii Wk Ao (((Xn d)).1) (-1) (fun k0 s0 => [(5, .i s0), (6, .i ((k0 : Nat) : Int))]) [5, 6] (fun y0 => [(5, .i y0)]) [3, 5, 6] wf0 (fun k0 s0 hk0 hI0 => ?_) (fun k0 s0 hk0 hI0 => ?_) (fun y0 hD0 => ?_)
 ·
  obtain ⟨a0, hx0⟩ := Xr (l := ((Xn d)).1) (i := k0) hk0
  refine Qc ?_
  refine sn Qa [2, 3, 5, 6, 15] [] (pl 2 (((Xn d)).1) (pe 3 (Qw (decide_eq_true (p := ((k0 : Nat) : Int) < ((((Xn d)).1).length : Int)) (by omega))) p0)) ?_
  refine ckT ?_
  refine Qh ?_
  refine Qc ?_
  refine Qt ?_
  refine tn Qa [2, 3, 5, 6, 23] [] (pN 2 hx0 p0) ?_
  refine ck (decide (a0 > s0)) (fun h3 => ?_) (fun h3 => ?_)
  ·
   have h3d := of_decide_eq_true h3
   refine qu Qa [(5, .i a0)] [5] [] [] (pN 2 hx0 p0) ?_
   refine rn Qa [2, 3, 5, 6] [] (pe 1 (Jw (Qy k0 (by omega))) p0) ?_
   exact xw _ (Q0 hx0 (Q1 h3 (rfl)) hI0)
  have h3d := of_decide_eq_false h3
  refine Qh ?_
  refine qu Qa [(6, .i ((k0 + 1 : Nat) : Int))] [6] [] [] (pe 1 (Jw (Qy k0 (by omega))) p0) ?_
  exact xw _ (Q0 hx0 (Ql h3 (rfl)) hI0)
 ·
  refine Qc ?_
  refine sn Qa [2, 3, 5, 6, 15] [] (pl 2 (((Xn d)).1) (pe 3 (Qw (decide_eq_false (p := ((k0 : Nat) : Int) < ((((Xn d)).1).length : Int)) (by omega))) p0)) ?_
  refine ckF ?_
  refine Q2 ?_
  exact xw _ (Xs hk0 (rfl) hI0)
 refine sn Qa [2] [] (p0) ?_
 refine Qe ?_
 exact pi [] (Un hD0 (rfl))
def Ap (_ : Nat) (a0 : Ys) (s0 : (List Qp)) : Rd ((List Qp) × Int × Bool) ((List Qp)) ((List Qp)) := (.next (s0 ++ [((a0.1, []) : Qp)]))
def Cg (_ : Nat) (s0 : (List Qp)) : (List Qp) := s0
def Ug (s_ : Xo) (d : (List Ys)) (k1 : Nat) (k3 : Nat) (a3 : Ys) (s3 : (List Qp) × Bool) : Rd (Rd (Rd ((List Qp) × Int × Bool) ((List Qp) × Int) ((List Qp) × Int)) ((List Qp) × Int × Bool) ((List Qp) × Int)) ((List Qp) × Bool) ((List Qp) × Bool) := (bif ((nth (((Xn d)).1) k3) != ((k1 : Nat) : Int)) then (.next (s3.1, s3.2)) else (bif (!(Yx (Yq s_ a3.2 s3.1) ((nth s3.1 k3).2))) then (.next (List.set s3.1 k3 ((nth s3.1 k3).1, (Yq s_ a3.2 s3.1)), true)) else (.next (s3.1, s3.2))))
def D9 (_ : Nat) (s3 : (List Qp) × Bool) : (List Qp) × Bool := (s3.1, s3.2)
def Wa (s_ : Xo) (d : (List Ys)) (k1 : Nat) (s2 : (List Qp) × Int × Bool) : Rd (Rd ((List Qp) × Int × Bool) ((List Qp) × Int) ((List Qp) × Int)) ((List Qp) × Int × Bool) ((List Qp) × Int) := (bif s2.2.2 then (Out.on (Xp (Ug s_ d k1) D9 d 0 (s2.1, false)) (fun y3 => (.next (y3.1, IntKind.i64.wrap (s2.2.1 + 1), y3.2)))) else (.brk (s2.1, s2.2.1)))
def Ea (s_ : Xo) (d : (List Ys)) (k1 : Nat) (s1 : (List Qp) × Int) : Rd ((List Qp) × Int × Bool) ((List Qp) × Int) ((List Qp) × Int) := (Out.on (E6 (Wa s_ d k1) (List.length d * List.length s_.2.1 + 2) (s1.1, s1.2, true)) (fun y2 => (.next (y2.1, y2.2))))
def Oo (_ : Nat) (s1 : (List Qp) × Int) : (List Qp) × Int := (s1.1, s1.2)
def Wl (s_ : Xo) (d : (List Ys)) : (List Qp) × Int × Bool := (bif ((!(((Xn d)).2)) || (!(Xe s_))) then ([], 0, false) else (Out.on (Xp Ap Cg d 0 []) (fun y0 => (Out.on (Ha (Ea s_ d) Oo (Int.toNat ((Kr d) + 1)) 0 (y0, 0)) (fun y1 => (y1.1, y1.2, true))))))
theorem UR {B : Int} : ∀ (x : List Int) (k : Nat) (s : Int), (∀ a, a ∈ x → a ≤ B) → s ≤ B → ∃ t, Xp Wk Ao x k s = .brk t ∧ t ≤ B
 | [], k, s, _, h => ⟨s, rfl, h⟩
 | a :: x, k, s, hx, h => by
  simp only [Xp, Wk]
  cases hc : decide (a > s) with
  | true => exact UR x (k + 1) a (fun b hb => hx b (List.mem_cons_of_mem _ hb)) (hx a (List.mem_cons_self ..))
  | false => exact UR x (k + 1) s (fun b hb => hx b (List.mem_cons_of_mem _ hb)) h
theorem Oq {d : List Ys} (h : ((Xn d)).2 = true) : List.length ((Xn d)).1 = List.length d ∧ List.length d ≤ 5 ∧ Kr d ≤ 5 := by
 have h' := h
 rw [Vp] at h'
 obtain ⟨h1, h2, h3⟩ := I7 h'
 unfold Kr
 rw [Vp]
 obtain ⟨t, e, ht⟩ := UR (B := 5) ((Qz d)).1 0 (-1) (fun a ha => (h3 a ha).2) (by omega)
 refine ⟨h1, h2, ?_⟩
 rw [e]; exact ht
theorem UT (s_ : Xo) (d : List Ys) (k1 : Nat) : StepE s_ d (Qz d).1 (fun _ => true) (k1 : Int) (Ug s_ d k1) := by
 intro k a o c hk
 unfold Ug R9
 rw [AT, Vp, ← Tt]
 simp only [bne]
 cases (nth (Qz d).1 k == (k1 : Int)) <;> rfl
section
variable {s_ : Xo} {d : List Ys} {k1 : Nat} {o : List Qp} {p : Int}
theorem YC (hS : ((Xn d)).2 = true) (h : EvS d ((Xn d)).1 (fun _ => true) s_.2.1 (k1 : Int) o) : ∃ o' p', whl (Wa s_ d k1) (List.length d * List.length s_.2.1 + 2) (o, p, true) = some (.brk (o', p')) ∧ EvS d ((Xn d)).1 (fun _ => true) s_.2.1 ((k1 : Int) + 1) o' := by
 rw [Vp] at hS h ⊢
 exact ev_run (f := Ug s_ d k1) (e := D9) (UT s_ d k1) (fun _ _ => rfl) (fun _ => rfl) (Prod.ext rfl hS) h p
theorem l15Run_w (hS : ((Xn d)).2 = true) (h : EvS d ((Xn d)).1 (fun _ => true) s_.2.1 (((k1 : Nat)) : Int) o) : (whl (Wa s_ d k1) (List.length d * List.length s_.2.1 + 2) (o, p, true)).isSome = true := by
 obtain ⟨o', p', h1, _⟩ := YC (p := p) hS h
 rw [h1]; rfl
theorem Gw {y : List Qp × Int} (hS : ((Xn d)).2 = true) (h : EvS d ((Xn d)).1 (fun _ => true) s_.2.1 (((k1 : Nat)) : Int) o) (hy : E6 (Wa s_ d k1) (List.length d * List.length s_.2.1 + 2) (o, p, true) = .brk y) : EvS d ((Xn d)).1 (fun _ => true) s_.2.1 ((((k1 + 1) : Nat)) : Int) y.1 := by
 obtain ⟨o', p', h1, h2⟩ := YC (p := p) hS h
 unfold E6 at hy
 rw [h1] at hy
 have e : (o', p') = y := by simpa using hy
 rw [← e, Int.natCast_add]; exact h2
theorem U1 (hy : Xp Ap Cg d 0 [] = .brk o) : EvS d ((Xn d)).1 (fun _ => true) s_.2.1 (((0 : Nat)) : Int) o := by
 obtain ⟨h1, h2⟩ := Sa (L := ((Xn d)).1) (on := fun _ => true) (fs := s_.2.1) (g := fun _ => []) (f := Ap) (e := Cg) (d := d) (fun k a s => rfl) (fun j _ hj => rfl)
 rw [h1] at hy
 have e : (d.map fun a => ((a.1, ([] : List Int)) : Qp)) = o := Out.brk.inj hy
 rw [← e]; exact h2
end
theorem VD (s_ : Xo) (d : (List Ys)) : ACalls Tryz.prog 74 [.a [.h s_.1, .h s_.2.1, .i s_.2.2], .h d] (.tup [(false, [.o 0 (((Wl s_ d)).1)]), (false, [.i (((Wl s_ d)).2.1)]), (false, [.b (((Wl s_ d)).2.2)])]) := by
 refine en Qa Tryz.func74 fun w0 F0 hG => ?_
 refine sn Qa [1, 2, 4, 5, 6] [2] (p0) ?_
 refine tn Qa [1, 2, 4, 5, 6, 7, 8] [2] (pc 1 (I5 d) p0) ?_
 refine Qc ?_
 refine Qc ?_
 refine mz [(2, .p 2 0), (4, .e 0), (5, .i 0), (6, .b false), (7, .o 1152 (((Xn d)).1)), (8, .b (((Xn d)).2))] [0] [(2, [.h s_.1, .h s_.2.1, .i s_.2.2])] [] ?_
 refine jn [(27, .b ((!(((Xn d)).2)) || (!(Xe s_))))] [8] [] [] (!(((Xn d)).2)) (fun h1 => ?_) (fun h1 => ?_) ?_
 ·
  have h1n : (((Xn d)).2) = false := Be h1
  refine ru Qa [(27, .b true)] [8] [] [] (pf 0 h1n (pe 1 (show .b (!false) = .b true from rfl) p0)) ?_
  exact ⟨rfl, Qf (by rw [h1] <;> kernel_rfl)⟩
 ·
  have h1n : (((Xn d)).2) = true := Vd h1
  have h1nsf := Oq h1n
  refine rn Qa [1, 2, 4, 5, 6, 7, 27] [2] (pt 0 h1n (pe 1 (show .b (!true) = .b false from rfl) (pc 4 (Jj s_) p0))) ?_
  exact ⟨rfl, Qf (by rw [h1] <;> kernel_rfl)⟩
 refine ck ((!(((Xn d)).2)) || (!(Xe s_))) (fun h2 => ?_) (fun h2 => ?_)
 ·
  refine sn Qa [1, 2, 4, 5, 6, 7] [2] (p0) ?_
  refine Qe ?_
  exact pz [] (show Wl s_ d = _ from Q1 h2 (rfl)) (fun z => .tup [(false, [.o 0 z.1]), (false, [.i z.2.1]), (false, [.b z.2.2])])
 have h2l : ((!(((Xn d)).2))) = false := DD h2
 have h2ln : (((Xn d)).2) = true := Vd h2l
 have h2lnsf := Oq h2ln
 have h2r : ((!(Xe s_))) = false := UH h2
 have h2rn : (Xe s_) = true := Vd h2r
 refine Qh ?_
 refine sn Qa [1, 2, 4, 5, 6, 7, 9] [2] (p0) ?_
 refine Qc ?_
 refine tn Qa [1, 2, 4, 5, 6, 7, 9, 10] [2] (p0) ?_
 refine mz [(9, .one (.slc (.own true 1856) 2 [])), (10, .i 0)] [27] [] [] ?_
 refine wT 1 0 .sh d (fun hw3 hl4 => ?_)
 refine blL1 Ap Cg d [] (fun k0 s0 => [(9, .o 147206 s0), (10, .i ((k0 : Nat) : Int))]) [9, 10] (fun y0 => [(9, .o 147356 y0)]) [9, 10] (fun k0 s0 => List.length s0 ≤ k0) (X3 [(1856, 147206)] (by kernel_rfl)) (by simp) (fun k0 s0 hk0 hI0 => ?_) (fun k0 s0 hk0 hI0 => ?_) (fun y0 hD0 => ?_)
 ·
  have hA0_0 := hI0.2
  obtain ⟨a0, hx0⟩ := Xr (l := d) (i := k0) hk0
  refine Qc ?_
  refine su Qa [(33, .b true)] [] [] [] (pl 2 d (pe 3 (Qw (decide_eq_true (p := ((k0 : Nat) : Int) < (d.length : Int)) (by omega))) p0)) ?_
  refine ckT ?_
  refine Qh ?_
  refine Qc ?_
  refine Qt ?_
  refine wT 9 0 (.own true 147206) s0 (fun hw5 hl6 => ?_)
  refine ru Qa [(9, .one (.slc (.own true 2880) 2 ((eL s0) ++ [[.s a0.1, .slc 1 []]])))] [9, 33] [] [] (pn 3 hx0 (pa s0 [((a0.1, []) : Qp)] p0)) ?_
  refine eqn [(9, .o 2880 (s0 ++ [((a0.1, []) : Qp)]))] [9] [] [] (by rw [show ((eL s0) ++ [[.s a0.1, .slc 1 []]]) = (eL (s0 ++ [((a0.1, []) : Qp)])) from Vn (rfl) (rfl)]; first | done | kernel_rfl) ?_
  refine rn Qa [1, 2, 4, 5, 6, 7, 9, 10] [2] (pe 1 (Jw (Qy k0 (by omega))) p0) ?_
  exact Exists.intro (s0 ++ [((a0.1, []) : Qp)]) (And.intro (X3 [(2880, 147206)] (by kernel_rfl)) ⟨Q0 hx0 (rfl) hI0.1, by first | omega | (simp; omega) | simp⟩)
 ·
  have hA0_0 := hI0.2
  refine Qc ?_
  refine su Qa [(33, .b false)] [] [] [] (pl 2 d (pe 3 (Qw (decide_eq_false (p := ((k0 : Nat) : Int) < (d.length : Int)) (by omega))) p0)) ?_
  refine ckF ?_
  refine Q2 ?_
  exact Exists.intro _ (And.intro (X3 [(147206, 147356)] (by kernel_rfl)) (Xs hk0 (rfl) hI0.1))
 refine su Qa [(11, .i 0)] [] [] [] (p0) ?_
 refine Qc ?_
 refine su Qa [(12, .i 0)] [] [] [] (p0) ?_
 refine blN1b (Ea s_ d) Oo (Int.toNat ((Kr d) + 1)) (y0, 0) (fun k1 s1 => [(9, .o 147356 s1.1), (11, .i s1.2), (12, .i ((k1 : Nat) : Int))]) [9, 11, 12] (fun _ _ => []) [] (fun y1 => [(9, .o 147356 y1.1), (11, .i y1.2)]) [1, 2, 7, 9, 11, 12] (fun _ => []) [2] (fun k1 s1 => EvS d ((Xn d)).1 (fun _ => true) s_.2.1 (((k1 : Nat)) : Int) s1.1 ∧ List.length s1.1 = List.length d) wf0 ⟨(by first | exact U1 hD0 | exact U1 hD0.1 | exact P3 (fs := s_.2.1) (U1 hD0) | exact P3 (fs := s_.2.1) (U1 hD0.1)), (by first | exact U1 hD0 | exact U1 hD0.1 | exact P3 (fs := s_.2.1) (U1 hD0) | exact P3 (fs := s_.2.1) (U1 hD0.1))⟩ (fun k1 s1 hk1 hI1 => ?_) (fun k1 s1 hk1 hI1 => ?_) (fun y1 hD1 => ?_)
 ·
  have hA1_0 := hI1.2.1
  have hA1_1 := hI1.2.2
  refine Qc ?_
  refine su Qa [(49, .b true)] [] [] [] (pc 2 (G8 d) (pe 3 (Qw (decide_eq_true (p := ((k1 : Nat) : Int) ≤ (Kr d)) (by omega))) p0)) ?_
  refine ckT ?_
  refine Qh ?_
  refine Qc ?_
  refine Qt ?_
  refine su Qa [(13, .b true)] [49] [] [] (p0) ?_
  refine blw (fun (s2 : (List Qp) × Int × Bool) => [(9, .o 147356 s2.1), (11, .i s2.2.1), (13, .b s2.2.2)]) [9, 11, 13] (fun s2 => []) [] (fun (y2 : (List Qp) × Int) => [(9, .o 147356 y2.1), (11, .i y2.2)]) [9, 11, 13] (fun y2 => []) [] (fun (k2 : Nat) (s2 : (List Qp) × Int × Bool) => whl (Wa s_ d k1) k2 s2 = some (E6 (Wa s_ d k1) (List.length d * List.length s_.2.1 + 2) (s1.1, s1.2, true)) ∧ List.length s2.1 = List.length d) (fun (y2 : (List Qp) × Int) => (E6 (Wa s_ d k1) (List.length d * List.length s_.2.1 + 2) (s1.1, s1.2, true)) = .brk y2) (List.length d * List.length s_.2.1 + 2) (s1.1, s1.2, true) wf0 ⟨Dc (l15Run_w (by assumption) (by assumption)), (by assumption)⟩ (fun _ h => D4 h.1) (fun k2 s2 hI2 => ?_) (fun y2 hD2 => ?_)
  ·
   have hA2_0 := hI2.2
   refine Qc ?_
   refine su Qa [(52, .b s2.2.2)] [] [] [] (p0) ?_
   refine ck s2.2.2 (fun h7 => ?_) (fun h7 => ?_)
   ·
    refine Qh ?_
    refine Qt ?_
    refine su Qa [(13, .b false)] [13, 52] [] [] (p0) ?_
    refine sn Qa [1, 2, 4, 5, 6, 7, 9, 11, 12, 13] [2] (p0) ?_
    refine tn Qa [1, 2, 4, 5, 6, 7, 9, 11, 12, 13, 14] [2] (p0) ?_
    refine mz [(11, .i (IntKind.i64.wrap (s2.2.1 + 1))), (14, .i 0)] [11] [] [] ?_
    refine blL3 (Ug s_ d k1) D9 d (s2.1, false) (fun k3 s3 => [(9, .o 147356 s3.1), (13, .b s3.2), (14, .i ((k3 : Nat) : Int))]) [9, 13, 14] (fun y3 => [(9, .o 147356 y3.1), (13, .b y3.2)]) [9, 13, 14] (fun _ s3 => List.length s3.1 = List.length s2.1) (fun y3 => List.length y3.1 = List.length s2.1) wf0 (by simp) (fun k3 s3 hk3 hI3 => ?_) (fun k3 s3 hk3 hI3 => ?_) (fun y3 hD3 => ?_)
    ·
     have hA3_0 := hI3.2
     obtain ⟨a3, hx3⟩ := Xr (l := d) (i := k3) hk3
     refine Qc ?_
     refine su Qa [(58, .b true)] [] [] [] (pl 2 d (pe 3 (Qw (decide_eq_true (p := ((k3 : Nat) : Int) < (d.length : Int)) (by omega))) p0)) ?_
     refine ckT ?_
     refine Qh ?_
     refine Qc ?_
     refine Qt ?_
     refine Qc ?_
     refine wT 7 0 (.own true 1152) (((Xn d)).1) (fun hw9 hl10 => ?_)
     have hx8 := ng (((Xn d)).1) k3
     refine sn Qa [1, 2, 4, 5, 6, 7, 9, 11, 12, 13, 14, 66] [2] (pN 2 hx8 p0) ?_
     refine ck ((nth (((Xn d)).1) k3) != ((k1 : Nat) : Int)) (fun h11 => ?_) (fun h11 => ?_)
     ·
      have h11d := N3 h11
      refine Q2 ?_
      refine qn Qa [1, 2, 4, 5, 6, 7, 9, 11, 12, 13, 14] [2] (pe 1 (Jw (Qy k3 (by omega))) p0) ?_
      exact xw (s3.1, s3.2) ⟨Q0 hx3 (Q1 h11 (rfl)) hI3.1, (by first | omega | (simp only [List.length_set]; omega))⟩
     have h11d := V6 h11
     refine Qh ?_
     refine tN Qa Yc [1, 2, 4, 5, 6, 7, 9, 11, 12, 13, 14, 15] [2] (pn 3 hx3 (pc 7 (F4 s_ a3.2 s3.1) p0)) ?_
     refine wT 9 0 (.own true 147356) s3.1 (fun hw13 hl14 => ?_)
     have hx12 := ng s3.1 k3
     refine tu Qa [(15, .o 4736 (Yq s_ a3.2 s3.1)), (82, .b (!(Yx (Yq s_ a3.2 s3.1) ((nth s3.1 k3).2))))] [58] [] [] (pN 3 hx12 (pc 6 (Cb (Yq s_ a3.2 s3.1) ((nth s3.1 k3).2)) p0)) ?_
     refine ck (!(Yx (Yq s_ a3.2 s3.1) ((nth s3.1 k3).2))) (fun h15 => ?_) (fun h15 => ?_)
     ·
      have h15n : (Yx (Yq s_ a3.2 s3.1) ((nth s3.1 k3).2)) = false := Be h15
      refine su Qa [(9, .one (.slc (.own true 147356) 2 (setRow (eL s3.1) k3 1 [.h (Yq s_ a3.2 s3.1)])))] [9, 15, 82] [] [] (pN 3 hx12 p0) ?_
      refine eqn [(9, .o 147356 (List.set s3.1 k3 ((nth s3.1 k3).1, (Yq s_ a3.2 s3.1))))] [9] [] [] (by rw [Zx (y := ((nth s3.1 k3).1, (Yq s_ a3.2 s3.1))) hx12 rfl] <;> kernel_rfl) ?_
      refine ru Qa [(13, .b true)] [13] [] [] (p0) ?_
      refine rn Qa [1, 2, 4, 5, 6, 7, 9, 11, 12, 13, 14] [2] (pe 1 (Jw (Qy k3 (by omega))) p0) ?_
      exact xw (List.set s3.1 k3 ((nth s3.1 k3).1, (Yq s_ a3.2 s3.1)), true) ⟨Q0 hx3 (Ql h11 (Q1 h15 (rfl))) hI3.1, (by first | omega | (simp only [List.length_set]; omega))⟩
     have h15n : (Yx (Yq s_ a3.2 s3.1) ((nth s3.1 k3).2)) = true := Vd h15
     refine Qh ?_
     refine rn Qa [1, 2, 4, 5, 6, 7, 9, 11, 12, 13, 14] [2] (pe 1 (Jw (Qy k3 (by omega))) p0) ?_
     exact xw (s3.1, s3.2) ⟨Q0 hx3 (Ql h11 (Ql h15 (rfl))) hI3.1, (by first | omega | (simp only [List.length_set]; omega))⟩
    ·
     have hA3_0 := hI3.2
     refine Qc ?_
     refine su Qa [(58, .b false)] [] [] [] (pl 2 d (pe 3 (Qw (decide_eq_false (p := ((k3 : Nat) : Int) < (d.length : Int)) (by omega))) p0)) ?_
     refine ckF ?_
     refine Q2 ?_
     exact xw (s3.1, s3.2) ⟨Xs hk3 (rfl) hI3.1, by first | omega | (simp only [List.length_set]; omega)⟩
    have hD3_0 := hD3.2
    exact xw (y3.1, IntKind.i64.wrap (s2.2.1 + 1), y3.2) ⟨wn hI2.1 (Q1 h7 (Un hD3.1 (rfl))), (by first | omega | (simp only [List.length_set]; omega))⟩
   refine Q2 ?_
   exact xw _ (wb hI2.1 (Ql h7 (rfl)))
  refine rn Qa [1, 2, 4, 5, 6, 7, 9, 11, 12] [2] (pe 1 (Jw (Qy k1 (by omega))) p0) ?_
  exact xw (y2.1, y2.2) ⟨W8 hk1 (Un hD2 (rfl)) hI1.1, (by first | exact Gw (by assumption) (by assumption) (by assumption) | exact P3 (fs := s_.2.1) (Gw (by assumption) (by assumption) (by assumption))), (by first | exact Gw (by assumption) (by assumption) (by assumption) | exact P3 (fs := s_.2.1) (Gw (by assumption) (by assumption) (by assumption)))⟩
 ·
  have hA1_0 := hI1.2.1
  have hA1_1 := hI1.2.2
  refine Qc ?_
  refine su Qa [(49, .b false)] [] [] [] (pc 2 (G8 d) (pe 3 (Qw (decide_eq_false (p := ((k1 : Nat) : Int) ≤ (Kr d)) (by omega))) p0)) ?_
  refine ckF ?_
  refine Q2 ?_
  exact xw _ (Gk hk1 (rfl) hI1.1)
 refine sn Qa [4, 5, 6] [] (p0) ?_
 refine Qe ?_
 exact pz [] (show Wl s_ d = _ from Ql h2 (Un hD0 (Un hD1 (rfl)))) (fun z => .tup [(false, [.o 0 z.1]), (false, [.i z.2.1]), (false, [.b z.2.2])])
def Zi (s_ : Xo) (d : (List Ys)) : (List Qp) × Bool := (((Wl s_ d)).1, ((Wl s_ d)).2.2)
theorem Md (s_ : Xo) (d : (List Ys)) : ACalls Tryz.prog 46 [.a [.h s_.1, .h s_.2.1, .i s_.2.2], .h d] (.tup [(false, [.o 0 (((Zi s_ d)).1)]), (false, [.b (((Zi s_ d)).2)])]) := by
 refine en Qa Tryz.func46 fun w0 F0 hG => ?_
 refine sn Qa [1, 2, 4, 5] [2] (p0) ?_
 refine tn Qa [4, 5, 6, 8] [] (pc 2 (VD s_ d) p0) ?_
 refine tu Qa [(4, .o 768 (((Wl s_ d)).1)), (5, .b (((Wl s_ d)).2.2))] [0, 1] [] [] (p0) ?_
 refine Qe ?_
 exact pz [] (show Zi s_ d = (((Wl s_ d)).1, ((Wl s_ d)).2.2) from rfl) (fun z => .tup [(false, [.o 0 z.1]), (false, [.b z.2])])
end
section
open Go.RowKit
theorem VE (v : ByteArray) (l : List ByteArray) : Yy l v = true ↔ v ∈ l := by
  unfold Yy E9
  have key : ∀ (l : List ByteArray) (k : Nat), (0 : Int) ≤ ((Xp (Ac v) Dq l k ()).on fun _ => -1) ↔ v ∈ l := by
    intro l
    induction l with
    | nil => intro k; simp [Xp, Out.on]
    | cons a l ih =>
      intro k
      simp only [Xp, Ac]
      have hab : (v.toList == a.toList) = decide (v = a) := Pw
      cases hc : (v.toList == a.toList) with
      | true =>
        obtain rfl : v = a := by rw [hc] at hab; exact of_decide_eq_true hab.symm
        simp [Out.on]
      | false =>
        have h : v ≠ a := by rw [hc] at hab; exact of_decide_eq_false hab.symm
        simp only [cond_false]
        refine (ih (k + 1)).trans ?_
        simp [h]
  exact decide_eq_true_iff.trans (key l 0)
theorem UU (d : List Ys) : Yg d = d.map (·.1) := by
  unfold Yg
  rw [Gn (f := I8) (g := fun a : Ys => a.1) (fun _ _ _ => rfl)]
  simp [Out.on, I9]
theorem Fa {d : List Ys} {i : Nat} {a : Ys} (h : d[i]? = some a) : Yy (Yg d) a.1 = true := by
  rw [VE, UU]
  exact List.mem_map.2 ⟨a, List.mem_of_getElem? h, rfl⟩
/-! ### the greatest stratum -/
theorem AU (x : List Int) : ∀ (n k : Nat) (s : Int), k + 1 + n = x.length → Ha (Dy x) G7 n k s = .brk ((x.drop (k + 1)).foldl max s)
  | 0, k, s, h => by rw [List.drop_eq_nil_of_le (by omega)]; rfl
  | n + 1, k, s, h => by
    have hg : x[k + 1]? = some (nth x (k + 1)) := Kh (by omega)
    rw [ZF hg]
    simp only [Ha, Dy, List.foldl_cons]
    exact AU x n (k + 1) _ (by omega)
theorem Ot : ∀ (x : List Int) (k : Nat) (s : Int), Xp Wk Ao x k s = .brk (x.foldl max s)
  | [], k, s => rfl
  | a :: x, k, s => by
    simp only [Xp, Wk, List.foldl_cons]
    by_cases h : a > s
    · rw [decide_eq_true h, cond_true, show max s a = a by omega]; exact Ot x (k + 1) a
    rw [decide_eq_false h, cond_false, show max s a = s by omega]; exact Ot x (k + 1) s
theorem Ou (d : List Ys) : Kr d = Um d := by
  unfold Kr Um
  rw [Vp, Ot]
  simp only [Out.on]
  cases hs : (Qz d).2 with
  | false =>
    have : (Qz d).1 = [] := by
      unfold Qz at hs ⊢
      cases hv : Y7 d with
      | false => rfl
      | true =>
        rw [hv] at hs
        simp only [Bool.not_true, cond_false] at hs ⊢
        have h5 := Ep hv
        have hw := F3 (d := d) (f := Ub d) (e := Uc) (F := Vh d) (fun _ _ _ => rfl) (fun _ _ => rfl) (fun _ => rfl) (by omega) (d.length * d.length + 3) (List.replicate d.length 0) true (Bi _).1 (Bi _).2
        have hsome : (Pu (Jh d) d.length d.length (d.length * d.length + 3) (true, List.replicate d.length 0)).isSome = true := by
          have := Dp d h5
          rw [Int.toNat_natCast, hw, Option.isSome_map] at this
          exact this
        obtain ⟨r, hr⟩ := Option.isSome_iff_exists.1 hsome
        unfold E6 at hs ⊢
        rw [Int.toNat_natCast, hw, hr] at hs ⊢
        cases r with
        | none => rfl
        | some M => simp [endD, Out.on] at hs
    rw [this]; rfl
  | true =>
    obtain ⟨h1, h2, h3⟩ := I7 hs
    simp only [Bool.not_true, Bool.false_or]
    generalize (Qz d).1 = x at h3
    cases x with
    | nil => rfl
    | cons a x =>
      have h0 := (h3 a (List.mem_cons_self ..)).1
      have e : ((((a :: x).length : Nat) : Int) == (0 : Int)) = false := by
        rw [beq_eq_false_iff_ne, List.length_cons]; omega
      rw [e, cond_false]
      unfold Om
      rw [AU _ _ _ _ (by simp; omega)]
      simp only [Out.on, List.foldl_cons, Nat.zero_add, List.drop_succ_cons, List.drop_zero]
      have e2 : nth (a :: x) 0 = a := rfl
      rw [show max (-1) a = a by omega, e2]
/-! ### the evaluation -/
theorem l15_f3 (s : Xo) (d : List Ys) (k1 k : Nat) (a : Ys) (t : List Qp × Bool) (h : d[k]? = some a) : Ug s d k1 k a t = Vz s d (Yg d) k1 k a t := by
  unfold Ug Vz
  rw [Fa h, Vp, ← Tt, AT, GS]
  simp
theorem l15_f2 (s : Xo) (d : List Ys) (k1 : Nat) : Wa s d k1 = Kc s d (Yg d) k1 := by
  funext t
  unfold Wa Kc
  rw [Ln (f := Ug s d k1) (g := Vz s d (Yg d) k1) (e := D9) (e' := Hf) (fun _ _ => rfl) d 0 _ (fun i a t h => by rw [Nat.zero_add]; exact l15_f3 s d k1 i a t h)]
theorem l15_eq (s : Xo) (d : List Ys) : Wl s d = Ke s d [] (Yg d) := by
  unfold Wl Ke
  rw [Vp, R7, Ou]
  rw [Ln (f := Ap) (g := Kb [] (Yg d)) (e := Cg) (e' := K4) (fun _ _ => rfl) d 0 _ (fun i a t h => by unfold Ap Kb; rw [Fa h]; rfl)]
  congr 1
  congr 1
  funext y
  rw [show Ea s d = Kd s d (Yg d) from by funext k t; unfold Ea Kd; rw [l15_f2]]
  rfl
theorem Ng (s : Xo) (d : List Ys) : Zi s d = Zu s d := by
  unfold Zi Zu
  rw [l15_eq]
theorem VF {s : Xo} {d : List Ys} {names : List ByteArray} {r : List Qp} (h : (Ke s d r names).2.2 = true) : List.length d ≤ 5 ∧ Y4 s = true ∧ (Ke s d r names).1.map (·.1) = d.map (·.1) ∧ ∀ j, j < d.length → onD d names j = true → ∃ p : X9 → Bool, (nth (Ke s d r names).1 j).2 = sel s.2.1 (fun f => f.1) p := by
  unfold Ke at h ⊢
  cases hc : ((!(((Qz d)).2)) || (!(Y4 s))) with
  | true => rw [hc] at h; simp at h
  | false =>
    have hs : ((Qz d)).2 = true := Vd (DD hc)
    have hv : Y4 s = true := Vd (UH hc)
    simp only [cond_false]
    obtain ⟨h1, h2⟩ := Sa (L := ((Qz d)).1) (on := onD d names) (fs := s.2.1) (g := On r names) (f := Kb r names) (e := K4) (d := d) (fun k a s => by
      unfold Kb On
      cases Yy names a.1 <;> rfl) (fun j _ hj => by unfold onD at hj; unfold On; rw [hj]; rfl)
    rw [h1]
    have key : ∀ (n k : Nat) (o : List Qp) (p : Int), EvS d ((Qz d)).1 (onD d names) s.2.1 (((k : Nat)) : Int) o → ∃ o' p', Ha (Kd s d names) Bk n k (o, p) = .brk (o', p') ∧ EvS d ((Qz d)).1 (onD d names) s.2.1 (((k + n : Nat)) : Int) o' := by
      intro n
      induction n with
      | zero => intro k o p ho; exact ⟨o, p, rfl, ho⟩
      | succ n ih =>
        intro k o p ho
        obtain ⟨o1, p1, g1, g2⟩ := Gv (p := p) hs ho
        obtain ⟨o2, p2, g3, g4⟩ := ih (k + 1) o1 p1 (by rw [Int.natCast_add]; exact g2)
        refine ⟨o2, p2, ?_, by rw [show k + (n + 1) = k + 1 + n by omega]; exact g4⟩
        simp only [Ha]
        unfold Kd E6
        rw [g1]
        exact g3
    obtain ⟨o, p, g1, g2⟩ := key (Int.toNat (Um d + 1)) 0 _ 0 h2
    simp only [Out.on, K4]
    rw [g1]
    exact ⟨(I7 hs).2.1, hv, g2.names, fun j hj hon => g2.some_ j hj hon⟩
theorem Tw {s : Xo} {d : List Ys} (h : (Zu s d).2 = true) : List.length d ≤ 5 ∧ Y4 s = true ∧ (Zu s d).1.map (·.1) = d.map (·.1) ∧ ∀ x, x ∈ (Zu s d).1 → ∃ p : X9 → Bool, x.2 = sel s.2.1 (fun f => f.1) p := by
  unfold Zu at h ⊢
  obtain ⟨h1, h2, h3, h4⟩ := VF h
  refine ⟨h1, h2, h3, fun x hx => ?_⟩
  obtain ⟨i, hi⟩ := List.getElem?_of_mem hx
  have hlen : (Ke s d [] (Yg d)).1.length = d.length := by have := congrArg List.length h3; simpa using this
  have hi' : i < (Ke s d [] (Yg d)).1.length := (List.getElem?_eq_some_iff.1 hi).1
  have hil : i < d.length := by omega
  have := h4 i hil (by unfold onD; exact Fa (Kh hil))
  rw [Iw hi] at this
  exact this
section
variable {P : Program} {N : Nat} {w0 : Base} {F0 : Nat → Prop} {J : Inj} {a : Act} {w : World} {s : St} {Q : Exit → St → Prop}
end
end
section
open Go.RowKit
section
variable {P : Program}
theorem Sb (w : World) (dT sT ty elem : TypeId) (inf : TypeInfo) (b o dLen dCap : Nat) (a : Addr) (sLen sCap : Nat) (cs : List Value) (hu : P.underlying dT = some (.slice elem)) (hi : P.info? elem = some inf)
    (hn : cs.length = Nat.min sLen dLen * inf.size) (hsrc : ∀ j v, cs[j]? = some v → w.cell? (a.add j) = some v) {cur : Array Value} {e : TypeId} (hg : w.heap[b]? = some (.cells cur e (0, 0))) (hfit : o + cs.length ≤ cur.size) (h1 : ∀ v ∈ cs, v.oneCell' = true) :
    (Builtin.copy_ #[dT, sT] ty #[.slice (some ⟨b, o, none⟩) dLen dCap, .slice (some a) sLen sCap]).run P w = .ok (goInt (Nat.min sLen dLen)) (w.setCells b o cs) := by
  have hl := run_loadCells_list (P := P) w a cs hsrc
  have hc : ∀ j, j < cs.length → (w.cell? ⟨b, o + j, none⟩).isSome = true := fun j hj => by
    have : o + j < cur.size := by omega
    simp [World.cell?, hg, this]
  have hf : ∀ j, j < cs.length → w.frozen? ⟨b, o + j, none⟩ = false := fun j hj => by simp [World.frozen?, hg]
  have hst := run_storeCells_cells (P := P) b o cs 0 w (by simpa using hc) (by simpa using hf) h1
  simp [Builtin.copy_, run_underlying hu, Builtin.lenOf, Builtin.firstCells, sizeOf, typeInfo, hi, ← hn, hl, hst]
theorem Rk (w : World) (tS tR e : TypeId) (ht : P.underlying tS = some (.slice e)) (size : Nat) (hz : ∀ w, (Go.sizeOf e).run P w = .ok size w) (a b : Addr) (la ca lb cb : Nat) (hne : a.block ≠ b.block)
    {arrA : Array Value} {tA : TypeId} {frA : Nat × Nat} (hA : w.heap[a.block]? = some (.cells arrA tA frA)) {arrB : Array Value} {tB : TypeId} (hB : w.heap[b.block]? = some (.cells arrB tB (0, 0))) (hpos : 0 < arrB.size) (hposA : 0 < arrA.size) :
    (Extern.SlicesOverlaps.overlaps #[tS, tS] #[tR] #[.slice (some a) la ca, .slice (some b) lb cb]).run P w = .ok (.bool false) w := by
  have hsa : w.shape? a.block = some (tA, arrA.size) := by simp [World.shape?, hA]
  have hsb : w.shape? b.block = some (tB, arrB.size) := by simp [World.shape?, hB]
  have hfb : ∀ o, w.frozen? ⟨b.block, o, none⟩ = false := fun o => by simp [World.frozen?, hB]
  have hfb' : w.frozen? b = false := by simp [World.frozen?, hB]
  have hnb : (a.block != b.block) = true := by simpa using hne
  have hnb' : (a.block == b.block) = false := by simpa using hne
  obtain ⟨kb, hkb⟩ : ∃ kb, arrB.size = kb + 1 := ⟨arrB.size - 1, by omega⟩
  rw [hkb] at hsb
  obtain ⟨ka, hka⟩ : ∃ ka, arrA.size = ka + 1 := ⟨arrA.size - 1, by omega⟩
  rw [hka] at hsa
  change Sem.run P (α := Value) (do
    let some t := (#[tS, tS] : Array TypeId)[0]? | stuck "slices.overlaps: no parameter types"
    let .slice elem ← underlying t | stuck "slices.overlaps: slice type expected"
    let size ← sizeOf elem
    match (some a : Option Addr), (some b : Option Addr) with
    | some a, some b =>
      if la = 0 ∨ lb = 0 ∨ size = 0 then pure (Value.bool false)
      else if a.block != b.block && (← frozen a) && (← frozen b) then unsupported .addressObserved
      else do
        if a.block != b.block then do
          noView a; noView b
          if ← mayBeOne a b then return Value.bool ((← choose (.extern "sameAddr.stringBytes" 2)) == 1)
        pure (Value.bool (a.block == b.block && a.off < b.off + lb * size && b.off < a.off + la * size))
    | _, _ => pure (Value.bool false)) w = _
  by_cases h0 : la = 0 ∨ lb = 0 ∨ size = 0
  · simp [run_underlying ht, hz, h0]
  cases hfa : w.frozen? a with
  | true => simp [run_underlying ht, hz, h0, hnb, hnb', frozen, noView, viewAt, mayBeOne, stringish, shape, Sem.run, hsa, hsb, hfa, hfb, hfb']
  | false =>
    cases hfa2 : w.frozen? { block := a.block, off := ka + 1 } with
    | true => simp [run_underlying ht, hz, h0, hnb, hnb', frozen, noView, viewAt, mayBeOne, stringish, shape, Sem.run, hsa, hsb, hfa, hfb, hfb', hfa2]
    | false => simp [run_underlying ht, hz, h0, hnb, hnb', frozen, noView, viewAt, mayBeOne, stringish, shape, Sem.run, hsa, hsb, hfa, hfb, hfb', hfa2]
theorem rowTop {F : Nat → Prop} {L : List Nat} {w : World} {v : Value} {n : Nat} {l : List (List PV)} (h : OwnTop F L w v n l) (hl : l.length < 1073741824) :
    ∃ oa cap olds, v = .slice oa l.length cap ∧ RowAt w n oa l.length cap olds ∧ VR F w n olds l ∧ (0 < cap → ∃ g, oa = some ⟨g, 0, none⟩ ∧ L = [g]) := by
  rcases h with ⟨rfl, oa, rfl⟩ | ⟨g, cap, cur, e, rfl, rfl, hg, hs, hr, h1, h2⟩
  · exact ⟨oa, 0, [], rfl, ⟨by simp, .inl ⟨rfl, rfl, rfl⟩, Nat.le_refl _, Nat.zero_le _, by simp, by simp⟩, .nil n, fun h => by omega⟩
  exact ⟨some ⟨g, 0, none⟩, cap, _, rfl, ⟨hr.length, .inr ⟨g, cur, e, rfl, hg, hs, rfl⟩, h1, h2.1, hl, hr.ones⟩, hr, fun _ => ⟨g, rfl, rfl⟩⟩
theorem Turned.ret {F G : Nat → Prop} {L : List Nat} {w w' : World} {n : Nat} {oa : Option Addr} {cap : Nat} {u : Value} {m' : Nat} {news : List Value} (h : Turned w w' n oa cap u m' news) (hF : ∀ b, F b → b < w.heap.size ∧ b ∉ L) (hL : 0 < cap → ∃ g, oa = some ⟨g, 0, none⟩ ∧ L = [g]) (hLs : ∀ b, b ∈ L → b < w.heap.size)
    {l' : List (List PV)} (hv : VR F w n news l') (hm : l'.length = m') (hlim : m' ≤ 1073741824) : TRet F L w n false l' (.returned u) w' := by
  obtain ⟨g', cap', cur', e', rfl, hg, hs, ht, h1, h2, h3⟩ := h.row
  have hsame : ∀ b, b < w.heap.size → b ∉ L → w'.heap[b]? = w.heap[b]? := fun b hb hn => by
    rcases h3 with ⟨h3, hc, h4⟩ | ⟨_, _, h4⟩
    · obtain ⟨g, h5, rfl⟩ := hL hc
      rw [h3] at h5
      obtain rfl : g' = g := by simpa using h5
      exact h4 b fun e => hn (by simp [e])
    exact h4 b hb
  refine ⟨_, rfl, fun m hm hmL => ⟨h.os, h.tape, h.output, h.size, fun b hb => hsame b (by omega) fun hx => by have := hmL b hx; omega⟩, hsame, [g'], by simp, fun b hb => ?_, ?_⟩
  · obtain rfl := List.mem_singleton.1 hb
    refine ⟨Q4 hg, ?_⟩
    rcases h3 with ⟨h3, hc, _⟩ | ⟨h3, _, _⟩
    · obtain ⟨g, h5, rfl⟩ := hL hc
      rw [h3] at h5
      obtain rfl : b = g := by simpa using h5
      exact .inr (by simp)
    exact .inl h3
  refine .inr ⟨g', cap', cur', e', rfl, by rw [hm], hg, hs, ?_, by rw [hm]; exact h1, h2, by rw [hm]; exact hlim⟩
  rw [hm, ht]
  exact hv.keep fun b hb => ⟨.inl hb, hsame b (hF b hb).1 (hF b hb).2⟩
theorem GT {f n : Nat} (hok : Dt P f) (h0 : 0 < n)
    (hrun : ∀ w oa m cap olds i vb voff vc vs, RowAt w n oa m cap olds → OneAt w n oa cap vb voff vs → i ≤ m → Calls P f #[.slice oa m cap, .int .i64 (i : Int), .slice (some ⟨vb, voff, none⟩) 1 vc] w (JU w n i oa m cap olds vs))
    {l : List (List PV)} {x : List PV} {i : Int} {j : Nat} (hij : i = (j : Int)) (hj : j ≤ l.length) (hl : l.length < 1073741824) : ATake P f n l [.one (.int .i64 i), .one (.slc .sh n [x])] true false (l.take j ++ [x] ++ l.drop j) := by
  subst hij
  refine ⟨hok, fun w F G L v vals _ hFG hGF hGs hnd hLG hrow hargs => ?_⟩
  have hGF := hGF rfl
  cases hargs with
  | cons a1 ha =>
  cases ha with
  | cons a2 ha =>
  cases ha
  obtain ⟨rfl, _⟩ : _ = Value.int .i64 (j : Int) ∧ InR .i64 (j : Int) := a1
  have a2 : VV G w _ (.slc n [x]) := a2
  obtain ⟨oa, cap, olds, rfl, hR, hV, hL⟩ := rowTop hrow hl
  generalize hp : PV.slc n [x] = p at a2
  cases a2 with
  | int | bool | str | any | raw => cases hp
  | emp => cases hp
  | @slc vb voff vc n' cs l1 hb hc hr h1 h2 =>
    obtain ⟨rfl, rfl⟩ : n = n' ∧ [x] = l1 := by simpa using hp
    have hcl : cs.length = n := by rw [hr.length]; simp
    have hone : OneAt w n oa cap vb voff cs := ⟨hcl, hc, hr.ones, fun g hg hcap e => by
      obtain ⟨g', h5, rfl⟩ := hL hcap
      rw [hg] at h5
      obtain rfl : g = g' := by simpa using h5
      exact (hLG g (by simp)).2 (e ▸ hb)⟩
    refine (hrun w oa l.length cap olds j vb voff vc cs hR hone hj).mono ?_
    rintro e w' ⟨u, rfl, hT⟩
    refine hT.ret (G := G) (fun b hb => ⟨hGs b (hFG b hb), fun hm => (hLG b hm).2 (hFG b hb)⟩) hL (fun b hb => (hLG b hb).1) ?_ ?_ (by omega)
    · exact VR.append (hV.drop j) (VR.append (hr.keep fun b hb => ⟨hGF b hb, rfl⟩) (hV.take j))
    simp; omega
end
end
section
open Go.RowKit
section
variable {P : Program} {t e : TypeId} {ei : TI} {w : World} {oa : Option Addr} {m cap i vb voff vc : Nat} {olds vs : List Value}
theorem goIdx {i m n : Nat} (hi : i < m) : (i + 1) * n = i * n + n ∧ i * n + n ≤ m * n ∧ (m - i) * n = m * n - i * n ∧ (m + 1) * n = m * n + n := by
  have h1 : (i + 1) * n ≤ m * n := Nat.mul_le_mul_right n (by omega)
  have h2 : (i + 1) * n = i * n + n := by rw [Nat.add_mul, Nat.one_mul]
  exact ⟨h2, by omega, Nat.sub_mul .., by rw [Nat.add_mul, Nat.one_mul]⟩
theorem OneAt.block {n : Nat} (h : OneAt w n oa cap vb voff vs) (h0 : 0 < n) : vb < w.heap.size ∧ ∃ arr tA fr, w.heap[vb]? = some (.cells arr tA fr) ∧ 0 < arr.size := by
  have hl : 0 < vs.length := by rw [h.len]; exact h0
  have hc := h.cells 0 vs[0] (List.getElem?_eq_getElem hl)
  unfold World.cell? at hc
  split at hc
  · rename_i arr tA fr hh
    refine ⟨Q4 hh, arr, tA, fr, hh, ?_⟩
    have hc : arr[voff + 0]? = some vs[0] := by simpa using hc
    have := (Array.getElem?_eq_some_iff.1 hc).1
    omega
  cases hc
theorem Dd {w : World} {ops : Array Oper} {rest : List Oper} {o : Oper} {a : Act} {Q : Exit → Act → World → Prop} (hgd : o.guard = none) (d s : Operand) (t t' : TypeId)
    (ho : o.op = .call { callee := .builtin .copy, args := #[d, s], argTypes := #[t, t'] }) (v u : Value) (hd : a.eval d = v) (hs : a.eval s = u) {v' : Value} {w' : World}
    (hr : (Builtin.copy_ #[t, t'] o.type #[v, u]).run P w = .ok v' w') (h : wpList P ops Q rest (a.put o.dst v') w') : wpList P ops Q (o :: rest) a w :=
  wpList_plain hgd fun K hK => by
    unfold Oper.wp execOp
    simp only [ho, resolve, invoke, builtin, Sem.run_bind, Sem.run_pure, Result.andThen_ok, List.map_toArray, List.map_cons, List.map_nil, hd, hs, hr]
    exact hK _ _ h
theorem Fb {w : World} {ops : Array Oper} {o : Oper} {a : Act} {K : Act → World → Prop} {Q : Exit → Act → World → Prop} {E : Prop}
    (hg : o.guard = none) (d x : Operand) (dT sT : TypeId) (hop : o.op = .call { callee := .builtin .copy, args := #[d, x], argTypes := #[dT, sT] })
    (v u : Value) (hd : a.eval d = v) (hx : a.eval x = u) {v' : Value} {w' : World} (hr : (Builtin.copy_ #[dT, sT] o.type #[v, u]).run P w = .ok v' w') (hK : K (a.put o.dst v') w') :
    if Region.wanted o (yielded ops a.tmps) = true then Oper.wp P o a w K Q else E := by
  rw [if_pos (by simp [Region.wanted, hg])]
  unfold Oper.wp execOp
  simp only [hop, resolve, invoke, builtin, Sem.run_bind, Sem.run_pure, Result.andThen_ok, List.map_toArray, List.map_cons, List.map_nil, hd, hx, hr]
  exact hK
theorem Ch (g : Nat) : ∀ (vs : List Value) (o : Nat) (w : World), (w.drew.setCells g o vs).heap = (w.setCells g o vs).heap
  | [], _, _ => rfl
  | v :: vs, o, w => Ch g vs (o + 1) (w.setCell ⟨g, o, none⟩ v)
theorem src_one (hu : P.underlying t = some (.slice e)) (hO : OneAt w ei.size oa cap vb voff vs) : Src P ei.size t (.slice (some ⟨vb, voff, none⟩) 1 vc) 1 vs w :=
  Src.ofSlice w hu _ _ _ _ (by rw [hO.len]; omega) (fun j u hj => by rw [Addr.add_lit]; exact hO.cells j u hj) hO.ones
theorem AW (hu : P.underlying t = some (.slice e)) (hei : TiOk P e ei) (hn : 0 < ei.size) (hR : RowAt w ei.size oa m cap olds) (hO : OneAt w ei.size oa cap vb voff vs) :
    ∃ u w', (∀ ty, (Builtin.append_ #[t, t] ty #[.slice oa m cap, .slice (some ⟨vb, voff, none⟩) 1 vc]).run P w = .ok u w') ∧ JU w ei.size m oa m cap olds vs (.returned u) w' := by
  have hold : ∀ ad, oa = some ad → ∀ (j : Nat) (u : Value), olds[j]? = some u → w.cell? (ad.add j) = some u := fun ad had j u hj => by
    rcases hR.row with ⟨_, h0, _⟩ | ⟨g, cur, e0, h1, h2, h3, h4⟩
    · have := hR.len
      rw [h0, Nat.zero_mul] at this
      rw [List.length_eq_zero_iff.1 this] at hj
      simp at hj
    rw [had] at h1
    obtain rfl := Option.some.inj h1
    rw [← h4] at hj
    exact Fu h2 _ j u hj
  obtain ⟨g', cap', cur', e', w', hr, h1, h2, h3, h4, h5, h6, h7, h8, h9, h10⟩ := QR (ty := 0) hu hei hn hR.len hold (fun h => by
      rcases hR.row with ⟨_, h0, _⟩ | ⟨g, cur, e0, h1, _⟩
      · exact h0
      rw [h] at h1; cases h1) (hR.row.imp (fun h => h.2.2) fun h => h) hR.le (src_one (vc := vc) hu hO) (by have := hR.lim; omega) (fun _ => by omega) hR.cap
  refine ⟨_, w', fun ty => hr, _, rfl, ⟨h6, h7, h8, h9, g', cap', cur', e', rfl, h1, h2, ?_, h4, h5, ?_⟩⟩
  · rw [h3, List.take_of_length_le (by rw [hR.len]; omega), List.drop_of_length_le (by rw [hR.len]; omega), List.append_nil]
  exact h10.imp (fun ⟨cur, e0, h1, h2, h3, h4⟩ => ⟨h1, by omega, h4⟩) fun ⟨h1, h2, h3⟩ => ⟨by omega, h2, h3⟩
variable {g : Nat} {cur : Array Value} {e0 : TypeId}
theorem VG (hg : w.heap[g]? = some (.cells cur e0 (0, 0))) (htk : cur.toList.take (m * ei.size) = olds) {k : Nat} : ∀ (j : Nat) (u : Value), (olds.drop k)[j]? = some u → w.cell? ((⟨g, k, none⟩ : Addr).add j) = some u := fun j u hj => by
  rw [List.getElem?_drop, ← htk] at hj
  have := Fu hg _ _ u hj
  rw [Addr.add_lit, Nat.zero_add] at this
  rw [Addr.add_lit]
  exact this
theorem V0 (g : Nat) : ∀ (vs : List Value) (o : Nat) (w : World), (w.setCells g o vs).os = w.os ∧ (w.setCells g o vs).tape = w.tape ∧ (w.setCells g o vs).output = w.output
  | [], _, _ => ⟨rfl, rfl, rfl⟩
  | v :: vs, o, w => V0 g vs (o + 1) (w.setCell ⟨g, o, none⟩ v)
theorem Ov (hu : P.underlying t = some (.slice e)) (hei : TiOk P e ei) (hn : 0 < ei.size) (hg : w.heap[g]? = some (.cells cur e0 (0, 0))) (hcs : cur.size = cap * ei.size) (htk : cur.toList.take (m * ei.size) = olds)
    (hR : RowAt w ei.size (some ⟨g, 0, none⟩) m cap olds) (hO : OneAt w ei.size (some ⟨g, 0, none⟩) cap vb voff vs) (hi : i < m) (hroom : m + 1 ≤ cap) :
    (∀ ty dc sc, (Builtin.copy_ #[t, t] ty #[.slice (some ⟨g, (i + 1) * ei.size, none⟩) (m + 1 - (i + 1)) dc, .slice (some ⟨g, i * ei.size, none⟩) (m + 1 - i) sc]).run P w = .ok (goInt (Nat.min (m + 1 - i) (m + 1 - (i + 1)))) (w.setCells g ((i + 1) * ei.size) (olds.drop (i * ei.size)))) ∧
    (∀ W : World, W.heap = (w.setCells g ((i + 1) * ei.size) (olds.drop (i * ei.size))).heap → ∀ ty dc, (Builtin.copy_ #[t, t] ty #[.slice (some ⟨g, i * ei.size, none⟩) (m + 1 - i) dc, .slice (some ⟨vb, voff, none⟩) 1 vc]).run P W = .ok (goInt (Nat.min 1 (m + 1 - i))) (W.setCells g (i * ei.size) vs)) ∧
    (∀ W : World, W.heap = (w.setCells g ((i + 1) * ei.size) (olds.drop (i * ei.size))).heap → W.os = w.os → W.tape = w.tape → W.output = w.output → JU w ei.size i (some ⟨g, 0, none⟩) m cap olds vs (.returned (.slice (some ⟨g, 0, none⟩) (m + 1) cap)) (W.setCells g (i * ei.size) vs)) := by
  obtain ⟨inf, z, hI, hsz, _⟩ := hei.info
  obtain ⟨k1, k2, k3, k4⟩ := goIdx (n := ei.size) hi
  have k5 : m * ei.size + ei.size ≤ cap * ei.size := by rw [← k4]; exact Nat.mul_le_mul_right _ hroom
  have hdl : (olds.drop (i * ei.size)).length = (m - i) * ei.size := by rw [List.length_drop, hR.len, k3]
  have hfit1 : (i + 1) * ei.size + (olds.drop (i * ei.size)).length ≤ cur.size := by rw [hdl]; omega
  have hmin : Nat.min (m + 1 - i) (m + 1 - (i + 1)) = m - i := by simp only [Nat.min_def]; split <;> omega
  have hmin1 : Nat.min 1 (m + 1 - i) = 1 := by simp only [Nat.min_def]; split <;> omega
  have hvb : vb ≠ g := hO.ne g rfl (by omega)
  have hg1 := Vv g (olds.drop (i * ei.size)) ((i + 1) * ei.size) w hg
  have hfit2 : i * ei.size + vs.length ≤ (putCells cur ((i + 1) * ei.size) (olds.drop (i * ei.size))).size := by rw [Vf, hO.len]; omega
  refine ⟨fun ty dc sc => ?_, fun W hW ty dc => ?_, fun W hW ho ht hu' => ?_⟩
  · exact Sb w t t ty e inf g _ _ dc ⟨g, i * ei.size, none⟩ _ sc _ hu hI (by rw [hmin, hdl, hsz]) (VG hg htk) hg hfit1 fun v hv => hR.ones v (List.mem_of_mem_drop hv)
  · refine Sb W t t ty e inf g _ _ dc ⟨vb, voff, none⟩ _ vc _ hu hI (by rw [hmin1, hO.len, hsz, Nat.one_mul]) (fun j v hj => ?_) (hW ▸ hg1) hfit2 hO.ones
    rw [Addr.add_lit, World.cell?_of_block (w := w) (by rw [hW]; exact J8 g hvb _ _ _)]
    exact hO.cells j v hj
  obtain ⟨p1, p2, p3⟩ := V0 g vs (i * ei.size) W
  have hg2 := Vv g vs (i * ei.size) W (hW ▸ hg1)
  refine ⟨_, rfl, ⟨p1.trans ho, p2.trans ht, p3.trans hu', ?_, g, cap, _, e0, rfl, hg2, by rw [Vf, Vf]; exact hcs, ?_, hroom, hR.cap, .inl ⟨rfl, by omega, fun b hb => ?_⟩⟩⟩
  · rw [Ag, hW, Ag]; exact Nat.le_refl _
  · have hci : cur.toList.take (i * ei.size) = olds.take (i * ei.size) := by
      rw [← htk, List.take_take]; congr 1; omega
    have hA : ((cur.toList.take ((i + 1) * ei.size) ++ olds.drop (i * ei.size)) ++ cur.toList.drop ((i + 1) * ei.size + (olds.drop (i * ei.size)).length)).take (i * ei.size) = olds.take (i * ei.size) := by
      have hl : (cur.toList.take ((i + 1) * ei.size)).length = (i + 1) * ei.size := by rw [List.length_take, Array.length_toList]; omega
      rw [List.append_assoc, List.take_append_of_le_length (by rw [hl]; omega), List.take_take, ← hci]; congr 1; omega
    have hB : ((cur.toList.take ((i + 1) * ei.size) ++ olds.drop (i * ei.size)) ++ cur.toList.drop ((i + 1) * ei.size + (olds.drop (i * ei.size)).length)).drop (i * ei.size + vs.length) = olds.drop (i * ei.size) ++ cur.toList.drop ((i + 1) * ei.size + (olds.drop (i * ei.size)).length) := by
      have hl : (cur.toList.take ((i + 1) * ei.size)).length = i * ei.size + vs.length := by rw [List.length_take, Array.length_toList, hO.len]; omega
      rw [List.append_assoc, ← hl, List.drop_left]
    rw [U2 hfit2, U2 hfit1, hA, hB]
    have hl3 : (olds.take (i * ei.size) ++ vs ++ olds.drop (i * ei.size)).length = (m + 1) * ei.size := by
      rw [List.length_append, List.length_append, hdl, hO.len, List.length_take, hR.len, k3]; omega
    rw [← List.append_assoc, ← hl3, List.take_left]
  rw [J8 g hb, hW, J8 g hb]
theorem VH {tn : TypeId} (hu : P.underlying t = some (.slice e)) (htn : P.underlying tn = some (.int .i64)) (hei : TiOk P e ei) (hn : 0 < ei.size) (hg : w.heap[g]? = some (.cells cur e0 (0, 0))) (hcs : cur.size = cap * ei.size) (htk : cur.toList.take (m * ei.size) = olds)
    (hR : RowAt w ei.size (some ⟨g, 0, none⟩) m cap olds) (hO : OneAt w ei.size (some ⟨g, 0, none⟩) cap vb voff vs) (hvw : vb < w.heap.size) (hi : i < m) (hroom : cap < m + 1) :
    ∃ G W1, m + 1 ≤ G ∧ G ≤ maxLen ∧ (∀ ty k, k = ((m + 1 - i : Nat) : Int) → (Builtin.append_ #[t, tn] ty #[.slice (some ⟨g, 0, none⟩) i cap, .int .i64 k]).run P w = .ok (.slice (some ⟨w.heap.size, 0, none⟩) (m + 1) G) W1) ∧
    (∀ W : World, W.heap = W1.heap → ∀ ty dc, (Builtin.copy_ #[t, t] ty #[.slice (some ⟨w.heap.size, i * ei.size, none⟩) (m + 1 - i) dc, .slice (some ⟨vb, voff, none⟩) 1 vc]).run P W = .ok (goInt (Nat.min 1 (m + 1 - i))) (W.setCells w.heap.size (i * ei.size) vs)) ∧
    (∀ W : World, W.heap = (W1.setCells w.heap.size (i * ei.size) vs).heap → ∀ ty dc sc, (Builtin.copy_ #[t, t] ty #[.slice (some ⟨w.heap.size, (i + 1) * ei.size, none⟩) (m + 1 - (i + 1)) dc, .slice (some ⟨g, i * ei.size, none⟩) (m - i) sc]).run P W = .ok (goInt (Nat.min (m - i) (m + 1 - (i + 1)))) (W.setCells w.heap.size ((i + 1) * ei.size) (olds.drop (i * ei.size)))) ∧
    (∀ W : World, W.heap = (W1.setCells w.heap.size (i * ei.size) vs).heap → W.os = w.os → W.tape = w.tape → W.output = w.output → JU w ei.size i (some ⟨g, 0, none⟩) m cap olds vs (.returned (.slice (some ⟨w.heap.size, 0, none⟩) (m + 1) G)) (W.setCells w.heap.size ((i + 1) * ei.size) (olds.drop (i * ei.size)))) ∧
    W1.os = w.os ∧ W1.tape = w.tape ∧ W1.output = w.output := by
  obtain ⟨inf, z, hI, hsz, hby, hz, hzs, _⟩ := hei.info
  obtain ⟨k1, k2, k3, k4⟩ := goIdx (n := ei.size) hi
  have hlim := hR.lim
  have hle := hR.le
  have hgw : g < w.heap.size := Q4 hg
  have hdl : (olds.drop (i * ei.size)).length = (m - i) * ei.size := by rw [List.length_drop, hR.len, k3]
  have htl : (olds.take (i * ei.size)).length = i * ei.size := by rw [List.length_take, hR.len]; omega
  have hmin : Nat.min (m - i) (m + 1 - (i + 1)) = m - i := by simp only [Nat.min_def]; split <;> omega
  have hmin1 : Nat.min 1 (m + 1 - i) = 1 := by simp only [Nat.min_def]; split <;> omega
  have hold : (Builtin.firstCells inf.size i (.slice (some ⟨g, 0, none⟩) i cap)).run P w.drew = .ok (olds.take (i * ei.size)).toArray w.drew := by
    refine run_firstCells_some w.drew inf.size i ⟨g, 0, none⟩ i cap _ (by rw [htl, hsz]) fun j u hj => ?_
    rw [List.getElem?_take] at hj
    split at hj
    · rw [← htk] at hj
      exact Fu hg _ j u hj
    cases hj
  have hik : i + (m + 1 - i) = m + 1 := by omega
  have hbytes : ((m + 1) + (m + 1) / 4 + 192) * inf.bytes ≤ 281474976710656 := Nat.le_trans (Nat.mul_le_mul (show _ ≤ 1342177472 by omega) hby) (by decide)
  have hkb : (m + 1 - i) * inf.bytes ≤ 281474976710656 := Nat.le_trans (Nat.mul_le_mul_right _ (by omega)) hbytes
  have hap : ∀ ty, (Builtin.append_ #[t, tn] ty #[.slice (some ⟨g, 0, none⟩) i cap, .int .i64 ((m + 1 - i : Nat) : Int)]).run P w = _ := fun ty =>
    Lib.run_append_grow_zeros w t tn ty e inf z .i64 .i64 hu htn hI hz (some ⟨g, 0, none⟩) i cap (olds.take (i * ei.size)) hold (m + 1 - i) (by omega) (by omega) (by omega) (by omega) hkb (by rw [hik]; exact growslice_fits_wide hroom hbytes)
  rw [hik] at hap
  obtain ⟨G, hG⟩ : ∃ G, G = grownCap w (m + 1) cap e := ⟨_, rfl⟩
  have hGn : m + 1 ≤ G := by rw [hG]; exact grownCap_ge w _ _ _
  have hGm : G ≤ maxLen := by rw [hG]; exact grownCap_le_maxLen w _ _ _ (by unfold maxLen; omega)
  rw [← hG] at hap
  obtain ⟨ROW, hROW⟩ : ∃ ROW : Array Value, ROW = (olds.take (i * ei.size)).toArray ++ Builtin.zeroCells z.cells (m + 1 - i) ++ Builtin.zeroCells z.cells (G - (m + 1)) := ⟨_, rfl⟩
  rw [← hROW] at hap
  have hRs : ROW.size = G * ei.size := by
    rw [hROW]
    simp only [Array.size_append, List.size_toArray, size_zeroCells, hzs, htl, ← Nat.add_mul]
    congr 1
    omega
  have hRt : ROW.toList.take (i * ei.size) = olds.take (i * ei.size) := by
    rw [hROW, Array.toList_append, Array.toList_append, List.append_assoc]
    show (olds.take (i * ei.size) ++ _).take _ = _
    rw [List.take_append_of_le_length (by rw [htl]; omega), List.take_of_length_le (by rw [htl]; omega)]
  have hGe : (m + 1) * ei.size ≤ G * ei.size := Nat.mul_le_mul_right _ hGn
  obtain ⟨W1, hW1⟩ : ∃ W1, W1 = w.drew.alloc (.cells ROW e) := ⟨_, rfl⟩
  rw [← hW1] at hap
  have hn1 : W1.heap[w.heap.size]? = some (.cells ROW e (0, 0)) := by rw [hW1]; exact heap_alloc_new w.drew _
  have ho1 : ∀ b, b < w.heap.size → W1.heap[b]? = w.heap[b]? := fun b hb => by rw [hW1]; exact heap_alloc_old w.drew _ hb
  have hs1 : W1.heap.size = w.heap.size + 1 := by rw [hW1]; simp
  have hfitA : i * ei.size + vs.length ≤ ROW.size := by rw [hO.len, hRs]; omega
  have hg2 := Vv w.heap.size vs (i * ei.size) W1 hn1
  have hfitB : (i + 1) * ei.size + (olds.drop (i * ei.size)).length ≤ (putCells ROW (i * ei.size) vs).size := by rw [Vf, hdl, hRs]; omega
  refine ⟨G, W1, hGn, hGm, fun ty k hk => by subst hk; exact hap ty, fun W hW ty dc => ?_, fun W hW ty dc sc => ?_, fun W hW ho ht hu' => ?_, by rw [hW1]; rfl, by rw [hW1]; rfl, by rw [hW1]; rfl⟩
  · refine Sb W t t ty e inf _ _ _ dc ⟨vb, voff, none⟩ _ vc _ hu hI (by rw [hmin1, hO.len, hsz, Nat.one_mul]) (fun j v hj => ?_) (hW ▸ hn1) hfitA hO.ones
    rw [Addr.add_lit, World.cell?_of_block (w := w) (by rw [hW]; exact ho1 _ hvw)]
    exact hO.cells j v hj
  · refine Sb W t t ty e inf _ _ _ dc ⟨g, i * ei.size, none⟩ _ sc _ hu hI (by rw [hmin, hdl, hsz]) (fun j v hj => ?_) (hW ▸ hg2) hfitB fun v hv => hR.ones v (List.mem_of_mem_drop hv)
    have := VG hg htk j v hj
    rw [Addr.add_lit] at this ⊢
    rw [World.cell?_of_block (w := w) (by rw [hW]; exact (J8 w.heap.size (show g ≠ w.heap.size by omega) _ _ _).trans (ho1 _ hgw))]
    exact this
  obtain ⟨p1, p2, p3⟩ := V0 w.heap.size (olds.drop (i * ei.size)) ((i + 1) * ei.size) W
  have hg3 := Vv w.heap.size (olds.drop (i * ei.size)) ((i + 1) * ei.size) W (hW ▸ hg2)
  have hsz3 : (W.setCells w.heap.size ((i + 1) * ei.size) (olds.drop (i * ei.size))).heap.size = w.heap.size + 1 := by rw [Ag, hW, Ag, hs1]
  refine ⟨_, rfl, ⟨p1.trans ho, p2.trans ht, p3.trans hu', by omega, w.heap.size, G, _, e, rfl, hg3, by rw [Vf, Vf]; exact hRs, ?_, hGn, hGm, .inr ⟨Nat.le_refl _, by omega, fun b hb => ?_⟩⟩⟩
  · rw [U2 hfitB, U2 hfitA, hRt]
    have hl : (olds.take (i * ei.size) ++ vs).length = (i + 1) * ei.size := by rw [List.length_append, htl, hO.len]; omega
    rw [show ((olds.take (i * ei.size) ++ vs ++ ROW.toList.drop (i * ei.size + vs.length)).take ((i + 1) * ei.size)) = olds.take (i * ei.size) ++ vs from by rw [← hl, List.take_left]]
    have hl3 : (olds.take (i * ei.size) ++ vs ++ olds.drop (i * ei.size)).length = (m + 1) * ei.size := by
      rw [List.length_append, List.length_append, hdl, hO.len, htl, k3]; omega
    rw [← hl3, List.take_left]
  rw [J8 _ (show b ≠ w.heap.size by omega), hW, J8 _ (show b ≠ w.heap.size by omega)]
  exact ho1 b hb
def K9 {α : Type} (l : List α) (j : Nat) (y : α) : List α := l.take j ++ [y] ++ l.drop j
theorem av_ins {α : Type} [GoE α] {n : Nat} (l : List α) (z : Nat) (y : α) : AV.one (.slc .sh n (eL (K9 l z y))) = AV.one (.slc .sh n ((eL l).take z ++ [GoE.enc y] ++ (eL l).drop z)) := by simp [K9, eL, List.map_take, List.map_drop]
theorem GU {α : Type} {l : List α} {j : Nat} {y : α} (h : j ≤ l.length) : (K9 l j y).length = l.length + 1 := by simp [K9]; omega
theorem CO {α : Type} [GoE α] {f n : Nat} (hok : Dt P f) (h0 : 0 < n)
    (hrun : ∀ w oa m cap olds i vb voff vc vs, RowAt w n oa m cap olds → OneAt w n oa cap vb voff vs → i ≤ m → Calls P f #[.slice oa m cap, .int .i64 (i : Int), .slice (some ⟨vb, voff, none⟩) 1 vc] w (JU w n i oa m cap olds vs))
    (l : List α) (y : α) {i : Int} (hi : 0 ≤ i) (hj : i ≤ l.length) (hl : l.length < 1073741824) : ATake P f n (eL l) [.one (.int .i64 i), .one (.slc .sh n (eL [y]))] true false (eL (K9 l i.toNat y)) := by
  have h := GT hok h0 hrun (l := eL l) (x := GoE.enc y) (i := i) (j := i.toNat) (by omega) (by simp [eL]; omega) (by simpa [eL] using hl)
  rw [show eL (K9 l i.toNat y) = (eL l).take i.toNat ++ [GoE.enc y] ++ (eL l).drop i.toNat by simp [K9, eL, List.map_take, List.map_drop]]
  exact h
end
end
section
open Go.RowKit
section
variable {α : Type} {p : α → Bool}
def ixF (p : α → Bool) : List α → Int
  | [] => -1
  | a :: l => bif p a then 0 else bif ixF p l == -1 then -1 else ixF p l + 1
theorem Me (p : α → Bool) : ∀ l : List α, -1 ≤ ixF p l ∧ ixF p l < l.length
  | [] => by simp [ixF]
  | a :: l => by
    have ih := Me p l
    simp only [ixF, List.length_cons]
    cases p a with
    | true => simp only [cond_true]; omega
    | false =>
      simp only [cond_false]
      cases h : (ixF p l == -1) with
      | true => simp only [cond_true]; omega
      | false => simp only [cond_false]; omega
theorem idx_go {f : Nat → α → Unit → Rd Int Unit Unit} {e : Nat → Unit → Unit} (hf : ∀ k a s, f k a s = bif p a then .ret ((k : Nat) : Int) else .next ()) : ∀ (l : List α) (k : Nat), Xp f e l k () = bif ixF p l == -1 then .brk () else .ret ((k : Int) + ixF p l)
  | [], k => rfl
  | a :: l, k => by
    simp only [Xp, hf, ixF]
    cases p a with
    | true => simp only [cond_true]; rw [show ((0 : Int) == -1) = false from rfl, cond_false, Int.add_zero]
    | false =>
      simp only [cond_false]
      rw [idx_go hf l (k + 1)]
      have hb := Me p l
      cases h : (ixF p l == -1) with
      | true => simp only [cond_true]; rfl
      | false =>
        have hne : ixF p l ≠ -1 := by simpa using h
        simp only [cond_false]
        rw [show (ixF p l + 1 == -1) = false by simp; omega, cond_false]
        congr 1; omega
theorem AX {f : Nat → α → Unit → Rd Int Unit Unit} {e : Nat → Unit → Unit} (hf : ∀ k a s, f k a s = bif p a then .ret ((k : Nat) : Int) else .next ()) (l : List α) : Out.on (Xp f e l 0 ()) (fun _ => -1) = ixF p l := by
  rw [idx_go hf]
  cases h : (ixF p l == -1) with
  | true => simp only [cond_true, Out.on]; exact (by simpa using h : ixF p l = -1).symm
  | false => simp only [cond_false, Out.on]; omega
variable [Inhabited α]
end
open GoE (enc wide)
def Qo (f : X9) : X9 := f
theorem Ow (f : X9) : ACalls Tryz.prog 90 [.a [.i f.1, .i f.2.1, .b f.2.2.1, .i f.2.2.2.1, .h f.2.2.2.2]] (.a [.i ((Qo f).1), .i ((Qo f).2.1), .b ((Qo f).2.2.1), .i ((Qo f).2.2.2.1), .o 0 ((Qo f).2.2.2.2)]) := by
 refine en Qa Tryz.func90 fun w0 F0 hG => ?_
 refine sn Qa [1, 2] [1, 2] (p0) ?_
 refine wB 1 4 .sh f.2.2.2.2 (fun hw1 hl2 => ?_)
 refine tn Qa [1, 2] [1, 2] (po 3 (.flat) (px (Hu (n := (([] : List (List PV)).length + ((eL f.2.2.2.2) : List (List PV)).length)) (Dm (rfl) (Yb f.2.2.2.2) (by first | omega | (simp only [List.length_cons, List.length_nil]; omega) | (simp; omega) | simp))) (px (H4 (H5 f.2.2.2.2)) p0))) ?_
 refine tu Qa [(2, .p 2 0)] [0] [(2, [.i f.1, .i f.2.1, .b f.2.2.1, .i f.2.2.2.1, .o 384 f.2.2.2.2])] [] (p0) ?_
 refine Qe ?_
 exact pz [] (show Qo f = f from rfl) (fun z => .a [.i z.1, .i z.2.1, .b z.2.2.1, .i z.2.2.2.1, .o 0 z.2.2.2.2])
def Ci (id : Int) (k0 : Nat) (a0 : X9) (_ : Unit) : Rd (Int) (Unit) (Unit) := (bif (a0.1 == id) then (.ret ((k0 : Nat) : Int)) else (.next ()))
def Cj (_ : Nat) (_ : Unit) : Unit := ()
def Xm (s_ : Xo) (id : Int) : Int := (Out.on (Xp (Ci id) Cj s_.2.1 0 ()) (fun _ => -1))
theorem GV (s_ : Xo) (id : Int) : -1 ≤ Xm s_ id ∧ Xm s_ id < (List.length s_.2.1 : Int) := by
 unfold Xm
 rw [AX (p := fun a : X9 => a.1 == id) (f := Ci id) (e := Cj) (fun _ _ _ => rfl)]
 exact Me _ _
theorem QD (s_ : Xo) (id : Int) : ACalls Tryz.prog 94 [.a [.h s_.1, .h s_.2.1, .i s_.2.2], .i id] (.i (Xm s_ id)) := by
 refine en Qa Tryz.func94 fun w0 F0 hG => ?_
 refine sn Qa [1, 2, 4] [2] (p0) ?_
 refine Qc ?_
 refine tn Qa [1, 2, 4, 5] [2] (p0) ?_
 refine mz [(2, .p 2 0), (4, .i 0), (5, .i 0)] [0] [(2, [.h s_.1, .h s_.2.1, .i s_.2.2])] [] ?_
 refine wB 2 1 .sh s_.2.1 (fun hw1 hl2 => ?_)
 refine blL0b (Ci id) Cj s_.2.1 () (fun k0 _ => [(5, .i ((k0 : Nat) : Int))]) [5] (fun _ _ => []) [] (fun _ => []) [1, 2, 5] (fun _ => []) [2] wf0 (fun k0 s0 hk0 hI0 => ?_) (fun k0 s0 hk0 hI0 => ?_) (fun y0 hD0 => ?_)
 ·
  obtain ⟨a0, hx0⟩ := Xr (l := s_.2.1) (i := k0) hk0
  refine Qc ?_
  refine sn Qa [1, 2, 4, 5, 10] [2] (pl 3 s_.2.1 (pe 4 (Qw (decide_eq_true (p := ((k0 : Nat) : Int) < (s_.2.1.length : Int)) (by omega))) p0)) ?_
  refine ckT ?_
  refine Qh ?_
  refine Qc ?_
  refine Qt ?_
  refine tn Qa [1, 2, 4, 5, 20] [2] (pn 3 hx0 p0) ?_
  refine ck (a0.1 == id) (fun h3 => ?_) (fun h3 => ?_)
  ·
   refine tu Qa [(4, .i ((k0 : Nat) : Int))] [4] [] [] (p0) ?_
   refine Qe ?_
   have hr4 : (Xp (Ci id) Cj s_.2.1 0 ()) = .ret ((k0 : Nat) : Int) := Zt hx0 (Q1 h3 (rfl)) hI0
   exact pi [] (Ie hr4)
  have h3d := Ym h3
  refine Qh ?_
  refine qu Qa [(5, .i ((k0 + 1 : Nat) : Int))] [5] [] [] (pe 1 (Jw (Qy k0 (by omega))) p0) ?_
  exact xw _ (Q0 hx0 (Ql h3 (rfl)) hI0)
 ·
  refine Qc ?_
  refine sn Qa [1, 2, 4, 5, 10] [2] (pl 3 s_.2.1 (pe 4 (Qw (decide_eq_false (p := ((k0 : Nat) : Int) < (s_.2.1.length : Int)) (by omega))) p0)) ?_
  refine ckF ?_
  refine Q2 ?_
  exact xw _ (Xs hk0 (rfl) hI0)
 refine sn Qa [4] [] (p0) ?_
 refine Qe ?_
 exact pi [] (Un hD0 (rfl))
open GoD (rd own)
theorem inR_u8 (a : UInt8) : InR .u8 (a.toNat : Int) := by
  have h : a.toNat < 256 := a.toNat_lt
  constructor <;> simp [IntKind.min, IntKind.max, IntKind.bits, IntKind.signed] <;> omega
instance instGoEU8 : GoE UInt8 where
  enc a := [.int .u8 (a.toNat : Int)]
  no_any h := by rw [List.mem_singleton.1 h]; simp
  enc_len _ := rfl
  n_pos := Nat.zero_lt_one
  wide _ := True
  wide_size _ := trivial
  vc_wide _ := trivial
  rd_vc {w cs a} h _ := by rw [show cs = _ from h]; exact .cons (.int (inR_u8 a)) .nil
  vc_rd h := by
    cases h with
    | cons h1 h2 => cases h2; cases h1; rfl
  own_oc h _ := by obtain ⟨rfl, h⟩ := h; rw [h]; exact OC.cons (L1 := []) (L2 := []) (.int (inR_u8 _)) .nil
  oc_own h _ := by
    cases h with
    | cons h1 h2 => cases h2; cases h1; exact ⟨rfl, rfl⟩
open GoE (enc wide)
def Ox (k0 : Nat) (a0 : UInt8) (s0 : Int) : Rd (Nat × Int) (Int) (Int) := (bif decide (((k0 : Nat) : Int) < (4000 : Int)) then (.next (JN .i64 (IntKind.i64.wrap (IntKind.i64.wrap (IntKind.i64.wrap (s0 * 131) + IntKind.i64.wrap (UInt8.toNat a0 : Int)) + 7)) 1073741823)) else (.brk s0))
def Oy (_ : Nat) (s0 : Int) : Int := s0
def Va (code : (List UInt8)) : Nat × Int := (Out.on (Xp Ox Oy code 0 (IntKind.i64.wrap (94701 + (code.length : Int)))) (fun y0 => (0, y0)))
set_option maxRecDepth 30000 in
theorem Fd (code : (List UInt8)) : ANew Tryz.prog 22 [.h code] [.h code, .i (((Va code).1 : Nat) : Int), .i ((Va code).2)] := by
 refine anew_of Tryz.func22 (fn := Tryz.f22) rfl (by unfold Dt; kernel_rfl) (Nat.le_of_ble_eq_true rfl) rfl fun w0 F0 hG => ?_
 refine sn Qa [0] [] (p0) ?_
 refine tn Qa [0, 3] [] (pl 1 code p0) ?_
 refine Qc ?_
 refine tu Qa [(3, .i (IntKind.i64.wrap (94701 + (code.length : Int)))), (4, .i 0)] [] [] [] (p0) ?_
 refine wT 0 0 .sh code (fun hw1 hl2 => ?_)
 refine Ii Ox Oy code (IntKind.i64.wrap (94701 + (code.length : Int))) (fun k0 s0 => [(3, .i s0), (4, .i ((k0 : Nat) : Int))]) [3, 4] (fun y0 => [(3, .i y0)]) [3, 4] wf0 (fun k0 s0 hk0 hI0 => ?_) (fun k0 s0 hk0 hI0 => ?_) (fun y0 hD0 => ?_)
 ·
  obtain ⟨a0, hx0⟩ := Xr (l := code) (i := k0) hk0
  refine Qc ?_
  refine sn Qa [0, 3, 4, 15] [] (pl 2 code (pe 3 (Qw (decide_eq_true (p := ((k0 : Nat) : Int) < (code.length : Int)) (by omega))) p0)) ?_
  refine ck (decide (((k0 : Nat) : Int) < (4000 : Int))) (fun h3 => ?_) (fun h3 => ?_)
  ·
   have h3d := of_decide_eq_true h3
   refine Qh ?_
   refine Qc ?_
   refine Qt ?_
   refine qn Qa [0, 3, 4] [] (pn 4 hx0 p0) ?_
   refine qu Qa [(3, .i (JN .i64 (IntKind.i64.wrap (IntKind.i64.wrap (IntKind.i64.wrap (s0 * 131) + IntKind.i64.wrap (UInt8.toNat a0 : Int)) + 7)) 1073741823)), (4, .i ((k0 + 1 : Nat) : Int))] [3, 4] [] [] (pe 1 (Jw (Qy k0 (by omega))) p0) ?_
   exact xw _ (Q0 hx0 (Q1 h3 (rfl)) hI0)
  refine Q2 ?_
  exact xw _ (Lm hx0 (Ql h3 (rfl)) hI0)
 ·
  refine Qc ?_
  refine sn Qa [0, 3, 4, 15] [] (pl 2 code (pe 3 (Qw (decide_eq_false (p := ((k0 : Nat) : Int) < (code.length : Int)) (by omega))) p0)) ?_
  refine ckF ?_
  refine Q2 ?_
  exact xw _ (Xs hk0 (rfl) hI0)
 refine sn Qa [2] [31] (p0) ?_
 refine Qe ?_
 exact nret [] 2 31 (congrArg (fun z => ([.h code, .i ((z.1 : Nat) : Int), .i z.2] : List C)) (show Va code = (0, y0) from Un hD0 (rfl)).symm)
def Zl (code : (List UInt8)) (ci : Nat) (ch : Int) : Int × Nat × Int := (bif decide (((ci : Nat) : Int) < (code.length : Int)) then (JN .i64 (IntKind.i64.wrap (JN .i64 (xorI .i64 (JG .i64 (IntKind.i64.wrap (IntKind.i64.wrap (ch * 6364136223846793005) + 1442695040888963407)) 33) (JG .i64 (IntKind.i64.wrap (IntKind.i64.wrap (ch * 6364136223846793005) + 1442695040888963407)) 45)) 255 + IntKind.i64.wrap (UInt8.toNat (nth code ci) : Int))) 255, ci + 1, IntKind.i64.wrap (IntKind.i64.wrap (ch * 6364136223846793005) + 1442695040888963407)) else (JN .i64 (xorI .i64 (JG .i64 (IntKind.i64.wrap (IntKind.i64.wrap (ch * 6364136223846793005) + 1442695040888963407)) 33) (JG .i64 (IntKind.i64.wrap (IntKind.i64.wrap (ch * 6364136223846793005) + 1442695040888963407)) 45)) 255, ci, IntKind.i64.wrap (IntKind.i64.wrap (ch * 6364136223846793005) + 1442695040888963407)))
theorem Ck (code : (List UInt8)) (ci : Nat) (ch : Int) : AGive Tryz.prog 78 [.h code, .i ((ci : Nat) : Int), .i ch] [] (.i (((Zl code ci ch)).1)) [.h code, .i ((((Zl code ci ch)).2.1 : Nat) : Int), .i (((Zl code ci ch)).2.2)] := by
 refine Kp (tt := tt) Qa Tryz.func78 (fn := Tryz.f78) rfl (by unfold Dt; kernel_rfl) (Nat.le_of_ble_eq_true rfl) (Nat.le_of_ble_eq_true rfl) rfl rfl fun w0 F0 hG => ?_
 refine sn Qa [0, 2] [60000] (p0) ?_
 refine tn Qa [0, 2] [60000] (p0) ?_
 refine tU Qa Yc [(2, .i 0), (3, .i (JN .i64 (xorI .i64 (JG .i64 (IntKind.i64.wrap (IntKind.i64.wrap (ch * 6364136223846793005) + 1442695040888963407)) 33) (JG .i64 (IntKind.i64.wrap (IntKind.i64.wrap (ch * 6364136223846793005) + 1442695040888963407)) 45)) 255))] [] [(60000, [.h code, .i ((ci : Nat) : Int), .i (IntKind.i64.wrap (IntKind.i64.wrap (ch * 6364136223846793005) + 1442695040888963407))])] [60000] (p0) ?_
 refine Qc ?_
 refine sN Qa Yc [0, 2, 3, 34] [60000] (pl 8 code p0) ?_
 refine ck (decide (((ci : Nat) : Int) < (code.length : Int))) (fun h1 => ?_) (fun h1 => ?_)
 ·
  have h1d := of_decide_eq_true h1
  refine wB 60000 0 .sh code (fun hw3 hl4 => ?_)
  have hx2 := ng code ci
  refine tN Qa Yc [0, 2, 3] [60000] (pn 9 hx2 p0) ?_
  refine qu Qa [(3, .i (JN .i64 (IntKind.i64.wrap (JN .i64 (xorI .i64 (JG .i64 (IntKind.i64.wrap (IntKind.i64.wrap (ch * 6364136223846793005) + 1442695040888963407)) 33) (JG .i64 (IntKind.i64.wrap (IntKind.i64.wrap (ch * 6364136223846793005) + 1442695040888963407)) 45)) 255 + IntKind.i64.wrap (UInt8.toNat (nth code ci) : Int))) 255))] [3] [(60000, [.h code, .i ((ci + 1 : Nat) : Int), .i (IntKind.i64.wrap (IntKind.i64.wrap (ch * 6364136223846793005) + 1442695040888963407))])] [60000] (pe 5 (Jw (Qy ci (by omega))) p0) ?_
  refine sn Qa [0, 2] [60000] (p0) ?_
  refine Qe ?_
  have hE5 : Zl code ci ch = (JN .i64 (IntKind.i64.wrap (JN .i64 (xorI .i64 (JG .i64 (IntKind.i64.wrap (IntKind.i64.wrap (ch * 6364136223846793005) + 1442695040888963407)) 33) (JG .i64 (IntKind.i64.wrap (IntKind.i64.wrap (ch * 6364136223846793005) + 1442695040888963407)) 45)) 255 + IntKind.i64.wrap (UInt8.toNat (nth code ci) : Int))) 255, ci + 1, IntKind.i64.wrap (IntKind.i64.wrap (ch * 6364136223846793005) + 1442695040888963407)) := Q1 h1 (rfl)
  exact Hv [] (congrArg (fun z => (.i z.1 : AV)) hE5.symm) (congrArg (fun z => ([.h code, .i ((z.2.1 : Nat) : Int), .i z.2.2] : List C)) hE5.symm)
 refine Qh ?_
 refine tn Qa [0, 2] [60000] (p0) ?_
 refine Qe ?_
 have hE6 : Zl code ci ch = (JN .i64 (xorI .i64 (JG .i64 (IntKind.i64.wrap (IntKind.i64.wrap (ch * 6364136223846793005) + 1442695040888963407)) 33) (JG .i64 (IntKind.i64.wrap (IntKind.i64.wrap (ch * 6364136223846793005) + 1442695040888963407)) 45)) 255, ci, IntKind.i64.wrap (IntKind.i64.wrap (ch * 6364136223846793005) + 1442695040888963407)) := Ql h1 (rfl)
 exact Hv [] (congrArg (fun z => (.i z.1 : AV)) hE6.symm) (congrArg (fun z => ([.h code, .i ((z.2.1 : Nat) : Int), .i z.2.2] : List C)) hE6.symm)
theorem and255 (a : Int) : 0 ≤ JN .i64 a 255 ∧ JN .i64 a 255 ≤ 255 := by
  have h : (BitVec.ofInt 64 a &&& BitVec.ofInt 64 255).toNat ≤ 255 := by
    rw [BitVec.toNat_and]
    exact Nat.le_trans Nat.and_le_right (by decide)
  have e : JN .i64 a 255 = IntKind.i64.wrap (BitVec.ofInt 64 a &&& BitVec.ofInt 64 255).toNat := rfl
  rw [e, IntWalk.i64_in _ (by omega)]
  omega
theorem Ks (code : List UInt8) (ci : Nat) (ch : Int) : 0 ≤ (Zl code ci ch).1 ∧ (Zl code ci ch).1 ≤ 255 := by
  unfold Zl
  cases decide (((ci : Nat) : Int) < (code.length : Int)) <;> exact and255 _
open GoE (enc wide)
def Qm (code : (List UInt8)) (ci : Nat) (ch : Int) (n : Int) : Int × Nat × Int := (bif decide (n ≤ (0 : Int)) then (0, ci, ch) else (bif decide (n ≤ (256 : Int)) then (lt (Zl code ci ch) (fun x4 => (Int.tmod x4.1 n, x4.2.1, x4.2.2))) else (lt (Zl code ci ch) (fun x6 => (lt (Zl code x6.2.1 x6.2.2) (fun x7 => (lt (Zl code x7.2.1 x7.2.2) (fun x8 => (lt (Zl code x8.2.1 x8.2.2) (fun x9 => (Int.tmod ((((x6.1 * 16777216) + (x7.1 * 65536)) + (x8.1 * 256)) + x9.1) n, x9.2.1, x9.2.2)))))))))))
theorem Xb (code : (List UInt8)) (ci : Nat) (ch : Int) (n : Int) : AGive Tryz.prog 49 [.h code, .i ((ci : Nat) : Int), .i ch] [.i n] (.i (((Qm code ci ch n)).1)) [.h code, .i ((((Qm code ci ch n)).2.1 : Nat) : Int), .i (((Qm code ci ch n)).2.2)] := by
 refine Kp (tt := tt) Qa Tryz.func49 (fn := Tryz.f49) rfl (by unfold Dt; kernel_rfl) (Nat.le_of_ble_eq_true rfl) (Nat.le_of_ble_eq_true rfl) rfl rfl fun w0 F0 hG => ?_
 refine sn Qa [0, 1, 4] [60000] (p0) ?_
 refine Qc ?_
 refine tn Qa [0, 1, 4, 10] [60000] (p0) ?_
 refine ck (decide (n ≤ (0 : Int))) (fun h1 => ?_) (fun h1 => ?_)
 ·
  refine tu Qa [(4, .i 0)] [] [] [] (p0) ?_
  refine Qe ?_
  have hE2 : Qm code ci ch n = (0, ci, ch) := Q1 h1 (rfl)
  exact Hv [] (congrArg (fun z => (.i z.1 : AV)) hE2.symm) (congrArg (fun z => ([.h code, .i ((z.2.1 : Nat) : Int), .i z.2.2] : List C)) hE2.symm)
 have h1d := of_decide_eq_false h1
 refine Qh ?_
 refine Qc ?_
 refine tu Qa [(4, .i 0), (12, .b (decide (n ≤ (256 : Int))))] [] [] [] (p0) ?_
 refine ck (decide (n ≤ (256 : Int))) (fun h3 => ?_) (fun h3 => ?_)
 ·
  have h3d := of_decide_eq_true h3
  obtain ⟨x4, hx4⟩ := nm (Zl code ci ch)
  have hbx4 := hx4 ▸ Ks code ci ch
  refine sn Qa [0, 1, 4] [60000] (po 1 (.give none (.i x4.1) [.h code, .i ((x4.2.1 : Nat) : Int), .i x4.2.2]) (px (Q3 (hx4 ▸ Ck code ci ch)) (px (ob_nz (n := n) (by omega)) (px (ob_inr (k := .i64) (n := Int.tmod x4.1 n) (HX (by omega))) p0)))) ?_
  refine Qe ?_
  have hE5 : Qm code ci ch n = (Int.tmod x4.1 n, x4.2.1, x4.2.2) := Ql h1 (Q1 h3 (Yo hx4 (rfl)))
  exact Hv [] (congrArg (fun z => (.i z.1 : AV)) hE5.symm) (congrArg (fun z => ([.h code, .i ((z.2.1 : Nat) : Int), .i z.2.2] : List C)) hE5.symm)
 have h3d := of_decide_eq_false h3
 refine Qh ?_
 obtain ⟨x6, hx6⟩ := nm (Zl code ci ch)
 have hbx6 := hx6 ▸ Ks code ci ch
 refine sn Qa [0, 1, 4, 5] [60000] (po 1 (.give none (.i x6.1) [.h code, .i ((x6.2.1 : Nat) : Int), .i x6.2.2]) (px (Q3 (hx6 ▸ Ck code ci ch)) p0)) ?_
 obtain ⟨x7, hx7⟩ := nm (Zl code x6.2.1 x6.2.2)
 have hbx7 := hx7 ▸ Ks code x6.2.1 x6.2.2
 refine tn Qa [0, 1, 4, 5, 6] [60000] (po 1 (.give none (.i x7.1) [.h code, .i ((x7.2.1 : Nat) : Int), .i x7.2.2]) (px (Q3 (hx7 ▸ Ck code x6.2.1 x6.2.2)) p0)) ?_
 obtain ⟨x8, hx8⟩ := nm (Zl code x7.2.1 x7.2.2)
 have hbx8 := hx8 ▸ Ks code x7.2.1 x7.2.2
 refine tu Qa [(5, .i x6.1), (6, .i x7.1), (7, .i x8.1)] [12] [(60000, [.h code, .i ((x8.2.1 : Nat) : Int), .i x8.2.2])] [60000] (po 1 (.give none (.i x8.1) [.h code, .i ((x8.2.1 : Nat) : Int), .i x8.2.2]) (px (Q3 (hx8 ▸ Ck code x7.2.1 x7.2.2)) p0)) ?_
 obtain ⟨x9, hx9⟩ := nm (Zl code x8.2.1 x8.2.2)
 have hbx9 := hx9 ▸ Ks code x8.2.1 x8.2.2
 refine sn Qa [0, 1, 4, 5, 6, 7, 8] [60000] (po 1 (.give none (.i x9.1) [.h code, .i ((x9.2.1 : Nat) : Int), .i x9.2.2]) (px (Q3 (hx9 ▸ Ck code x8.2.1 x8.2.2)) p0)) ?_
 refine tn Qa [0, 4] [60000] (pe 1 (Jw (IntWalk.i64_in (x6.1 * 16777216) (by omega))) (pe 3 (Jw (IntWalk.i64_in (x7.1 * 65536) (by omega))) (pe 4 (Jw (IntWalk.i64_in ((x6.1 * 16777216) + (x7.1 * 65536)) (by omega))) (pe 6 (Jw (IntWalk.i64_in (x8.1 * 256) (by omega))) (pe 7 (Jw (IntWalk.i64_in (((x6.1 * 16777216) + (x7.1 * 65536)) + (x8.1 * 256)) (by omega))) (pe 9 (Jw (IntWalk.i64_in ((((x6.1 * 16777216) + (x7.1 * 65536)) + (x8.1 * 256)) + x9.1) (by omega))) (px (ob_nz (n := n) (by omega)) (px (ob_inr (k := .i64) (n := Int.tmod ((((x6.1 * 16777216) + (x7.1 * 65536)) + (x8.1 * 256)) + x9.1) n) (HX (by omega))) p0)))))))) ?_
 refine Qe ?_
 have hE10 : Qm code ci ch n = (Int.tmod ((((x6.1 * 16777216) + (x7.1 * 65536)) + (x8.1 * 256)) + x9.1) n, x9.2.1, x9.2.2) := Ql h1 (Ql h3 (Yo hx6 (Yo hx7 (Yo hx8 (Yo hx9 (rfl))))))
 exact Hv [] (congrArg (fun z => (.i z.1 : AV)) hE10.symm) (congrArg (fun z => ([.h code, .i ((z.2.1 : Nat) : Int), .i z.2.2] : List C)) hE10.symm)
theorem Qx (code : List UInt8) (ci : Nat) (ch n : Int) : 0 ≤ (Qm code ci ch n).1 ∧ (0 < n → (Qm code ci ch n).1 < n) ∧ (n ≤ 0 → (Qm code ci ch n).1 = 0) := by
  unfold Qm lt
  by_cases h0 : n ≤ 0
  · rw [decide_eq_true h0]
    exact ⟨Int.le_refl _, fun h => by omega, fun _ => rfl⟩
  rw [decide_eq_false h0]
  have hn : 0 < n := by omega
  cases decide (n ≤ (256 : Int)) with
  | true =>
    have := Ks code ci ch
    exact ⟨Int.tmod_nonneg _ this.1, fun _ => Int.tmod_lt_of_pos _ hn, fun h => by omega⟩
  | false =>
    simp only [cond_false]
    generalize hx6 : Zl code ci ch = x6
    generalize hx7 : Zl code x6.2.1 x6.2.2 = x7
    generalize hx8 : Zl code x7.2.1 x7.2.2 = x8
    generalize hx9 : Zl code x8.2.1 x8.2.2 = x9
    have h6 := hx6 ▸ Ks code ci ch
    have h7 := hx7 ▸ Ks code x6.2.1 x6.2.2
    have h8 := hx8 ▸ Ks code x7.2.1 x7.2.2
    have h9 := hx9 ▸ Ks code x8.2.1 x8.2.2
    exact ⟨Int.tmod_nonneg _ (by omega), fun _ => Int.tmod_lt_of_pos _ hn, fun h => by omega⟩
open GoE (enc wide)
def De (_ : Nat) (a0 : X9) (s0 : (List X9)) : Rd (Xo) ((List X9)) ((List X9)) := (.next (s0 ++ [(Qo a0)]))
def Df (_ : Nat) (s0 : (List X9)) : (List X9) := s0
def Qj (s_ : Xo) : Xo := (Out.on (Xp De Df s_.2.1 0 []) (fun y0 => (s_.1, y0, s_.2.2)))
theorem Gx (s_ : Xo) : ACalls Tryz.prog 89 [.a [.h s_.1, .h s_.2.1, .i s_.2.2]] (.a [.o 0 ((Qj s_).1), .o 1 ((Qj s_).2.1), .i ((Qj s_).2.2)]) := by
 refine en Qa Tryz.func89 fun w0 F0 hG => ?_
 refine sn Qa [1, 2] [1, 2] (p0) ?_
 refine wB 1 0 .sh s_.1 (fun hw1 hl2 => ?_)
 refine tN Qa Yc [1, 2, 3] [1, 2, 3] (po 3 (.flat) (px (Hu (n := (([] : List (List PV)).length + ((eL s_.1) : List (List PV)).length)) (Dm (rfl) (Yb s_.1) (by first | omega | (simp only [List.length_cons, List.length_nil]; omega) | (simp; omega) | simp))) (px (H4 (H5 s_.1)) p0))) ?_
 refine Qc ?_
 refine tu Qa [(1, .p 1 0), (2, .p 2 0), (3, .p 3 0), (4, .i 0)] [0] [(1, [.h s_.1, .h s_.2.1, .i s_.2.2]), (2, [.e 2, .e 5, .i 0]), (3, [.o 512 s_.1, .e 5, .i s_.2.2])] [] (p0) ?_
 refine wB 1 1 .sh s_.2.1 (fun hw3 hl4 => ?_)
 refine FF De Df s_.2.1 [] (fun k0 _ => [(4, .i ((k0 : Nat) : Int))]) [4] (fun _ s0 => [(3, [.o 512 s_.1, .o 147211 s0, .i s_.2.2])]) [3] (fun _ => []) [1, 4] (fun y0 => [(3, [.o 512 s_.1, .o 147361 y0, .i s_.2.2])]) [1, 3] (fun k0 s0 => List.length s0 ≤ k0) (M5 [(true, 3, 1, true, 320008, 5)] [] [] [(320008, 147211)] (by kernel_rfl)) (by simp) (fun k0 s0 hk0 hI0 => ?_) (fun k0 s0 hk0 hI0 => ?_) (fun y0 hD0 => ?_)
 ·
  have hA0_0 := hI0.2
  obtain ⟨a0, hx0⟩ := Xr (l := s_.2.1) (i := k0) hk0
  refine Qc ?_
  refine su Qa [(16, .b true)] [] [] [] (pl 3 s_.2.1 (pe 4 (Qw (decide_eq_true (p := ((k0 : Nat) : Int) < (s_.2.1.length : Int)) (by omega))) p0)) ?_
  refine ckT ?_
  refine Qh ?_
  refine Qc ?_
  refine Qt ?_
  refine wB 3 1 (.own true 147211) s0 (fun hw5 hl6 => ?_)
  refine rU Qa Yc [] [16] [(3, [.o 512 s_.1, .slc (.own true 1792) 5 ((eL s0) ++ [[.i ((Qo a0).1), .i ((Qo a0).2.1), .b ((Qo a0).2.2.1), .i ((Qo a0).2.2.2.1), .h ((Qo a0).2.2.2.2)]]), .i s_.2.2])] [3] (pn 5 hx0 (pc 7 (Ow a0) (pa s0 [(Qo a0)] p0))) ?_
  refine eqn [] [] [(3, [.o 512 s_.1, .o 1792 (s0 ++ [(Qo a0)]), .i s_.2.2])] [3] (by rw [show ((eL s0) ++ [[.i ((Qo a0).1), .i ((Qo a0).2.1), .b ((Qo a0).2.2.1), .i ((Qo a0).2.2.2.1), .h ((Qo a0).2.2.2.2)]]) = (eL (s0 ++ [(Qo a0)])) from Vn (rfl) (rfl)]; first | done | kernel_rfl) ?_
  refine rn Qa [1, 2, 3, 4] [1, 2, 3] (pe 1 (Jw (Qy k0 (by omega))) p0) ?_
  exact Exists.intro (s0 ++ [(Qo a0)]) (And.intro (X3 [(1792, 147211)] (by kernel_rfl)) ⟨Q0 hx0 (rfl) hI0.1, by first | omega | (simp; omega) | simp⟩)
 ·
  have hA0_0 := hI0.2
  refine Qc ?_
  refine su Qa [(16, .b false)] [] [] [] (pl 3 s_.2.1 (pe 4 (Qw (decide_eq_false (p := ((k0 : Nat) : Int) < (s_.2.1.length : Int)) (by omega))) p0)) ?_
  refine ckF ?_
  refine Q2 ?_
  exact Exists.intro _ (And.intro (X3 [(147211, 147361)] (by kernel_rfl)) (Xs hk0 (rfl) hI0.1))
 refine sn Qa [2] [2] (p0) ?_
 refine Qe ?_
 exact pz [] (show Qj s_ = _ from Un hD0 (rfl)) (fun z => .a [.o 0 z.1, .o 1 z.2.1, .i z.2.2])
def X0 (s_ : Xo) (f : X9) : Xo × Int × Bool := (bif ((!(Xe (Qj s_))) || (decide ((((Qj s_).2.1).length : Int) ≥ (12 : Int)) || (!(Xc ((Qj s_).1) ((Qj s_).2.2, (Qo f).2.1, (Qo f).2.2.1, (Qo f).2.2.2.1, (Qo f).2.2.2.2))))) then ((Qj s_), 0, false) else (((Qj s_).1, (Qj s_).2.1 ++ [((Qj s_).2.2, (Qo f).2.1, (Qo f).2.2.1, (Qo f).2.2.2.1, (Qo f).2.2.2.2)], IntKind.i64.wrap ((Qj s_).2.2 + 1)), (Qj s_).2.2, true))
theorem G9 (s_ : Xo) (f : X9) : ACalls Tryz.prog 58 [.a [.h s_.1, .h s_.2.1, .i s_.2.2], .a [.i f.1, .i f.2.1, .b f.2.2.1, .i f.2.2.2.1, .h f.2.2.2.2]] (.tup [(true, [.o 0 ((((X0 s_ f)).1).1), .o 1 ((((X0 s_ f)).1).2.1), .i ((((X0 s_ f)).1).2.2)]), (false, [.i (((X0 s_ f)).2.1)]), (false, [.b (((X0 s_ f)).2.2)])]) := by
 refine en Qa Tryz.func58 fun w0 F0 hG => ?_
 refine sn Qa [2, 3, 4, 5, 6] [2, 3, 4] (p0) ?_
 refine tn Qa [2, 3, 4, 5, 6] [2, 3, 4] (pc 1 (Gx s_) p0) ?_
 refine tu Qa [(2, .p 2 0), (3, .p 3 0), (4, .p 4 0), (5, .i 0), (6, .b false)] [0, 1] [(2, [.o 512 ((Qj s_).1), .o 513 ((Qj s_).2.1), .i ((Qj s_).2.2)]), (3, [.i ((Qo f).1), .i ((Qo f).2.1), .b ((Qo f).2.2.1), .i ((Qo f).2.2.2.1), .o 640 ((Qo f).2.2.2.2)]), (4, [.e 2, .e 5, .i 0])] [] (pc 1 (Ow f) p0) ?_
 refine sn Qa [2, 3, 4, 5, 6] [2, 3, 4] (p0) ?_
 refine Qc ?_
 refine Qc ?_
 refine mz [] [] [(3, [.i ((Qj s_).2.2), .i ((Qo f).2.1), .b ((Qo f).2.2.1), .i ((Qo f).2.2.2.1), .o 640 ((Qo f).2.2.2.2)])] [3] ?_
 refine jn [(29, .b ((!(Xe (Qj s_))) || (decide ((((Qj s_).2.1).length : Int) ≥ (12 : Int)) || (!(Xc ((Qj s_).1) ((Qj s_).2.2, (Qo f).2.1, (Qo f).2.2.1, (Qo f).2.2.2.1, (Qo f).2.2.2.2))))))] [] [] [] (!(Xe (Qj s_))) (fun h1 => ?_) (fun h1 => ?_) ?_
 ·
  have h1n : (Xe (Qj s_)) = false := Be h1
  refine ru Qa [(29, .b true)] [] [] [] (pc 1 (cb h1n (Jj (Qj s_))) (pe 2 (show .b (!false) = .b true from rfl) p0)) ?_
  exact ⟨rfl, Qf (by rw [h1] <;> kernel_rfl)⟩
 ·
  have h1n : (Xe (Qj s_)) = true := Vd h1
  refine Q9 (decide ((((Qj s_).2.1).length : Int) ≥ (12 : Int))) (fun h2 => ?_) (fun h2 => ?_)
  ·
   refine ru Qa [(29, .b true)] [] [] [] (pc 1 (cb h1n (Jj (Qj s_))) (pe 2 (show .b (!true) = .b false from rfl) (pl 6 ((Qj s_).2.1) (pt 7 h2 p0)))) ?_
   exact ⟨rfl, Qf (by rw [h1, h2] <;> kernel_rfl)⟩
  refine rn Qa [2, 3, 4, 5, 6, 29] [2, 3, 4] (pc 1 (cb h1n (Jj (Qj s_))) (pe 2 (show .b (!true) = .b false from rfl) (pl 6 ((Qj s_).2.1) (pf 7 h2 (pc 13 (Uv ((Qj s_).1) ((Qj s_).2.2, (Qo f).2.1, (Qo f).2.2.1, (Qo f).2.2.2.1, (Qo f).2.2.2.2)) p0))))) ?_
  exact ⟨rfl, Qf (by rw [h1, h2] <;> kernel_rfl)⟩
 refine ck ((!(Xe (Qj s_))) || (decide ((((Qj s_).2.1).length : Int) ≥ (12 : Int)) || (!(Xc ((Qj s_).1) ((Qj s_).2.2, (Qo f).2.1, (Qo f).2.2.1, (Qo f).2.2.2.1, (Qo f).2.2.2.2))))) (fun h3 => ?_) (fun h3 => ?_)
 ·
  refine sn Qa [2, 3, 4, 5, 6] [2, 3, 4] (p0) ?_
  refine Qe ?_
  exact pz [] (show X0 s_ f = _ from Q1 h3 (rfl)) (fun z => .tup [(true, [.o 0 z.1.1, .o 1 z.1.2.1, .i z.1.2.2]), (false, [.i z.2.1]), (false, [.b z.2.2])])
 have h3r : ((decide ((((Qj s_).2.1).length : Int) ≥ (12 : Int)) || (!(Xc ((Qj s_).1) ((Qj s_).2.2, (Qo f).2.1, (Qo f).2.2.1, (Qo f).2.2.2.1, (Qo f).2.2.2.2))))) = false := UH h3
 have h3rl : (decide ((((Qj s_).2.1).length : Int) ≥ (12 : Int))) = false := DD h3r
 have h3rld := of_decide_eq_false h3rl
 refine Qh ?_
 refine wB 2 1 (.own true 513) ((Qj s_).2.1) (fun hw4 hl5 => ?_)
 refine su Qa [] [29] [(2, [.o 512 ((Qj s_).1), .slc (.own true 2240) 5 ((eL ((Qj s_).2.1)) ++ [[.i ((Qj s_).2.2), .i ((Qo f).2.1), .b ((Qo f).2.2.1), .i ((Qo f).2.2.2.1), .h ((Qo f).2.2.2.2)]]), .i ((Qj s_).2.2)]), (3, [.i ((Qj s_).2.2), .i ((Qo f).2.1), .b ((Qo f).2.2.1), .i ((Qo f).2.2.2.1), .dead])] [2, 3] (pa ((Qj s_).2.1) [((Qj s_).2.2, (Qo f).2.1, (Qo f).2.2.1, (Qo f).2.2.2.1, (Qo f).2.2.2.2)] p0) ?_
 refine eqn [] [] [(2, [.o 512 ((Qj s_).1), .o 2240 ((Qj s_).2.1 ++ [((Qj s_).2.2, (Qo f).2.1, (Qo f).2.2.1, (Qo f).2.2.2.1, (Qo f).2.2.2.2)]), .i ((Qj s_).2.2)])] [2] (by rw [show ((eL ((Qj s_).2.1)) ++ [[.i ((Qj s_).2.2), .i ((Qo f).2.1), .b ((Qo f).2.2.1), .i ((Qo f).2.2.2.1), .h ((Qo f).2.2.2.2)]]) = (eL ((Qj s_).2.1 ++ [((Qj s_).2.2, (Qo f).2.1, (Qo f).2.2.1, (Qo f).2.2.2.1, (Qo f).2.2.2.2)])) from Vn (rfl) (rfl)]; first | done | kernel_rfl) ?_
 refine sn Qa [2, 3, 4, 5, 6] [2, 3, 4] (p0) ?_
 refine tN Qa Yc [4, 5, 6] [4] (p0) ?_
 refine Qe ?_
 exact pz [] (show X0 s_ f = _ from Ql h3 (rfl)) (fun z => .tup [(true, [.o 0 z.1.1, .o 1 z.1.2.1, .i z.1.2.2]), (false, [.i z.2.1]), (false, [.b z.2.2])])
def Z6 (s_ : (List Ze)) : Xo := (s_, [], 1)
theorem QE (s_ : (List Ze)) : ACalls Tryz.prog 56 [.h s_] (.a [.o 0 ((Z6 s_).1), .o 1 ((Z6 s_).2.1), .i ((Z6 s_).2.2)]) := by
 refine en Qa Tryz.func56 fun w0 F0 hG => ?_
 refine sn Qa [0, 2] [2] (p0) ?_
 refine wT 0 0 .sh s_ (fun hw1 hl2 => ?_)
 refine tn Qa [2] [2] (po 2 (.flat) (px (Hu (n := (([] : List (List PV)).length + ((eL s_) : List (List PV)).length)) (Dm (rfl) (Yb s_) (by first | omega | (simp only [List.length_cons, List.length_nil]; omega) | (simp; omega) | simp))) (px (H4 (H5 s_)) p0))) ?_
 refine opn [(true, 2, 1, true, 384000, 5)] ?_
 refine Qe ?_
 exact pz [] (show Z6 s_ = (s_, [], 1) from rfl) (fun z => .a [.o 0 z.1, .o 1 z.2.1, .i z.2.2])
def Zj (s_ : Xo) (id : Int) : Xo × Bool := (bif ((!(Xe (Qj s_))) || decide ((Xm (Qj s_) id) < (0 : Int))) then ((Qj s_), false) else (((Qj s_).1, List.take (Int.toNat (Xm (Qj s_) id)) ((Qj s_).2.1) ++ (List.drop (Int.toNat ((Xm (Qj s_) id) + 1)) ((Qj s_).2.1)), (Qj s_).2.2), true))
theorem Rp (s_ : Xo) (id : Int) : ACalls Tryz.prog 60 [.a [.h s_.1, .h s_.2.1, .i s_.2.2], .i id] (.tup [(true, [.o 0 ((((Zj s_ id)).1).1), .q 1 ((((Zj s_ id)).1).2.1), .i ((((Zj s_ id)).1).2.2)]), (false, [.b (((Zj s_ id)).2)])]) := by
 refine en Qa Tryz.func60 fun w0 F0 hG => ?_
 refine sn Qa [1, 2, 4, 5] [2, 4] (p0) ?_
 refine tn Qa [1, 2, 4, 5] [2, 4] (pc 1 (Gx s_) p0) ?_
 refine tu Qa [(2, .p 2 0), (4, .p 4 0), (5, .b false), (6, .i (Xm (Qj s_) id))] [0, 1] [(2, [.o 512 ((Qj s_).1), .o 513 ((Qj s_).2.1), .i ((Qj s_).2.2)]), (4, [.e 2, .e 5, .i 0])] [] (pc 2 (QD (Qj s_) id) p0) ?_
 refine Qc ?_
 refine Qc ?_
 refine jn [(18, .b ((!(Xe (Qj s_))) || decide ((Xm (Qj s_) id) < (0 : Int))))] [] [] [] (!(Xe (Qj s_))) (fun h1 => ?_) (fun h1 => ?_) ?_
 ·
  have h1n : (Xe (Qj s_)) = false := Be h1
  refine rn Qa [2, 4, 5, 6, 18] [2, 4] (pc 1 (cb h1n (Jj (Qj s_))) (pe 2 (show .b (!false) = .b true from rfl) p0)) ?_
  exact ⟨rfl, Qf (by rw [h1] <;> kernel_rfl)⟩
 ·
  have h1n : (Xe (Qj s_)) = true := Vd h1
  refine rn Qa [2, 4, 5, 6, 18] [2, 4] (pc 1 (cb h1n (Jj (Qj s_))) (pe 2 (show .b (!true) = .b false from rfl) p0)) ?_
  exact ⟨rfl, Qf (by rw [h1] <;> kernel_rfl)⟩
 refine ck ((!(Xe (Qj s_))) || decide ((Xm (Qj s_) id) < (0 : Int))) (fun h2 => ?_) (fun h2 => ?_)
 ·
  refine sn Qa [2, 4, 5, 6] [2, 4] (p0) ?_
  refine Bo [513] rfl ?_
  refine Qe ?_
  exact pz [] (show Zj s_ id = _ from Q1 h2 (rfl)) (fun z => .tup [(true, [.o 0 z.1.1, .q 1 z.1.2.1, .i z.1.2.2]), (false, [.b z.2])])
 have h2r : (decide ((Xm (Qj s_) id) < (0 : Int))) = false := UH h2
 have h2rp := GV (Qj s_) id
 have h2rd := of_decide_eq_false h2r
 refine Qh ?_
 refine wB 2 1 (.own true 513) ((Qj s_).2.1) (fun hw3 hl4 => ?_)
 have hl5 : List.length (List.take (Int.toNat (Xm (Qj s_) id)) ((Qj s_).2.1)) ≤ 1073741824 := W7 (Ix (Int.toNat (Xm (Qj s_) id)) (hw3))
 have hl6 : List.length (List.drop (Int.toNat ((Xm (Qj s_) id) + 1)) ((Qj s_).2.1)) ≤ 1073741824 := W7 (Iy (Int.toNat ((Xm (Qj s_) id) + 1)) (hw3))
 refine Ez (H3 [513] rfl) ?_
 refine sU Qa Yc [] [6, 18] [(2, [.o 512 ((Qj s_).1), .slc (.own false 1984) 5 (([] ++ (eL (List.take (Int.toNat (Xm (Qj s_) id)) ((Qj s_).2.1)))) ++ (eL (List.drop (Int.toNat ((Xm (Qj s_) id) + 1)) ((Qj s_).2.1)))), .i ((Qj s_).2.2)])] [2] (pe 4 (M4 .sh 5 (Int.toNat (Xm (Qj s_) id)) (Xm (Qj s_) id) ((Qj s_).2.1) rfl) (px (Cs (lo := 0) (hi := (Xm (Qj s_) id)) (n := (List.length (eL ((Qj s_).2.1)))) (Tf (by omega) (by omega) (by omega))) (px (Hu (n := (([] : List (List PV)).length + ((eL (List.take (Int.toNat (Xm (Qj s_) id)) ((Qj s_).2.1))) : List (List PV)).length)) (Dm (rfl) (Yb (List.take (Int.toNat (Xm (Qj s_) id)) ((Qj s_).2.1))) (by first | omega | (simp only [List.length_cons, List.length_nil]; omega) | (simp; omega) | simp))) (pe 9 (Jw (IntWalk.i64_in ((Xm (Qj s_) id) + 1) (by omega))) (pe 10 (Te .sh 5 (Int.toNat ((Xm (Qj s_) id) + 1)) ((Xm (Qj s_) id) + 1) ((Qj s_).2.1) rfl) (px (Cs (lo := ((Xm (Qj s_) id) + 1)) (hi := (((eL ((Qj s_).2.1)) : List (List PV)).length : Int)) (n := (List.length (eL ((Qj s_).2.1)))) (Tg (by omega) (by omega))) (px (Hu (n := ((([] ++ (eL (List.take (Int.toNat (Xm (Qj s_) id)) ((Qj s_).2.1)))) : List (List PV)).length + ((eL (List.drop (Int.toNat ((Xm (Qj s_) id) + 1)) ((Qj s_).2.1))) : List (List PV)).length)) (by simp [Yb]; omega)) p0))))))) ?_
 refine eqn [] [] [(2, [.o 512 ((Qj s_).1), .q 1984 (List.take (Int.toNat (Xm (Qj s_) id)) ((Qj s_).2.1) ++ (List.drop (Int.toNat ((Xm (Qj s_) id) + 1)) ((Qj s_).2.1))), .i ((Qj s_).2.2)])] [2] (by rw [show (([] ++ (eL (List.take (Int.toNat (Xm (Qj s_) id)) ((Qj s_).2.1)))) ++ (eL (List.drop (Int.toNat ((Xm (Qj s_) id) + 1)) ((Qj s_).2.1)))) = (eL (List.take (Int.toNat (Xm (Qj s_) id)) ((Qj s_).2.1) ++ (List.drop (Int.toNat ((Xm (Qj s_) id) + 1)) ((Qj s_).2.1)))) from Vn (rfl) (rfl)]; first | done | kernel_rfl) ?_
 refine sn Qa [4, 5] [4] (p0) ?_
 refine Qe ?_
 exact pz [] (show Zj s_ id = _ from Ql h2 (rfl)) (fun z => .tup [(true, [.o 0 z.1.1, .q 1 z.1.2.1, .i z.1.2.2]), (false, [.b z.2])])
structure VS (s : Xo) : Prop where
  sch : Z0 s.1 = true
  len : s.2.1.length ≤ 12
  nx1 : 1 ≤ s.2.2
  nx2 : s.2.2 ≤ 61
  file : ∀ (i : Nat) (a : X9), s.2.1[i]? = some a → Xc s.1 a = true ∧ a.1 < s.2.2
  asc : ∀ (i : Nat) (a b : X9), s.2.1[i]? = some a → s.2.1[i+1]? = some b → a.1 < b.1
theorem Oz {s : Xo} (h : VS s) : Xe s = true := by
  unfold Xe
  rw [Gm (l := s.2.1) (k := 0) (fun i a hi => ?_)]
  · have h1 := h.len
    have h2 := h.nx1
    have h3 := h.nx2
    simp only [Out.on, Xg, h.sch, Bool.true_and]
    rw [decide_eq_true (show (s.2.1.length : Int) ≤ 12 by omega), decide_eq_true (show s.2.2 ≥ 1 from h2), decide_eq_true (show s.2.2 ≤ 61 from h3)]
    rfl
  obtain ⟨h1, h2⟩ := h.file i a hi
  unfold K8
  rw [h1, decide_eq_false (show ¬ a.1 ≥ s.2.2 by omega)]
  have e2 : (decide (((0 + i : Nat) : Int) > 0) && decide ((nth s.2.1 (Int.toNat (((0 + i : Nat) : Int) - 1))).1 ≥ a.1)) = false := by
    by_cases hp : 0 < i
    · have hlt : i - 1 < s.2.1.length := by have := (List.getElem?_eq_some_iff.1 hi).1; omega
      have h3 := h.asc (i - 1) _ a (Kh hlt) (by rw [show i - 1 + 1 = i by omega]; exact hi)
      rw [show Int.toNat (((0 + i : Nat) : Int) - 1) = i - 1 by omega, decide_eq_false (show ¬ (nth s.2.1 (i - 1)).1 ≥ a.1 by omega), Bool.and_false]
    obtain rfl : i = 0 := by omega
    rfl
  rw [e2]
  rfl
theorem CP (l : List X9) : ∀ (k : Nat) (s : List X9), Xp De Df l k s = .brk (s ++ l) := fun k s => by
  rw [Gn (f := De) (e := Df) (g := id) (fun _ _ _ => rfl), List.map_id]
  rfl
theorem copyS (s : Xo) : Qj s = s := by
  unfold Qj
  rw [CP]
  rfl
theorem GW {s : Xo} {f : X9} (h : VS s) (hl : s.2.1.length < 12) (hn : s.2.2 ≤ 60) (hf : Xc s.1 (s.2.2, f.2) = true) : VS (s.1, s.2.1 ++ [(s.2.2, f.2)], s.2.2 + 1) := by
  have hcase : ∀ (i : Nat) (a : X9), (s.2.1 ++ [((s.2.2, f.2) : X9)])[i]? = some a → s.2.1[i]? = some a ∨ (i = s.2.1.length ∧ a = (s.2.2, f.2)) := fun i a hi => by
    rw [List.getElem?_append] at hi
    split at hi
    · exact .inl hi
    right
    rename_i hge
    have : i - s.2.1.length = 0 := by
      have := (List.getElem?_eq_some_iff.1 hi).1
      simp at this; omega
    rw [this] at hi
    exact ⟨by omega, (Option.some.inj hi).symm⟩
  refine ⟨h.sch, by simp; omega, by have := h.nx1; show 1 ≤ s.2.2 + 1; omega, by show s.2.2 + 1 ≤ 61; omega, fun i a hi => ?_, fun i a b ha hb => ?_⟩
  · show Xc s.1 a = true ∧ a.1 < s.2.2 + 1
    rcases hcase i a hi with hi | ⟨_, rfl⟩
    · obtain ⟨h1, h2⟩ := h.file i a hi
      exact ⟨h1, by omega⟩
    exact ⟨hf, by show s.2.2 < s.2.2 + 1; omega⟩
  rcases hcase i a ha with ha | ⟨h1, rfl⟩
  · rcases hcase (i + 1) b hb with hb | ⟨_, rfl⟩
    · exact h.asc i a b ha hb
    exact (h.file i a ha).2
  rcases hcase (i + 1) b hb with hb | ⟨h2, _⟩
  · have := (List.getElem?_eq_some_iff.1 hb).1; omega
  omega
theorem GX {s : Xo} {f : X9} (h : VS s) (hl : s.2.1.length < 12) (hn : s.2.2 ≤ 60) (hf : Xc s.1 (s.2.2, f.2) = true) : X0 s f = ((s.1, s.2.1 ++ [(s.2.2, f.2)], s.2.2 + 1), s.2.2, true) := by
  unfold X0
  rw [copyS, Oz h, decide_eq_false (show ¬ (s.2.1.length : Int) ≥ 12 by omega)]
  have hf' : Xc s.1 (s.2.2, (Qo f).2.1, (Qo f).2.2.1, (Qo f).2.2.2.1, (Qo f).2.2.2.2) = true := hf
  have h1 := h.nx1
  rw [hf', IntWalk.i64_in _ (show _ ∧ _ by omega)]
  rfl
theorem vf_id {s : List Ze} {f : X9} (h : Xc s f = true) : 1 ≤ f.1 ∧ f.1 ≤ 60 := by
  unfold Xc at h
  cases hl : Xp (Xx s f) Zd f.2.2.2.2 0 () with
  | brk t =>
    rw [hl] at h
    simp only [Out.on, Bool.and_eq_true, Xg, decide_eq_true_eq] at h
    exact h.2.1
  | ret r =>
    rw [hl] at h
    obtain rfl : r = true := h
    exfalso
    have key : ∀ (l : List Wp) k, Xp (Xx s f) Zd l k () ≠ .ret true := by
      intro l
      induction l with
      | nil => intro k h; simp [Xp] at h
      | cons a l ih =>
        intro k h
        simp only [Xp] at h
        unfold Xx at h
        split at h
        · exact ih _ h
        · cases h
        rename_i r hf; cases h; revert hf; generalize (_ || _ : Bool) = c; cases c <;> simp
    exact key _ _ hl
theorem GY {s : Xo} (f : X9) (h : VS s) : VS (X0 s f).1 ∧ (X0 s f).1.1 = s.1 ∧ (X0 s f).1.2.1.length ≤ s.2.1.length + 1 ∧ s.2.1.length ≤ (X0 s f).1.2.1.length ∧ (X0 s f).1.2.2 ≤ s.2.2 + 1 := by
  by_cases hc : s.2.1.length < 12 ∧ Xc s.1 (s.2.2, f.2) = true
  · have hn : s.2.2 ≤ 60 := (vf_id hc.2).2
    rw [GX h hc.1 hn hc.2]
    exact ⟨GW h hc.1 hn hc.2, rfl, by simp, by simp, Int.le_refl _⟩
  have e : (X0 s f).1 = s := by
    unfold X0
    rw [copyS, Oz h]
    by_cases h1 : s.2.1.length < 12
    · have h2 : Xc s.1 (s.2.2, f.2) ≠ true := fun h2 => hc ⟨h1, h2⟩
      have h3 : Xc s.1 (s.2.2, (Qo f).2.1, (Qo f).2.2.1, (Qo f).2.2.2.1, (Qo f).2.2.2.2) = false := Bool.eq_false_iff.2 h2
      rw [h3]
      simp
    rw [decide_eq_true (show (s.2.1.length : Int) ≥ 12 by omega)]
    simp
  rw [e]
  exact ⟨h, rfl, by omega, by omega, by omega⟩
theorem GZ {s : Xo} (id : Int) (h : VS s) : VS (Zj s id).1 ∧ (Zj s id).1.1 = s.1 ∧ (Zj s id).1.2.1.length ≤ s.2.1.length ∧ (Zj s id).1.2.2 = s.2.2 := by
  unfold Zj
  rw [copyS, Oz h]
  by_cases hc : Xm s id < 0
  · rw [decide_eq_true hc]
    exact ⟨h, rfl, Nat.le_refl _, rfl⟩
  rw [decide_eq_false hc]
  simp only [Bool.not_true, Bool.or_false, cond_false]
  have hb := GV s id
  generalize Xm s id = p at hc hb
  obtain ⟨k, rfl⟩ : ∃ k : Nat, p = (k : Int) := ⟨p.toNat, by omega⟩
  have e2 : Int.toNat ((k : Int) + 1) = k + 1 := by omega
  rw [e2, Int.toNat_natCast]
  have hk : k < s.2.1.length := by omega
  have hget : ∀ (i : Nat) (a : X9), (List.take k s.2.1 ++ List.drop (k + 1) s.2.1)[i]? = some a → s.2.1[if i < k then i else i + 1]? = some a := fun i a hi => by
    rw [List.getElem?_append, List.length_take, Nat.min_eq_left (by omega)] at hi
    split at hi
    · rename_i hlt
      rw [if_pos hlt]
      rwa [List.getElem?_take_of_lt hlt] at hi
    rename_i hge
    rw [if_neg hge]
    rw [List.getElem?_drop] at hi
    rwa [show k + 1 + (i - k) = i + 1 by omega] at hi
  refine ⟨⟨h.sch, ?_, h.nx1, h.nx2, fun i a hi => h.file _ a (hget i a hi), fun i a b ha hb => ?_⟩, trivial, ?_, trivial⟩
  · have := h.len
    show (List.take k s.2.1 ++ List.drop (k + 1) s.2.1).length ≤ 12
    simp; omega
  · have ha := hget i a ha
    have hb := hget (i + 1) b hb
    by_cases h1 : i + 1 < k
    · rw [if_pos (by omega)] at ha
      rw [if_pos h1] at hb
      exact h.asc i a b ha hb
    rw [if_neg h1] at hb
    by_cases h2 : i < k
    · rw [if_pos h2] at ha
      have hm : k < s.2.1.length := hk
      have h3 := h.asc i a _ ha (by rw [show i + 1 = k by omega]; exact Kh hm)
      have h4 := h.asc k _ b (Kh hm) (by rw [show k + 1 = i + 1 + 1 by omega]; exact hb)
      omega
    rw [if_neg h2] at ha
    exact h.asc (i + 1) a b ha hb
  show (List.take k s.2.1 ++ List.drop (k + 1) s.2.1).length ≤ s.2.1.length
  simp; omega
theorem VI {R S T : Type} {f : S → Rd R S T} (hf : ∀ s r, f s ≠ .ret r) : ∀ n s r, whl f n s ≠ some (.ret r)
  | 0, _, _ => by simp [whl]
  | n + 1, s, r => by
    simp only [whl]
    cases h : f s with
    | next s' => exact VI hf n s' r
    | brk t => simp
    | ret r' => exact absurd h (hf s r')
theorem O0 {R S T : Type} [Inhabited T] {f : S → Rd R S T} (hf : ∀ s r, f s ≠ .ret r) (n : Nat) (s : S) : ∃ t, E6 f n s = .brk t := by
  unfold E6
  cases h : whl f n s with
  | none => exact ⟨default, rfl⟩
  | some o =>
    cases o with
    | brk t => exact ⟨t, rfl⟩
    | ret r => exact absurd h (VI hf n s r)
theorem UV {R S T : Type} {f : S → Rd R S T} (I : S → Prop) (J : T → Prop) (hn : ∀ s s', I s → f s = .next s' → I s') (hb : ∀ s t, I s → f s = .brk t → J t) : ∀ n s t, I s → whl f n s = some (.brk t) → J t
  | 0, _, _, _, h => by simp [whl] at h
  | n + 1, s, t, hi, h => by
    simp only [whl] at h
    cases hs : f s with
    | next s' => rw [hs] at h; exact UV I J hn hb n s' t (hn s s' hi hs) h
    | brk t' =>
      rw [hs] at h
      obtain rfl : t' = t := by simpa using h
      exact hb s t' hi hs
    | ret r => rw [hs] at h; simp at h
theorem Sc {R S T : Type} [Inhabited T] {f : S → Rd R S T} (I : S → Prop) (J : T → Prop) (hn : ∀ s s', I s → f s = .next s' → I s') (hb : ∀ s t, I s → f s = .brk t → J t) {n : Nat} {s : S} {t : T} (hi : I s) (hw : (whl f n s).isSome = true) (h : E6 f n s = .brk t) : J t :=
  UV I J hn hb n s t hi (by rw [Dc hw, h])
theorem P5 {α R S T : Type} {f : Nat → α → S → Rd R S T} {e : Nat → S → T} (hf : ∀ k a s r, f k a s ≠ .ret r) : ∀ (l : List α) (k : Nat) (s : S), ∃ t, Xp f e l k s = .brk t
  | [], k, s => ⟨_, rfl⟩
  | a :: l, k, s => by
    simp only [Xp]
    cases h : f k a s with
    | next s' => exact P5 hf l (k + 1) s'
    | brk t => exact ⟨t, rfl⟩
    | ret r => exact absurd h (hf k a s r)
theorem UW {R S T : Type} {f : S → Rd R S T} (I : S → Prop) (m : S → Int) (N : Int) (h : ∀ s s', I s → f s = .next s' → m s < N ∧ m s' = m s + 1 ∧ I s') : ∀ (n : Nat) (s : S), I s → N ≤ m s + n → (whl f (n + 1) s).isSome = true
  | 0, s, hi, hn => by
    simp only [whl]
    cases hs : f s with
    | next s' => have := (h s s' hi hs).1; omega
    | brk t => rfl
    | ret r => rfl
  | n + 1, s, hi, hn => by
    rw [whl]
    cases hs : f s with
    | next s' =>
      obtain ⟨h1, h2, h3⟩ := h s s' hi hs
      exact UW I m N h n s' h3 (by omega)
    | brk t => rfl
    | ret r => rfl
theorem lt_any {α R : Type} {t : α} {f : α → R} {P : R → Prop} (Q : α → Prop) (h : Q t) (k : ∀ x, Q x → P (f x)) : P (lt t f) := k t h
open GoE (enc wide)
def Yk (code : (List UInt8)) (ci : Nat) (ch : Int) (n : Int) : Bool × Nat × Int := (lt (Qm code ci ch n) (fun x1 => ((x1.1 == (0 : Int)), x1.2.1, x1.2.2)))
theorem Kx (code : (List UInt8)) (ci : Nat) (ch : Int) (n : Int) : AGive Tryz.prog 24 [.h code, .i ((ci : Nat) : Int), .i ch] [.i n] (.b (((Yk code ci ch n)).1)) [.h code, .i ((((Yk code ci ch n)).2.1 : Nat) : Int), .i (((Yk code ci ch n)).2.2)] := by
 refine Kp (tt := tt) Qa Tryz.func24 (fn := Tryz.f24) rfl (by unfold Dt; kernel_rfl) (Nat.le_of_ble_eq_true rfl) (Nat.le_of_ble_eq_true rfl) rfl rfl fun w0 F0 hG => ?_
 refine sn Qa [0, 1, 4] [60000] (p0) ?_
 obtain ⟨x1, hx1⟩ := nm (Qm code ci ch n)
 have hbx1 := hx1 ▸ Qx code ci ch n
 refine tn Qa [0, 4] [60000] (po 2 (.give none (.i x1.1) [.h code, .i ((x1.2.1 : Nat) : Int), .i x1.2.2]) (px (Q3 (hx1 ▸ Xb code ci ch n)) p0)) ?_
 refine Qe ?_
 have hE2 : Yk code ci ch n = ((x1.1 == (0 : Int)), x1.2.1, x1.2.2) := Yo hx1 (rfl)
 exact Hv [] (congrArg (fun z => (.b z.1 : AV)) hE2.symm) (congrArg (fun z => ([.h code, .i ((z.2.1 : Nat) : Int), .i z.2.2] : List C)) hE2.symm)
def Xy (n : Int) : Jc := (1, n, ⟨#[]⟩)
theorem Hm (n : Int) : ACalls Tryz.prog 92 [.i n] (.a [.i ((Xy n).1), .i ((Xy n).2.1), .s ((Xy n).2.2)]) := by
 refine en Qa Tryz.func92 fun w0 F0 hG => ?_
 refine sn Qa [0, 2] [2] (p0) ?_
 refine tn Qa [2] [2] (p0) ?_
 refine Qe ?_
 exact pz [] (show Xy n = (1, n, ⟨#[]⟩) from rfl) (fun z => .a [.i z.1, .i z.2.1, .s z.2.2])
def Dg (name : ByteArray) (_ : Nat) (a0 : Wp) (s0 : (List Wp)) : Rd (X9) ((List Wp)) ((List Wp)) := (bif (!(a0.1.toList == name.toList)) then (.next (s0 ++ [a0])) else (.next s0))
def Hn (_ : Nat) (s0 : (List Wp)) : (List Wp) := s0
def Ho (name : ByteArray) (k1 : Nat) (a1 : Wp) (_ : Unit) : Rd (X9) (Unit) (Int) := (bif (Op.bytesLess a1.1.toList name.toList || a1.1.toList == name.toList) then (.next ()) else (.brk ((k1 : Nat) : Int)))
def Dh (k1 : Nat) (_ : Unit) : Int := ((k1 : Nat) : Int)
def Xf (f : X9) (name : ByteArray) (v : Jc) : X9 := (Out.on (Xp (Dg name) Hn f.2.2.2.2 0 []) (fun y0 => (bif (v.1 != (0 : Int)) then (Out.on (Xp (Ho name) Dh y0 0 ()) (fun y1 => (f.1, f.2.1, f.2.2.1, f.2.2.2.1, List.take (Int.toNat y1) y0 ++ [(name, v)] ++ (List.drop (Int.toNat y1) y0)))) else (f.1, f.2.1, f.2.2.1, f.2.2.2.1, y0))))
theorem VJ (f : X9) (name : ByteArray) (v : Jc) : List.length (Xf f name v).2.2.2.2 ≤ List.length f.2.2.2.2 + 1 := by
  unfold Xf
  rw [Ek (f := Dg name) (e := Hn) (p := fun a => !(a.1.toList == name.toList)) (g := id) (fun _ _ _ => rfl)]
  simp only [Out.on, Hn, List.nil_append, List.map_id]
  have hf := List.length_filter_le (fun a : Wp => !(a.1.toList == name.toList)) f.2.2.2.2
  generalize List.filter (fun a : Wp => !(a.1.toList == name.toList)) f.2.2.2.2 = l at hf
  cases (v.1 != (0 : Int)) with
  | false => exact Nat.le_succ_of_le hf
  | true =>
    simp only [cond_true]
    obtain ⟨t, ht⟩ := P5 (f := Ho name) (e := Dh) (fun k a s r => by
      unfold Ho
      generalize (Op.bytesLess a.1.toList name.toList || a.1.toList == name.toList) = c
      cases c <;> simp) l 0 ()
    rw [ht]
    · show (List.take (Int.toNat t) l ++ [(name, v)] ++ List.drop (Int.toNat t) l).length ≤ _
      simp
      omega
theorem Tx {c : Bool} {α : Type} {t : α} {F : X9} {nm : ByteArray} {V : α → Jc} {A : α → Nat × Int} {B : Nat × Int} : List.length (bif c then lt t (fun x => (Xf F nm (V x), A x)) else (F, B)).1.2.2.2.2 ≤ F.2.2.2.2.length + 1 := by
 cases c with
 | true => exact VJ _ _ _
 | false => exact Nat.le_succ _
theorem Cl (f : X9) (name : ByteArray) (v : Jc) (hp : List.length f.2.2.2.2 ≤ 1073741000) : ACalls Tryz.prog 91 [.a [.i f.1, .i f.2.1, .b f.2.2.1, .i f.2.2.2.1, .h f.2.2.2.2], .s name, .a [.i v.1, .i v.2.1, .s v.2.2]] (.a [.i ((Xf f name v).1), .i ((Xf f name v).2.1), .b ((Xf f name v).2.2.1), .i ((Xf f name v).2.2.2.1), .o 0 ((Xf f name v).2.2.2.2)]) := by
 refine en Qa Tryz.func91 fun w0 F0 hG => ?_
 refine sn Qa [1, 3, 5, 6] [3, 5, 6] (p0) ?_
 refine tn Qa [1, 3, 5, 6, 7] [3, 5, 6] (p0) ?_
 refine Qc ?_
 refine tu Qa [(3, .p 3 0), (5, .p 5 0), (6, .p 6 0), (7, .one (.slc (.own true 704) 4 [])), (8, .i 0)] [0, 2] [(3, [.i f.1, .i f.2.1, .b f.2.2.1, .i f.2.2.2.1, .h f.2.2.2.2]), (5, [.i v.1, .i v.2.1, .s v.2.2]), (6, [.i 0, .i 0, .b false, .i 0, .e 4])] [] (p0) ?_
 refine wB 3 4 .sh f.2.2.2.2 (fun hw1 hl2 => ?_)
 refine blL3 (Dg name) Hn f.2.2.2.2 [] (fun k0 s0 => [(7, .o 147204 s0), (8, .i ((k0 : Nat) : Int))]) [7, 8] (fun y0 => [(7, .o 147354 y0)]) [7, 8] (fun k0 s0 => List.length s0 ≤ k0) (fun y0 => List.length y0 ≤ List.length f.2.2.2.2) (X3 [(704, 147204)] (by kernel_rfl)) (by simp) (fun k0 s0 hk0 hI0 => ?_) (fun k0 s0 hk0 hI0 => ?_) (fun y0 hD0 => ?_)
 ·
  have hA0_0 := hI0.2
  obtain ⟨a0, hx0⟩ := Xr (l := f.2.2.2.2) (i := k0) hk0
  refine Qc ?_
  refine su Qa [(16, .b true)] [] [] [] (pl 3 f.2.2.2.2 (pe 4 (Qw (decide_eq_true (p := ((k0 : Nat) : Int) < (f.2.2.2.2.length : Int)) (by omega))) p0)) ?_
  refine ckT ?_
  refine Qh ?_
  refine Qc ?_
  refine Qt ?_
  refine sn Qa [1, 3, 5, 6, 7, 8, 26] [3, 5, 6] (pn 3 hx0 p0) ?_
  refine ck (!(a0.1.toList == name.toList)) (fun h3 => ?_) (fun h3 => ?_)
  ·
   refine wT 7 0 (.own true 147204) s0 (fun hw4 hl5 => ?_)
   refine qu Qa [(7, .one (.slc (.own true 2176) 4 ((eL s0) ++ [[.s a0.1, .i a0.2.1, .i a0.2.2.1, .s a0.2.2.2]])))] [7, 16] [] [] (pn 4 hx0 (pa s0 [a0] p0)) ?_
   refine eqn [(7, .o 2176 (s0 ++ [a0]))] [7] [] [] (by rw [show ((eL s0) ++ [[.s a0.1, .i a0.2.1, .i a0.2.2.1, .s a0.2.2.2]]) = (eL (s0 ++ [a0])) from Vn (rfl) (rfl)]; first | done | kernel_rfl) ?_
   refine rn Qa [1, 3, 5, 6, 7, 8] [3, 5, 6] (pe 1 (Jw (Qy k0 (by omega))) p0) ?_
   exact Exists.intro (s0 ++ [a0]) (And.intro (X3 [(2176, 147204)] (by kernel_rfl)) ⟨Q0 hx0 (Q1 h3 (rfl)) hI0.1, by first | omega | (simp; omega) | simp⟩)
  refine Qh ?_
  refine qn Qa [1, 3, 5, 6, 7, 8] [3, 5, 6] (pe 1 (Jw (Qy k0 (by omega))) p0) ?_
  exact xw s0 ⟨Q0 hx0 (Ql h3 (rfl)) hI0.1, by first | omega | (simp; omega) | simp⟩
 ·
  have hA0_0 := hI0.2
  refine Qc ?_
  refine su Qa [(16, .b false)] [] [] [] (pl 3 f.2.2.2.2 (pe 4 (Qw (decide_eq_false (p := ((k0 : Nat) : Int) < (f.2.2.2.2.length : Int)) (by omega))) p0)) ?_
  refine ckF ?_
  refine Q2 ?_
  exact Exists.intro s0 (And.intro (X3 [(147204, 147354)] (by kernel_rfl)) ⟨Xs hk0 (rfl) hI0.1, by first | omega | (simp only [List.length_set]; omega)⟩)
 have hD0_0 := hD0.2
 refine Qc ?_
 refine sn Qa [1, 3, 5, 6, 7, 37] [3, 5, 6] (p0) ?_
 refine ck (v.1 != (0 : Int)) (fun h6 => ?_) (fun h6 => ?_)
 ·
  have h6d := N3 h6
  refine tu Qa [(9, .i 0)] [] [] [] (p0) ?_
  refine Qc ?_
  refine wT 7 0 (.own true 147354) y0 (fun hw7 hl8 => ?_)
  refine blL2 (Ho name) Dh y0 () (fun k1 _ => [(9, .i ((k1 : Nat) : Int))]) [9] (fun y1 => [(9, .i y1)]) [9] (fun y1 => 0 ≤ y1 ∧ y1 ≤ (y0.length : Int)) wf0 (fun k1 s1 hk1 hI1 => ?_) (fun k1 s1 hk1 hI1 => ?_) (fun y1 hD1 => ?_)
  ·
   obtain ⟨a1, hx1⟩ := Xr (l := y0) (i := k1) hk1
   refine Qc ?_
   refine sn Qa [1, 3, 5, 6, 7, 9, 50] [3, 5, 6] (pl 2 y0 (pe 3 (Qw (decide_eq_true (p := ((k1 : Nat) : Int) < (y0.length : Int)) (by omega))) (pN 7 hx1 p0))) ?_
   refine ck (Op.bytesLess a1.1.toList name.toList || a1.1.toList == name.toList) (fun h9 => ?_) (fun h9 => ?_)
   ·
    refine Qh ?_
    refine Qt ?_
    refine qn Qa [1, 3, 5, 6, 7, 9] [3, 5, 6] (pe 1 (Jw (Qy k1 (by omega))) p0) ?_
    exact xw _ (Q0 hx1 (Q1 h9 (rfl)) hI1)
   refine Q2 ?_
   exact xw ((k1 : Nat) : Int) ⟨Lm hx1 (Ql h9 (rfl)) hI1, by first | omega | (simp only [List.length_set]; omega)⟩
  ·
   refine Qc ?_
   refine su Qa [(50, .b false)] [] [] [] (pl 2 y0 (pe 3 (Qw (decide_eq_false (p := ((k1 : Nat) : Int) < (y0.length : Int)) (by omega))) p0)) ?_
   refine ckF ?_
   refine Q2 ?_
   exact xw ((k1 : Nat) : Int) ⟨Xs hk1 (rfl) hI1, by first | omega | (simp only [List.length_set]; omega)⟩
  have hD1_0 := hD1.2
  have hl10 : List.length (List.take (Int.toNat y1) y0) ≤ 1073741824 := W7 (Ix (Int.toNat y1) (hw7))
  refine sU Qa Yc [(10, .one (.slc (.own true 3968) 4 (([] ++ (eL (List.take (Int.toNat y1) y0))) ++ [[.s name, .i v.1, .i v.2.1, .s v.2.2]])))] [1, 5] [] [5] (pe 3 (M4 (.vw 147354) 4 (Int.toNat y1) y1 y0 rfl) (px (Cs (lo := 0) (hi := y1) (n := (List.length (eL y0))) (Tf (by omega) (by omega) (by omega))) (po 4 (.flat) (px (Hu (n := (([] : List (List PV)).length + ((eL (List.take (Int.toNat y1) y0)) : List (List PV)).length)) (Dm (rfl) (Yb (List.take (Int.toNat y1) y0)) (by first | omega | (simp only [List.length_cons, List.length_nil]; omega) | (simp; omega) | simp))) (px (H4 (H5 (List.take (Int.toNat y1) y0))) (px (Hu (n := ((([] ++ (eL (List.take (Int.toNat y1) y0))) : List (List PV)).length + ([[.s name, .i v.1, .i v.2.1, .s v.2.2]] : List (List PV)).length)) (by simp [Yb]; omega)) p0)))))) ?_
  refine eqn [(10, .o 3968 (List.take (Int.toNat y1) y0 ++ [(name, v)]))] [10] [] [] (by rw [show (([] ++ (eL (List.take (Int.toNat y1) y0))) ++ [[.s name, .i v.1, .i v.2.1, .s v.2.2]]) = (eL (List.take (Int.toNat y1) y0 ++ [(name, v)])) from Vn (rfl) (rfl)]; first | done | kernel_rfl) ?_
  refine wT 10 0 (.own true 3968) (List.take (Int.toNat y1) y0 ++ [(name, v)]) (fun hw11 hl12 => ?_)
  have hl13 : List.length (List.drop (Int.toNat y1) y0) ≤ 1073741824 := W7 (Iy (Int.toNat y1) (hw7))
  refine ru Qa [(7, .one (.slc (.own true 4288) 4 ((eL (List.take (Int.toNat y1) y0 ++ [(name, v)])) ++ (eL (List.drop (Int.toNat y1) y0)))))] [7, 9, 10] [] [] (pe 3 (Te (.vw 147354) 4 (Int.toNat y1) y1 y0 rfl) (px (Cs (lo := y1) (hi := (((eL y0) : List (List PV)).length : Int)) (n := (List.length (eL y0))) (Tg (by omega) (by omega))) (po 4 (.flat) (pa (List.take (Int.toNat y1) y0 ++ [(name, v)]) (List.drop (Int.toNat y1) y0) (px (H4 (H5 (List.drop (Int.toNat y1) y0))) p0))))) ?_
  refine eqn [(7, .o 4288 (List.take (Int.toNat y1) y0 ++ [(name, v)] ++ (List.drop (Int.toNat y1) y0)))] [7] [] [] (by rw [show ((eL (List.take (Int.toNat y1) y0 ++ [(name, v)])) ++ (eL (List.drop (Int.toNat y1) y0))) = (eL (List.take (Int.toNat y1) y0 ++ [(name, v)] ++ (List.drop (Int.toNat y1) y0))) from Vn (rfl) (rfl)]; first | done | kernel_rfl) ?_
  refine sn Qa [3, 6] [3, 6] (p0) ?_
  refine tn Qa [6] [6] (p0) ?_
  refine Qe ?_
  exact pz [] (show Xf f name v = _ from Un hD0.1 (Q1 h6 (Un hD1.1 (rfl)))) (fun z => .a [.i z.1, .i z.2.1, .b z.2.2.1, .i z.2.2.2.1, .o 0 z.2.2.2.2])
 refine Qh ?_
 refine tn Qa [3, 6] [3, 6] (p0) ?_
 refine tu Qa [] [1, 3, 5, 7] [(6, [.i f.1, .i f.2.1, .b f.2.2.1, .i f.2.2.2.1, .o 147354 y0])] [3, 5, 6] (p0) ?_
 refine Qe ?_
 exact pz [] (show Xf f name v = _ from Un hD0.1 (Ql h6 (rfl))) (fun z => .a [.i z.1, .i z.2.1, .b z.2.2.1, .i z.2.2.2.1, .o 0 z.2.2.2.2])
def X4 (code : (List UInt8)) (ci : Nat) (ch : Int) (list : (List ByteArray)) : ByteArray × Nat × Int := (lt (Qm code ci ch (list.length : Int)) (fun x1 => ((nth list (Int.toNat x1.1)), x1.2.1, x1.2.2)))
theorem Kf (code : (List UInt8)) (ci : Nat) (ch : Int) (list : (List ByteArray)) (hp : 0 < List.length list) : AGive Tryz.prog 80 [.h code, .i ((ci : Nat) : Int), .i ch] [.h list] (.s (((X4 code ci ch list)).1)) [.h code, .i ((((X4 code ci ch list)).2.1 : Nat) : Int), .i (((X4 code ci ch list)).2.2)] := by
 refine Kp (tt := tt) Qa Tryz.func80 (fn := Tryz.f80) rfl (by unfold Dt; kernel_rfl) (Nat.le_of_ble_eq_true rfl) (Nat.le_of_ble_eq_true rfl) rfl rfl fun w0 F0 hG => ?_
 refine sn Qa [0, 1, 4] [60000] (p0) ?_
 obtain ⟨x1, hx1⟩ := nm (Qm code ci ch (list.length : Int))
 have hbx1 := hx1 ▸ Qx code ci ch (list.length : Int)
 refine wT 1 0 .sh list (fun hw3 hl4 => ?_)
 have hx2 := ng list (Int.toNat x1.1)
 refine tn Qa [0, 4] [60000] (pl 3 list (po 4 (.give none (.i x1.1) [.h code, .i ((x1.2.1 : Nat) : Int), .i x1.2.2]) (px (Q3 (hx1 ▸ Xb code ci ch (list.length : Int))) (pg 5 x1.1 hx2 p0)))) ?_
 refine Qe ?_
 have hE5 : X4 code ci ch list = ((nth list (Int.toNat x1.1)), x1.2.1, x1.2.2) := Yo hx1 (rfl)
 exact Hv [] (congrArg (fun z => (.s z.1 : AV)) hE5.symm) (congrArg (fun z => ([.h code, .i ((z.2.1 : Nat) : Int), .i z.2.2] : List C)) hE5.symm)
def Q6 (w : ByteArray) : Jc := (2, 0, w)
theorem Uw (w : ByteArray) : ACalls Tryz.prog 93 [.s w] (.a [.i ((Q6 w).1), .i ((Q6 w).2.1), .s ((Q6 w).2.2)]) := by
 refine en Qa Tryz.func93 fun w0 F0 hG => ?_
 refine sn Qa [0, 2] [2] (p0) ?_
 refine tn Qa [2] [2] (p0) ?_
 refine Qe ?_
 exact pz [] (show Q6 w = (2, 0, w) from rfl) (fun z => .a [.i z.1, .i z.2.1, .s z.2.2])
def Z9 (code : (List UInt8)) (ci : Nat) (ch : Int) (id : Int) : X9 × Nat × Int := (lt (Qm code ci ch 3) (fun x1 => (lt (Yk code x1.2.1 x1.2.2 2) (fun x2 => (lt (Yk code x2.2.1 x2.2.2 2) (fun x3 => (lt (α := Int × Nat × Int) (bif x3.1 then (lt (Qm code x3.2.1 x3.2.2 7) (fun x4 => (x4.1, x4.2.1, x4.2.2))) else (0, x3.2.1, x3.2.2)) (fun x4 => (lt (Yk code x4.2.1 x4.2.2 4) (fun x7 => (lt (α := X9 × Nat × Int) (bif (!x7.1) then (lt (Qm code x7.2.1 x7.2.2 4) (fun x8 => ((Xf (id, x1.1, x2.1, x4.1, []) ⟨#[97]⟩ (Xy x8.1)), x8.2.1, x8.2.2))) else ((id, x1.1, x2.1, x4.1, []), x7.2.1, x7.2.2)) (fun x8 => (lt (Yk code x8.2.1 x8.2.2 2) (fun x11 => (lt (α := X9 × Nat × Int) (bif x11.1 then (lt (Qm code x11.2.1 x11.2.2 4) (fun x12 => ((Xf x8.1 ⟨#[98]⟩ (Xy x12.1)), x12.2.1, x12.2.2))) else (x8.1, x11.2.1, x11.2.2)) (fun x12 => (lt (Yk code x12.2.1 x12.2.2 3) (fun x15 => (lt (α := X9 × Nat × Int) (bif (!x15.1) then (lt (X4 code x15.2.1 x15.2.2 [⟨#[105, 110, 107]⟩, ⟨#[115, 101, 97]⟩]) (fun x16 => ((Xf x12.1 ⟨#[110]⟩ (Q6 x16.1)), x16.2.1, x16.2.2))) else (x12.1, x15.2.1, x15.2.2)) (fun x16 => (lt (Yk code x16.2.1 x16.2.2 2) (fun x19 => (bif x19.1 then (lt (X4 code x19.2.1 x19.2.2 [⟨#[114, 101, 100]⟩, ⟨#[98, 108, 117, 101]⟩]) (fun x21 => ((Xf x16.1 ⟨#[116]⟩ (Q6 x21.1)), x21.2.1, x21.2.2))) else (x16.1, x19.2.1, x19.2.2))))))))))))))))))))))))
theorem Gy (code : (List UInt8)) (ci : Nat) (ch : Int) (id : Int) : AGive Tryz.prog 59 [.h code, .i ((ci : Nat) : Int), .i ch] [.i id] (.a [.i ((((Z9 code ci ch id)).1).1), .i ((((Z9 code ci ch id)).1).2.1), .b ((((Z9 code ci ch id)).1).2.2.1), .i ((((Z9 code ci ch id)).1).2.2.2.1), .o 0 ((((Z9 code ci ch id)).1).2.2.2.2)]) [.h code, .i ((((Z9 code ci ch id)).2.1 : Nat) : Int), .i (((Z9 code ci ch id)).2.2)] := by
 refine Kp (tt := tt) Qa Tryz.func59 (fn := Tryz.f59) rfl (by unfold Dt; kernel_rfl) (Nat.le_of_ble_eq_true rfl) (Nat.le_of_ble_eq_true rfl) rfl rfl fun w0 F0 hG => ?_
 refine sn Qa [0, 1, 4] [4, 60000] (p0) ?_
 obtain ⟨x1, hx1⟩ := nm (Qm code ci ch 3)
 have hbx1 := hx1 ▸ Qx code ci ch 3
 obtain ⟨x2, hx2⟩ := nm (Yk code x1.2.1 x1.2.2 2)
 refine tn Qa [0, 4, 5] [4, 5, 60000] (po 2 (.give none (.i x1.1) [.h code, .i ((x1.2.1 : Nat) : Int), .i x1.2.2]) (px (Q3 (hx1 ▸ Xb code ci ch 3)) (po 4 (.give none (.b x2.1) [.h code, .i ((x2.2.1 : Nat) : Int), .i x2.2.2]) (px (Q3 (hx2 ▸ Kx code x1.2.1 x1.2.2 2)) p0)))) ?_
 refine Qc ?_
 obtain ⟨x3, hx3⟩ := nm (Yk code x2.2.1 x2.2.2 2)
 refine tu Qa [(4, .p 4 0), (5, .p 5 0), (13, .b x3.1)] [1] [(4, [.i 0, .i 0, .b false, .i 0, .e 4]), (5, [.i id, .i x1.1, .b x2.1, .i 0, .e 4]), (60000, [.h code, .i ((x3.2.1 : Nat) : Int), .i x3.2.2])] [60000] (po 1 (.give none (.b x3.1) [.h code, .i ((x3.2.1 : Nat) : Int), .i x3.2.2]) (px (Q3 (hx3 ▸ Kx code x2.2.1 x2.2.2 2)) p0)) ?_
 obtain ⟨x4, hx4⟩ := nm ((bif x3.1 then (lt (Qm code x3.2.1 x3.2.2 7) (fun x4 => (x4.1, x4.2.1, x4.2.2))) else (0, x3.2.1, x3.2.2)))
 refine jn [] [13] [(5, [.i id, .i x1.1, .b x2.1, .i x4.1, .e 4]), (60000, [.h code, .i ((x4.2.1 : Nat) : Int), .i x4.2.2])] [5, 60000] x3.1 (fun h5 => ?_) (fun h5 => ?_) ?_
 ·
  refine ckt h5 ?_
  obtain ⟨x6, hx6⟩ := nm (Qm code x3.2.1 x3.2.2 7)
  have hbx6 := hx6 ▸ Qx code x3.2.1 x3.2.2 7
  refine rn Qa [0, 4, 5] [4, 5, 60000] (po 1 (.give none (.i x6.1) [.h code, .i ((x6.2.1 : Nat) : Int), .i x6.2.2]) (px (Q3 (hx6 ▸ Xb code x3.2.1 x3.2.2 7)) p0)) ?_
  obtain rfl : x4 = (x6.1, x6.2.1, x6.2.2) := hx4.symm.trans (show (bif x3.1 then (lt (Qm code x3.2.1 x3.2.2 7) (fun x4 => (x4.1, x4.2.1, x4.2.2))) else (0, x3.2.1, x3.2.2)) = (x6.1, x6.2.1, x6.2.2) from Q1 h5 (Yo hx6 (rfl)))
  exact ⟨rfl, Qf (by kernel_rfl)⟩
 ·
  refine ckf h5 ?_
  refine Qh ?_
  obtain rfl : x4 = (0, x3.2.1, x3.2.2) := hx4.symm.trans (show (bif x3.1 then (lt (Qm code x3.2.1 x3.2.2 7) (fun x4 => (x4.1, x4.2.1, x4.2.2))) else (0, x3.2.1, x3.2.2)) = (0, x3.2.1, x3.2.2) from Ql h5 (rfl))
  exact ⟨rfl, Qf (by kernel_rfl)⟩
 refine Qc ?_
 obtain ⟨x7, hx7⟩ := nm (Yk code x4.2.1 x4.2.2 4)
 refine sn Qa [0, 4, 5, 19] [4, 5, 60000] (po 1 (.give none (.b x7.1) [.h code, .i ((x7.2.1 : Nat) : Int), .i x7.2.2]) (px (Q3 (hx7 ▸ Kx code x4.2.1 x4.2.2 4)) p0)) ?_
 refine mz [(19, .b (!x7.1))] [] [(60000, [.h code, .i ((x7.2.1 : Nat) : Int), .i x7.2.2])] [60000] ?_
 obtain ⟨x8, hx8⟩ := nm ((bif (!x7.1) then (lt (Qm code x7.2.1 x7.2.2 4) (fun x8 => ((Xf (id, x1.1, x2.1, x4.1, []) ⟨#[97]⟩ (Xy x8.1)), x8.2.1, x8.2.2))) else ((id, x1.1, x2.1, x4.1, []), x7.2.1, x7.2.2)))
 have hjx8 : List.length x8.1.2.2.2.2 ≤ 1 := by rw [← hx8]; exact Nat.le_trans Tx (by first | omega | simp)
 refine jn [] [19] [(5, [.i x8.1.1, .i x8.1.2.1, .b x8.1.2.2.1, .i x8.1.2.2.2.1, .o 448768 x8.1.2.2.2.2]), (60000, [.h code, .i ((x8.2.1 : Nat) : Int), .i x8.2.2])] [5, 60000] (!x7.1) (fun h9 => ?_) (fun h9 => ?_) ?_
 ·
  refine ckt h9 ?_
  obtain ⟨x10, hx10⟩ := nm (Qm code x7.2.1 x7.2.2 4)
  have hbx10 := hx10 ▸ Qx code x7.2.1 x7.2.2 4
  refine rN Qa Yc [0, 4, 5] [4, 5, 60000] (po 2 (.give none (.i x10.1) [.h code, .i ((x10.2.1 : Nat) : Int), .i x10.2.2]) (px (Q3 (hx10 ▸ Xb code x7.2.1 x7.2.2 4)) (pc 3 (Hm x10.1) (pc 4 (Cl (id, x1.1, x2.1, x4.1, []) ⟨#[97]⟩ (Xy x10.1) (by first | omega | (simp; done) | (simp; omega))) p0)))) ?_
  obtain rfl : x8 = ((Xf (id, x1.1, x2.1, x4.1, []) ⟨#[97]⟩ (Xy x10.1)), x10.2.1, x10.2.2) := hx8.symm.trans (show (bif (!x7.1) then (lt (Qm code x7.2.1 x7.2.2 4) (fun x8 => ((Xf (id, x1.1, x2.1, x4.1, []) ⟨#[97]⟩ (Xy x8.1)), x8.2.1, x8.2.2))) else ((id, x1.1, x2.1, x4.1, []), x7.2.1, x7.2.2)) = ((Xf (id, x1.1, x2.1, x4.1, []) ⟨#[97]⟩ (Xy x10.1)), x10.2.1, x10.2.2) from Q1 h9 (Yo hx10 (rfl)))
  exact ⟨rfl, X3 [(1536, 448768)] (by kernel_rfl)⟩
 ·
  refine ckf h9 ?_
  refine Qh ?_
  obtain rfl : x8 = ((id, x1.1, x2.1, x4.1, []), x7.2.1, x7.2.2) := hx8.symm.trans (show (bif (!x7.1) then (lt (Qm code x7.2.1 x7.2.2 4) (fun x8 => ((Xf (id, x1.1, x2.1, x4.1, []) ⟨#[97]⟩ (Xy x8.1)), x8.2.1, x8.2.2))) else ((id, x1.1, x2.1, x4.1, []), x7.2.1, x7.2.2)) = ((id, x1.1, x2.1, x4.1, []), x7.2.1, x7.2.2) from Ql h9 (rfl))
  exact ⟨rfl, M5 [(true, 5, 4, true, 320008, 4)] [] [] [(320008, 448768)] (by kernel_rfl)⟩
 refine Qc ?_
 obtain ⟨x11, hx11⟩ := nm (Yk code x8.2.1 x8.2.2 2)
 refine sn Qa [0, 4, 5, 26] [4, 5, 60000] (po 1 (.give none (.b x11.1) [.h code, .i ((x11.2.1 : Nat) : Int), .i x11.2.2]) (px (Q3 (hx11 ▸ Kx code x8.2.1 x8.2.2 2)) p0)) ?_
 refine mz [(26, .b x11.1)] [] [(60000, [.h code, .i ((x11.2.1 : Nat) : Int), .i x11.2.2])] [60000] ?_
 obtain ⟨x12, hx12⟩ := nm ((bif x11.1 then (lt (Qm code x11.2.1 x11.2.2 4) (fun x12 => ((Xf x8.1 ⟨#[98]⟩ (Xy x12.1)), x12.2.1, x12.2.2))) else (x8.1, x11.2.1, x11.2.2)))
 have hjx12 : List.length x12.1.2.2.2.2 ≤ 2 := by rw [← hx12]; exact Nat.le_trans Tx (by first | omega | simp)
 refine jn [] [26] [(5, [.i x12.1.1, .i x12.1.2.1, .b x12.1.2.2.1, .i x12.1.2.2.2.1, .o 448768 x12.1.2.2.2.2]), (60000, [.h code, .i ((x12.2.1 : Nat) : Int), .i x12.2.2])] [5, 60000] x11.1 (fun h13 => ?_) (fun h13 => ?_) ?_
 ·
  refine ckt h13 ?_
  obtain ⟨x14, hx14⟩ := nm (Qm code x11.2.1 x11.2.2 4)
  have hbx14 := hx14 ▸ Qx code x11.2.1 x11.2.2 4
  refine rN Qa Yc [0, 4, 5] [4, 5, 60000] (po 2 (.give none (.i x14.1) [.h code, .i ((x14.2.1 : Nat) : Int), .i x14.2.2]) (px (Q3 (hx14 ▸ Xb code x11.2.1 x11.2.2 4)) (pc 3 (Hm x14.1) (pc 4 (Cl x8.1 ⟨#[98]⟩ (Xy x14.1) (by first | omega | (simp; done) | (simp; omega))) p0)))) ?_
  obtain rfl : x12 = ((Xf x8.1 ⟨#[98]⟩ (Xy x14.1)), x14.2.1, x14.2.2) := hx12.symm.trans (show (bif x11.1 then (lt (Qm code x11.2.1 x11.2.2 4) (fun x12 => ((Xf x8.1 ⟨#[98]⟩ (Xy x12.1)), x12.2.1, x12.2.2))) else (x8.1, x11.2.1, x11.2.2)) = ((Xf x8.1 ⟨#[98]⟩ (Xy x14.1)), x14.2.1, x14.2.2) from Q1 h13 (Yo hx14 (rfl)))
  exact ⟨rfl, X3 [(1984, 448768)] (by kernel_rfl)⟩
 ·
  refine ckf h13 ?_
  refine Qh ?_
  obtain rfl : x12 = (x8.1, x11.2.1, x11.2.2) := hx12.symm.trans (show (bif x11.1 then (lt (Qm code x11.2.1 x11.2.2 4) (fun x12 => ((Xf x8.1 ⟨#[98]⟩ (Xy x12.1)), x12.2.1, x12.2.2))) else (x8.1, x11.2.1, x11.2.2)) = (x8.1, x11.2.1, x11.2.2) from Ql h13 (rfl))
  exact ⟨rfl, Qf (by kernel_rfl)⟩
 refine Qc ?_
 obtain ⟨x15, hx15⟩ := nm (Yk code x12.2.1 x12.2.2 3)
 refine sn Qa [0, 4, 5, 34] [4, 5, 60000] (po 1 (.give none (.b x15.1) [.h code, .i ((x15.2.1 : Nat) : Int), .i x15.2.2]) (px (Q3 (hx15 ▸ Kx code x12.2.1 x12.2.2 3)) p0)) ?_
 refine mz [(34, .b (!x15.1))] [] [(60000, [.h code, .i ((x15.2.1 : Nat) : Int), .i x15.2.2])] [60000] ?_
 obtain ⟨x16, hx16⟩ := nm ((bif (!x15.1) then (lt (X4 code x15.2.1 x15.2.2 [⟨#[105, 110, 107]⟩, ⟨#[115, 101, 97]⟩]) (fun x16 => ((Xf x12.1 ⟨#[110]⟩ (Q6 x16.1)), x16.2.1, x16.2.2))) else (x12.1, x15.2.1, x15.2.2)))
 have hjx16 : List.length x16.1.2.2.2.2 ≤ 3 := by rw [← hx16]; exact Nat.le_trans Tx (by first | omega | simp)
 refine jn [] [34] [(5, [.i x16.1.1, .i x16.1.2.1, .b x16.1.2.2.1, .i x16.1.2.2.2.1, .o 448768 x16.1.2.2.2.2]), (60000, [.h code, .i ((x16.2.1 : Nat) : Int), .i x16.2.2])] [5, 60000] (!x15.1) (fun h17 => ?_) (fun h17 => ?_) ?_
 ·
  refine ckt h17 ?_
  obtain ⟨x18, hx18⟩ := nm (X4 code x15.2.1 x15.2.2 [⟨#[105, 110, 107]⟩, ⟨#[115, 101, 97]⟩])
  refine rN Qa Yc [0, 4, 5] [4, 5, 60000] (po 3 (.give none (.s x18.1) [.h code, .i ((x18.2.1 : Nat) : Int), .i x18.2.2]) (px (Q3 (hx18 ▸ Kf code x15.2.1 x15.2.2 [⟨#[105, 110, 107]⟩, ⟨#[115, 101, 97]⟩] (Nat.zero_lt_succ _))) (pc 4 (Uw x18.1) (pc 5 (Cl x12.1 ⟨#[110]⟩ (Q6 x18.1) (by first | omega | (simp; done) | (simp; omega))) p0)))) ?_
  obtain rfl : x16 = ((Xf x12.1 ⟨#[110]⟩ (Q6 x18.1)), x18.2.1, x18.2.2) := hx16.symm.trans (show (bif (!x15.1) then (lt (X4 code x15.2.1 x15.2.2 [⟨#[105, 110, 107]⟩, ⟨#[115, 101, 97]⟩]) (fun x16 => ((Xf x12.1 ⟨#[110]⟩ (Q6 x16.1)), x16.2.1, x16.2.2))) else (x12.1, x15.2.1, x15.2.2)) = ((Xf x12.1 ⟨#[110]⟩ (Q6 x18.1)), x18.2.1, x18.2.2) from Q1 h17 (Yo hx18 (rfl)))
  exact ⟨rfl, X3 [(2560, 448768)] (by kernel_rfl)⟩
 ·
  refine ckf h17 ?_
  refine Qh ?_
  obtain rfl : x16 = (x12.1, x15.2.1, x15.2.2) := hx16.symm.trans (show (bif (!x15.1) then (lt (X4 code x15.2.1 x15.2.2 [⟨#[105, 110, 107]⟩, ⟨#[115, 101, 97]⟩]) (fun x16 => ((Xf x12.1 ⟨#[110]⟩ (Q6 x16.1)), x16.2.1, x16.2.2))) else (x12.1, x15.2.1, x15.2.2)) = (x12.1, x15.2.1, x15.2.2) from Ql h17 (rfl))
  exact ⟨rfl, Qf (by kernel_rfl)⟩
 refine Qc ?_
 obtain ⟨x19, hx19⟩ := nm (Yk code x16.2.1 x16.2.2 2)
 refine sn Qa [0, 4, 5, 42] [4, 5, 60000] (po 1 (.give none (.b x19.1) [.h code, .i ((x19.2.1 : Nat) : Int), .i x19.2.2]) (px (Q3 (hx19 ▸ Kx code x16.2.1 x16.2.2 2)) p0)) ?_
 refine ck x19.1 (fun h20 => ?_) (fun h20 => ?_)
 ·
  obtain ⟨x21, hx21⟩ := nm (X4 code x19.2.1 x19.2.2 [⟨#[114, 101, 100]⟩, ⟨#[98, 108, 117, 101]⟩])
  refine qN Qa Yc [0, 4, 5] [4, 5, 60000] (po 3 (.give none (.s x21.1) [.h code, .i ((x21.2.1 : Nat) : Int), .i x21.2.2]) (px (Q3 (hx21 ▸ Kf code x19.2.1 x19.2.2 [⟨#[114, 101, 100]⟩, ⟨#[98, 108, 117, 101]⟩] (Nat.zero_lt_succ _))) (pc 4 (Uw x21.1) (pc 5 (Cl x16.1 ⟨#[116]⟩ (Q6 x21.1) (by first | omega | (simp; done) | (simp; omega))) p0)))) ?_
  refine tu Qa [] [5] [(4, [.i ((Xf x16.1 ⟨#[116]⟩ (Q6 x21.1)).1), .i ((Xf x16.1 ⟨#[116]⟩ (Q6 x21.1)).2.1), .b ((Xf x16.1 ⟨#[116]⟩ (Q6 x21.1)).2.2.1), .i ((Xf x16.1 ⟨#[116]⟩ (Q6 x21.1)).2.2.2.1), .o 3072 ((Xf x16.1 ⟨#[116]⟩ (Q6 x21.1)).2.2.2.2)]), (60000, [.h code, .i ((x21.2.1 : Nat) : Int), .i x21.2.2])] [4, 5, 60000] (p0) ?_
  refine Qe ?_
  have hE22 : Z9 code ci ch id = ((Xf x16.1 ⟨#[116]⟩ (Q6 x21.1)), x21.2.1, x21.2.2) := Yo hx1 (Yo hx2 (Yo hx3 (Yo hx4 (Yo hx7 (Yo hx8 (Yo hx11 (Yo hx12 (Yo hx15 (Yo hx16 (Yo hx19 (Q1 h20 (Yo hx21 (rfl)))))))))))))
  exact Hv [] (congrArg (fun z => (.a [.i z.1.1, .i z.1.2.1, .b z.1.2.2.1, .i z.1.2.2.2.1, .o 0 z.1.2.2.2.2] : AV)) hE22.symm) (congrArg (fun z => ([.h code, .i ((z.2.1 : Nat) : Int), .i z.2.2] : List C)) hE22.symm)
 refine Qh ?_
 refine tn Qa [0, 4] [4, 60000] (p0) ?_
 refine Qe ?_
 have hE23 : Z9 code ci ch id = (x16.1, x19.2.1, x19.2.2) := Yo hx1 (Yo hx2 (Yo hx3 (Yo hx4 (Yo hx7 (Yo hx8 (Yo hx11 (Yo hx12 (Yo hx15 (Yo hx16 (Yo hx19 (Ql h20 (rfl))))))))))))
 exact Hv [] (congrArg (fun z => (.a [.i z.1.1, .i z.1.2.1, .b z.1.2.2.1, .i z.1.2.2.2.1, .o 0 z.1.2.2.2.2] : AV)) hE23.symm) (congrArg (fun z => ([.h code, .i ((z.2.1 : Nat) : Int), .i z.2.2] : List C)) hE23.symm)
def Qs : (List Ze) := [((⟨#[97]⟩, 1) : Ze), ((⟨#[98]⟩, 1) : Ze), ((⟨#[110]⟩, 2) : Ze), ((⟨#[116]⟩, 2) : Ze)]
theorem Mf : ACalls Tryz.prog 57 [] (.o 0 Qs) := by
 refine en Qa Tryz.func57 fun w0 F0 hG => ?_
 refine sn Qa [0] [] (p0) ?_
 refine tn Qa [0] [] (p0) ?_
 refine Qe ?_
 exact po0 [] (show Qs = [((⟨#[97]⟩, 1) : Ze), ((⟨#[98]⟩, 1) : Ze), ((⟨#[110]⟩, 2) : Ze), ((⟨#[116]⟩, 2) : Ze)] from rfl)
def Jp (code : (List UInt8)) (s0 : Int × Xo × Nat × Int) : Rd (Xo × Nat × Int) (Int × Xo × Nat × Int) (Xo × Nat × Int) := (lt (Qm code s0.2.2.1 s0.2.2.2 7) (fun x1 => (bif decide (s0.1 < IntKind.i64.wrap (1 + x1.1)) then (lt (Z9 code x1.2.1 x1.2.2 1) (fun x3 => (.next (IntKind.i64.wrap (s0.1 + 1), (((X0 s0.2.1 x3.1)).1), x3.2.1, x3.2.2)))) else (.brk (s0.2.1, x1.2.1, x1.2.2)))))
def Y6 (code : (List UInt8)) (ci : Nat) (ch : Int) : Xo × Nat × Int := (Out.on (E6 (Jp code) 8 (0, (Z6 Qs), ci, ch)) (fun y0 => (bif decide ((y0.1.2.1.length : Int) > (2 : Int)) then (lt (Yk code y0.2.1 y0.2.2 3) (fun x5 => (bif x5.1 then ((((Zj y0.1 ((nth y0.1.2.1 1).1))).1), x5.2.1, x5.2.2) else (y0.1, x5.2.1, x5.2.2)))) else (y0.1, y0.2.1, y0.2.2))))
theorem Mg (code : List UInt8) (ci : Nat) (ch : Int) (s : Xo) : (whl (Jp code) 8 (0, s, ci, ch)).isSome = true :=
  FG (fun s => s.1) 7 (fun s s' h0 h => by
    unfold Jp lt at h
    have hb := Qx code s.2.2.1 s.2.2.2 7
    generalize Qm code s.2.2.1 s.2.2.2 7 = x at h hb
    have e : IntKind.i64.wrap (1 + x.1) = 1 + x.1 := IntWalk.i64_in _ (by omega)
    simp only [e] at h
    by_cases hc : s.1 < 1 + x.1
    · simp only [decide_eq_true hc, cond_true] at h
      have h := Rd.next.inj h
      rw [← h]
      exact ⟨by omega, IntWalk.i64_in _ (by omega)⟩
    simp only [decide_eq_false hc, cond_false] at h
    cases h) 7 _ (Int.le_refl 0) (by show (7 : Int) ≤ 0 + 7; omega)
theorem Di (code : (List UInt8)) (ci : Nat) (ch : Int) : AGive Tryz.prog 35 [.h code, .i ((ci : Nat) : Int), .i ch] [] (.a [.o 0 ((((Y6 code ci ch)).1).1), .q 1 ((((Y6 code ci ch)).1).2.1), .i ((((Y6 code ci ch)).1).2.2)]) [.h code, .i ((((Y6 code ci ch)).2.1 : Nat) : Int), .i (((Y6 code ci ch)).2.2)] := by
 refine Kp (tt := tt) Qa Tryz.func35 (fn := Tryz.f35) rfl (by unfold Dt; kernel_rfl) (Nat.le_of_ble_eq_true rfl) (Nat.le_of_ble_eq_true rfl) rfl rfl fun w0 F0 hG => ?_
 refine sn Qa [0, 2] [2, 60000] (p0) ?_
 refine tn Qa [0, 2, 3] [2, 3, 60000] (pc 0 (Mf) (pc 1 (QE Qs) p0)) ?_
 refine Qc ?_
 refine tu Qa [(2, .p 2 0), (3, .p 3 0), (4, .i 0)] [] [(2, [.e 2, .e 5, .i 0]), (3, [.o 384 ((Z6 Qs).1), .o 385 ((Z6 Qs).2.1), .i ((Z6 Qs).2.2)])] [] (p0) ?_
 refine blw (fun (s0 : Int × Xo × Nat × Int) => [(4, .i s0.1)]) [4] (fun s0 => [(3, [.o 147207 s0.2.1.1, .o 147208 s0.2.1.2.1, .i s0.2.1.2.2]), (60000, [.h code, .i ((s0.2.2.1 : Nat) : Int), .i s0.2.2.2])]) [3, 60000] (fun (y0 : Xo × Nat × Int) => []) [4] (fun y0 => [(3, [.o 147357 y0.1.1, .o 147358 y0.1.2.1, .i y0.1.2.2]), (60000, [.h code, .i ((y0.2.1 : Nat) : Int), .i y0.2.2])]) [3, 60000] (fun (k0 : Nat) (s0 : Int × Xo × Nat × Int) => whl (Jp code) k0 s0 = some (E6 (Jp code) 8 (0, (Z6 Qs), ci, ch))) (fun (y0 : Xo × Nat × Int) => (E6 (Jp code) 8 (0, (Z6 Qs), ci, ch)) = .brk y0) 8 (0, (Z6 Qs), ci, ch) (X3 [(384, 147207), (385, 147208)] (by kernel_rfl)) (Dc (Mg code ci ch _)) (fun _ h => D4 h) (fun k0 s0 hI0 => ?_) (fun y0 hD0 => ?_)
 ·
  refine Qc ?_
  obtain ⟨x1, hx1⟩ := nm (Qm code s0.2.2.1 s0.2.2.2 7)
  have hbx1 := hx1 ▸ Qx code s0.2.2.1 s0.2.2.2 7
  refine sn Qa [0, 2, 3, 4, 11] [2, 3, 60000] (po 2 (.give none (.i x1.1) [.h code, .i ((x1.2.1 : Nat) : Int), .i x1.2.2]) (px (Q3 (hx1 ▸ Xb code s0.2.2.1 s0.2.2.2 7)) p0)) ?_
  refine ck (decide (s0.1 < IntKind.i64.wrap (1 + x1.1))) (fun h2 => ?_) (fun h2 => ?_)
  ·
   refine Qh ?_
   refine Qc ?_
   refine Qt ?_
   obtain ⟨x3, hx3⟩ := nm (Z9 code x1.2.1 x1.2.2 1)
   refine qN Qa Yc [0, 2, 3, 4] [2, 3, 60000] (po 2 (.give none (.a [.i x3.1.1, .i x3.1.2.1, .b x3.1.2.2.1, .i x3.1.2.2.2.1, .o 0 x3.1.2.2.2.2]) [.h code, .i ((x3.2.1 : Nat) : Int), .i x3.2.2]) (px (Q3 (hx3 ▸ Gy code x1.2.1 x1.2.2 1)) (pc 3 (G9 s0.2.1 x3.1) p0))) ?_
   refine qu Qa [(4, .i (IntKind.i64.wrap (s0.1 + 1)))] [4] [(3, [.o 1152 ((((X0 s0.2.1 x3.1)).1).1), .o 1153 ((((X0 s0.2.1 x3.1)).1).2.1), .i ((((X0 s0.2.1 x3.1)).1).2.2)]), (60000, [.h code, .i ((x3.2.1 : Nat) : Int), .i x3.2.2])] [3, 60000] (p0) ?_
   exact Exists.intro (IntKind.i64.wrap (s0.1 + 1), (((X0 s0.2.1 x3.1)).1), x3.2.1, x3.2.2) (And.intro (X3 [(1152, 147207), (1153, 147208)] (by kernel_rfl)) (wn hI0 (Yo hx1 (Q1 h2 (Yo hx3 (rfl))))))
  refine Q2 ?_
  exact Exists.intro (s0.2.1, x1.2.1, x1.2.2) (And.intro (X3 [(147207, 147357), (147208, 147358)] (by kernel_rfl)) (wb hI0 (Yo hx1 (Ql h2 (rfl)))))
 refine Qc ?_
 refine Qc ?_
 refine Q9 (decide ((y0.1.2.1.length : Int) > (2 : Int))) (fun h4 => ?_) (fun h4 => ?_)
 ·
  have h4d := of_decide_eq_true h4
  obtain ⟨x5, hx5⟩ := nm (Yk code y0.2.1 y0.2.2 3)
  refine rn Qa [0, 2, 3, 29] [2, 3, 60000] (pl 2 y0.1.2.1 (pt 3 h4 (po 6 (.give none (.b x5.1) [.h code, .i ((x5.2.1 : Nat) : Int), .i x5.2.2]) (px (Q3 (hx5 ▸ Kx code y0.2.1 y0.2.2 3)) p0)))) ?_
  refine ck x5.1 (fun h6 => ?_) (fun h6 => ?_)
  ·
   refine wB 3 1 (.own true 147358) y0.1.2.1 (fun hw8 hl9 => ?_)
   have hx7 := ng y0.1.2.1 1
   refine qN Qa Yc [0, 2, 3] [2, 3, 60000] (pG 3 1 hx7 (pc 6 (Rp y0.1 ((nth y0.1.2.1 1).1)) p0)) ?_
   refine tu Qa [] [3] [(2, [.o 2368 ((((Zj y0.1 ((nth y0.1.2.1 1).1))).1).1), .q 2369 ((((Zj y0.1 ((nth y0.1.2.1 1).1))).1).2.1), .i ((((Zj y0.1 ((nth y0.1.2.1 1).1))).1).2.2)]), (60000, [.h code, .i ((x5.2.1 : Nat) : Int), .i x5.2.2])] [2, 3, 60000] (p0) ?_
   refine Qe ?_
   have hE10 : Y6 code ci ch = ((((Zj y0.1 ((nth y0.1.2.1 1).1))).1), x5.2.1, x5.2.2) := Un hD0 (Q1 h4 (Yo hx5 (Q1 h6 (rfl))))
   exact Hv [] (congrArg (fun z => (.a [.o 0 z.1.1, .q 1 z.1.2.1, .i z.1.2.2] : AV)) hE10.symm) (congrArg (fun z => ([.h code, .i ((z.2.1 : Nat) : Int), .i z.2.2] : List C)) hE10.symm)
  refine Qh ?_
  refine tn Qa [0, 2] [2, 60000] (p0) ?_
  refine Bo [147358] rfl ?_
  refine Qe ?_
  have hE11 : Y6 code ci ch = (y0.1, x5.2.1, x5.2.2) := Un hD0 (Q1 h4 (Yo hx5 (Ql h6 (rfl))))
  exact Hv [] (congrArg (fun z => (.a [.o 0 z.1.1, .q 1 z.1.2.1, .i z.1.2.2] : AV)) hE11.symm) (congrArg (fun z => ([.h code, .i ((z.2.1 : Nat) : Int), .i z.2.2] : List C)) hE11.symm)
 refine ru Qa [(29, .b false)] [] [] [] (pl 2 y0.1.2.1 (pf 3 h4 p0)) ?_
 refine ckF ?_
 refine Qh ?_
 refine sn Qa [0, 2] [2, 60000] (p0) ?_
 refine Bo [147358] rfl ?_
 refine Qe ?_
 have hE12 : Y6 code ci ch = (y0.1, y0.2.1, y0.2.2) := Un hD0 (Ql h4 (rfl))
 exact Hv [] (congrArg (fun z => (.a [.o 0 z.1.1, .q 1 z.1.2.1, .i z.1.2.2] : AV)) hE12.symm) (congrArg (fun z => ([.h code, .i ((z.2.1 : Nat) : Int), .i z.2.2] : List C)) hE12.symm)
def Wc (code : (List UInt8)) (ci : Nat) (ch : Int) : ByteArray × Nat × Int := (lt (X4 code ci ch [⟨#[100, 97]⟩, ⟨#[100, 98]⟩, ⟨#[100, 99]⟩, ⟨#[100, 100]⟩, ⟨#[100, 97]⟩, ⟨#[100, 98]⟩, ⟨#[100, 99]⟩]) (fun x1 => (x1.1, x1.2.1, x1.2.2)))
theorem Ia (code : (List UInt8)) (ci : Nat) (ch : Int) : AGive Tryz.prog 152 [.h code, .i ((ci : Nat) : Int), .i ch] [] (.s (((Wc code ci ch)).1)) [.h code, .i ((((Wc code ci ch)).2.1 : Nat) : Int), .i (((Wc code ci ch)).2.2)] := by
 refine Kp (tt := tt) Qa Tryz.func152 (fn := Tryz.f152) rfl (by unfold Dt; kernel_rfl) (Nat.le_of_ble_eq_true rfl) (Nat.le_of_ble_eq_true rfl) rfl rfl fun w0 F0 hG => ?_
 refine sn Qa [0, 2] [60000] (p0) ?_
 obtain ⟨x1, hx1⟩ := nm (X4 code ci ch [⟨#[100, 97]⟩, ⟨#[100, 98]⟩, ⟨#[100, 99]⟩, ⟨#[100, 100]⟩, ⟨#[100, 97]⟩, ⟨#[100, 98]⟩, ⟨#[100, 99]⟩])
 refine tn Qa [0, 2] [60000] (po 2 (.give none (.s x1.1) [.h code, .i ((x1.2.1 : Nat) : Int), .i x1.2.2]) (px (Q3 (hx1 ▸ Kf code ci ch [⟨#[100, 97]⟩, ⟨#[100, 98]⟩, ⟨#[100, 99]⟩, ⟨#[100, 100]⟩, ⟨#[100, 97]⟩, ⟨#[100, 98]⟩, ⟨#[100, 99]⟩] (Nat.zero_lt_succ _))) p0)) ?_
 refine Qe ?_
 have hE2 : Wc code ci ch = (x1.1, x1.2.1, x1.2.2) := Yo hx1 (rfl)
 exact Hv [] (congrArg (fun z => (.s z.1 : AV)) hE2.symm) (congrArg (fun z => ([.h code, .i ((z.2.1 : Nat) : Int), .i z.2.2] : List C)) hE2.symm)
def Zg (code : (List UInt8)) (ci : Nat) (ch : Int) : X7 × Nat × Int := (lt (Qm code ci ch 9) (fun x1 => (bif (x1.1 == (0 : Int)) then ((1, 0, 0, ⟨#[]⟩, (0, 0, ⟨#[]⟩)), x1.2.1, x1.2.2) else (bif (x1.1 == (1 : Int)) then (lt (X4 code x1.2.1 x1.2.2 [⟨#[97]⟩, ⟨#[98]⟩, ⟨#[110]⟩, ⟨#[116]⟩]) (fun x5 => ((2, 0, 0, x5.1, (0, 0, ⟨#[]⟩)), x5.2.1, x5.2.2))) else (bif (x1.1 == (2 : Int)) then (lt (Qm code x1.2.1 x1.2.2 4) (fun x8 => ((3, 0, 0, ⟨#[97]⟩, (Xy x8.1)), x8.2.1, x8.2.2))) else (bif (x1.1 == (3 : Int)) then (lt (X4 code x1.2.1 x1.2.2 [⟨#[114, 101, 100]⟩, ⟨#[98, 108, 117, 101]⟩]) (fun x11 => ((3, 0, 0, ⟨#[116]⟩, (Q6 x11.1)), x11.2.1, x11.2.2))) else (bif (x1.1 == (4 : Int)) then (lt (X4 code x1.2.1 x1.2.2 [⟨#[97]⟩, ⟨#[98]⟩]) (fun x14 => (lt (Qm code x14.2.1 x14.2.2 3) (fun x15 => ((4, 0, 0, x14.1, (Xy (IntKind.i64.wrap (1 + x15.1)))), x15.2.1, x15.2.2))))) else (bif (bif (x1.1 == (5 : Int)) then (x1.1 == (5 : Int)) else (x1.1 == (6 : Int))) then (lt (Wc code x1.2.1 x1.2.2) (fun x19 => ((8, 0, 0, x19.1, (0, 0, ⟨#[]⟩)), x19.2.1, x19.2.2))) else (bif (x1.1 == (7 : Int)) then (lt (Wc code x1.2.1 x1.2.2) (fun x22 => ((9, 0, 0, x22.1, (0, 0, ⟨#[]⟩)), x22.2.1, x22.2.2))) else (lt (Qm code x1.2.1 x1.2.2 4) (fun x24 => ((3, 0, 0, ⟨#[98]⟩, (Xy x24.1)), x24.2.1, x24.2.2))))))))))))
theorem Gz (code : (List UInt8)) (ci : Nat) (ch : Int) : AGive Tryz.prog 120 [.h code, .i ((ci : Nat) : Int), .i ch] [] (.a [.i ((((Zg code ci ch)).1).1), .i ((((Zg code ci ch)).1).2.1), .i ((((Zg code ci ch)).1).2.2.1), .s ((((Zg code ci ch)).1).2.2.2.1), .i ((((Zg code ci ch)).1).2.2.2.2.1), .i ((((Zg code ci ch)).1).2.2.2.2.2.1), .s ((((Zg code ci ch)).1).2.2.2.2.2.2)]) [.h code, .i ((((Zg code ci ch)).2.1 : Nat) : Int), .i (((Zg code ci ch)).2.2)] := by
 refine Kp (tt := tt) Qa Tryz.func120 (fn := Tryz.f120) rfl (by unfold Dt; kernel_rfl) (Nat.le_of_ble_eq_true rfl) (Nat.le_of_ble_eq_true rfl) rfl rfl fun w0 F0 hG => ?_
 refine sn Qa [0, 2] [2, 60000] (p0) ?_
 refine Qc ?_
 obtain ⟨x1, hx1⟩ := nm (Qm code ci ch 9)
 have hbx1 := hx1 ▸ Qx code ci ch 9
 refine tn Qa [0, 2, 4] [2, 60000] (po 1 (.give none (.i x1.1) [.h code, .i ((x1.2.1 : Nat) : Int), .i x1.2.2]) (px (Q3 (hx1 ▸ Xb code ci ch 9)) p0)) ?_
 refine Qt ?_
 refine tu Qa [(2, .p 2 0), (4, .i x1.1), (5, .b (x1.1 == (0 : Int)))] [] [(2, [.i 0, .i 0, .i 0, .s ⟨#[]⟩, .i 0, .i 0, .s ⟨#[]⟩]), (60000, [.h code, .i ((x1.2.1 : Nat) : Int), .i x1.2.2])] [60000] (p0) ?_
 refine ck (x1.1 == (0 : Int)) (fun h2 => ?_) (fun h2 => ?_)
 ·
  refine sn Qa [0, 2] [2, 60000] (p0) ?_
  refine Qe ?_
  have hE3 : Zg code ci ch = ((1, 0, 0, ⟨#[]⟩, (0, 0, ⟨#[]⟩)), x1.2.1, x1.2.2) := Yo hx1 (Q1 h2 (rfl))
  exact Hv [] (congrArg (fun z => (.a [.i z.1.1, .i z.1.2.1, .i z.1.2.2.1, .s z.1.2.2.2.1, .i z.1.2.2.2.2.1, .i z.1.2.2.2.2.2.1, .s z.1.2.2.2.2.2.2] : AV)) hE3.symm) (congrArg (fun z => ([.h code, .i ((z.2.1 : Nat) : Int), .i z.2.2] : List C)) hE3.symm)
 refine sn Qa [0, 2, 4, 8] [2, 60000] (p0) ?_
 refine ck (x1.1 == (1 : Int)) (fun h4 => ?_) (fun h4 => ?_)
 ·
  obtain ⟨x5, hx5⟩ := nm (X4 code x1.2.1 x1.2.2 [⟨#[97]⟩, ⟨#[98]⟩, ⟨#[110]⟩, ⟨#[116]⟩])
  refine tn Qa [0, 2] [2, 60000] (po 2 (.give none (.s x5.1) [.h code, .i ((x5.2.1 : Nat) : Int), .i x5.2.2]) (px (Q3 (hx5 ▸ Kf code x1.2.1 x1.2.2 [⟨#[97]⟩, ⟨#[98]⟩, ⟨#[110]⟩, ⟨#[116]⟩] (Nat.zero_lt_succ _))) p0)) ?_
  refine Qe ?_
  have hE6 : Zg code ci ch = ((2, 0, 0, x5.1, (0, 0, ⟨#[]⟩)), x5.2.1, x5.2.2) := Yo hx1 (Ql h2 (Q1 h4 (Yo hx5 (rfl))))
  exact Hv [] (congrArg (fun z => (.a [.i z.1.1, .i z.1.2.1, .i z.1.2.2.1, .s z.1.2.2.2.1, .i z.1.2.2.2.2.1, .i z.1.2.2.2.2.2.1, .s z.1.2.2.2.2.2.2] : AV)) hE6.symm) (congrArg (fun z => ([.h code, .i ((z.2.1 : Nat) : Int), .i z.2.2] : List C)) hE6.symm)
 refine tn Qa [0, 2, 4, 14] [2, 60000] (p0) ?_
 refine ck (x1.1 == (2 : Int)) (fun h7 => ?_) (fun h7 => ?_)
 ·
  obtain ⟨x8, hx8⟩ := nm (Qm code x1.2.1 x1.2.2 4)
  have hbx8 := hx8 ▸ Qx code x1.2.1 x1.2.2 4
  refine tu Qa [] [4, 5] [(2, [.i 3, .i 0, .i 0, .s ⟨#[97]⟩, .i ((Xy x8.1).1), .i ((Xy x8.1).2.1), .s ((Xy x8.1).2.2)]), (60000, [.h code, .i ((x8.2.1 : Nat) : Int), .i x8.2.2])] [2, 60000] (po 1 (.give none (.i x8.1) [.h code, .i ((x8.2.1 : Nat) : Int), .i x8.2.2]) (px (Q3 (hx8 ▸ Xb code x1.2.1 x1.2.2 4)) (pc 2 (Hm x8.1) p0))) ?_
  refine Qe ?_
  have hE9 : Zg code ci ch = ((3, 0, 0, ⟨#[97]⟩, (Xy x8.1)), x8.2.1, x8.2.2) := Yo hx1 (Ql h2 (Ql h4 (Q1 h7 (Yo hx8 (rfl)))))
  exact Hv [] (congrArg (fun z => (.a [.i z.1.1, .i z.1.2.1, .i z.1.2.2.1, .s z.1.2.2.2.1, .i z.1.2.2.2.2.1, .i z.1.2.2.2.2.2.1, .s z.1.2.2.2.2.2.2] : AV)) hE9.symm) (congrArg (fun z => ([.h code, .i ((z.2.1 : Nat) : Int), .i z.2.2] : List C)) hE9.symm)
 refine tu Qa [(20, .b (x1.1 == (3 : Int)))] [5] [] [] (p0) ?_
 refine ck (x1.1 == (3 : Int)) (fun h10 => ?_) (fun h10 => ?_)
 ·
  obtain ⟨x11, hx11⟩ := nm (X4 code x1.2.1 x1.2.2 [⟨#[114, 101, 100]⟩, ⟨#[98, 108, 117, 101]⟩])
  refine sn Qa [0, 2] [2, 60000] (po 2 (.give none (.s x11.1) [.h code, .i ((x11.2.1 : Nat) : Int), .i x11.2.2]) (px (Q3 (hx11 ▸ Kf code x1.2.1 x1.2.2 [⟨#[114, 101, 100]⟩, ⟨#[98, 108, 117, 101]⟩] (Nat.zero_lt_succ _))) (pc 3 (Uw x11.1) p0))) ?_
  refine Qe ?_
  have hE12 : Zg code ci ch = ((3, 0, 0, ⟨#[116]⟩, (Q6 x11.1)), x11.2.1, x11.2.2) := Yo hx1 (Ql h2 (Ql h4 (Ql h7 (Q1 h10 (Yo hx11 (rfl))))))
  exact Hv [] (congrArg (fun z => (.a [.i z.1.1, .i z.1.2.1, .i z.1.2.2.1, .s z.1.2.2.2.1, .i z.1.2.2.2.2.1, .i z.1.2.2.2.2.2.1, .s z.1.2.2.2.2.2.2] : AV)) hE12.symm) (congrArg (fun z => ([.h code, .i ((z.2.1 : Nat) : Int), .i z.2.2] : List C)) hE12.symm)
 refine sn Qa [0, 2, 4, 27] [2, 60000] (p0) ?_
 refine ck (x1.1 == (4 : Int)) (fun h13 => ?_) (fun h13 => ?_)
 ·
  obtain ⟨x14, hx14⟩ := nm (X4 code x1.2.1 x1.2.2 [⟨#[97]⟩, ⟨#[98]⟩])
  obtain ⟨x15, hx15⟩ := nm (Qm code x14.2.1 x14.2.2 3)
  have hbx15 := hx15 ▸ Qx code x14.2.1 x14.2.2 3
  refine tn Qa [0, 2] [2, 60000] (po 2 (.give none (.s x14.1) [.h code, .i ((x14.2.1 : Nat) : Int), .i x14.2.2]) (px (Q3 (hx14 ▸ Kf code x1.2.1 x1.2.2 [⟨#[97]⟩, ⟨#[98]⟩] (Nat.zero_lt_succ _))) (po 4 (.give none (.i x15.1) [.h code, .i ((x15.2.1 : Nat) : Int), .i x15.2.2]) (px (Q3 (hx15 ▸ Xb code x14.2.1 x14.2.2 3)) (pc 6 (Hm (IntKind.i64.wrap (1 + x15.1))) p0))))) ?_
  refine Qe ?_
  have hE16 : Zg code ci ch = ((4, 0, 0, x14.1, (Xy (IntKind.i64.wrap (1 + x15.1)))), x15.2.1, x15.2.2) := Yo hx1 (Ql h2 (Ql h4 (Ql h7 (Ql h10 (Q1 h13 (Yo hx14 (Yo hx15 (rfl))))))))
  exact Hv [] (congrArg (fun z => (.a [.i z.1.1, .i z.1.2.1, .i z.1.2.2.1, .s z.1.2.2.2.1, .i z.1.2.2.2.2.1, .i z.1.2.2.2.2.2.1, .s z.1.2.2.2.2.2.2] : AV)) hE16.symm) (congrArg (fun z => ([.h code, .i ((z.2.1 : Nat) : Int), .i z.2.2] : List C)) hE16.symm)
 refine Qc ?_
 refine tn Qa [0, 2, 4, 37] [2, 60000] (p0) ?_
 refine mz [(37, .b (x1.1 == (5 : Int)))] [20] [] [] ?_
 refine jn [(37, .b (bif (x1.1 == (5 : Int)) then (x1.1 == (5 : Int)) else (x1.1 == (6 : Int))))] [37] [] [] (x1.1 == (5 : Int)) (fun h17 => ?_) (fun h17 => ?_) ?_
 ·
  refine ckt h17 ?_
  refine Qh ?_
  exact ⟨rfl, Qf (by rw [h17] <;> kernel_rfl)⟩
 ·
  refine ckf h17 ?_
  refine rn Qa [0, 2, 4, 37] [2, 60000] (p0) ?_
  exact ⟨rfl, Qf (by rw [h17] <;> kernel_rfl)⟩
 refine ck (bif (x1.1 == (5 : Int)) then (x1.1 == (5 : Int)) else (x1.1 == (6 : Int))) (fun h18 => ?_) (fun h18 => ?_)
 ·
  obtain ⟨x19, hx19⟩ := nm (Wc code x1.2.1 x1.2.2)
  refine sn Qa [0, 2] [2, 60000] (po 1 (.give none (.s x19.1) [.h code, .i ((x19.2.1 : Nat) : Int), .i x19.2.2]) (px (Q3 (hx19 ▸ Ia code x1.2.1 x1.2.2)) p0)) ?_
  refine Qe ?_
  have hE20 : Zg code ci ch = ((8, 0, 0, x19.1, (0, 0, ⟨#[]⟩)), x19.2.1, x19.2.2) := Yo hx1 (Ql h2 (Ql h4 (Ql h7 (Ql h10 (Ql h13 (Q1 h18 (Yo hx19 (rfl))))))))
  exact Hv [] (congrArg (fun z => (.a [.i z.1.1, .i z.1.2.1, .i z.1.2.2.1, .s z.1.2.2.2.1, .i z.1.2.2.2.2.1, .i z.1.2.2.2.2.2.1, .s z.1.2.2.2.2.2.2] : AV)) hE20.symm) (congrArg (fun z => ([.h code, .i ((z.2.1 : Nat) : Int), .i z.2.2] : List C)) hE20.symm)
 refine sn Qa [0, 2, 43] [2, 60000] (p0) ?_
 refine ck (x1.1 == (7 : Int)) (fun h21 => ?_) (fun h21 => ?_)
 ·
  obtain ⟨x22, hx22⟩ := nm (Wc code x1.2.1 x1.2.2)
  refine tn Qa [0, 2] [2, 60000] (po 1 (.give none (.s x22.1) [.h code, .i ((x22.2.1 : Nat) : Int), .i x22.2.2]) (px (Q3 (hx22 ▸ Ia code x1.2.1 x1.2.2)) p0)) ?_
  refine Qe ?_
  have hE23 : Zg code ci ch = ((9, 0, 0, x22.1, (0, 0, ⟨#[]⟩)), x22.2.1, x22.2.2) := Yo hx1 (Ql h2 (Ql h4 (Ql h7 (Ql h10 (Ql h13 (Ql h18 (Q1 h21 (Yo hx22 (rfl)))))))))
  exact Hv [] (congrArg (fun z => (.a [.i z.1.1, .i z.1.2.1, .i z.1.2.2.1, .s z.1.2.2.2.1, .i z.1.2.2.2.2.1, .i z.1.2.2.2.2.2.1, .s z.1.2.2.2.2.2.2] : AV)) hE23.symm) (congrArg (fun z => ([.h code, .i ((z.2.1 : Nat) : Int), .i z.2.2] : List C)) hE23.symm)
 refine Qh ?_
 obtain ⟨x24, hx24⟩ := nm (Qm code x1.2.1 x1.2.2 4)
 have hbx24 := hx24 ▸ Qx code x1.2.1 x1.2.2 4
 refine tn Qa [0, 2] [2, 60000] (po 1 (.give none (.i x24.1) [.h code, .i ((x24.2.1 : Nat) : Int), .i x24.2.2]) (px (Q3 (hx24 ▸ Xb code x1.2.1 x1.2.2 4)) (pc 2 (Hm x24.1) p0))) ?_
 refine Qe ?_
 have hE25 : Zg code ci ch = ((3, 0, 0, ⟨#[98]⟩, (Xy x24.1)), x24.2.1, x24.2.2) := Yo hx1 (Ql h2 (Ql h4 (Ql h7 (Ql h10 (Ql h13 (Ql h18 (Ql h21 (Yo hx24 (rfl)))))))))
 exact Hv [] (congrArg (fun z => (.a [.i z.1.1, .i z.1.2.1, .i z.1.2.2.1, .s z.1.2.2.2.1, .i z.1.2.2.2.2.1, .i z.1.2.2.2.2.2.1, .s z.1.2.2.2.2.2.2] : AV)) hE25.symm) (congrArg (fun z => ([.h code, .i ((z.2.1 : Nat) : Int), .i z.2.2] : List C)) hE25.symm)
def Zs (n_ : Nat) (code : (List UInt8)) (ci : Nat) (ch : Int) (q : (List X7)) (deep : Int) (not : Bool) : (List X7) × Nat × Int := match n_ with
 | 0 => default
 | n_ + 1 => (bif (deep == (0 : Int)) then (lt (Zg code ci ch) (fun x2 => (q ++ [x2.1], x2.2.1, x2.2.2))) else (lt (Yk code ci ch 3) (fun x6 => (bif x6.1 then (lt (Zg code x6.2.1 x6.2.2) (fun x8 => (q ++ [x8.1], x8.2.1, x8.2.2))) else (lt (Qm code x6.2.1 x6.2.2 5) (fun x12 => (bif ((x12.1 == (0 : Int)) && not) then (lt (Zs n_ code x12.2.1 x12.2.2 q (deep - 1) true) (fun x15 => (x15.1 ++ [((5, ((x15.1.length : Int) - 1), 0, ⟨#[]⟩, (0, 0, ⟨#[]⟩)) : X7)], x15.2.1, x15.2.2))) else (lt (Zs n_ code x12.2.1 x12.2.2 q (deep - 1) not) (fun x19 => (lt (Zs n_ code x19.2.1 x19.2.2 x19.1 0 not) (fun x22 => (bif decide (x12.1 < (3 : Int)) then (x22.1 ++ [((6, ((x19.1.length : Int) - 1), ((x22.1.length : Int) - 1), ⟨#[]⟩, (0, 0, ⟨#[]⟩)) : X7)], x22.2.1, x22.2.2) else (x22.1 ++ [((7, ((x19.1.length : Int) - 1), ((x22.1.length : Int) - 1), ⟨#[]⟩, (0, 0, ⟨#[]⟩)) : X7)], x22.2.1, x22.2.2)))))))))))))
theorem Lt (code : List UInt8) : ∀ (n ci : Nat) (ch : Int) (q : List X7) (deep : Int) (not_ : Bool), 0 ≤ deep → deep < n → q.length + 1 ≤ (Zs n code ci ch q deep not_).1.length ∧ ((Zs n code ci ch q deep not_).1.length : Int) ≤ q.length + 2 * deep + 1
  | 0, _, _, _, _, _, h0, h1 => by omega
  | n + 1, ci, ch, q, deep, not_, h0, h1 => by
    have ih := Lt code n
    unfold Zs lt
    by_cases hz : deep = 0
    · rw [beq_iff_eq.2 hz]
      simp only [cond_true, List.length_append, List.length_cons, List.length_nil]
      omega
    rw [beq_eq_false_iff_ne.2 hz]
    simp only [cond_false]
    generalize Yk code ci ch 3 = x
    cases x.1 with
    | true =>
      simp only [cond_true, List.length_append, List.length_cons, List.length_nil]
      omega
    | false =>
      simp only [cond_false]
      generalize Qm code x.2.1 x.2.2 5 = y
      cases ((y.1 == (0 : Int)) && not_) with
      | true =>
        simp only [cond_true, List.length_append, List.length_cons, List.length_nil]
        have := ih y.2.1 y.2.2 q (deep - 1) true (by omega) (by omega)
        omega
      | false =>
        simp only [cond_false]
        have h2 := ih y.2.1 y.2.2 q (deep - 1) not_ (by omega) (by omega)
        generalize Zs n code y.2.1 y.2.2 q (deep - 1) not_ = z at h2
        have h3 := ih z.2.1 z.2.2 z.1 0 not_ (by omega) (by omega)
        generalize Zs n code z.2.1 z.2.2 z.1 0 not_ = u at h3
        cases decide (y.1 < (3 : Int)) <;> simp only [cond_true, cond_false, List.length_append, List.length_cons, List.length_nil] <;> omega
theorem ZX : ∀ (n_ : Nat) (code : (List UInt8)) (ci : Nat) (ch : Int) (q : (List X7)) (deep : Int) (not : Bool) (hd : 0 ≤ deep) (hn : deep < (n_ : Int)) (hq : (List.length q : Int) + 2 * deep ≤ 1000), AGive Tryz.prog 122 [.h code, .i ((ci : Nat) : Int), .i ch] [.o 63 q, .i deep, .b not] (.o 0 (((Zs n_ code ci ch q deep not)).1)) [.h code, .i ((((Zs n_ code ci ch q deep not)).2.1 : Nat) : Int), .i (((Zs n_ code ci ch q deep not)).2.2)] := by
 intro n_
 induction n_ with
 | zero => intro code ci ch q deep not hd hn hq; exact (by omega : False).elim
 | succ n_ ih =>
  intro code ci ch q deep not hd hn hq
  refine Kp (tt := tt) Qa Tryz.func122 (fn := Tryz.f122) rfl (by unfold Dt; kernel_rfl) (Nat.le_of_ble_eq_true rfl) (Nat.le_of_ble_eq_true rfl) rfl rfl fun w0 F0 hG => ?_
  refine su Qa [(8, .e 0)] [] [] [] (p0) ?_
  refine Qc ?_
  refine Qc ?_
  refine Q9 (deep == (0 : Int)) (fun h1 => ?_) (fun h1 => ?_)
  ·
   have h1d := eq_of_beq h1
   refine ru Qa [(16, .b true)] [] [] [] (pt 1 h1 p0) ?_
   refine ckT ?_
   obtain ⟨x2, hx2⟩ := nm (Zg code ci ch)
   refine wT 1 0 (.own true 63) q (fun hw3 hl4 => ?_)
   refine su Qa [(8, .one (.slc (.own true 1344) 7 ((eL q) ++ [[.i x2.1.1, .i x2.1.2.1, .i x2.1.2.2.1, .s x2.1.2.2.2.1, .i x2.1.2.2.2.2.1, .i x2.1.2.2.2.2.2.1, .s x2.1.2.2.2.2.2.2]])))] [1, 8, 16] [(60000, [.h code, .i ((x2.2.1 : Nat) : Int), .i x2.2.2])] [60000] (po 2 (.give none (.a [.i x2.1.1, .i x2.1.2.1, .i x2.1.2.2.1, .s x2.1.2.2.2.1, .i x2.1.2.2.2.2.1, .i x2.1.2.2.2.2.2.1, .s x2.1.2.2.2.2.2.2]) [.h code, .i ((x2.2.1 : Nat) : Int), .i x2.2.2]) (px (Q3 (hx2 ▸ Gz code ci ch)) (pa q [x2.1] p0))) ?_
   refine eqn [(8, .o 1344 (q ++ [x2.1]))] [8] [] [] (by rw [show ((eL q) ++ [[.i x2.1.1, .i x2.1.2.1, .i x2.1.2.2.1, .s x2.1.2.2.2.1, .i x2.1.2.2.2.2.1, .i x2.1.2.2.2.2.2.1, .s x2.1.2.2.2.2.2.2]]) = (eL (q ++ [x2.1])) from Vn (rfl) (rfl)]; first | done | kernel_rfl) ?_
   refine Qe ?_
   have hE5 : Zs (n_ + 1) code ci ch q deep not = (q ++ [x2.1], x2.2.1, x2.2.2) := Q1 h1 (Yo hx2 (rfl))
   exact Hv [] (congrArg (fun z => (.o 0 z.1 : AV)) hE5.symm) (congrArg (fun z => ([.h code, .i ((z.2.1 : Nat) : Int), .i z.2.2] : List C)) hE5.symm)
  have h1d := Ym h1
  obtain ⟨x6, hx6⟩ := nm (Yk code ci ch 3)
  refine rn Qa [0, 1, 2, 3, 8, 16] [60000] (pf 1 h1 (po 4 (.give none (.b x6.1) [.h code, .i ((x6.2.1 : Nat) : Int), .i x6.2.2]) (px (Q3 (hx6 ▸ Kx code ci ch 3)) p0))) ?_
  refine ck x6.1 (fun h7 => ?_) (fun h7 => ?_)
  ·
   obtain ⟨x8, hx8⟩ := nm (Zg code x6.2.1 x6.2.2)
   refine wT 1 0 (.own true 63) q (fun hw9 hl10 => ?_)
   refine tu Qa [(8, .one (.slc (.own true 1344) 7 ((eL q) ++ [[.i x8.1.1, .i x8.1.2.1, .i x8.1.2.2.1, .s x8.1.2.2.2.1, .i x8.1.2.2.2.2.1, .i x8.1.2.2.2.2.2.1, .s x8.1.2.2.2.2.2.2]])))] [1, 8] [(60000, [.h code, .i ((x8.2.1 : Nat) : Int), .i x8.2.2])] [60000] (po 2 (.give none (.a [.i x8.1.1, .i x8.1.2.1, .i x8.1.2.2.1, .s x8.1.2.2.2.1, .i x8.1.2.2.2.2.1, .i x8.1.2.2.2.2.2.1, .s x8.1.2.2.2.2.2.2]) [.h code, .i ((x8.2.1 : Nat) : Int), .i x8.2.2]) (px (Q3 (hx8 ▸ Gz code x6.2.1 x6.2.2)) (pa q [x8.1] p0))) ?_
   refine eqn [(8, .o 1344 (q ++ [x8.1]))] [8] [] [] (by rw [show ((eL q) ++ [[.i x8.1.1, .i x8.1.2.1, .i x8.1.2.2.1, .s x8.1.2.2.2.1, .i x8.1.2.2.2.2.1, .i x8.1.2.2.2.2.2.1, .s x8.1.2.2.2.2.2.2]]) = (eL (q ++ [x8.1])) from Vn (rfl) (rfl)]; first | done | kernel_rfl) ?_
   refine Qe ?_
   have hE11 : Zs (n_ + 1) code ci ch q deep not = (q ++ [x8.1], x8.2.1, x8.2.2) := Ql h1 (Yo hx6 (Q1 h7 (Yo hx8 (rfl))))
   exact Hv [] (congrArg (fun z => (.o 0 z.1 : AV)) hE11.symm) (congrArg (fun z => ([.h code, .i ((z.2.1 : Nat) : Int), .i z.2.2] : List C)) hE11.symm)
  refine Qh ?_
  obtain ⟨x12, hx12⟩ := nm (Qm code x6.2.1 x6.2.2 5)
  have hbx12 := hx12 ▸ Qx code x6.2.1 x6.2.2 5
  refine tn Qa [0, 1, 2, 3, 8, 9] [60000] (po 1 (.give none (.i x12.1) [.h code, .i ((x12.2.1 : Nat) : Int), .i x12.2.2]) (px (Q3 (hx12 ▸ Xb code x6.2.1 x6.2.2 5)) p0)) ?_
  refine Qc ?_
  refine Qc ?_
  refine mz [(9, .i x12.1)] [] [(60000, [.h code, .i ((x12.2.1 : Nat) : Int), .i x12.2.2])] [60000] ?_
  refine jn [(28, .b ((x12.1 == (0 : Int)) && not))] [] [] [] (x12.1 == (0 : Int)) (fun h13 => ?_) (fun h13 => ?_) ?_
  ·
   refine ru Qa [(28, .b not)] [] [] [] (pt 1 h13 p0) ?_
   exact ⟨rfl, Qf (by rw [h13] <;> kernel_rfl)⟩
  ·
   refine ru Qa [(28, .b false)] [] [] [] (pf 1 h13 p0) ?_
   exact ⟨rfl, Qf (by rw [h13] <;> kernel_rfl)⟩
  refine ck ((x12.1 == (0 : Int)) && not) (fun h14 => ?_) (fun h14 => ?_)
  ·
   have h14l : ((x12.1 == (0 : Int))) = true := Pt h14
   have h14ld := eq_of_beq h14l
   have h14r : (not) = true := QB h14
   obtain ⟨x15, hx15⟩ := nm (Zs n_ code x12.2.1 x12.2.2 q (deep - 1) true)
   have hbx15 := hx15 ▸ Lt code n_ x12.2.1 x12.2.2 q (deep - 1) true (by omega) (by omega)
   refine sn Qa [0, 1, 2, 3, 8, 9] [60000] (pe 3 (Jw (IntWalk.i64_in (deep - 1) (by omega))) (pt 4 h14r (po 5 (.give (some 63) (.o 0 x15.1) [.h code, .i ((x15.2.1 : Nat) : Int), .i x15.2.2]) (px (Q3 (hx15 ▸ ih code x12.2.1 x12.2.2 q (deep - 1) true (by omega) (by omega) (by omega))) p0)))) ?_
   refine wT 1 0 (.own true 2176) x15.1 (fun hw16 hl17 => ?_)
   refine tu Qa [(8, .one (.slc (.own true 2624) 7 ((eL x15.1) ++ [[.i 5, .i ((x15.1.length : Int) - 1), .i 0, .s ⟨#[]⟩, .i 0, .i 0, .s ⟨#[]⟩]])))] [1, 8, 28] [(60000, [.h code, .i ((x15.2.1 : Nat) : Int), .i x15.2.2])] [60000] (pl 2 x15.1 (pe 3 (Jw (IntWalk.i64_in ((x15.1.length : Int) - 1) (by omega))) (pa x15.1 [((5, ((x15.1.length : Int) - 1), 0, ⟨#[]⟩, (0, 0, ⟨#[]⟩)) : X7)] p0))) ?_
   refine eqn [(8, .o 2624 (x15.1 ++ [((5, ((x15.1.length : Int) - 1), 0, ⟨#[]⟩, (0, 0, ⟨#[]⟩)) : X7)]))] [8] [] [] (by rw [show ((eL x15.1) ++ [[.i 5, .i ((x15.1.length : Int) - 1), .i 0, .s ⟨#[]⟩, .i 0, .i 0, .s ⟨#[]⟩]]) = (eL (x15.1 ++ [((5, ((x15.1.length : Int) - 1), 0, ⟨#[]⟩, (0, 0, ⟨#[]⟩)) : X7)])) from Vn (rfl) (rfl)]; first | done | kernel_rfl) ?_
   refine Qe ?_
   have hE18 : Zs (n_ + 1) code ci ch q deep not = (x15.1 ++ [((5, ((x15.1.length : Int) - 1), 0, ⟨#[]⟩, (0, 0, ⟨#[]⟩)) : X7)], x15.2.1, x15.2.2) := Ql h1 (Yo hx6 (Ql h7 (Yo hx12 (Q1 h14 (Yo hx15 (rfl))))))
   exact Hv [] (congrArg (fun z => (.o 0 z.1 : AV)) hE18.symm) (congrArg (fun z => ([.h code, .i ((z.2.1 : Nat) : Int), .i z.2.2] : List C)) hE18.symm)
  refine Qh ?_
  obtain ⟨x19, hx19⟩ := nm (Zs n_ code x12.2.1 x12.2.2 q (deep - 1) not)
  have hbx19 := hx19 ▸ Lt code n_ x12.2.1 x12.2.2 q (deep - 1) not (by omega) (by omega)
  refine sn Qa [0, 1, 3, 8, 9] [60000] (pe 3 (Jw (IntWalk.i64_in (deep - 1) (by omega))) (po 5 (.give (some 63) (.o 0 x19.1) [.h code, .i ((x19.2.1 : Nat) : Int), .i x19.2.2]) (px (Q3 (hx19 ▸ ih code x12.2.1 x12.2.2 q (deep - 1) not (by omega) (by omega) (by omega))) p0))) ?_
  refine wT 1 0 (.own true 3008) x19.1 (fun hw20 hl21 => ?_)
  refine tn Qa [0, 1, 3, 8, 9, 10] [60000] (pl 1 x19.1 (pe 2 (Jw (IntWalk.i64_in ((x19.1.length : Int) - 1) (by omega))) p0)) ?_
  obtain ⟨x22, hx22⟩ := nm (Zs n_ code x19.2.1 x19.2.2 x19.1 0 not)
  have hbx22 := hx22 ▸ Lt code n_ x19.2.1 x19.2.2 x19.1 0 not (by omega) (by omega)
  refine tu Qa [(1, .o 3456 x22.1), (10, .i ((x19.1.length : Int) - 1))] [1, 2, 3, 28] [(60000, [.h code, .i ((x22.2.1 : Nat) : Int), .i x22.2.2])] [60000] (po 3 (.give (some 3008) (.o 0 x22.1) [.h code, .i ((x22.2.1 : Nat) : Int), .i x22.2.2]) (px (Q3 (hx22 ▸ ih code x19.2.1 x19.2.2 x19.1 0 not (by omega) (by omega) (by omega))) p0)) ?_
  refine Qc ?_
  refine sn Qa [0, 1, 8, 10, 56] [60000] (p0) ?_
  refine ck (decide (x12.1 < (3 : Int))) (fun h23 => ?_) (fun h23 => ?_)
  ·
   have h23d := of_decide_eq_true h23
   refine wT 1 0 (.own true 3456) x22.1 (fun hw24 hl25 => ?_)
   refine tu Qa [(8, .one (.slc (.own true 4096) 7 ((eL x22.1) ++ [[.i 6, .i ((x19.1.length : Int) - 1), .i ((x22.1.length : Int) - 1), .s ⟨#[]⟩, .i 0, .i 0, .s ⟨#[]⟩]])))] [1, 8, 9] [] [] (pl 3 x22.1 (pe 4 (Jw (IntWalk.i64_in ((x22.1.length : Int) - 1) (by omega))) (pa x22.1 [((6, ((x19.1.length : Int) - 1), ((x22.1.length : Int) - 1), ⟨#[]⟩, (0, 0, ⟨#[]⟩)) : X7)] p0))) ?_
   refine eqn [(8, .o 4096 (x22.1 ++ [((6, ((x19.1.length : Int) - 1), ((x22.1.length : Int) - 1), ⟨#[]⟩, (0, 0, ⟨#[]⟩)) : X7)]))] [8] [] [] (by rw [show ((eL x22.1) ++ [[.i 6, .i ((x19.1.length : Int) - 1), .i ((x22.1.length : Int) - 1), .s ⟨#[]⟩, .i 0, .i 0, .s ⟨#[]⟩]]) = (eL (x22.1 ++ [((6, ((x19.1.length : Int) - 1), ((x22.1.length : Int) - 1), ⟨#[]⟩, (0, 0, ⟨#[]⟩)) : X7)])) from Vn (rfl) (rfl)]; first | done | kernel_rfl) ?_
   refine Qe ?_
   have hE26 : Zs (n_ + 1) code ci ch q deep not = (x22.1 ++ [((6, ((x19.1.length : Int) - 1), ((x22.1.length : Int) - 1), ⟨#[]⟩, (0, 0, ⟨#[]⟩)) : X7)], x22.2.1, x22.2.2) := Ql h1 (Yo hx6 (Ql h7 (Yo hx12 (Ql h14 (Yo hx19 (Yo hx22 (Q1 h23 (rfl))))))))
   exact Hv [] (congrArg (fun z => (.o 0 z.1 : AV)) hE26.symm) (congrArg (fun z => ([.h code, .i ((z.2.1 : Nat) : Int), .i z.2.2] : List C)) hE26.symm)
  have h23d := of_decide_eq_false h23
  refine Qh ?_
  refine wT 1 0 (.own true 3456) x22.1 (fun hw27 hl28 => ?_)
  refine tu Qa [(8, .one (.slc (.own true 4608) 7 ((eL x22.1) ++ [[.i 7, .i ((x19.1.length : Int) - 1), .i ((x22.1.length : Int) - 1), .s ⟨#[]⟩, .i 0, .i 0, .s ⟨#[]⟩]])))] [1, 8, 9, 10] [] [] (pl 3 x22.1 (pe 4 (Jw (IntWalk.i64_in ((x22.1.length : Int) - 1) (by omega))) (pa x22.1 [((7, ((x19.1.length : Int) - 1), ((x22.1.length : Int) - 1), ⟨#[]⟩, (0, 0, ⟨#[]⟩)) : X7)] p0))) ?_
  refine eqn [(8, .o 4608 (x22.1 ++ [((7, ((x19.1.length : Int) - 1), ((x22.1.length : Int) - 1), ⟨#[]⟩, (0, 0, ⟨#[]⟩)) : X7)]))] [8] [] [] (by rw [show ((eL x22.1) ++ [[.i 7, .i ((x19.1.length : Int) - 1), .i ((x22.1.length : Int) - 1), .s ⟨#[]⟩, .i 0, .i 0, .s ⟨#[]⟩]]) = (eL (x22.1 ++ [((7, ((x19.1.length : Int) - 1), ((x22.1.length : Int) - 1), ⟨#[]⟩, (0, 0, ⟨#[]⟩)) : X7)])) from Vn (rfl) (rfl)]; first | done | kernel_rfl) ?_
  refine Qe ?_
  have hE29 : Zs (n_ + 1) code ci ch q deep not = (x22.1 ++ [((7, ((x19.1.length : Int) - 1), ((x22.1.length : Int) - 1), ⟨#[]⟩, (0, 0, ⟨#[]⟩)) : X7)], x22.2.1, x22.2.2) := Ql h1 (Yo hx6 (Ql h7 (Yo hx12 (Ql h14 (Yo hx19 (Yo hx22 (Ql h23 (rfl))))))))
  exact Hv [] (congrArg (fun z => (.o 0 z.1 : AV)) hE29.symm) (congrArg (fun z => ([.h code, .i ((z.2.1 : Nat) : Int), .i z.2.2] : List C)) hE29.symm)
def Z2 (code : (List UInt8)) (ci : Nat) (ch : Int) : (List X7) × Nat × Int := (lt (Qm code ci ch 4) (fun x1 => (lt (Zs (Int.toNat x1.1 + 1) code x1.2.1 x1.2.2 [] x1.1 true) (fun x2 => (x2.1, x2.2.1, x2.2.2)))))
theorem ZY (code : List UInt8) (ci : Nat) (ch : Int) : 1 ≤ (Z2 code ci ch).1.length ∧ (Z2 code ci ch).1.length ≤ 7 := by
 unfold Z2 lt
 have hb := Qx code ci ch 4
 generalize Qm code ci ch 4 = x at hb
 have h := Lt code (Int.toNat x.1 + 1) x.2.1 x.2.2 [] x.1 true (by omega) (by omega)
 simp only [List.length_nil] at h
 simp only
 omega
theorem C2 (code : (List UInt8)) (ci : Nat) (ch : Int) : AGive Tryz.prog 82 [.h code, .i ((ci : Nat) : Int), .i ch] [] (.o 0 (((Z2 code ci ch)).1)) [.h code, .i ((((Z2 code ci ch)).2.1 : Nat) : Int), .i (((Z2 code ci ch)).2.2)] := by
 refine Kp (tt := tt) Qa Tryz.func82 (fn := Tryz.f82) rfl (by unfold Dt; kernel_rfl) (Nat.le_of_ble_eq_true rfl) (Nat.le_of_ble_eq_true rfl) rfl rfl fun w0 F0 hG => ?_
 refine sn Qa [0, 2] [60000] (p0) ?_
 obtain ⟨x1, hx1⟩ := nm (Qm code ci ch 4)
 have hbx1 := hx1 ▸ Qx code ci ch 4
 obtain ⟨x2, hx2⟩ := nm (Zs (Int.toNat x1.1 + 1) code x1.2.1 x1.2.2 [] x1.1 true)
 have hbx2 := hx2 ▸ Lt code (Int.toNat x1.1 + 1) x1.2.1 x1.2.2 [] x1.1 true (by omega) (by omega)
 refine tn Qa [0, 2] [60000] (po 2 (.give none (.i x1.1) [.h code, .i ((x1.2.1 : Nat) : Int), .i x1.2.2]) (px (Q3 (hx1 ▸ Xb code ci ch 4)) (po 3 (.give none (.o 0 x2.1) [.h code, .i ((x2.2.1 : Nat) : Int), .i x2.2.2]) (px (Q3 (hx2 ▸ (ZX (Int.toNat x1.1 + 1) code x1.2.1 x1.2.2 [] x1.1 true (by omega) (by omega) (by first | omega | (simp; omega))).emp (m := 0) (by simp [AV.cells, C.key, C.bkeys, Tok.key]))) p0)))) ?_
 refine Qe ?_
 have hE3 : Z2 code ci ch = (x2.1, x2.2.1, x2.2.2) := Yo hx1 (Yo hx2 (rfl))
 exact Hv [] (congrArg (fun z => (.o 0 z.1 : AV)) hE3.symm) (congrArg (fun z => ([.h code, .i ((z.2.1 : Nat) : Int), .i z.2.2] : List C)) hE3.symm)
def J6 (code : (List UInt8)) (s0 : (List Ys) × Int × Nat × Int) : Rd ((List Ys) × Nat × Int) ((List Ys) × Int × Nat × Int) ((List Ys) × Nat × Int) := (lt (Qm code s0.2.2.1 s0.2.2.2 4) (fun x1 => (bif decide (s0.2.1 < (1 + x1.1)) then (lt (Z2 code x1.2.1 x1.2.2) (fun x4 => (.next (s0.1 ++ [((nth ([⟨#[100, 97]⟩, ⟨#[100, 98]⟩, ⟨#[100, 99]⟩, ⟨#[100, 100]⟩] : (List ByteArray)) (Int.toNat s0.2.1)), x4.1)], (s0.2.1 + 1), x4.2.1, x4.2.2)))) else (.brk (s0.1, x1.2.1, x1.2.2)))))
def Ky (code : (List UInt8)) (ci : Nat) (ch : Int) : (List Ys) × Nat × Int := (Out.on (E6 (J6 code) 5 ([], 0, ci, ch)) (fun y0 => (y0.1, y0.2.1, y0.2.2)))
theorem O1 (code : List UInt8) (ci : Nat) (ch : Int) : (whl (J6 code) 5 ([], 0, ci, ch)).isSome = true :=
  FG (fun s => s.2.1) 4 (fun s s' h0 h => by
    unfold J6 lt at h
    have hb := Qx code s.2.2.1 s.2.2.2 4
    generalize Qm code s.2.2.1 s.2.2.2 4 = x at h hb
    by_cases hc : s.2.1 < 1 + x.1
    · simp only [decide_eq_true hc, cond_true] at h
      have h := Rd.next.inj h
      rw [← h]
      exact ⟨by omega, rfl⟩
    simp only [decide_eq_false hc, cond_false] at h
    cases h) 4 _ (by show (0 : Int) ≤ 0; decide) (by show (4 : Int) ≤ 0 + 4; decide)
theorem O2 (code : (List UInt8)) (ci : Nat) (ch : Int) : AGive Tryz.prog 79 [.h code, .i ((ci : Nat) : Int), .i ch] [] (.o 0 (((Ky code ci ch)).1)) [.h code, .i ((((Ky code ci ch)).2.1 : Nat) : Int), .i (((Ky code ci ch)).2.2)] := by
 refine Kp (tt := tt) Qa Tryz.func79 (fn := Tryz.f79) rfl (by unfold Dt; kernel_rfl) (Nat.le_of_ble_eq_true rfl) (Nat.le_of_ble_eq_true rfl) rfl rfl fun w0 F0 hG => ?_
 refine sn Qa [0, 2] [60000] (p0) ?_
 refine tn Qa [0, 2, 3] [60000] (p0) ?_
 refine Qc ?_
 refine tu Qa [(2, .e 0), (3, .one (.slc (.own true 320) 2 [])), (4, .i 0)] [] [] [] (p0) ?_
 refine blw (fun (s0 : (List Ys) × Int × Nat × Int) => [(3, .o 147202 s0.1), (4, .i s0.2.1)]) [3, 4] (fun s0 => [(60000, [.h code, .i ((s0.2.2.1 : Nat) : Int), .i s0.2.2.2])]) [60000] (fun (y0 : (List Ys) × Nat × Int) => [(3, .o 147352 y0.1)]) [3, 4] (fun y0 => [(60000, [.h code, .i ((y0.2.1 : Nat) : Int), .i y0.2.2])]) [60000] (fun (k0 : Nat) (s0 : (List Ys) × Int × Nat × Int) => whl (J6 code) k0 s0 = some (E6 (J6 code) 5 ([], 0, ci, ch)) ∧ 0 ≤ s0.2.1 ∧ (List.length s0.1 : Int) ≤ s0.2.1) (fun (y0 : (List Ys) × Nat × Int) => (E6 (J6 code) 5 ([], 0, ci, ch)) = .brk y0) 5 ([], 0, ci, ch) (X3 [(320, 147202)] (by kernel_rfl)) ⟨Dc (O1 code ci ch), (by first | omega | (simp; done) | (dsimp only; omega)), (by first | omega | (simp; done) | (dsimp only; omega))⟩ (fun _ h => D4 h.1) (fun k0 s0 hI0 => ?_) (fun y0 hD0 => ?_)
 ·
  have hA0_0 := hI0.2.1
  have hA0_1 := hI0.2.2
  refine Qc ?_
  obtain ⟨x1, hx1⟩ := nm (Qm code s0.2.2.1 s0.2.2.2 4)
  have hbx1 := hx1 ▸ Qx code s0.2.2.1 s0.2.2.2 4
  refine sn Qa [0, 2, 3, 4, 10] [60000] (po 2 (.give none (.i x1.1) [.h code, .i ((x1.2.1 : Nat) : Int), .i x1.2.2]) (px (Q3 (hx1 ▸ Xb code s0.2.2.1 s0.2.2.2 4)) (pe 3 (Jw (IntWalk.i64_in (1 + x1.1) (by omega))) p0))) ?_
  refine ck (decide (s0.2.1 < (1 + x1.1))) (fun h2 => ?_) (fun h2 => ?_)
  ·
   have h2d := of_decide_eq_true h2
   refine Qh ?_
   refine Qc ?_
   refine Qt ?_
   have hx3 := ng ([⟨#[100, 97]⟩, ⟨#[100, 98]⟩, ⟨#[100, 99]⟩, ⟨#[100, 100]⟩] : (List ByteArray)) (Int.toNat s0.2.1) (by simp only [List.length_cons, List.length_nil]; omega)
   obtain ⟨x4, hx4⟩ := nm (Z2 code x1.2.1 x1.2.2)
   have hbx4 := hx4 ▸ ZY code x1.2.1 x1.2.2
   refine wT 3 0 (.own true 147202) s0.1 (fun hw5 hl6 => ?_)
   refine qU Qa Yc [(3, .one (.slc (.own true 1408) 2 ((eL s0.1) ++ [[.s (nth ([⟨#[100, 97]⟩, ⟨#[100, 98]⟩, ⟨#[100, 99]⟩, ⟨#[100, 100]⟩] : (List ByteArray)) (Int.toNat s0.2.1)), .h x4.1]])))] [3] [(60000, [.h code, .i ((x4.2.1 : Nat) : Int), .i x4.2.2])] [60000] (pG 3 s0.2.1 hx3 (po 6 (.give none (.o 0 x4.1) [.h code, .i ((x4.2.1 : Nat) : Int), .i x4.2.2]) (px (Q3 (hx4 ▸ C2 code x1.2.1 x1.2.2)) (pa s0.1 [((nth ([⟨#[100, 97]⟩, ⟨#[100, 98]⟩, ⟨#[100, 99]⟩, ⟨#[100, 100]⟩] : (List ByteArray)) (Int.toNat s0.2.1)), x4.1)] p0)))) ?_
   refine eqn [(3, .o 1408 (s0.1 ++ [((nth ([⟨#[100, 97]⟩, ⟨#[100, 98]⟩, ⟨#[100, 99]⟩, ⟨#[100, 100]⟩] : (List ByteArray)) (Int.toNat s0.2.1)), x4.1)]))] [3] [] [] (by rw [show ((eL s0.1) ++ [[.s (nth ([⟨#[100, 97]⟩, ⟨#[100, 98]⟩, ⟨#[100, 99]⟩, ⟨#[100, 100]⟩] : (List ByteArray)) (Int.toNat s0.2.1)), .h x4.1]]) = (eL (s0.1 ++ [((nth ([⟨#[100, 97]⟩, ⟨#[100, 98]⟩, ⟨#[100, 99]⟩, ⟨#[100, 100]⟩] : (List ByteArray)) (Int.toNat s0.2.1)), x4.1)])) from Vn (rfl) (rfl)]; first | done | kernel_rfl) ?_
   refine rn Qa [0, 2, 3, 4] [60000] (pe 1 (Jw (IntWalk.i64_in (s0.2.1 + 1) (by omega))) p0) ?_
   exact Exists.intro (s0.1 ++ [((nth ([⟨#[100, 97]⟩, ⟨#[100, 98]⟩, ⟨#[100, 99]⟩, ⟨#[100, 100]⟩] : (List ByteArray)) (Int.toNat s0.2.1)), x4.1)], (s0.2.1 + 1), x4.2.1, x4.2.2) (And.intro (X3 [(1408, 147202)] (by kernel_rfl)) ⟨wn hI0.1 (Yo hx1 (Q1 h2 (Yo hx4 (rfl)))), (by first | omega | (simp; omega)), (by first | omega | (simp; omega))⟩)
  refine Q2 ?_
  exact Exists.intro (s0.1, x1.2.1, x1.2.2) (And.intro (X3 [(147202, 147352)] (by kernel_rfl)) (wb hI0.1 (Yo hx1 (Ql h2 (rfl)))))
 refine sn Qa [0, 2] [60000] (p0) ?_
 refine Qe ?_
 have hE7 : Ky code ci ch = (y0.1, y0.2.1, y0.2.2) := Un hD0 (rfl)
 exact Hv [] (congrArg (fun z => (.o 0 z.1 : AV)) hE7.symm) (congrArg (fun z => ([.h code, .i ((z.2.1 : Nat) : Int), .i z.2.2] : List C)) hE7.symm)
def Xk (d : (List Ys)) : Bool := ((Xn d)).2
theorem Cm (d : (List Ys)) : ACalls Tryz.prog 43 [.h d] (.b (Xk d)) := by
 refine en Qa Tryz.func43 fun w0 F0 hG => ?_
 refine sn Qa [0, 2] [] (p0) ?_
 refine tn Qa [2, 4] [] (pc 1 (I5 d) p0) ?_
 refine tu Qa [(2, .b (((Xn d)).2))] [0] [] [] (p0) ?_
 refine Qe ?_
 exact pb [] (show Xk d = ((Xn d)).2 from rfl)
def Y9 (s0 : (List Ys)) : Rd ((List Ys) × Nat × Int) ((List Ys)) ((List Ys)) := (bif (decide ((s0.length : Int) > (0 : Int)) && (!(Xk s0))) then (.next (List.take (Int.toNat ((s0.length : Int) - 1)) s0)) else (.brk s0))
def Kl (code : (List UInt8)) (ci : Nat) (ch : Int) : (List Ys) × Nat × Int := (lt (Ky code ci ch) (fun x1 => (Out.on (E6 Y9 (List.length x1.1 + 1) x1.1) (fun y0 => (bif ((y0.length : Int) == (0 : Int)) then ([((⟨#[100, 97]⟩, [((1, 0, 0, ⟨#[]⟩, (0, 0, ⟨#[]⟩)) : X7)]) : Ys)], x1.2.1, x1.2.2) else (y0, x1.2.1, x1.2.2))))))
theorem G0 (code : List UInt8) (d : List Ys) : (whl Y9 (List.length d + 1) d).isSome = true :=
  HZ (fun s => List.length s) (fun s s' h => by
    unfold Y9 at h
    by_cases hc : ((s.length : Int) > 0)
    · simp only [decide_eq_true hc, Bool.true_and, cond_true] at h
      cases hs : Xk s <;> simp only [hs, Bool.not_true, Bool.not_false, cond_true, cond_false] at h
      · have h := Rd.next.inj h
        rw [← h, List.length_take]
        omega
      cases h
    simp only [decide_eq_false hc, Bool.false_and, cond_false] at h
    cases h) _ _ (Nat.lt_succ_self _)
theorem l13_ne (code : List UInt8) (ci : Nat) (ch : Int) : 0 < (Kl code ci ch).1.length := by
  unfold Kl lt
  generalize Ky code ci ch = x
  obtain ⟨t, ht⟩ := O0 (f := Y9) (fun s r => by
    unfold Y9
    generalize (decide ((s.length : Int) > (0 : Int)) && (!(Xk s))) = c
    cases c <;> simp) (List.length x.1 + 1) x.1
  simp only [ht, Out.on]
  by_cases h : (t.length : Int) = 0
  · rw [beq_iff_eq.2 h]; exact Nat.zero_lt_one
  rw [beq_eq_false_iff_ne.2 h]
  show 0 < t.length
  omega
theorem ZZ (code : (List UInt8)) (ci : Nat) (ch : Int) : AGive Tryz.prog 73 [.h code, .i ((ci : Nat) : Int), .i ch] [] (.h (((Kl code ci ch)).1)) [.h code, .i ((((Kl code ci ch)).2.1 : Nat) : Int), .i (((Kl code ci ch)).2.2)] := by
 refine Kp (tt := tt) Qa Tryz.func73 (fn := Tryz.f73) rfl (by unfold Dt; kernel_rfl) (Nat.le_of_ble_eq_true rfl) (Nat.le_of_ble_eq_true rfl) rfl rfl fun w0 F0 hG => ?_
 refine sn Qa [0, 2] [60000] (p0) ?_
 obtain ⟨x1, hx1⟩ := nm (Ky code ci ch)
 refine tn Qa [0, 2, 3] [60000] (po 1 (.give none (.o 0 x1.1) [.h code, .i ((x1.2.1 : Nat) : Int), .i x1.2.2]) (px (Q3 (hx1 ▸ O2 code ci ch)) p0)) ?_
 refine Qc ?_
 refine mz [(2, .e 0), (3, .o 320 x1.1)] [] [(60000, [.h code, .i ((x1.2.1 : Nat) : Int), .i x1.2.2])] [60000] ?_
 refine blw (fun (s0 : (List Ys)) => [(3, .h s0)]) [3] (fun s0 => []) [] (fun (y0 : (List Ys)) => [(3, .h y0)]) [3] (fun y0 => []) [] (fun (k0 : Nat) (s0 : (List Ys)) => whl Y9 k0 s0 = some (E6 Y9 (List.length x1.1 + 1) x1.1)) (fun (y0 : (List Ys)) => (E6 Y9 (List.length x1.1 + 1) x1.1) = .brk y0) (List.length x1.1 + 1) x1.1 (M5 [] [320] [] [] (by kernel_rfl)) (Dc (G0 code x1.1)) (fun _ h => D4 h) (fun k0 s0 hI0 => ?_) (fun y0 hD0 => ?_)
 ·
  refine Qc ?_
  refine Qc ?_
  refine jn [(13, .b (decide ((s0.length : Int) > (0 : Int)) && (!(Xk s0))))] [] [] [] (decide ((s0.length : Int) > (0 : Int))) (fun h2 => ?_) (fun h2 => ?_) ?_
  ·
   refine rn Qa [0, 2, 3, 13] [60000] (pl 1 s0 (pt 2 h2 (pc 5 (Cm s0) p0))) ?_
   exact ⟨rfl, Qf (by rw [h2] <;> kernel_rfl)⟩
  ·
   refine rn Qa [0, 2, 3, 13] [60000] (pl 1 s0 (pf 2 h2 p0)) ?_
   exact ⟨rfl, Qf (by rw [h2] <;> kernel_rfl)⟩
  refine ck (decide ((s0.length : Int) > (0 : Int)) && (!(Xk s0))) (fun h3 => ?_) (fun h3 => ?_)
  ·
   have h3l : (decide ((s0.length : Int) > (0 : Int))) = true := Pt h3
   have h3ld := of_decide_eq_true h3l
   refine Qh ?_
   refine Qt ?_
   refine wT 3 0 .sh s0 (fun hw4 hl5 => ?_)
   refine rn Qa [0, 2, 3] [60000] (pl 2 s0 (pe 3 (Jw (IntWalk.i64_in ((s0.length : Int) - 1) (by omega))) (pe 4 (M4 .sh 2 (Int.toNat ((s0.length : Int) - 1)) ((s0.length : Int) - 1) s0 rfl) (px (Cs (lo := 0) (hi := ((s0.length : Int) - 1)) (n := (List.length (eL s0))) (Tf (by omega) (by omega) (by omega))) p0)))) ?_
   exact xw _ (wn hI0 (Q1 h3 (rfl)))
  refine Q2 ?_
  exact xw _ (wb hI0 (Ql h3 (rfl)))
 refine Qc ?_
 refine sn Qa [0, 2, 3, 21] [60000] (pl 1 y0 p0) ?_
 refine ck ((y0.length : Int) == (0 : Int)) (fun h6 => ?_) (fun h6 => ?_)
 ·
  refine qn Qa [0, 2, 3] [60000] (p0) ?_
  refine tu Qa [(2, .o 1600 [((⟨#[100, 97]⟩, [((1, 0, 0, ⟨#[]⟩, (0, 0, ⟨#[]⟩)) : X7)]) : Ys)])] [2, 3] [] [] (p0) ?_
  refine Qe ?_
  have hE7 : Kl code ci ch = ([((⟨#[100, 97]⟩, [((1, 0, 0, ⟨#[]⟩, (0, 0, ⟨#[]⟩)) : X7)]) : Ys)], x1.2.1, x1.2.2) := Yo hx1 (Un hD0 (Q1 h6 (rfl)))
  exact Hv [1600] (congrArg (fun z => (.h z.1 : AV)) hE7.symm) (congrArg (fun z => ([.h code, .i ((z.2.1 : Nat) : Int), .i z.2.2] : List C)) hE7.symm)
 refine Qh ?_
 refine tn Qa [0, 2] [60000] (p0) ?_
 refine Qe ?_
 have hE8 : Kl code ci ch = (y0, x1.2.1, x1.2.2) := Yo hx1 (Un hD0 (Ql h6 (rfl)))
 exact Hv [] (congrArg (fun z => (.h z.1 : AV)) hE8.symm) (congrArg (fun z => ([.h code, .i ((z.2.1 : Nat) : Int), .i z.2.2] : List C)) hE8.symm)
def O3 (code : (List UInt8)) (k0 : Nat) (s0 : (List Int) × Nat × Int) : Rd ((List Int) × Nat × Int) ((List Int) × Nat × Int) ((List Int) × Nat × Int) := (lt (Yk code s0.2.1 s0.2.2 2) (fun x1 => (bif x1.1 then (.next (s0.1 ++ [((k0 + 1 : Nat) : Int)], x1.2.1, x1.2.2)) else (.next (s0.1, x1.2.1, x1.2.2)))))
def O4 (_ : Nat) (s0 : (List Int) × Nat × Int) : (List Int) × Nat × Int := (s0.1, s0.2.1, s0.2.2)
def Ef (code : (List UInt8)) (ci : Nat) (ch : Int) : (List Int) × Nat × Int := (Out.on (Ha (O3 code) O4 (Int.toNat ((8 : Int) - 1)) 0 ([], ci, ch)) (fun y0 => (y0.1, y0.2.1, y0.2.2)))
theorem VK (code : (List UInt8)) (ci : Nat) (ch : Int) : AGive Tryz.prog 50 [.h code, .i ((ci : Nat) : Int), .i ch] [] (.o 0 (((Ef code ci ch)).1)) [.h code, .i ((((Ef code ci ch)).2.1 : Nat) : Int), .i (((Ef code ci ch)).2.2)] := by
 refine Kp (tt := tt) Qa Tryz.func50 (fn := Tryz.f50) rfl (by unfold Dt; kernel_rfl) (Nat.le_of_ble_eq_true rfl) (Nat.le_of_ble_eq_true rfl) rfl rfl fun w0 F0 hG => ?_
 refine sn Qa [0, 2] [60000] (p0) ?_
 refine tn Qa [0, 2, 3] [60000] (p0) ?_
 refine Qc ?_
 refine tu Qa [(2, .e 0), (3, .one (.slc (.own true 320) 1 [])), (4, .i 1)] [] [] [] (p0) ?_
 refine blN1b (O3 code) O4 (Int.toNat ((8 : Int) - 1)) ([], ci, ch) (fun k0 s0 => [(3, .o 147202 s0.1), (4, .i ((k0 + 1 : Nat) : Int))]) [3, 4] (fun _ s0 => [(60000, [.h code, .i ((s0.2.1 : Nat) : Int), .i s0.2.2])]) [60000] (fun y0 => [(3, .o 147352 y0.1)]) [3, 4] (fun y0 => [(60000, [.h code, .i ((y0.2.1 : Nat) : Int), .i y0.2.2])]) [60000] (fun k0 s0 => List.length s0.1 ≤ k0) (X3 [(320, 147202)] (by kernel_rfl)) (by simp) (fun k0 s0 hk0 hI0 => ?_) (fun k0 s0 hk0 hI0 => ?_) (fun y0 hD0 => ?_)
 ·
  have hA0_0 := hI0.2
  refine Qc ?_
  refine su Qa [(7, .b true)] [] [] [] (pe 1 (Qw (decide_eq_true (p := ((k0 + 1 : Nat) : Int) < (8 : Int)) (by omega))) p0) ?_
  refine ckT ?_
  refine Qh ?_
  refine Qc ?_
  refine Qt ?_
  obtain ⟨x1, hx1⟩ := nm (Yk code s0.2.1 s0.2.2 2)
  refine sn Qa [0, 2, 3, 4, 11] [60000] (po 1 (.give none (.b x1.1) [.h code, .i ((x1.2.1 : Nat) : Int), .i x1.2.2]) (px (Q3 (hx1 ▸ Kx code s0.2.1 s0.2.2 2)) p0)) ?_
  refine ck x1.1 (fun h2 => ?_) (fun h2 => ?_)
  ·
   refine wT 3 0 (.own true 147202) s0.1 (fun hw3 hl4 => ?_)
   refine qu Qa [(3, .one (.slc (.own true 960) 1 ((eL s0.1) ++ [[.i ((k0 + 1 : Nat) : Int)]])))] [3, 7] [(60000, [.h code, .i ((x1.2.1 : Nat) : Int), .i x1.2.2])] [60000] (pa s0.1 [((k0 + 1 : Nat) : Int)] p0) ?_
   refine eqn [(3, .o 960 (s0.1 ++ [((k0 + 1 : Nat) : Int)]))] [3] [] [] (by rw [show ((eL s0.1) ++ [[.i ((k0 + 1 : Nat) : Int)]]) = (eL (s0.1 ++ [((k0 + 1 : Nat) : Int)])) from Vn (rfl) (rfl)]; first | done | kernel_rfl) ?_
   refine rn Qa [0, 2, 3, 4] [60000] (pe 1 (show .i (IntKind.i64.wrap (((k0 + 1 : Nat) : Int) + 1)) = .i ((k0 + 2 : Nat) : Int) from Jw ((IntWalk.i64_in _ (by omega)).trans (by omega))) p0) ?_
   exact Exists.intro (s0.1 ++ [((k0 + 1 : Nat) : Int)], x1.2.1, x1.2.2) (And.intro (X3 [(960, 147202)] (by kernel_rfl)) ⟨W8 hk0 (Yo hx1 (Q1 h2 (rfl))) hI0.1, by first | omega | (simp; omega) | simp⟩)
  refine Qh ?_
  refine qn Qa [0, 2, 3, 4] [60000] (pe 1 (show .i (IntKind.i64.wrap (((k0 + 1 : Nat) : Int) + 1)) = .i ((k0 + 2 : Nat) : Int) from Jw ((IntWalk.i64_in _ (by omega)).trans (by omega))) p0) ?_
  exact xw (s0.1, x1.2.1, x1.2.2) ⟨W8 hk0 (Yo hx1 (Ql h2 (rfl))) hI0.1, by first | omega | (simp; omega) | simp⟩
 ·
  have hA0_0 := hI0.2
  refine Qc ?_
  refine sn Qa [0, 2, 3, 4, 7] [60000] (pe 1 (Qw (decide_eq_false (p := ((k0 + 1 : Nat) : Int) < (8 : Int)) (by omega))) p0) ?_
  refine ckF ?_
  refine Q2 ?_
  exact Exists.intro _ (And.intro (X3 [(147202, 147352)] (by kernel_rfl)) (Gk hk0 (rfl) hI0.1))
 refine sn Qa [0, 2] [60000] (p0) ?_
 refine Qe ?_
 have hE5 : Ef code ci ch = (y0.1, y0.2.1, y0.2.2) := Un hD0 (rfl)
 exact Hv [] (congrArg (fun z => (.o 0 z.1 : AV)) hE5.symm) (congrArg (fun z => ([.h code, .i ((z.2.1 : Nat) : Int), .i z.2.2] : List C)) hE5.symm)
def stA (l : List Wp) (nm : ByteArray) (v : Jc) : List Wp := (Xf (0, 0, false, 0, l) nm v).2.2.2.2
theorem CQ (f : X9) (nm : ByteArray) (v : Jc) : Xf f nm v = (f.1, f.2.1, f.2.2.1, f.2.2.2.1, stA f.2.2.2.2 nm v) := by
  obtain ⟨a, b, c, d, l⟩ := f
  unfold stA Xf
  dsimp only
  rw [Ek (f := Dg nm) (e := Hn) (p := fun a => !(a.1.toList == nm.toList)) (g := id) (fun _ _ _ => rfl)]
  simp only [Out.on]
  cases (v.1 != (0 : Int)) with
  | false => rfl
  | true =>
    simp only [cond_true]
    generalize Hn _ _ = l'
    obtain ⟨t, ht⟩ := P5 (f := Ho nm) (e := Dh) (fun k a s r => by
      unfold Ho
      generalize (Op.bytesLess a.1.toList nm.toList || a.1.toList == nm.toList) = c
      cases c <;> simp) l' 0 ()
    rw [ht]
def ints4 : List Int := [0, 1, 2, 3]
def A1 : List (List Wp) := [] :: ints4.map fun n => stA [] ⟨#[97]⟩ (Xy n)
def A2 : List (List Wp) := A1 ++ A1.flatMap fun l => ints4.map fun n => stA l ⟨#[98]⟩ (Xy n)
def A3 : List (List Wp) := A2 ++ A2.flatMap fun l => ([⟨#[105, 110, 107]⟩, ⟨#[115, 101, 97]⟩] : List ByteArray).map fun s => stA l ⟨#[110]⟩ (Q6 s)
def A4 : List (List Wp) := A3 ++ A3.flatMap fun l => ([⟨#[114, 101, 100]⟩, ⟨#[98, 108, 117, 101]⟩] : List ByteArray).map fun s => stA l ⟨#[116]⟩ (Q6 s)
theorem in4 {x : Int} (h0 : 0 ≤ x) (h1 : x < 4) : x ∈ ints4 := by
  unfold ints4
  simp only [List.mem_cons, List.not_mem_nil, or_false]
  omega
theorem AY (code : List UInt8) (ci : Nat) (ch : Int) {list : List ByteArray} (hp : 0 < list.length) : (X4 code ci ch list).1 ∈ list := by
  unfold X4 lt
  have hb := Qx code ci ch (list.length : Int)
  generalize Qm code ci ch (list.length : Int) = x at hb ⊢
  exact List.mem_of_getElem? (Kh (by omega))
structure FOk (id : Int) (S : List (List Wp)) (f : X9) : Prop where
  h1 : f.1 = id
  h2 : 0 ≤ f.2.1
  h3 : f.2.1 ≤ 2
  h4 : 0 ≤ f.2.2.2.1
  h5 : f.2.2.2.1 ≤ 6
  h6 : f.2.2.2.2 ∈ S
theorem JA {id : Int} {S S' : List (List Wp)} {f : X9} {nm : ByteArray} {v : Jc} (h : FOk id S f) (hm : ∀ l, l ∈ S → stA l nm v ∈ S') : FOk id S' (Xf f nm v) := by
  rw [CQ]
  exact ⟨h.h1, h.h2, h.h3, h.h4, h.h5, hm _ h.h6⟩
theorem JC {id : Int} {S S' : List (List Wp)} {f : X9} (h : FOk id S f) (hm : ∀ l, l ∈ S → l ∈ S') : FOk id S' f := ⟨h.h1, h.h2, h.h3, h.h4, h.h5, hm _ h.h6⟩
theorem st_a {x : Int} (h0 : 0 ≤ x) (h1 : x < 4) : ∀ l, l ∈ ([[]] : List (List Wp)) → stA l ⟨#[97]⟩ (Xy x) ∈ A1 := fun l hl => by
  rw [List.mem_singleton.1 hl]
  exact List.mem_cons_of_mem _ (List.mem_map.2 ⟨x, in4 h0 h1, rfl⟩)
theorem lf {id : Int} {S : List (List Wp)} {α : Type} {t : α} {f : α → X9 × Nat × Int} (Q : α → Prop) (h : Q t) (k : ∀ x, Q x → FOk id S (f x).1) : FOk id S (lt t f).1 := k t h
theorem l04_ok (code : List UInt8) (ci : Nat) (ch id : Int) : FOk id A4 (Z9 code ci ch id).1 := by
  have bd : ∀ (ci : Nat) (ch : Int) (n : Int), 0 < n → 0 ≤ (Qm code ci ch n).1 ∧ (Qm code ci ch n).1 < n := fun ci ch n h => ⟨(Qx code ci ch n).1, (Qx code ci ch n).2.1 h⟩
  unfold Z9
  refine lf (fun x : Int × Nat × Int => 0 ≤ x.1 ∧ x.1 < 3) (bd ci ch 3 (by decide)) fun x1 hx1 => ?_
  refine lf (fun _ => True) trivial fun x2 _ => ?_
  refine lf (fun _ => True) trivial fun x3 _ => ?_
  refine lf (fun x : Int × Nat × Int => 0 ≤ x.1 ∧ x.1 ≤ 6) ?_ fun x4 hx4 => ?_
  · cases x3.1 with
    | true => simp only [cond_true]; exact lt_any (P := fun x : Int × Nat × Int => 0 ≤ x.1 ∧ x.1 ≤ 6) (fun x : Int × Nat × Int => 0 ≤ x.1 ∧ x.1 < 7) (bd _ _ 7 (by decide)) fun x h => ⟨h.1, by have := h.2; show x.1 ≤ 6; omega⟩
    | false => exact ⟨Int.le_refl 0, by show (0 : Int) ≤ 6; decide⟩
  refine lf (fun _ => True) trivial fun x7 _ => ?_
  have f0 : FOk id [[]] (id, x1.1, x2.1, x4.1, []) := ⟨rfl, hx1.1, by have := hx1.2; show x1.1 ≤ 2; omega, hx4.1, hx4.2, by simp⟩
  refine lf (fun z : X9 × Nat × Int => FOk id A1 z.1) ?_ fun x8 hx8 => ?_
  · cases x7.1 with
    | true => exact JC f0 fun l hl => by rw [List.mem_singleton.1 hl]; exact List.mem_cons_self
    | false => simp only [Bool.not_false, cond_true]; exact lf (S := A1) (fun x : Int × Nat × Int => 0 ≤ x.1 ∧ x.1 < 4) (bd _ _ 4 (by decide)) fun y hy => JA f0 (st_a hy.1 hy.2)
  refine lf (fun _ => True) trivial fun x11 _ => ?_
  refine lf (fun z : X9 × Nat × Int => FOk id A2 z.1) ?_ fun x12 hx12 => ?_
  · cases x11.1 with
    | false => exact JC hx8 fun l hl => List.mem_append_left _ hl
    | true => simp only [cond_true]; exact lf (S := A2) (fun x : Int × Nat × Int => 0 ≤ x.1 ∧ x.1 < 4) (bd _ _ 4 (by decide)) fun y hy => JA hx8 fun l hl => List.mem_append_right _ (List.mem_flatMap.2 ⟨l, hl, List.mem_map.2 ⟨y.1, in4 hy.1 hy.2, rfl⟩⟩)
  refine lf (fun _ => True) trivial fun x15 _ => ?_
  refine lf (fun z : X9 × Nat × Int => FOk id A3 z.1) ?_ fun x16 hx16 => ?_
  · cases x15.1 with
    | true => exact JC hx12 fun l hl => List.mem_append_left _ hl
    | false => simp only [Bool.not_false, cond_true]; exact lf (S := A3) (fun x : ByteArray × Nat × Int => x.1 ∈ ([⟨#[105, 110, 107]⟩, ⟨#[115, 101, 97]⟩] : List ByteArray)) (AY code _ _ (Nat.zero_lt_succ _)) fun y hy => JA hx12 fun l hl => List.mem_append_right _ (List.mem_flatMap.2 ⟨l, hl, List.mem_map.2 ⟨y.1, hy, rfl⟩⟩)
  refine lf (fun _ => True) trivial fun x19 _ => ?_
  cases x19.1 with
  | false => exact JC hx16 fun l hl => List.mem_append_left _ hl
  | true => simp only [cond_true]; exact lf (S := A4) (fun x : ByteArray × Nat × Int => x.1 ∈ ([⟨#[114, 101, 100]⟩, ⟨#[98, 108, 117, 101]⟩] : List ByteArray)) (AY code _ _ (Nat.zero_lt_succ _)) fun y hy => JA hx16 fun l hl => List.mem_append_right _ (List.mem_flatMap.2 ⟨l, hl, List.mem_map.2 ⟨y.1, hy, rfl⟩⟩)
def IA (l : List Wp) : Bool := match Xp (Xx Qs (0, 0, false, 0, l)) Zd l 0 () with
  | .brk _ => true
  | .ret _ => false
theorem all_ok : A4.all IA = true := by kernel_rfl
theorem AZ : Z0 Qs = true := by kernel_rfl
theorem IB {id i : Int} {f : X9} (h : FOk id A4 f) (h1 : 1 ≤ i) (h2 : i ≤ 60) : Xc Qs (i, f.2) = true := by
  obtain ⟨a, o, s, x, l⟩ := f
  have hl := List.all_eq_true.1 all_ok l h.h6
  have e : Xp (Xx Qs (i, o, s, x, l)) Zd l 0 () = .brk () := by
    have e2 : Xx Qs (i, o, s, x, l) = Xx Qs (0, 0, false, 0, l) := rfl
    rw [e2]
    unfold IA at hl
    split at hl
    · rename_i t ht; exact ht
    cases hl
  have h2' := h.h2
  have h3' := h.h3
  have h4' := h.h4
  have h5' := h.h5
  dsimp only at h2' h3' h4' h5'
  show Out.on (Xp (Xx Qs (i, o, s, x, l)) Zd l 0 ()) _ = true
  rw [e]
  simp only [Out.on, AZ, Xg, Bool.true_and]
  rw [decide_eq_true (show i ≥ 1 from h1), decide_eq_true (show i ≤ 60 from h2), decide_eq_true (show o ≥ 0 from h2'), decide_eq_true (show o ≤ 2 from h3'), decide_eq_true (show x ≥ 0 from h4'), decide_eq_true (show x ≤ 60 by omega)]
  rfl
structure S5 (s : Xo) : Prop where
  vs : VS s
  sch : s.1 = Qs
  nx : s.2.2 ≤ 8 + s.2.1.length
theorem s5_push {s : Xo} {id : Int} {f : X9} (h : S5 s) (hl : s.2.1.length < 12) (hf : FOk id A4 f) : (X0 s f).1.2.1.length = s.2.1.length + 1 ∧ S5 (X0 s f).1 := by
  have hn : s.2.2 ≤ 60 := by have := h.nx; omega
  have hv : Xc s.1 (s.2.2, f.2) = true := by rw [h.sch]; exact IB hf h.vs.nx1 hn
  rw [GX h.vs hl hn hv]
  exact ⟨by simp, GW h.vs hl hn hv, h.sch, by have := h.nx; simp; omega⟩
theorem BA (code : List UInt8) (ci : Nat) (ch : Int) : S5 (Y6 code ci ch).1 ∧ (Y6 code ci ch).1.2.1.length ≤ 7 := by
  unfold Y6
  obtain ⟨t, ht⟩ := O0 (f := Jp code) (fun s r => by
    unfold Jp lt
    dsimp only
    generalize decide (_ < IntKind.i64.wrap _) = c
    cases c <;> simp) 8 (0, (Z6 Qs), ci, ch)
  have hj : VS t.1 ∧ t.1.1 = Qs ∧ t.1.2.2 ≤ 8 ∧ t.1.2.1.length ≤ 7 := Sc (f := Jp code) (I := fun s => VS s.2.1 ∧ s.2.1.1 = Qs ∧ s.2.1.2.2 ≤ 1 + s.1 ∧ (s.2.1.2.1.length : Int) ≤ s.1 ∧ 0 ≤ s.1 ∧ s.1 ≤ 7) (J := fun t => VS t.1 ∧ t.1.1 = Qs ∧ t.1.2.2 ≤ 8 ∧ t.1.2.1.length ≤ 7) (fun s s' hi h => by
    unfold Jp lt at h
    have hb := Qx code s.2.2.1 s.2.2.2 7
    generalize Qm code s.2.2.1 s.2.2.2 7 = x at h hb
    have e : IntKind.i64.wrap (1 + x.1) = 1 + x.1 := IntWalk.i64_in _ (by omega)
    simp only [e] at h
    obtain ⟨i1, i2, i3, i4, i5, i6⟩ := hi
    by_cases hc : s.1 < 1 + x.1
    · simp only [decide_eq_true hc, cond_true] at h
      have h := Rd.next.inj h
      have e3 : IntKind.i64.wrap (s.1 + 1) = s.1 + 1 := IntWalk.i64_in _ (by omega)
      rw [← h, e3]
      obtain ⟨c1, c2, c3, c4, c5⟩ := GY (Z9 code x.2.1 x.2.2 1).1 i1
      refine ⟨c1, c2.trans i2, ?_, ?_, ?_, ?_⟩ <;> dsimp only <;> omega
    · simp only [decide_eq_false hc, cond_false] at h
      cases h) (fun s t hi h => by
    unfold Jp lt at h
    generalize Qm code s.2.2.1 s.2.2.2 7 = x at h
    obtain ⟨i1, i2, i3, i4, i5, i6⟩ := hi
    by_cases hc : s.1 < IntKind.i64.wrap (1 + x.1)
    · simp only [decide_eq_true hc, cond_true] at h
      cases h
    · simp only [decide_eq_false hc, cond_false] at h
      have h := Rd.brk.inj h
      rw [← h]
      exact ⟨i1, i2, by dsimp only; omega, by dsimp only; omega⟩) (by
    refine ⟨⟨AZ, by simp [Z6], by simp [Z6], by simp [Z6], fun i a h => by simp [Z6] at h, fun i a b h => by simp [Z6] at h⟩, rfl, ?_, ?_, ?_, ?_⟩
    · show (1 : Int) ≤ 1 + 0; decide
    · show ((0 : Nat) : Int) ≤ 0; decide
    · show (0 : Int) ≤ 0; decide
    show (0 : Int) ≤ 7; decide) (Mg code ci ch _) ht
  rw [ht]
  simp only [Out.on]
  obtain ⟨j1, j2, j3, j4⟩ := hj
  have fin : S5 t.1 ∧ t.1.2.1.length ≤ 7 := ⟨⟨j1, j2, by omega⟩, j4⟩
  cases decide ((t.1.2.1.length : Int) > (2 : Int)) with
  | false => exact fin
  | true =>
    simp only [cond_true]
    refine lt_any (P := fun z : Xo × Nat × Int => S5 z.1 ∧ z.1.2.1.length ≤ 7) (fun _ => True) trivial fun x5 _ => ?_
    cases x5.1 with
    | false => exact fin
    | true =>
      obtain ⟨d1, d2, d3, d4⟩ := GZ ((nth t.1.2.1 1).1) j1
      exact ⟨⟨d1, d2.trans j2, by show _ ≤ _; dsimp only [cond_true]; omega⟩, by dsimp only [cond_true]; omega⟩
theorem all_len : A4.all (fun l => decide (l.length ≤ 4)) = true := by kernel_rfl
theorem l04_len (code : List UInt8) (ci : Nat) (ch id : Int) : List.length (Z9 code ci ch id).1.2.2.2.2 ≤ 4 := of_decide_eq_true (List.all_eq_true.1 all_len _ (l04_ok code ci ch id).h6)
theorem IC (code : List UInt8) (ci : Nat) (ch : Int) : 1 ≤ (Ky code ci ch).1.length ∧ (Ky code ci ch).1.length ≤ 4 := by
  unfold Ky
  obtain ⟨t, ht⟩ := O0 (f := J6 code) (fun s r => by
    unfold J6 lt
    generalize Qm code s.2.2.1 s.2.2.2 4 = x
    simp only
    generalize decide (s.2.1 < 1 + x.1) = c
    cases c <;> simp) 5 ([], 0, ci, ch)
  have := Sc (f := J6 code) (I := fun s => (s.1.length : Int) = s.2.1 ∧ s.2.1 ≤ 4) (J := fun t => 1 ≤ t.1.length ∧ t.1.length ≤ 4) (fun s s' hi h => by
    unfold J6 lt at h
    have hb := Qx code s.2.2.1 s.2.2.2 4
    generalize Qm code s.2.2.1 s.2.2.2 4 = x at h hb
    by_cases hc : s.2.1 < 1 + x.1
    · simp only [decide_eq_true hc, cond_true] at h
      have h := Rd.next.inj h
      rw [← h]
      refine ⟨?_, ?_⟩
      · simp; omega
      show s.2.1 + 1 ≤ 4; omega
    · simp only [decide_eq_false hc, cond_false] at h
      cases h) (fun s t hi h => by
    unfold J6 lt at h
    have hb := Qx code s.2.2.1 s.2.2.2 4
    generalize Qm code s.2.2.1 s.2.2.2 4 = x at h hb
    by_cases hc : s.2.1 < 1 + x.1
    · simp only [decide_eq_true hc, cond_true] at h
      cases h
    simp only [decide_eq_false hc, cond_false] at h
    have h := Rd.brk.inj h
    rw [← h]
    dsimp only
    omega) (n := 5) (s := ([], 0, ci, ch)) (t := t) ⟨rfl, by show (0 : Int) ≤ 4; decide⟩ (O1 code ci ch) ht
  rw [ht]
  exact this
def IxB (K : Nat) (l : List Qn) : Prop := l.length ≤ K ∧ ∀ p, p ∈ l → p.2.2.length ≤ K
theorem Nh {K : Nat} {l : List Qn} {i : Nat} {a : ByteArray} {b : Jc} {ids : List Int} (h3 : l.length ≤ K + 1) (h4 : ∀ p, p ∈ l → p.2.2.length ≤ K) (hl : ids.length ≤ K + 1) : IxB (K + 1) (List.set l i (a, b, ids)) :=
  ⟨by rw [List.length_set]; exact h3, fun p hp => by
    rcases List.mem_or_eq_of_mem_set hp with h | rfl
    · exact Nat.le_succ_of_le (h4 p h)
    exact hl⟩
theorem Sd {K : Nat} {l : List Qn} (h3 : l.length ≤ K + 1) (h4 : ∀ p, p ∈ l → p.2.2.length ≤ K) : IxB (K + 1) l := ⟨h3, fun p hp => Nat.le_succ_of_le (h4 p hp)⟩
theorem ID (K : Nat) : IxB K [] := ⟨Nat.zero_le _, fun p hp => by cases hp⟩
theorem BB {K K' : Nat} {l : List Qn} (h : IxB K l) (hk : K ≤ K') : IxB K' l := ⟨Nat.le_trans h.1 hk, fun p hp => Nat.le_trans (h.2 p hp) hk⟩
theorem ixb_insAt {K : Nat} {l : List Qn} {j : Nat} {a : ByteArray} {b : Jc} {ids : List Int} (h : IxB K l) (hl : ids.length ≤ K) : (K9 l j (a, b, ids)).length ≤ K + 1 ∧ ∀ p, p ∈ K9 l j (a, b, ids) → p.2.2.length ≤ K := by
  refine ⟨?_, fun p hp => ?_⟩
  · have := h.1
    simp [K9]; omega
  simp only [K9, List.mem_append, List.mem_singleton] at hp
  rcases hp with (hp | rfl) | hp
  · exact h.2 p (List.mem_of_mem_take hp)
  · exact hl
  exact h.2 p (List.mem_of_mem_drop hp)
theorem ixb_put {K : Nat} {l : List Qn} {j : Nat} {a : ByteArray} {b : Jc} {ids : List Int} (h : IxB K l) (hl : ids.length ≤ K + 1) : IxB (K + 1) (List.take j l ++ [(a, b, ids)] ++ List.drop j l) := by
  refine ⟨?_, fun p hp => ?_⟩
  · have := h.1
    simp; omega
  simp only [List.mem_append, List.mem_singleton] at hp
  rcases hp with (hp | rfl) | hp
  · exact Nat.le_succ_of_le (h.2 p (List.mem_of_mem_take hp))
  · exact hl
  exact Nat.le_succ_of_le (h.2 p (List.mem_of_mem_drop hp))
theorem Lu {α : Type} {l : List α} {j : Nat} {y : α} : (K9 l j y).length = l.length + 1 := by simp [K9]; omega
def JB (K : Nat) (x : List Qn × Int) : Prop := 0 ≤ x.2 ∧ x.2 < (x.1.length : Int) ∧ x.1.length ≤ K + 1 ∧ ∀ p, p ∈ x.1 → p.2.2.length ≤ K
def Cn (l : List X9) : Nat := (l.map fun f => f.2.2.2.2.length).sum
theorem G1 {l : List X9} {k : Nat} {a : X9} (h : l[k]? = some a) : Cn (List.take (k + 1) l) = Cn (List.take k l) + a.2.2.2.2.length := by
  have e : List.take (k + 1) l = List.take k l ++ [a] := by rw [List.take_add_one, h]; rfl
  rw [e]
  simp [Cn]
theorem VL (l : List X9) (k : Nat) : Cn (List.take k l) ≤ Cn l := by
  have h : Cn l = Cn (List.take k l) + Cn (List.drop k l) := by
    unfold Cn
    rw [← List.sum_append_nat, ← List.map_append, List.take_append_drop]
  omega
theorem VM {α R : Type} {p : α → Bool} {f : Nat → α → Unit → Rd R Unit Int} {e : Nat → Unit → Int} (hf : ∀ k a s, f k a s = bif p a then .brk ((k : Nat) : Int) else .next ()) (he : ∀ k s, e k s = ((k : Nat) : Int)) :
    ∀ (l : List α) (k : Nat), Xp f e l k () = .brk ((k : Int) + (bif decide (ixF p l < 0) then (l.length : Int) else ixF p l))
  | [], k => by simp [Xp, he, ixF]
  | a :: l, k => by
    have hb := Me p l
    simp only [Xp, hf]
    cases hp : p a with
    | true => simp [ixF, hp]
    | false =>
      simp only [cond_false]
      rw [VM hf he l (k + 1)]
      congr 1
      simp only [ixF, hp, cond_false]
      by_cases h : ixF p l = -1
      · rw [h]; simp; omega
      have h0 : ¬ ixF p l < 0 := by omega
      rw [beq_eq_false_iff_ne.2 h, cond_false, decide_eq_false h0, decide_eq_false (by omega : ¬ ixF p l + 1 < 0)]
      simp; omega
theorem eqE_go {α : Type} [Inhabited α] {p : α → α → Bool} {f : Nat → α → Unit → Rd Bool Unit Unit} {e : Nat → Unit → Unit} {b : List α} (hf : ∀ k a, f k a () = (bif !(p a (nth b k)) then .ret false else .next ())) :
    ∀ (l : List α) (k : Nat), Out.on (Xp f e l k ()) (fun _ => true) = true ↔ ∀ (i : Nat) (a : α), l[i]? = some a → p a (nth b (k + i)) = true
  | [], k => by simp [Xp, Out.on]
  | x :: l, k => by
    simp only [Xp, hf]
    cases hp : p x (nth b k) with
    | false =>
      simp only [Bool.not_false, cond_true, Out.on]
      refine ⟨fun h => (by cases h), fun h => ?_⟩
      have := h 0 x rfl
      rw [Nat.add_zero, hp] at this
      exact this
    | true =>
      simp only [Bool.not_true, cond_false]
      rw [eqE_go hf l (k + 1)]
      refine ⟨fun h i a hi => ?_, fun h i a hi => ?_⟩
      · cases i with
        | zero => have hi : x = a := by simpa using hi
                  subst hi; exact hp
        | succ i => have := h i a (by simpa using hi)
                    rw [show k + (i + 1) = k + 1 + i by omega]; exact this
      have := h (i + 1) a (by simpa using hi)
      rw [show k + 1 + i = k + (i + 1) by omega]; exact this
theorem Ty {α : Type} [Inhabited α] {p : α → α → Bool} (hp : ∀ a b, p a b = true ↔ a = b) {f : Nat → α → Unit → Rd Bool Unit Unit} {e : Nat → Unit → Unit} {l b : List α} (hf : ∀ k a, f k a () = (bif !(p a (nth b k)) then .ret false else .next ())) :
    (bif ((l.length : Int) != (b.length : Int)) then false else Out.on (Xp f e l 0 ()) (fun _ => true)) = true ↔ l = b := by
  by_cases hl : l.length = b.length
  · have hn : ((l.length : Int) != (b.length : Int)) = false := by simp [hl]
    rw [hn, cond_false, eqE_go hf]
    refine ⟨fun h => List.ext_getElem? fun i => ?_, fun h i a hi => ?_⟩
    · by_cases hi : i < l.length
      · rw [Kh hi, Kh (by omega : i < b.length)]
        have := h i _ (Kh hi)
        rw [Nat.zero_add] at this
        rw [(hp _ _).1 this]
      rw [List.getElem?_eq_none (by omega), List.getElem?_eq_none (by omega)]
    subst h
    rw [Nat.zero_add, Iw hi]
    exact (hp _ _).2 rfl
  have hn : ((l.length : Int) != (b.length : Int)) = true := by simpa using fun e : (l.length : Int) = (b.length : Int) => hl (by omega)
  rw [hn, cond_true]
  exact ⟨fun h => (by cases h), fun h => (hl (congrArg List.length h)).elim⟩
theorem VN (a b : ByteArray) : (a.toList == b.toList) = true ↔ a = b := by
  rw [ByteArray.toList_eq, ByteArray.toList_eq, beq_iff_eq]
  exact ⟨fun h => ByteArray.ext (Array.ext' h), fun h => h ▸ rfl⟩
end
section
theorem BC {α : Type} [DecidableEq α] : ∀ {l N : List α}, l.Nodup → (∀ x, x ∈ l → x ∈ N) → l.length ≤ N.length
  | [], _, _, _ => Nat.zero_le _
  | a :: l, N, hn, hs => by
    have hn' := List.nodup_cons.1 hn
    have ha := hs a (List.mem_cons_self ..)
    have h := BC (l := l) (N := N.erase a) hn'.2 fun x hx => (List.mem_erase_of_ne (fun e : x = a => hn'.1 (by rw [← e]; exact hx))).2 (hs x (List.mem_cons_of_mem _ hx))
    rw [List.length_erase_of_mem ha] at h
    have : 0 < N.length := List.length_pos_of_mem ha
    rw [List.length_cons]
    omega
def Fresh {α : Type} (N out out' : List α) : Prop := ∃ new : List α, out' = out ++ new ∧ new.Nodup ∧ ∀ x, x ∈ new → x ∉ out ∧ x ∈ N
theorem Fresh.refl {α : Type} (N out : List α) : Fresh N out out := ⟨[], by simp, List.nodup_nil, by simp⟩
theorem Fresh.one {α : Type} {N out : List α} {x : α} (h1 : x ∉ out) (h2 : x ∈ N) : Fresh N out (out ++ [x]) := ⟨[x], rfl, by simp, by simp [h1, h2]⟩
theorem Fresh.trans {α : Type} {N a b c : List α} (h : Fresh N a b) (k : Fresh N b c) : Fresh N a c := by
  obtain ⟨p, rfl, h1, h2⟩ := h
  obtain ⟨q, rfl, k1, k2⟩ := k
  refine ⟨p ++ q, by rw [List.append_assoc], List.nodup_append.2 ⟨h1, k1, fun x hx y hy e => ?_⟩, fun x hx => ?_⟩
  · subst e
    exact (k2 _ hy).1 (List.mem_append_right _ hx)
  rcases List.mem_append.1 hx with hx | hx
  · exact h2 x hx
  exact ⟨fun h => (k2 x hx).1 (List.mem_append_left _ h), (k2 x hx).2⟩
theorem vf_run {s : List Ze} {f : X9} (h : Xc s f = true) : ∃ t, Xp (Xx s f) Zd f.2.2.2.2 0 () = .brk t := by
  unfold Xc at h
  cases hl : Xp (Xx s f) Zd f.2.2.2.2 0 () with
  | brk t => exact ⟨t, rfl⟩
  | ret r =>
    rw [hl] at h
    obtain rfl : r = true := h
    exfalso
    have key : ∀ (l : List Wp) k, Xp (Xx s f) Zd l k () ≠ .ret true := by
      intro l
      induction l with
      | nil => intro k h; simp [Xp] at h
      | cons a l ih =>
        intro k h
        simp only [Xp] at h
        unfold Xx at h
        split at h
        · exact ih _ h
        · cases h
        rename_i r hf; cases h; revert hf; generalize (_ || _ : Bool) = c; cases c <;> simp
    exact key _ _ hl
theorem vf_at {s : List Ze} {f : X9} (h : Xc s f = true) {i : Nat} {a : Wp} (hi : f.2.2.2.2[i]? = some a) : Zc s a.1 a.2 = true ∧ ∀ b, 0 < i → f.2.2.2.2[i - 1]? = some b → bl b.1 a.1 = true := by
  obtain ⟨t, ht⟩ := vf_run h
  have := N4 (fun k a t => by unfold Xx; generalize (_ || _ : Bool) = c; cases c <;> simp) ht i a hi
  rw [Nat.zero_add] at this
  unfold Xx at this
  cases h1 : Zc s a.1 a.2 with
  | false => rw [h1] at this; simp at this
  | true =>
    refine ⟨rfl, fun b hpos hb => ?_⟩
    rw [h1] at this
    have hk : decide (((i : Nat) : Int) > (0 : Int)) = true := decide_eq_true (by omega)
    rw [hk, show (((i : Nat) : Int) - 1).toNat = i - 1 by omega, Iw hb] at this
    show Op.bytesLess b.1.toList a.1.toList = true
    cases hl : Op.bytesLess b.1.toList a.1.toList with
    | true => rfl
    | false => rw [hl] at this; simp at this
theorem vf_asc {s : List Ze} {f : X9} (h : Xc s f = true) : f.2.2.2.2.Pairwise fun a b => bl a.1 b.1 = true := by
  have key : ∀ j i, i < j → j < f.2.2.2.2.length → bl (nth f.2.2.2.2 i).1 (nth f.2.2.2.2 j).1 = true := by
    intro j
    induction j with
    | zero => intro i hi; omega
    | succ j ih =>
      intro i hi hj
      have hs := (vf_at h (Kh hj)).2 _ (Nat.zero_lt_succ j) (Kh (i := j) (by omega))
      by_cases e : i = j
      · subst e; exact hs
      exact R1 (ih i (by omega) (by omega)) hs
  rw [List.pairwise_iff_getElem]
  intro i j hi hj hij
  have := key j i hij hj
  simpa [nth, List.getD, hi, hj] using this
theorem fkS_mem (n : ByteArray) : ∀ (l : List Ze) (k : Nat), Out.on (Xp (Hd n) Bj l k ()) (fun _ => 0) ≠ 0 → n ∈ l.map (·.1)
  | [], _, h => by simp [Xp, Out.on] at h
  | a :: l, k, h => by
    simp only [Xp, Hd] at h
    cases hc : (a.1.toList == n.toList) with
    | true => rw [← (VN _ _).1 hc]; simp
    | false =>
      rw [hc] at h
      simp only [cond_false] at h
      exact List.mem_cons_of_mem _ (fkS_mem n l (k + 1) h)
theorem vf_kind {s : List Ze} {f : X9} (h : Xc s f = true) {a : Wp} (ha : a ∈ f.2.2.2.2) : a.2.1 ≠ 0 ∧ a.1 ∈ s.map (·.1) := by
  obtain ⟨i, hi, rfl⟩ := List.getElem_of_mem ha
  have := (vf_at h (List.getElem?_eq_getElem hi)).1
  unfold Zc at this
  simp only [Bool.and_eq_true, bne_iff_ne, beq_iff_eq] at this
  obtain ⟨_, h1, h2⟩ := this
  exact ⟨h1, fkS_mem _ s 0 (by rw [h2] at h1; exact h1)⟩
theorem vf_few {s : List Ze} {f : X9} (h : Xc s f = true) : f.2.2.2.2.length ≤ s.length := by
  have hn : (f.2.2.2.2.map (·.1)).Nodup := by
    rw [List.Nodup, List.pairwise_map]
    exact (vf_asc h).imp fun {a b} hab e => by rw [e, FV] at hab; cases hab
  have := BC (N := s.map (·.1)) hn fun x hx => by
    obtain ⟨a, ha, rfl⟩ := List.mem_map.1 hx
    exact (vf_kind h ha).2
  simpa using this
theorem sumN_le {α : Type} (g : α → Nat) (K : Nat) : ∀ l : List α, (∀ a, a ∈ l → g a ≤ K) → (l.map g).sum ≤ l.length * K
  | [], _ => by simp
  | a :: l, h => by
    have h1 := h a (by simp)
    have h2 := sumN_le g K l fun b hb => h b (List.mem_cons_of_mem _ hb)
    rw [List.map_cons, List.sum_cons, List.length_cons, Nat.add_mul]
    omega
theorem s5_attrs {s : Xo} (h : S5 s) : Cn s.2.1 ≤ 100 := by
  have hl := h.vs.len
  have h4 : s.1.length = 4 := by rw [h.sch]; rfl
  have := sumN_le (fun f : X9 => f.2.2.2.2.length) 4 s.2.1 fun f hf => by
    obtain ⟨i, hi, rfl⟩ := List.getElem_of_mem hf
    have := vf_few (h.vs.file i _ (List.getElem?_eq_getElem hi)).1
    omega
  unfold Cn
  omega
theorem Tz (code : List UInt8) (ci : Nat) (ch : Int) : Cn (Y6 code ci ch).1.2.1 ≤ 100 := s5_attrs (BA code ci ch).1
end
end Go.Proofs.YtiafgmepdgfpbaaGreat
