/- Contents by name, at a stratum: what is chosen there only grows. -/
import Derived.Test.YtnhmnfmhnepjmaaGreatEx
set_option linter.unusedVariables false
set_option linter.unusedSimpArgs false
namespace Go.Proofs.YtnhmnfmhnepjmaaGreat
open Go.RowKit
theorem rids_go (nm : ByteArray) : ∀ (d : List DirD) (o : List ResultD) (k : Nat), o.map (·.1) = d.map (·.1) →
    (forL (specl11Place_f0 nm) specl11Place_e0 d k () = .brk () ∧ forL (implResultIDs_f0 nm) implResultIDs_e0 o k () = .brk ()) ∨
    ∃ i : Nat, i < d.length ∧ forL (specl11Place_f0 nm) specl11Place_e0 d k () = .ret (((k + i : Nat)) : Int) ∧ forL (implResultIDs_f0 nm) implResultIDs_e0 o k () = .ret (nth o i).2
  | [], [], _, _ => .inl ⟨rfl, rfl⟩
  | [], _ :: _, _, h => by simp at h
  | _ :: _, [], _, h => by simp at h
  | a :: d, b :: o, k, h => by
    simp only [List.map_cons, List.cons.injEq] at h
    obtain ⟨h1, h2⟩ := h
    simp only [forL, specl11Place_f0, implResultIDs_f0, h1]
    cases (a.1.toList == nm.toList) with
    | true => exact .inr ⟨0, by simp, rfl, rfl⟩
    | false =>
      simp only [cond_false]
      rcases rids_go nm d o (k + 1) h2 with h | ⟨i, hi, h3, h4⟩
      · exact .inl h
      · exact .inr ⟨i + 1, by simpa using hi, by rw [h3, show k + 1 + i = k + (i + 1) by omega], h4⟩
theorem rids_at {d : List DirD} {o : List ResultD} (h : o.map (·.1) = d.map (·.1)) (nm : ByteArray) : (impldirAt d nm < 0 ∧ implResultIDs o nm = []) ∨ (0 ≤ impldirAt d nm ∧ Int.toNat (impldirAt d nm) < d.length ∧ implResultIDs o nm = (nth o (Int.toNat (impldirAt d nm))).2) := by
  rw [← place_eq]
  unfold specl11Place implResultIDs
  rcases rids_go nm d o 0 h with ⟨h1, h2⟩ | ⟨i, hi, h1, h2⟩
  · rw [h1, h2]
    refine .inl ⟨?_, ?_⟩
    · show (-1 : Int) < 0; omega
    · rfl
  · rw [h1, h2]
    simp only [Out.on, Nat.zero_add, Int.toNat_natCast]
    exact .inr ⟨by omega, hi, trivial⟩
abbrev pickD (d : List DirD) (k : Nat) (o : List ResultD) (f : FileD) : Bool := implMatches (nth d k).2 f o
theorem mono_ok {d : List DirD} {L : List Int} (h : implStrata d = (L, true)) (fs : List FileD) {act : Nat → Bool} {level : Int} (ha : ∀ k, act k = true → nth L k = level) : MonoC fs (pickD d) act (d.map (·.1)) := by
  intro a b hna hnb hle k hk hact f _ hm
  rw [List.length_map] at hk
  refine matches_grow (⟨fun nm x hx => ?_, fun nm hn => ?_⟩ : Seen (nth d k).2 a b) f hm
  · rcases rids_at hna nm with ⟨h1, h2⟩ | ⟨h1, h2, h3⟩
    · rw [h2] at hx; simp at hx
    · rcases rids_at hnb nm with ⟨g1, _⟩ | ⟨_, _, g3⟩
      · omega
      · rw [h3] at hx
        rw [g3]
        exact (hle _).1 x hx
  · rcases rids_at hna nm with ⟨h1, h2⟩ | ⟨h1, h2, h3⟩
    · rcases rids_at hnb nm with ⟨_, g2⟩ | ⟨g1, _, _⟩
      · rw [h2, g2]
      · omega
    · rcases rids_at hnb nm with ⟨g1, _⟩ | ⟨_, _, g3⟩
      · omega
      · rw [h3, g3]
        refine (hle _).2 ?_
        have hlt := strata_neg h hk hn h1
        cases hp : act (Int.toNat (impldirAt d nm)) with
        | false => rfl
        | true => have := ha _ hp; have := ha _ hact; omega
structure EvS (d : List DirD) (L : List Int) (on : Nat → Bool) (B : Nat) (k : Int) (o : List ResultD) : Prop where
  names : o.map (·.1) = d.map (·.1)
  none : ∀ j, k ≤ nth L j → on j = true → (nth o j).2 = []
  short : ∀ j, j < d.length → on j = true → (nth o j).2.length ≤ B
def actD (L : List Int) (on : Nat → Bool) (k : Int) (j : Nat) : Bool := (nth L j == k) && on j
theorem evS_state {d : List DirD} {L : List Int} {on : Nat → Bool} {B : Nat} {k : Int} {o : List ResultD} (fs : List FileD) (h : EvS d L on B k o) : StateC fs (fun f : FileD => f.1) (pickD d) (actD L on k) (d.map (·.1)) o o :=
  ⟨h.names, fun j _ hj => ⟨fun _ => false, by
    unfold actD at hj
    simp only [Bool.and_eq_true, beq_iff_eq] at hj
    rw [h.none j (by omega) hj.2]; simp [sel], fun f _ hf => by cases hf⟩, fun _ _ => rfl⟩
theorem evS_next {d : List DirD} {L : List Int} {on : Nat → Bool} {k : Int} {o o' : List ResultD} {fs : List FileD} (h : EvS d L on fs.length k o) (h' : StateC fs (fun f : FileD => f.1) (pickD d) (actD L on k) (d.map (·.1)) o o') : EvS d L on fs.length (k + 1) o' :=
  ⟨h'.names, fun j hj hon => by
    rw [h'.rest j (by unfold actD; rw [Bool.and_eq_false_iff]; exact .inl (beq_eq_false_iff_ne.2 (by omega)))]
    exact h.none j (by omega) hon, fun j hj hon => by
    cases ha : actD L on k j with
    | false => rw [h'.rest j ha]; exact h.short j hj hon
    | true =>
      have hlen : o'.length = d.length := by have := congrArg List.length h'.names; simpa using this
      obtain ⟨p, hp, _⟩ := h'.good j (by omega) ha
      rw [hp]; exact sel_len _ _ _⟩
theorem evS_len {d : List DirD} {L : List Int} {on : Nat → Bool} {B : Nat} {k : Int} {o : List ResultD} (h : EvS d L on B k o) : List.length o = List.length d := by have := congrArg List.length h.names; simpa using this
theorem ints_dec (a b : List Int) : specl07Ints a b = decide (a = b) := by
  by_cases h : a.length = b.length
  · exact ints_eq a b h
  · have hb : ((a.length : Int) != (b.length : Int)) = true := by simpa using fun e : (a.length : Int) = (b.length : Int) => h (by omega)
    unfold specl07Ints
    rw [hb, decide_eq_false (fun e => h (congrArg List.length e))]
    rfl
def StepE (s : StoreD) (d : List DirD) (L : List Int) (on : Nat → Bool) (lv : Int) {R T : Type} (f : Nat → DirD → List ResultD × Bool → Rd R (List ResultD × Bool) T) : Prop :=
  ∀ k a o c, d[k]? = some a → f k a (o, c) = bif actD L on lv k then (bif !(decide (implSelectFiles s a.2 o = (nth o k).2)) then .next (List.set o k ((nth o k).1, implSelectFiles s a.2 o), true) else .next (o, c)) else .next (o, c)
theorem pass_eq {R : Type} {s : StoreD} {d : List DirD} {L : List Int} {on : Nat → Bool} {lv : Int} {f : Nat → DirD → List ResultD × Bool → Rd R (List ResultD × Bool) (List ResultD × Bool)} {e : Nat → List ResultD × Bool → List ResultD × Bool}
    (hf : StepE s d L on lv f) (he : ∀ k s, e k s = s) : ∀ (l : List DirD) (k : Nat) (o : List ResultD) (c : Bool), d.drop k = l → forL f e l k (o, c) = .brk (passC s.2.1 (fun f : FileD => f.1) (pickD d) (actD L on lv) (List.range' k l.length) (o, c))
  | [], k, o, c, _ => by simp [forL, passC, he]
  | a :: l, k, o, c, hl => by
    have hk : d[k]? = some a := by
      have := congrArg (·[0]?) hl
      simpa using this
    have ha : nth d k = a := nth_of hk
    have hrest : d.drop (k + 1) = l := by rw [← List.drop_drop, hl]; rfl
    have hp : passC s.2.1 (fun f : FileD => f.1) (pickD d) (actD L on lv) (List.range' k (a :: l).length) (o, c) = passC s.2.1 (fun f : FileD => f.1) (pickD d) (actD L on lv) (List.range' (k + 1) l.length) (stepC s.2.1 (fun f : FileD => f.1) (pickD d) (actD L on lv) (o, c) k) := by
      rw [List.length_cons, List.range'_succ]; rfl
    have hsel : sel s.2.1 (fun f : FileD => f.1) (pickD d k o) = implSelectFiles s a.2 o := by rw [select_sel, ← ha]
    rw [hp]
    simp only [forL, hf k a o c hk]
    unfold stepC
    cases actD L on lv k with
    | false => simp only [cond_false]; exact pass_eq hf he l (k + 1) o c hrest
    | true =>
      simp only [cond_true, hsel]
      by_cases hq : implSelectFiles s a.2 o = (nth o k).2
      · rw [decide_eq_true hq, if_pos hq]; exact pass_eq hf he l (k + 1) o c hrest
      · rw [decide_eq_false hq, if_neg hq]; exact pass_eq hf he l (k + 1) _ true hrest
theorem ev_run {R' : Type} {s : StoreD} {d : List DirD} {L : List Int} {on : Nat → Bool} {lv : Int} {f : Nat → DirD → List ResultD × Bool → Rd (Rd R' (List ResultD × Int × Bool) (List ResultD × Int)) (List ResultD × Bool) (List ResultD × Bool)} {e : Nat → List ResultD × Bool → List ResultD × Bool} {F : List ResultD × Int × Bool → Rd R' (List ResultD × Int × Bool) (List ResultD × Int)}
    (hf : StepE s d L on lv f) (he : ∀ k s, e k s = s) (hF : ∀ x, F x = bif x.2.2 then (Out.on (forL f e d 0 (x.1, false)) fun y => .next (y.1, IntKind.i64.wrap (x.2.1 + 1), y.2)) else .brk (x.1, x.2.1))
    (hS : implStrata d = (L, true)) {o : List ResultD} (h : EvS d L on s.2.1.length lv o) (p : Int) :
    ∃ o' p', whl F (List.length d * List.length s.2.1 + 2) (o, p, true) = some (.brk (o', p')) ∧ EvS d L on s.2.1.length (lv + 1) o' := by
  have hlen : o.length = d.length := by have := congrArg List.length h.names; simpa using this
  have hroom := room_le s.2.1.length (actD L on lv) o 0
  rw [hlen] at hroom
  obtain ⟨s', h1, hc, t, h2, h3⟩ := whlC (fs := s.2.1) (idOf := fun f : FileD => f.1) (m := pickD d) (act := actD L on lv) (nm := d.map (·.1)) (F := F) (out := fun x => x.1) (ch := fun x => x.2.2) (n := d.length) (by simp)
    (fun x hx => ⟨_, by rw [hF, hx, cond_true, pass_eq hf he d 0 x.1 false rfl]; rfl, by rw [List.range_eq_range']⟩)
    (fun x hx => ⟨_, by rw [hF, hx, cond_false]⟩) (mono_ok hS s.2.1 fun k hk => by unfold actD at hk; simp only [Bool.and_eq_true, beq_iff_eq] at hk; exact hk.1) (o := o) (List.length d * List.length s.2.1 + 2) (o, p, true) (evS_state s.2.1 h) (by simp only [cond_true]; omega)
  have hc' : s'.2.2 = false := hc
  have hb : F s' = .brk (s'.1, s'.2.1) := by rw [hF, hc']; rfl
  rw [hb] at h2
  cases h2
  exact ⟨s'.1, s'.2.1, h3, evS_next h h1⟩
theorem ev_start {R T : Type} {d : List DirD} {L : List Int} {on : Nat → Bool} {B : Nat} {g : DirD → List Int} {f : Nat → DirD → List ResultD → Rd R (List ResultD) T} {e : Nat → List ResultD → T} (hf : ∀ k a s, f k a s = .next (s ++ [(a.1, g a)])) (hg : ∀ j, j < d.length → on j = true → g (nth d j) = []) :
    forL f e d 0 [] = .brk (e d.length (d.map fun a => (a.1, g a))) ∧ EvS d L on B 0 (d.map fun a => (a.1, g a)) := by
  refine ⟨by rw [forL_map (g := fun a => ((a.1, g a) : ResultD)) hf]; simp, ?_, fun j _ hj => ?_, fun j hj hon => ?_⟩
  · rw [List.map_map]; rfl
  · by_cases hjl : j < d.length
    · have : nth (d.map fun a => ((a.1, g a) : ResultD)) j = ((nth d j).1, g (nth d j)) := by simp [nth, List.getD, hjl]
      rw [this]; exact hg j hjl hj
    · have : nth (d.map fun a => ((a.1, g a) : ResultD)) j = default := by simp [nth, List.getD, hjl]
      rw [this]; rfl
  · have : nth (d.map fun a => ((a.1, g a) : ResultD)) j = ((nth d j).1, g (nth d j)) := by simp [nth, List.getD, hj]
    rw [this, hg j hj hon]; exact Nat.zero_le _
theorem strata_small {d : List DirD} (h : ((implStrata d)).2 = true) : List.length ((implStrata d)).1 = List.length d ∧ List.length d ≤ 5 ∧ ∀ x, x ∈ ((implStrata d)).1 → 0 ≤ x ∧ x ≤ 5 := by
  have hS : implStrata d = ((implStrata d).1, true) := Prod.ext rfl h
  obtain ⟨hv, hlen, hs, h0⟩ := strata_ok hS
  have h5 := vdirs_len hv
  refine ⟨hlen, h5, fun x hx => ?_⟩
  obtain ⟨i, hi, rfl⟩ := mem_nth hx
  refine ⟨h0 i, ?_⟩
  have hb := strata_le hS i
  omega
end Go.Proofs.YtnhmnfmhnepjmaaGreat
