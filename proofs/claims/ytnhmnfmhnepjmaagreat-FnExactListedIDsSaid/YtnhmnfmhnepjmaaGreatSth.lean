/- Levels asked for by names of directories, as edges. -/
import Derived.Test.YtnhmnfmhnepjmaaGreatStg
import Derived.Test.YtnhmnfmhnepjmaaGreatZd
set_option linter.unusedVariables false
set_option linter.unusedSimpArgs false
namespace Go.Proofs.YtnhmnfmhnepjmaaGreat
open Go.RowKit
def edgesOfN (d : List DirD) (w : Int) : List ByteArray → Edges
  | [] => []
  | s :: r => if 0 ≤ impldirAt d s then (Int.toNat (impldirAt d s), w) :: edgesOfN d w r else edgesOfN d w r
theorem edgesOfN_ok (d : List DirD) (w : Int) : ∀ (l : List ByteArray) (e : Nat × Int), e ∈ edgesOfN d w l → e.2 = w ∧ e.1 < d.length
  | [], e, h => by simp [edgesOfN] at h
  | s :: r, e, h => by
    simp only [edgesOfN] at h
    split at h
    · rename_i h0
      rcases List.mem_cons.1 h with rfl | h
      · have := (place_lt d s).2
        exact ⟨rfl, by show Int.toNat _ < _; omega⟩
      · exact edgesOfN_ok d w r e h
    · exact edgesOfN_ok d w r e h
def edgesD (d : List DirD) (i : Nat) : Edges := if i < d.length then edgesOfN d 0 (implPositiveDeps (nth d i).2) ++ edgesOfN d 1 (implNegativeDeps (nth d i).2) else []
theorem edgesD_ok (d : List DirD) (i : Nat) (e : Nat × Int) (h : e ∈ edgesD d i) : e.2 ≤ 1 ∧ e.1 < d.length ∧ i < d.length := by
  unfold edgesD at h
  split at h
  · rename_i hi
    rcases List.mem_append.1 h with h | h <;> (have := edgesOfN_ok d _ _ e h; omega)
  · simp at h
theorem need_app (E1 E2 : Edges) (L : List Int) : need (E1 ++ E2) L = max (need E1 L) (need E2 L) := by
  have h1 : need (E1 ++ E2) L ≤ max (need E1 L) (need E2 L) := need_le.2 ⟨by have := need_nonneg E1 L; omega, fun e he => by
    rcases List.mem_append.1 he with he | he
    · have := (need_le.1 (Int.le_refl (need E1 L))).2 e he; omega
    · have := (need_le.1 (Int.le_refl (need E2 L))).2 e he; omega⟩
  have h2 := need_le.1 (Int.le_refl (need (E1 ++ E2) L))
  have h3 : need E1 L ≤ need (E1 ++ E2) L := need_le.2 ⟨h2.1, fun e he => h2.2 e (List.mem_append_left _ he)⟩
  have h4 : need E2 L ≤ need (E1 ++ E2) L := need_le.2 ⟨h2.1, fun e he => h2.2 e (List.mem_append_right _ he)⟩
  omega
theorem above_loop (d : List DirD) (L : List Int) (w : Int) (hw : 0 ≤ w ∧ w ≤ 1) (hL : ∀ j, 0 ≤ nth L j ∧ nth L j ≤ 1000000) : ∀ (l : List ByteArray) (k : Nat) (m : Int), forL (implstrataAbove_f0 d L w) implstrataAbove_e0 l k m = .brk ((edgesOfN d w l).foldl (fun m e => max m (nth L e.1 + e.2)) m)
  | [], k, m => rfl
  | s :: r, k, m => by
    simp only [forL, implstrataAbove_f0, edgesOfN]
    have hwr : ∀ j, IntKind.i64.wrap (nth L j + w) = nth L j + w := fun j => IntWalk.i64_in _ (by have := hL j; omega)
    by_cases h : 0 ≤ impldirAt d s
    · have h' : decide (impldirAt d s ≥ (0 : Int)) = true := decide_eq_true h
      rw [h', cond_true, if_pos h, hwr]
      exact above_loop d L w hw hL r (k + 1) _
    · have h' : decide (impldirAt d s ≥ (0 : Int)) = false := decide_eq_false h
      rw [h', cond_false, if_neg h]
      exact above_loop d L w hw hL r (k + 1) _
theorem above_eq {d : List DirD} {L : List Int} {w : Int} (hw : 0 ≤ w ∧ w ≤ 1) (hL : ∀ j, 0 ≤ nth L j ∧ nth L j ≤ 1000000) (l : List ByteArray) : implstrataAbove d L l w = need (edgesOfN d w l) L := by
  unfold implstrataAbove
  rw [above_loop d L w hw hL]
  rfl
theorem least_eq {d : List DirD} {L : List Int} (hL : ∀ j, 0 ≤ nth L j ∧ nth L j ≤ 1000000) {i : Nat} (hi : i < d.length) : max (implstrataAbove d L (implPositiveDeps (nth d i).2) 0) (implstrataAbove d L (implNegativeDeps (nth d i).2) 1) = need (edgesD d i) L := by
  rw [above_eq (by omega) hL, above_eq (by omega) hL]
  unfold edgesD
  rw [if_pos hi, need_app]
abbrev leastD (d : List DirD) (a : DirD) (L : List Int) : Int := max (implstrataAbove d L (implPositiveDeps a.2) 0) (implstrataAbove d L (implNegativeDeps a.2) 1)
abbrev StepD := Nat → DirD → List Int × Bool → Rd (Rd (List Int × Bool) (List Int × Bool) (List Int)) (List Int × Bool) (List Int × Bool)
def StepOk (d : List DirD) (f : StepD) : Prop := ∀ k a s, f k a s = bif decide (leastD d a s.1 > (d.length : Int)) then .ret (.ret ([], false)) else (bif decide (leastD d a s.1 > nth s.1 k) then .next (List.set s.1 k (leastD d a s.1), true) else .next (s.1, s.2))
theorem climb_round {d : List DirD} {f : StepD} {e : Nat → List Int × Bool → List Int × Bool} (hf : StepOk d f) (he : ∀ k s, e k s = s) (hd : d.length ≤ 1000000) :
    ∀ (l : List DirD) (k : Nat) (L : List Int) (c : Bool), d.drop k = l → L.length = d.length → (∀ j, 0 ≤ nth L j ∧ nth L j ≤ (d.length : Int)) →
      forL f e l k (L, c) = (match crounds (edgesD d) d.length (List.range' k l.length) (c, L) with
        | none => .ret (.ret ([], false))
        | some s => .brk (s.2, s.1))
  | [], k, L, c, _, _, _ => by simp [forL, crounds, he]
  | a :: l, k, L, c, hl, hlen, hL => by
    have hk : d[k]? = some a := by
      have := congrArg (·[0]?) hl
      simpa using this
    have hkl : k < d.length := (List.getElem?_eq_some_iff.1 hk).1
    have ha : nth d k = a := nth_of hk
    have hrest : d.drop (k + 1) = l := by rw [← List.drop_drop, hl]; rfl
    have hb : ∀ j, 0 ≤ nth L j ∧ nth L j ≤ 1000000 := fun j => by have := hL j; omega
    have hM : leastD d a L = need (edgesD d k) L := by rw [← ha]; exact least_eq hb hkl
    simp only [forL, hf k a (L, c), List.length_cons, List.range'_succ, crounds, hM]
    by_cases h1 : (d.length : Int) < need (edgesD d k) L
    · rw [decide_eq_true (show need (edgesD d k) L > (d.length : Int) from h1), cond_true, if_pos h1]
    · rw [decide_eq_false (show ¬ need (edgesD d k) L > (d.length : Int) from h1), cond_false, if_neg h1]
      by_cases h2 : nth L k < need (edgesD d k) L
      · rw [decide_eq_true (show need (edgesD d k) L > nth L k from h2), cond_true, if_pos h2]
        refine climb_round hf he hd l (k + 1) _ true hrest (by rw [List.length_set]; exact hlen) fun j => ?_
        have h0 := need_nonneg (edgesD d k) L
        rw [nth_set _ _ (by omega)]
        split
        · omega
        · exact hL j
      · rw [decide_eq_false (show ¬ need (edgesD d k) L > nth L k from h2), cond_false, if_neg h2]
        exact climb_round hf he hd l (k + 1) L c hrest hlen hL
def endD : Option (List Int) → Out (List Int × Bool) (List Int)
  | none => .ret ([], false)
  | some L => .brk L
def LoopOk (d : List DirD) (f : StepD) (e : Nat → List Int × Bool → List Int × Bool) (F : List Int × Bool → Rd (List Int × Bool) (List Int × Bool) (List Int)) : Prop := ∀ s, F s = bif s.2 then (Out.on (forL f e d 0 (s.1, false)) fun y1 => .next (y1.1, y1.2)) else .brk s.1
theorem whl_climb {d : List DirD} {f : StepD} {e : Nat → List Int × Bool → List Int × Bool} {F : List Int × Bool → Rd (List Int × Bool) (List Int × Bool) (List Int)} (hf : StepOk d f) (he : ∀ k s, e k s = s) (hF : LoopOk d f e F) (hd : d.length ≤ 1000000) :
    ∀ (n : Nat) (L : List Int) (c : Bool), L.length = d.length → (∀ j, 0 ≤ nth L j ∧ nth L j ≤ (d.length : Int)) → whl F n (L, c) = (climb (edgesD d) d.length d.length n (c, L)).map endD
  | 0, L, c, _, _ => rfl
  | n + 1, L, false, _, _ => by
    simp only [whl, hF (L, false), cond_false, climb]
    rfl
  | n + 1, L, true, hlen, hL => by
    have hr := climb_round hf he hd d 0 L false rfl hlen hL
    have e1 : List.range' 0 d.length = List.range d.length := (List.range_eq_range' ..).symm
    rw [e1] at hr
    simp only [whl, hF (L, true), cond_true, hr, climb]
    cases hc : crounds (edgesD d) d.length (List.range d.length) (false, L) with
    | none => rfl
    | some s =>
      obtain ⟨h1, _, _, h4⟩ := crounds_some (List.range d.length) false L s (fun i hi => by rw [hlen]; exact range_lt hi) hc
      have := whl_climb hf he hF hd n s.2 s.1 (by rw [h1, rounds_len, hlen]) fun j => ⟨by rw [h1]; exact Int.le_trans (hL j).1 (rounds_ge (edgesD d) j _ L), h4 (fun j => (hL j).2) j⟩
      exact this
theorem zeroL_ok (n : Nat) : (List.replicate n (0 : Int)).length = n ∧ ∀ j, 0 ≤ nth (List.replicate n (0 : Int)) j ∧ nth (List.replicate n (0 : Int)) j ≤ (n : Int) :=
  ⟨by simp, fun j => by rw [nth_zero]; omega⟩
theorem strata_some {d : List DirD} {f : StepD} {e : Nat → List Int × Bool → List Int × Bool} {F : List Int × Bool → Rd (List Int × Bool) (List Int × Bool) (List Int)} (hf : StepOk d f) (he : ∀ k s, e k s = s) (hF : LoopOk d f e F) (hd : d.length ≤ 1000000) :
    (whl F (List.length d * List.length d + 3) (List.replicate (Int.toNat (d.length : Int)) (0 : Int), true)).isSome = true := by
  rw [Int.toNat_natCast, whl_climb hf he hF hd _ _ _ (zeroL_ok _).1 (zeroL_ok _).2, Option.isSome_map]
  refine climb_some _ _ _ (zeroL_ok _).1 (fun j => ((zeroL_ok _).2 j).2) ?_
  have : ((List.length d * List.length d + 3 : Nat) : Int) = (d.length : Int) * (d.length : Int) + 3 := by rw [Int.natCast_add, Int.natCast_mul]; rfl
  have h0 : (List.replicate d.length (0 : Int)).sum = 0 := by simp
  rw [this, h0]
  omega
end Go.Proofs.YtnhmnfmhnepjmaaGreat
