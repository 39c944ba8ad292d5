/- Cells stored into a row: what the row shows behind it. No program in sight. -/
import Derived.Test.YtjkfmihbmkbjfaaGreatPe
namespace Go.Proofs.YtjkfmihbmkbjfaaGreat
open Go.RowKit

section
variable {X : Nat → Prop} {w w' : World}
theorem OC.cut : ∀ (k : Nat) {L : List Nat} {vs : List Value} {ps : List PV}, OC w L vs ps → ∃ L1 L2, L = L1 ++ L2 ∧ OC w L1 (vs.take k) (ps.take k) ∧ OC w L2 (vs.drop k) (ps.drop k)
  | 0, L, _, _, h => ⟨[], L, rfl, .nil, h⟩
  | _ + 1, _, _, _, .nil => ⟨[], [], rfl, .nil, .nil⟩
  | k + 1, _, _, _, .cons h1 h2 => by
    obtain ⟨L1, L2, rfl, h3, h4⟩ := OC.cut k h2
    exact ⟨_ ++ L1, L2, (List.append_assoc _ _ _).symm, .cons h1 h3, h4⟩
/-- the cells of a row list with some of them stored anew -/
def spliceL (cs : List Value) (p : Nat) (vs : List Value) : List Value := cs.take p ++ vs ++ cs.drop (p + vs.length)
theorem spliceL_app {ce cs vs : List Value} {p : Nat} : spliceL (ce ++ cs) (ce.length + p) vs = ce ++ spliceL cs p vs := by
  unfold spliceL
  rw [List.take_length_add_append, Nat.add_assoc, List.drop_length_add_append]
  simp
theorem spliceL_in {ce cs vs : List Value} {p : Nat} (h : p + vs.length ≤ ce.length) : spliceL (ce ++ cs) p vs = spliceL ce p vs ++ cs := by
  unfold spliceL
  rw [List.take_append_of_le_length (by omega), List.drop_append_of_le_length (by omega)]
  simp
theorem VR.put {vs : List Value} {ps : List PV} (hv : VC X w vs ps) {o : Nat} : ∀ {n : Nat} {cs : List Value} {l : List (List PV)}, o + ps.length ≤ n → VR X w n cs l → ∀ i, VR X w n (if i < l.length then spliceL cs (i * n + o) vs else cs) (setRow l i o ps)
  | _, _, _, _, .nil n, i => by simp only [List.length_nil, Nat.not_lt_zero, if_false, setRow]; exact .nil n
  | n, _, _, ho, .cons (ce := ce) (cs := cs) (r := r) (l := l) h1 h2 h3, 0 => by
    have e1 := VC.length hv
    have e2 := VC.length h1
    simp only [List.length_cons, Nat.zero_lt_succ, if_true, setRow, Nat.zero_mul, Nat.zero_add]
    rw [spliceL_in (by omega)]
    refine .cons ?_ (by simp; omega) h3
    unfold spliceL
    rw [e1]
    exact VC.append (VC.drop _ h1) (VC.append hv (VC.take _ h1))
  | n, _, _, ho, .cons (ce := ce) (cs := cs) (r := r) (l := l) h1 h2 h3, i + 1 => by
    have e2 := VC.length h1
    have ih := VR.put hv ho h3 i
    simp only [List.length_cons, Nat.add_lt_add_iff_right, setRow]
    by_cases hi : i < l.length
    · rw [if_pos hi] at ih ⊢
      have : (i + 1) * n + o = ce.length + (i * n + o) := by rw [e2, h2, Nat.add_mul, Nat.one_mul]; omega
      rw [this, spliceL_app]
      exact .cons h1 h2 ih
    · rw [if_neg hi] at ih ⊢
      exact .cons h1 h2 ih
theorem OR.put {Lv : List Nat} {vs : List Value} {ps : List PV} (hv : OC w Lv vs ps) (hnv : Lv.Nodup) {o : Nat} : ∀ {n : Nat} {L : List Nat} {cs : List Value} {l : List (List PV)}, o + ps.length ≤ n → OR w n L cs l → L.Nodup → (∀ b, b ∈ L → b ∉ Lv) → ∀ i,
    ∃ L', OR w n L' (if i < l.length then spliceL cs (i * n + o) vs else cs) (setRow l i o ps) ∧ L'.Nodup ∧ ∀ b, b ∈ L' → b ∈ L ∨ b ∈ Lv
  | _, _, _, _, _, .nil n, _, _, i => by simp only [List.length_nil, Nat.not_lt_zero, if_false, setRow]; exact ⟨[], .nil n, List.nodup_nil, fun b hb => by simp at hb⟩
  | n, _, _, _, ho, .cons (ce := ce) (cs := cs) (r := r) (l := l) (L1 := L1) (L2 := L2) h1 h2 h3, hnd, hdj, 0 => by
    have e1 := OC.length hv
    have e2 := OC.length h1
    obtain ⟨hn1, hn2, hn3⟩ := List.nodup_append.1 hnd
    simp only [List.length_cons, Nat.zero_lt_succ, if_true, setRow, Nat.zero_mul, Nat.zero_add]
    rw [spliceL_in (by omega)]
    obtain ⟨A1, A2, rfl, a1, a2⟩ := OC.cut o h1
    obtain ⟨M, B, rfl, _, b2⟩ := OC.cut vs.length a2
    rw [List.drop_drop, List.drop_drop] at b2
    obtain ⟨m1, m2, m3⟩ := List.nodup_append.1 hn1
    obtain ⟨q1, q2, q3⟩ := List.nodup_append.1 m2
    have hnew : OC w (A1 ++ (Lv ++ B)) (spliceL ce o vs) (r.take o ++ ps ++ r.drop (o + ps.length)) := by
      unfold spliceL
      rw [List.append_assoc, List.append_assoc, ← e1]
      exact OC.append (OC.append b2 hv) a1
    refine ⟨(A1 ++ (Lv ++ B)) ++ L2, .cons hnew (by simp; omega) h3, ?_, fun b hb => ?_⟩
    · have d1 : ∀ b, b ∈ A1 → b ∉ Lv := fun b hb => hdj b (by simp [hb])
      have d2 : ∀ b, b ∈ B → b ∉ Lv := fun b hb => hdj b (by simp [hb])
      have d3 : ∀ b, b ∈ L2 → b ∉ Lv := fun b hb => hdj b (by simp [hb])
      refine List.nodup_append.2 ⟨List.nodup_append.2 ⟨m1, List.nodup_append.2 ⟨hnv, q2, fun x hx y hy e => d2 y hy (e ▸ hx)⟩, fun x hx y hy e => ?_⟩, hn2, fun x hx y hy e => ?_⟩
      · subst e
        rcases List.mem_append.1 hy with hy | hy
        · exact d1 x hx hy
        · exact m3 x hx x (List.mem_append_right _ hy) rfl
      · subst e
        rcases List.mem_append.1 hx with hx | hx
        · exact hn3 x (List.mem_append_left _ hx) x hy rfl
        · rcases List.mem_append.1 hx with hx | hx
          · exact d3 x hy hx
          · exact hn3 x (List.mem_append_right _ (List.mem_append_right _ hx)) x hy rfl
    · simp only [List.mem_append] at hb ⊢
      rcases hb with (hb | hb | hb) | hb
      · exact .inl (.inl (.inl hb))
      · exact .inr hb
      · exact .inl (.inl (.inr (.inr hb)))
      · exact .inl (.inr hb)
  | n, _, _, _, ho, .cons (ce := ce) (cs := cs) (r := r) (l := l) (L1 := L1) (L2 := L2) h1 h2 h3, hnd, hdj, i + 1 => by
    have e2 := OC.length h1
    obtain ⟨hn1, hn2, hn3⟩ := List.nodup_append.1 hnd
    obtain ⟨L', ih1, ih2, ih3⟩ := OR.put hv hnv ho h3 hn2 (fun b hb => hdj b (List.mem_append_right _ hb)) i
    have hnd' : (L1 ++ L').Nodup := List.nodup_append.2 ⟨hn1, ih2, fun b hb b' hb' e => by
      subst e
      rcases ih3 b hb' with h | h
      · exact hn3 b hb b h rfl
      · exact hdj b (List.mem_append_left _ hb) h⟩
    have hsub : ∀ b, b ∈ L1 ++ L' → b ∈ L1 ++ L2 ∨ b ∈ Lv := fun b hb => by
      rcases List.mem_append.1 hb with hb | hb
      · exact .inl (List.mem_append_left _ hb)
      · exact (ih3 b hb).imp (List.mem_append_right _) id
    simp only [List.length_cons, Nat.add_lt_add_iff_right, setRow]
    by_cases hi : i < l.length
    · rw [if_pos hi] at ih1 ⊢
      have : (i + 1) * n + o = ce.length + (i * n + o) := by rw [e2, h2, Nat.add_mul, Nat.one_mul]; omega
      rw [this, spliceL_app]
      exact ⟨_, .cons h1 h2 ih1, hnd', hsub⟩
    · rw [if_neg hi] at ih1 ⊢
      exact ⟨_, .cons h1 h2 ih1, hnd', hsub⟩
end
end Go.Proofs.YtjkfmihbmkbjfaaGreat
