/- Ascending lists: impl.isAscending, spec.l17Rise. -/
import Derived.Test.YtonniokonadkfaaIs
import Derived.Test.YtonniokonadkfaaReg
namespace Go.Proofs.Ytonniokonadkfaa
open Go.RowKit
open GoD (rd own)
def riseB (l : List Int) : Bool := (List.range (l.length - 1)).all fun j => decide (l.getD j 0 < l.getD (j + 1) 0)
theorem riseB_true {l : List Int} (h : ∀ j a b, l[j]? = some a → l[j + 1]? = some b → a < b) : riseB l = true := by
  unfold riseB
  rw [List.all_eq_true]
  intro j hj
  have hj' : j < l.length - 1 := List.mem_range.1 hj
  have h1 : l[j]? = some l[j] := List.getElem?_eq_getElem (by omega)
  have h2 : l[j + 1]? = some l[j + 1] := List.getElem?_eq_getElem (by omega)
  have := h j _ _ h1 h2
  simp only [List.getD_eq_getElem?_getD, h1, h2, Option.getD_some, decide_eq_true_eq]
  exact this
theorem riseB_false {l : List Int} {j : Nat} {a b : Int} (h1 : l[j]? = some a) (h2 : l[j + 1]? = some b) (h : ¬ a < b) : riseB l = false := by
  cases hr : riseB l with
  | false => rfl
  | true =>
    unfold riseB at hr
    rw [List.all_eq_true] at hr
    have hlt : j + 1 < l.length := (List.getElem?_eq_some_iff.1 h2).1
    have := hr j (List.mem_range.2 (by omega))
    simp only [List.getD_eq_getElem?_getD, h1, h2, Option.getD_some, decide_eq_true_eq] at this
    exact absurd this h
set_option maxHeartbeats 2000000 in
theorem l17Rise_c (w : World) (v : Value) (l : List Int) (ha : rd w [v] l) : Calls Try.prog 34 #[v] w (Ret w (.bool (riseB l))) := by
  obtain ⟨oa, cap, rfl⟩ := slice_of_rd ha
  have hn := len_of_rd ha
  have hcs := rd_ints ha
  clear ha
  have hT : (∀ j a b, l[j]? = some a → l[j + 1]? = some b → a < b) → riseB l = true := riseB_true
  have hF : ∀ j a b, l[j]? = some a → l[j + 1]? = some b → ¬ a < b → riseB l = false := fun j a b h1 h2 h => riseB_false h1 h2 h
  generalize riseB l = r at *
  have HT := Lib.hid hT; clear hT
  have HF := Lib.hid hF; clear hF
  go_enter Try.func34, Try.ntmps34
  go_wp2
  go_loopw [3] (fun i wr => ∃ k : Nat, (k + 1 ≤ l.length ∨ k = 0) ∧ i = .int .i64 ((k : Int) + 1) ∧ Below w.heap.size w wr ∧ Hid (∀ j a b, j < k → l[j]? = some a → l[j + 1]? = some b → a < b)) (fun i _ => l.length - (intOf i).toNat)
  case atStart => exact ⟨0, .inr rfl, rfl, Below.refl _ _, Lib.hid (fun j _ _ hj => absurd hj (Nat.not_lt_zero _))⟩
  case round =>
    obtain ⟨k, hk, rfl, hB, hlow⟩ := hrel
    have hsz := hB.size
    by_cases hkl : k + 1 < l.length
    · have hx := List.getElem?_eq_getElem (show k < l.length by omega)
      have hy := List.getElem?_eq_getElem hkl
      generalize l[k] = x at hx
      generalize l[k + 1] = y at hy
      obtain ⟨b, off, rfl, hcx, hcy⟩ : ∃ b off, oa = some ⟨b, off, none⟩ ∧ w.cell? ⟨b, off + k, none⟩ = some (.int .i64 x) ∧ w.cell? ⟨b, off + (k + 1), none⟩ = some (.int .i64 y) := by
        rcases hcs with rfl | ⟨b, off, rfl, hc⟩
        · simp at hkl
        · exact ⟨b, off, rfl, int_at hc hx, int_at hc hy⟩
      have hblt : b < w.heap.size := World.block_lt_of_cell? w _ hcx
      have xc : wr.cell? ⟨b, off + k, none⟩ = some (.int .i64 x) := (hB.cell hblt).trans hcx
      have yc : wr.cell? ⟨b, off + (k + 1), none⟩ = some (.int .i64 y) := (hB.cell hblt).trans hcy
      clear hcx hcy
      have hbl : b < wr.heap.size := by omega
      have HXX := Lib.hid hx; clear hx
      have HYY := Lib.hid hy; clear hy
      clear hcs
      have hki : (k : Int) + 1 < (l.length : Int) := by omega
      have hk0 : k < l.length := by omega
      have hk1 : 0 ≤ (k : Int) + 1 := by omega
      have hwk : IntKind.i64.wrap (k : Int) = (k : Int) := by rw [IntKind.wrap_i64]; omega
      by_cases hlt : x < y
      · have HLT := Lib.hid hlt
        go_wp2_with (((with_reducible refine wp_region_pl [.look 0, .look 1, .look 2, .look 3, .look 4, .look 5, .look 6, .look 7, .look 8, .look 9] (by kernel_rfl) (by kernel_rfl) ?_); refine wpMix_look rfl rfl (fun _ _ _ _ h => h) (fun K hK hcell => ?_); have g0 := hcell (b) (by go_size); clear hcell; go_simp; refine hK _ ?_; clear hK K g0; refine wpMix_look rfl rfl (fun _ _ _ _ h => h) (fun K hK hcell => ?_); have g0 := hcell (b) (by go_size); clear hcell; go_simp; refine hK _ ?_; clear hK K g0; refine wpMix_look rfl rfl (fun _ _ _ _ h => h) (fun K hK hcell => ?_); have g0 := hcell (b) (by go_size); clear hcell; go_simp; refine hK _ ?_; clear hK K g0; refine wpMix_look rfl rfl (fun _ _ _ _ h => h) (fun K hK hcell => ?_); have g0 := hcell (b) (by go_size); clear hcell; go_simp; refine hK _ ?_; clear hK K g0; refine wpMix_look rfl rfl (fun _ _ _ _ h => h) (fun K hK hcell => ?_); have g0 := hcell (b) (by go_size); clear hcell; go_simp; refine hK _ ?_; clear hK K g0; refine wpMix_look rfl rfl (fun _ _ _ _ h => h) (fun K hK hcell => ?_); have g0 := hcell (b) (by go_size); clear hcell; go_simp; refine hK _ ?_; clear hK K g0; refine wpMix_look rfl rfl (fun _ _ _ _ h => h) (fun K hK hcell => ?_); have g0 := hcell (b) (by go_size); clear hcell; go_simp; refine hK _ ?_; clear hK K g0; refine wpMix_look rfl rfl (fun _ _ _ _ h => h) (fun K hK hcell => ?_); have g0 := hcell (b) (by go_size); clear hcell; go_simp; refine hK _ ?_; clear hK K g0; refine wpMix_look rfl rfl (fun _ _ _ _ h => h) (fun K hK hcell => ?_); have g0 := hcell (b) (by go_size); clear hcell; go_simp; refine hK _ ?_; clear hK K g0; refine wpMix_look rfl rfl (fun _ _ _ _ h => h) (fun K hK hcell => ?_); have g0 := hcell (b) (by go_size); clear hcell; go_simp; refine hK _ ?_; clear hK K g0; refine wpMix_nil ?_))
        go_roundw
        case rel => exact ⟨k + 1, by omega, by go_num, by go_grown, Lib.hid (fun j a c hj h1 h2 => by
          by_cases e : j = k
          · subst e
            rw [HXX.out] at h1
            rw [HYY.out] at h2
            cases h1
            cases h2
            exact HLT.out
          · exact hlow.out j a c (by omega) h1 h2)⟩
        case measure => simp [intOf]; omega
      · obtain rfl : r = false := HF.out k x y HXX.out HYY.out (by omega)
        clear HF HT
        go_wp2_with (((with_reducible refine wp_region_pl [.look 0, .look 1, .look 2, .look 3, .look 4, .look 5, .look 6, .look 7, .look 8, .look 9] (by kernel_rfl) (by kernel_rfl) ?_); refine wpMix_look rfl rfl (fun _ _ _ _ h => h) (fun K hK hcell => ?_); have g0 := hcell (b) (by go_size); clear hcell; go_simp; refine hK _ ?_; clear hK K g0; refine wpMix_look rfl rfl (fun _ _ _ _ h => h) (fun K hK hcell => ?_); have g0 := hcell (b) (by go_size); clear hcell; go_simp; refine hK _ ?_; clear hK K g0; refine wpMix_look rfl rfl (fun _ _ _ _ h => h) (fun K hK hcell => ?_); have g0 := hcell (b) (by go_size); clear hcell; go_simp; refine hK _ ?_; clear hK K g0; refine wpMix_look rfl rfl (fun _ _ _ _ h => h) (fun K hK hcell => ?_); have g0 := hcell (b) (by go_size); clear hcell; go_simp; refine hK _ ?_; clear hK K g0; refine wpMix_look rfl rfl (fun _ _ _ _ h => h) (fun K hK hcell => ?_); have g0 := hcell (b) (by go_size); clear hcell; go_simp; refine hK _ ?_; clear hK K g0; refine wpMix_look rfl rfl (fun _ _ _ _ h => h) (fun K hK hcell => ?_); have g0 := hcell (b) (by go_size); clear hcell; go_simp; refine hK _ ?_; clear hK K g0; refine wpMix_look rfl rfl (fun _ _ _ _ h => h) (fun K hK hcell => ?_); have g0 := hcell (b) (by go_size); clear hcell; go_simp; refine hK _ ?_; clear hK K g0; refine wpMix_look rfl rfl (fun _ _ _ _ h => h) (fun K hK hcell => ?_); have g0 := hcell (b) (by go_size); clear hcell; go_simp; refine hK _ ?_; clear hK K g0; refine wpMix_look rfl rfl (fun _ _ _ _ h => h) (fun K hK hcell => ?_); have g0 := hcell (b) (by go_size); clear hcell; go_simp; refine hK _ ?_; clear hK K g0; refine wpMix_look rfl rfl (fun _ _ _ _ h => h) (fun K hK hcell => ?_); have g0 := hcell (b) (by go_size); clear hcell; go_simp; refine hK _ ?_; clear hK K g0; refine wpMix_nil ?_))
        go_ret
        exact ⟨rfl, by go_grown⟩
    · have hki : ¬ (k : Int) + 1 < (l.length : Int) := by omega
      have hr : r = true := HT.out (fun j a c h1 h2 => hlow.out j a c (by have := (List.getElem?_eq_some_iff.1 h2).1; omega) h1 h2)
      subst hr
      clear hcs
      go_wp2
      go_ret
      exact ⟨rfl, by go_grown⟩
theorem l17Rise_b (w : World) (v : Value) (l : List Int) (r : Bool) (ha : rd w [v] l) (hr : riseB l = r) : Calls Try.prog 34 #[v] w (Ret w (.bool r)) := hr ▸ l17Rise_c w v l ha
set_option maxHeartbeats 2000000 in
theorem isAscending_c (w : World) (v : Value) (l : List Int) (ha : rd w [v] l) : Calls Try.prog 38 #[v] w (Ret w (.bool (riseB l))) := by
  obtain ⟨oa, cap, rfl⟩ := slice_of_rd ha
  have hn := len_of_rd ha
  have hcs := rd_ints ha
  clear ha
  have hT : (∀ j a b, l[j]? = some a → l[j + 1]? = some b → a < b) → riseB l = true := riseB_true
  have hF : ∀ j a b, l[j]? = some a → l[j + 1]? = some b → ¬ a < b → riseB l = false := fun j a b h1 h2 h => riseB_false h1 h2 h
  generalize riseB l = r at *
  have HT := Lib.hid hT; clear hT
  have HF := Lib.hid hF; clear hF
  go_enter Try.func38, Try.ntmps38
  go_wp2
  go_loopw [3] (fun i wr => ∃ k : Nat, (k + 1 ≤ l.length ∨ k = 0) ∧ i = .int .i64 ((k : Int) + 1) ∧ Below w.heap.size w wr ∧ Hid (∀ j a b, j < k → l[j]? = some a → l[j + 1]? = some b → a < b)) (fun i _ => l.length - (intOf i).toNat)
  case atStart => exact ⟨0, .inr rfl, rfl, Below.refl _ _, Lib.hid (fun j _ _ hj => absurd hj (Nat.not_lt_zero _))⟩
  case round =>
    obtain ⟨k, hk, rfl, hB, hlow⟩ := hrel
    have hsz := hB.size
    by_cases hkl : k + 1 < l.length
    · have hx := List.getElem?_eq_getElem (show k < l.length by omega)
      have hy := List.getElem?_eq_getElem hkl
      generalize l[k] = x at hx
      generalize l[k + 1] = y at hy
      obtain ⟨b, off, rfl, hcx, hcy⟩ : ∃ b off, oa = some ⟨b, off, none⟩ ∧ w.cell? ⟨b, off + k, none⟩ = some (.int .i64 x) ∧ w.cell? ⟨b, off + (k + 1), none⟩ = some (.int .i64 y) := by
        rcases hcs with rfl | ⟨b, off, rfl, hc⟩
        · simp at hkl
        · exact ⟨b, off, rfl, int_at hc hx, int_at hc hy⟩
      have hblt : b < w.heap.size := World.block_lt_of_cell? w _ hcx
      have xc : wr.cell? ⟨b, off + k, none⟩ = some (.int .i64 x) := (hB.cell hblt).trans hcx
      have yc : wr.cell? ⟨b, off + (k + 1), none⟩ = some (.int .i64 y) := (hB.cell hblt).trans hcy
      clear hcx hcy
      have hbl : b < wr.heap.size := by omega
      have HXX := Lib.hid hx; clear hx
      have HYY := Lib.hid hy; clear hy
      clear hcs
      have hki : (k : Int) + 1 < (l.length : Int) := by omega
      have hk0 : k < l.length := by omega
      have hk1 : 0 ≤ (k : Int) + 1 := by omega
      have hwk : IntKind.i64.wrap (k : Int) = (k : Int) := by rw [IntKind.wrap_i64]; omega
      by_cases hlt : x < y
      · have HLT := Lib.hid hlt
        go_wp2_with (((with_reducible refine wp_region_pl [.look 0, .look 1, .look 2, .look 3, .look 4, .look 5, .look 6, .look 7, .look 8, .look 9] (by kernel_rfl) (by kernel_rfl) ?_); refine wpMix_look rfl rfl (fun _ _ _ _ h => h) (fun K hK hcell => ?_); have g0 := hcell (b) (by go_size); clear hcell; go_simp; refine hK _ ?_; clear hK K g0; refine wpMix_look rfl rfl (fun _ _ _ _ h => h) (fun K hK hcell => ?_); have g0 := hcell (b) (by go_size); clear hcell; go_simp; refine hK _ ?_; clear hK K g0; refine wpMix_look rfl rfl (fun _ _ _ _ h => h) (fun K hK hcell => ?_); have g0 := hcell (b) (by go_size); clear hcell; go_simp; refine hK _ ?_; clear hK K g0; refine wpMix_look rfl rfl (fun _ _ _ _ h => h) (fun K hK hcell => ?_); have g0 := hcell (b) (by go_size); clear hcell; go_simp; refine hK _ ?_; clear hK K g0; refine wpMix_look rfl rfl (fun _ _ _ _ h => h) (fun K hK hcell => ?_); have g0 := hcell (b) (by go_size); clear hcell; go_simp; refine hK _ ?_; clear hK K g0; refine wpMix_look rfl rfl (fun _ _ _ _ h => h) (fun K hK hcell => ?_); have g0 := hcell (b) (by go_size); clear hcell; go_simp; refine hK _ ?_; clear hK K g0; refine wpMix_look rfl rfl (fun _ _ _ _ h => h) (fun K hK hcell => ?_); have g0 := hcell (b) (by go_size); clear hcell; go_simp; refine hK _ ?_; clear hK K g0; refine wpMix_look rfl rfl (fun _ _ _ _ h => h) (fun K hK hcell => ?_); have g0 := hcell (b) (by go_size); clear hcell; go_simp; refine hK _ ?_; clear hK K g0; refine wpMix_look rfl rfl (fun _ _ _ _ h => h) (fun K hK hcell => ?_); have g0 := hcell (b) (by go_size); clear hcell; go_simp; refine hK _ ?_; clear hK K g0; refine wpMix_look rfl rfl (fun _ _ _ _ h => h) (fun K hK hcell => ?_); have g0 := hcell (b) (by go_size); clear hcell; go_simp; refine hK _ ?_; clear hK K g0; refine wpMix_nil ?_))
        go_roundw
        case rel => exact ⟨k + 1, by omega, by go_num, by go_grown, Lib.hid (fun j a c hj h1 h2 => by
          by_cases e : j = k
          · subst e
            rw [HXX.out] at h1
            rw [HYY.out] at h2
            cases h1
            cases h2
            exact HLT.out
          · exact hlow.out j a c (by omega) h1 h2)⟩
        case measure => simp [intOf]; omega
      · obtain rfl : r = false := HF.out k x y HXX.out HYY.out (by omega)
        clear HF HT
        go_wp2_with (((with_reducible refine wp_region_pl [.look 0, .look 1, .look 2, .look 3, .look 4, .look 5, .look 6, .look 7, .look 8, .look 9] (by kernel_rfl) (by kernel_rfl) ?_); refine wpMix_look rfl rfl (fun _ _ _ _ h => h) (fun K hK hcell => ?_); have g0 := hcell (b) (by go_size); clear hcell; go_simp; refine hK _ ?_; clear hK K g0; refine wpMix_look rfl rfl (fun _ _ _ _ h => h) (fun K hK hcell => ?_); have g0 := hcell (b) (by go_size); clear hcell; go_simp; refine hK _ ?_; clear hK K g0; refine wpMix_look rfl rfl (fun _ _ _ _ h => h) (fun K hK hcell => ?_); have g0 := hcell (b) (by go_size); clear hcell; go_simp; refine hK _ ?_; clear hK K g0; refine wpMix_look rfl rfl (fun _ _ _ _ h => h) (fun K hK hcell => ?_); have g0 := hcell (b) (by go_size); clear hcell; go_simp; refine hK _ ?_; clear hK K g0; refine wpMix_look rfl rfl (fun _ _ _ _ h => h) (fun K hK hcell => ?_); have g0 := hcell (b) (by go_size); clear hcell; go_simp; refine hK _ ?_; clear hK K g0; refine wpMix_look rfl rfl (fun _ _ _ _ h => h) (fun K hK hcell => ?_); have g0 := hcell (b) (by go_size); clear hcell; go_simp; refine hK _ ?_; clear hK K g0; refine wpMix_look rfl rfl (fun _ _ _ _ h => h) (fun K hK hcell => ?_); have g0 := hcell (b) (by go_size); clear hcell; go_simp; refine hK _ ?_; clear hK K g0; refine wpMix_look rfl rfl (fun _ _ _ _ h => h) (fun K hK hcell => ?_); have g0 := hcell (b) (by go_size); clear hcell; go_simp; refine hK _ ?_; clear hK K g0; refine wpMix_look rfl rfl (fun _ _ _ _ h => h) (fun K hK hcell => ?_); have g0 := hcell (b) (by go_size); clear hcell; go_simp; refine hK _ ?_; clear hK K g0; refine wpMix_look rfl rfl (fun _ _ _ _ h => h) (fun K hK hcell => ?_); have g0 := hcell (b) (by go_size); clear hcell; go_simp; refine hK _ ?_; clear hK K g0; refine wpMix_nil ?_))
        go_ret
        exact ⟨rfl, by go_grown⟩
    · have hki : ¬ (k : Int) + 1 < (l.length : Int) := by omega
      have hr : r = true := HT.out (fun j a c h1 h2 => hlow.out j a c (by have := (List.getElem?_eq_some_iff.1 h2).1; omega) h1 h2)
      subst hr
      clear hcs
      go_wp2
      go_ret
      exact ⟨rfl, by go_grown⟩
theorem isAscending_b (w : World) (v : Value) (l : List Int) (r : Bool) (ha : rd w [v] l) (hr : riseB l = r) : Calls Try.prog 38 #[v] w (Ret w (.bool r)) := hr ▸ isAscending_c w v l ha
end Go.Proofs.Ytonniokonadkfaa
