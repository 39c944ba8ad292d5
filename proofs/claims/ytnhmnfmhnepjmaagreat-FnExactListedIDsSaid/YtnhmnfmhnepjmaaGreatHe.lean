/- The laws' functions that look whether the marks still stand. -/
import Derived.Test.YtnhmnfmhnepjmaaGreatMa
set_option linter.unusedVariables false
set_option linter.unusedSimpArgs false
namespace Go.Proofs.YtnhmnfmhnepjmaaGreat
open Go.RowKit
open GoD (rd own)
set_option maxRecDepth 100000 in
set_option maxHeartbeats 1000000 in
theorem heldIntS_c (w : World) (v : Value) (l l' : List Int) (K : Int) (k : Nat) (hK : K = k) (h1 : 1 ≤ k) (hk : (markS l k).2 ≤ 4611686018427387904) (hl' : l' = (markS l k).1) (ha : rd w [v] l') : Calls Tryz.prog 19 #[v, .int .i64 K] w (Ret w (.int .i64 ((markS l k).2 : Nat))) := by
  subst hK hl'
  obtain ⟨oa, cap, e1, hl, hm, hel⟩ := ha
  obtain rfl : v = _ := by simpa using e1
  clear e1
  have HE := Lib.hid hel; clear hel
  rw [markS_length] at hl ⊢
  unfold maxLen at hm
  have hlm : l.length ≤ 9223372036854775807 := by omega
  generalize hfin : (markS l k).2 = fin at *
  have HF := Lib.hid hfin; clear hfin
  go_enter Tryz.func19, Tryz.ntmps19
  go_wp2
  go_loopw [1, 5] (fun q i wr => ∃ j : Nat, j ≤ l.length ∧ i = .int .i64 j ∧ q = .int .i64 ((markS (l.take j) k).2 : Nat) ∧ Below w.heap.size w wr) (fun _ i _ => l.length - (intOf i).toNat)
  case atStart => exact ⟨0, Nat.zero_le _, rfl, rfl, Below.refl _ _⟩
  case round =>
    obtain ⟨j, hj, rfl, rfl, hB⟩ := hrel
    by_cases hjl : j < l.length
    · have hx := List.getElem?_eq_getElem hjl
      have hsp := mark_split l k j _ hx
      have hle := Nat.le_trans (mark_take_le l k j _ hx) (Nat.le_trans (Nat.le_of_eq HF.out) hk)
      have hkk : k ≤ (markS (l.take j) k).2 := markS_le _ _
      obtain ⟨eb, eo, ee, rfl, hcl, hcc, hxr⟩ := HE.out j _ (markS_get l k j _ hx)
      clear hx
      generalize (markS (l.take j) k).2 = kk at *
      generalize (markS (l.take j) k).1 = xs at *
      generalize l[j] = x at *
      have HSP : Hid (_ = (xs ++ [((((kk : Nat) : Int) : Int))], kk + 1)) := hsp
      clear hsp
      have hle : kk + 1 ≤ 4611686018427387904 := hle
      have hxr : rd w ee (((kk : Nat) : Int) : Int) := hxr
      obtain ⟨rfl, _⟩ := hxr
      have q0 : w.cell? ⟨eb, eo + j, none⟩ = some (.int .i64 ((kk : Nat) : Int)) := by have h0 := hcc 0 _ rfl; simp only [GoD.n, Nat.mul_one, Nat.add_zero] at h0; exact h0
      have HQ := Lib.hid (show True from trivial)
      have Q0 := Lib.hid q0; clear q0
      have p0_0 := (hB.cell (World.block_lt_of_cell? w _ Q0.out)).trans Q0.out
      clear hcc hcl
      have hz0 := hB.size
      go_wp2
      first
      | exact ⟨⟨j + 1, by omega, by go_num, by (show Value.int _ _ = _; rw [HSP.out]; try (show Value.int .i64 _ = .int .i64 ((kk + 1 : Nat) : Int); first | go_num | (congr 1 <;> omega))), hB⟩, by simp [intOf]; omega⟩
      | (go_roundw; (case measure => simp [intOf]; omega); (case rel => exact ⟨j + 1, by omega, by go_num, by (show Value.int _ _ = _; rw [HSP.out]; try (show Value.int .i64 _ = .int .i64 ((kk + 1 : Nat) : Int); first | go_num | (congr 1 <;> omega))), hB⟩))
    · obtain rfl : j = l.length := by omega
      have hf := HF.out
      rw [List.take_length] at *
      rw [hf] at *
      have HF2 := Lib.hid hf; clear hf
      go_wp2
      go_ret
      exact ⟨rfl, hB⟩
end Go.Proofs.YtnhmnfmhnepjmaaGreat
