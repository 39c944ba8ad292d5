/- Bytes as plain data. No program in sight. -/
import Derived.Test.YtiafgmepdgfpbaaRd
set_option linter.unusedVariables false
set_option linter.unusedSimpArgs false
namespace Go.Proofs.Ytiafgmepdgfpbaa
open Go.RowKit
open GoD (rd own)
instance instGoDU8 : GoD UInt8 where
  n := 1
  rd _ cs a := cs = [.int .u8 (a.toNat : Int)]
  own L _ cs a := L = [] ∧ cs = [.int .u8 (a.toNat : Int)]
  size _ := 0
  mark a k := (a, k + 1)
  markT a k := (a, k)
  rd_len h := by rw [h]; rfl
  rd_same h _ := h
  own_same h _ := h
  own_rd h := h.2
  own_lt h := by rw [h.1]; simp
  own_nd h := by rw [h.1]; simp
  deq := inferInstance
  mk_le _ k := Nat.le_succ k
  mkT_le _ k := Nat.le_refl k
  lv := 1
  lvm := 0
  mk_bd _ k := by simp
  mkT_bd _ k := by simp
theorem Opens.u8 {P : Program} {t : TypeId} (ht : P.underlying t = some (.int .u8)) (hc : P.cellsOf t = 1) : Opens P t UInt8 := by
  refine ⟨hc, Nat.zero_lt_one, fun h => ?_⟩
  obtain ⟨n, rfl, _, hw⟩ := DataW.trod_int ht h
  simp only [Lit.wf, Bool.and_eq_true, decide_eq_true_eq] at hw
  have h1 : 0 ≤ n := hw.1
  have h2 : n ≤ 255 := hw.2
  refine ⟨UInt8.ofNat n.toNat, ?_⟩
  show [Value.int .u8 n] = [Value.int .u8 ((UInt8.ofNat n.toNat).toNat : Int)]
  have e : ((UInt8.ofNat n.toNat).toNat : Int) = n := by rw [UInt8.toNat_ofNat']; omega
  rw [e]
end Go.Proofs.Ytiafgmepdgfpbaa
