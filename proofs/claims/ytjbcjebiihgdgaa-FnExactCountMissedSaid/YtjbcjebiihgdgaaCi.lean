/- slices.Clone of integers. -/
import Derived.Test.YtjbcjebiihgdgaaFk
import Derived.Test.YtjbcjebiihgdgaaProg
import Derived.Outline
import Derived.Lib.SliceRun
namespace Go.Proofs.Ytjbcjebiihgdgaa
open Go.RowKit
open GoD (rd own)
theorem cloneInt_c (w : World) (v : Value) (l : List Int) (ha : rd w [v] l) (hl : l.length ≤ 1073741824) : Calls Try.prog 83 #[v] w (RetS w l) := by
  have HA := Lib.hid ha
  obtain ⟨oa, cap, e, hlc, hm, hel⟩ := ha
  obtain rfl : v = _ := by simpa using e
  clear e
  have q22 : ∀ (w : World) (a : Option Addr) (n c n' c' : Nat), (binOp .eql 29 (.slice a n c) (.slice none n' c')).run Try.prog w = .ok (.bool a.isNone) w := fun w a n c n' c' => Lib.run_eql_slice_nil w _ _ a n c n' c' Try.underlying29
  cases oa with
  | none =>
    have hnil : l = [] := by
      cases l with
      | nil => rfl
      | cons a l => obtain ⟨b, off, ce, h, _⟩ := hel 0 a rfl; cases h
    clear hel
    subst hnil
    go_enter Try.func83, Try.ntmps83
    go_wp2
    go_ret
    all_goals exact ⟨_, [], rfl, Below.refl _ _, ⟨by simp, .inl ⟨rfl, rfl, _, rfl⟩⟩, by simp⟩
  | some ad =>
    clear hel
    go_enter Try.func83, Try.ntmps83
    go_wp2_with (at_builtin; refine wpList_appAll (α := Int) _ _ 29 3 plain_int w.heap.size (rd_below HA.out (by go_grown)) hl (heap_alloc_new w _) rfl rfl Try.underlying29 (by kernel_rfl) rfl rfl ?_; intro v2 w2 L2 ho2 hx2 hL2)
    go_ret
    have hb : Below w.heap.size w w2 := below_via (show Below w.heap.size w _ by go_grown) hx2
    exact ⟨v2, L2, rfl, hb, ho2, fun b hb' => by have := (hL2 b hb').1; simp only [World.size_alloc] at this; omega⟩
end Go.Proofs.Ytjbcjebiihgdgaa
