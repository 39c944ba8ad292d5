/- slices.Clone at the program's plain types. -/
import Derived.Test.YtiafgmepdgfpbaaFk
import Derived.Test.YtiafgmepdgfpbaaTy
import Derived.Test.YtiafgmepdgfpbaaZc
import Derived.Test.YtiafgmepdgfpbaaProg
import Derived.Outline
import Derived.Lib.SliceRun
import Derived.KernelRfl
set_option linter.unusedVariables false
set_option linter.unusedSimpArgs false
namespace Go.Proofs.Ytiafgmepdgfpbaa
open Go.RowKit
open GoD (rd own)
theorem cloneInt_c (w : World) (v : Value) (l : List Int) (ha : rd w [v] l) (hl : l.length ≤ 1073741824) : Calls Try.prog 35 #[v] w (RetS w l) := by
  have HA := Lib.hid ha
  obtain ⟨oa, cap, e, hlc, hm, hel⟩ := ha
  obtain rfl : v = _ := by simpa using e
  clear e
  have q22 : ∀ (w : World) (a : Option Addr) (n c n' c' : Nat), (binOp .eql 37 (.slice a n c) (.slice none n' c')).run Try.prog w = .ok (.bool a.isNone) w := fun w a n c n' c' => Lib.run_eql_slice_nil w _ _ a n c n' c' Try.underlying37
  cases oa with
  | none =>
    have hnil : l = [] := by
      cases l with
      | nil => rfl
      | cons a l => obtain ⟨b, off, ce, h, _⟩ := hel 0 a rfl; cases h
    clear hel
    subst hnil
    go_enter Try.func35, Try.ntmps35
    go_wp2
    go_ret
    all_goals exact ⟨_, [], rfl, Below.refl _ _, ⟨by simp, .inl ⟨rfl, rfl, _, rfl⟩⟩, by simp⟩
  | some ad =>
    clear hel
    go_enter Try.func35, Try.ntmps35
    go_wp2_with (at_builtin; refine wpList_appAll (α := Int) _ _ 37 3 plain_int w.heap.size (rd_below HA.out (by go_grown)) hl (heap_alloc_new w _) rfl rfl Try.underlying37 (by kernel_rfl) rfl rfl ?_; intro v2 w2 L2 ho2 hx2 hL2)
    go_ret
    have hb : Below w.heap.size w w2 := below_via (show Below w.heap.size w _ by go_grown) hx2
    exact ⟨v2, L2, rfl, hb, ho2, fun b hb' => by have := (hL2 b hb').1; simp only [World.size_alloc] at this; omega⟩
theorem cloneInt_a (l : List Int) : ACalls Try.prog 35 [argS l] (resS l) := acalls_retS (by unfold FnOk; kernel_rfl) (fun w v h hw => cloneInt_c w v l h (by have := hw.1; omega)) id
end Go.Proofs.Ytiafgmepdgfpbaa
