/- slices.Clone at the program's plain types. -/
import Derived.Test.YtdhagfpgijcfbaaFk
import Derived.Test.YtdhagfpgijcfbaaTy
import Derived.Test.YtdhagfpgijcfbaaLm
import Derived.Test.YtdhagfpgijcfbaaProg
import Derived.Outline
import Derived.Lib.SliceRun
import Derived.KernelRfl
namespace Go.Proofs.Ytdhagfpgijcfbaa
open Go.RowKit
open GoD (rd own)
theorem cloneAttr_c (w : World) (v : Value) (l : List AttrD) (ha : rd w [v] l) (hl : l.length ≤ 1073741824) : Calls Try.prog 157 #[v] w (RetS w l) := by
  have HA := Lib.hid ha
  obtain ⟨oa, cap, e, hlc, hm, hel⟩ := ha
  obtain rfl : v = _ := by simpa using e
  clear e
  have q22 : ∀ (w : World) (a : Option Addr) (n c n' c' : Nat), (binOp .eql 117 (.slice a n c) (.slice none n' c')).run Try.prog w = .ok (.bool a.isNone) w := fun w a n c n' c' => Lib.run_eql_slice_nil w _ _ a n c n' c' Try.underlying117
  cases oa with
  | none =>
    have hnil : l = [] := by
      cases l with
      | nil => rfl
      | cons a l => obtain ⟨b, off, ce, h, _⟩ := hel 0 a rfl; cases h
    clear hel
    subst hnil
    go_enter Try.func157, Try.ntmps157
    go_wp2
    go_ret
    all_goals exact ⟨_, [], rfl, Below.refl _ _, ⟨by simp, .inl ⟨rfl, rfl, _, rfl⟩⟩, by simp⟩
  | some ad =>
    clear hel
    go_enter Try.func157, Try.ntmps157
    go_wp2_with (at_builtin; refine wpList_appAll (α := AttrD) _ _ 117 172 (plain_pair plain_str (plain_pair plain_int (plain_pair plain_int plain_str))) w.heap.size (rd_below HA.out (by go_grown)) hl (heap_alloc_new w _) rfl rfl Try.underlying117 (by kernel_rfl) rfl rfl ?_; intro v2 w2 L2 ho2 hx2 hL2)
    go_ret
    have hb : Below w.heap.size w w2 := below_via (show Below w.heap.size w _ by go_grown) hx2
    exact ⟨v2, L2, rfl, hb, ho2, fun b hb' => by have := (hL2 b hb').1; simp only [World.size_alloc] at this; omega⟩
theorem cloneAttr_a (l : List AttrD) (hl : GoD.size l ≤ 1048576) : ACalls Try.prog 157 [argS l] (resS l) := acalls_retS (by unfold FnOk; kernel_rfl) fun w v h => cloneAttr_c w v l h (by have := sz_len hl; omega)
theorem cloneNode_c (w : World) (v : Value) (l : List NodeD) (ha : rd w [v] l) (hl : l.length ≤ 1073741824) : Calls Try.prog 158 #[v] w (RetS w l) := by
  have HA := Lib.hid ha
  obtain ⟨oa, cap, e, hlc, hm, hel⟩ := ha
  obtain rfl : v = _ := by simpa using e
  clear e
  have q22 : ∀ (w : World) (a : Option Addr) (n c n' c' : Nat), (binOp .eql 120 (.slice a n c) (.slice none n' c')).run Try.prog w = .ok (.bool a.isNone) w := fun w a n c n' c' => Lib.run_eql_slice_nil w _ _ a n c n' c' Try.underlying120
  cases oa with
  | none =>
    have hnil : l = [] := by
      cases l with
      | nil => rfl
      | cons a l => obtain ⟨b, off, ce, h, _⟩ := hel 0 a rfl; cases h
    clear hel
    subst hnil
    go_enter Try.func158, Try.ntmps158
    go_wp2
    go_ret
    all_goals exact ⟨_, [], rfl, Below.refl _ _, ⟨by simp, .inl ⟨rfl, rfl, _, rfl⟩⟩, by simp⟩
  | some ad =>
    clear hel
    go_enter Try.func158, Try.ntmps158
    go_wp2_with (at_builtin; refine wpList_appAll (α := NodeD) _ _ 120 174 (plain_pair plain_int (plain_pair plain_int (plain_pair plain_int (plain_pair plain_str (plain_pair plain_int (plain_pair plain_int plain_str)))))) w.heap.size (rd_below HA.out (by go_grown)) hl (heap_alloc_new w _) rfl rfl Try.underlying120 (by kernel_rfl) rfl rfl ?_; intro v2 w2 L2 ho2 hx2 hL2)
    go_ret
    have hb : Below w.heap.size w w2 := below_via (show Below w.heap.size w _ by go_grown) hx2
    exact ⟨v2, L2, rfl, hb, ho2, fun b hb' => by have := (hL2 b hb').1; simp only [World.size_alloc] at this; omega⟩
theorem cloneNode_a (l : List NodeD) (hl : GoD.size l ≤ 1048576) : ACalls Try.prog 158 [argS l] (resS l) := acalls_retS (by unfold FnOk; kernel_rfl) fun w v h => cloneNode_c w v l h (by have := sz_len hl; omega)
theorem cloneField_c (w : World) (v : Value) (l : List FieldD) (ha : rd w [v] l) (hl : l.length ≤ 1073741824) : Calls Try.prog 150 #[v] w (RetS w l) := by
  have HA := Lib.hid ha
  obtain ⟨oa, cap, e, hlc, hm, hel⟩ := ha
  obtain rfl : v = _ := by simpa using e
  clear e
  have q22 : ∀ (w : World) (a : Option Addr) (n c n' c' : Nat), (binOp .eql 48 (.slice a n c) (.slice none n' c')).run Try.prog w = .ok (.bool a.isNone) w := fun w a n c n' c' => Lib.run_eql_slice_nil w _ _ a n c n' c' Try.underlying48
  cases oa with
  | none =>
    have hnil : l = [] := by
      cases l with
      | nil => rfl
      | cons a l => obtain ⟨b, off, ce, h, _⟩ := hel 0 a rfl; cases h
    clear hel
    subst hnil
    go_enter Try.func150, Try.ntmps150
    go_wp2
    go_ret
    all_goals exact ⟨_, [], rfl, Below.refl _ _, ⟨by simp, .inl ⟨rfl, rfl, _, rfl⟩⟩, by simp⟩
  | some ad =>
    clear hel
    go_enter Try.func150, Try.ntmps150
    go_wp2_with (at_builtin; refine wpList_appAll (α := FieldD) _ _ 48 143 (plain_pair plain_str plain_int) w.heap.size (rd_below HA.out (by go_grown)) hl (heap_alloc_new w _) rfl rfl Try.underlying48 (by kernel_rfl) rfl rfl ?_; intro v2 w2 L2 ho2 hx2 hL2)
    go_ret
    have hb : Below w.heap.size w w2 := below_via (show Below w.heap.size w _ by go_grown) hx2
    exact ⟨v2, L2, rfl, hb, ho2, fun b hb' => by have := (hL2 b hb').1; simp only [World.size_alloc] at this; omega⟩
theorem cloneField_a (l : List FieldD) (hl : GoD.size l ≤ 1048576) : ACalls Try.prog 150 [argS l] (resS l) := acalls_retS (by unfold FnOk; kernel_rfl) fun w v h => cloneField_c w v l h (by have := sz_len hl; omega)
theorem cloneInt_c (w : World) (v : Value) (l : List Int) (ha : rd w [v] l) (hl : l.length ≤ 1073741824) : Calls Try.prog 162 #[v] w (RetS w l) := by
  have HA := Lib.hid ha
  obtain ⟨oa, cap, e, hlc, hm, hel⟩ := ha
  obtain rfl : v = _ := by simpa using e
  clear e
  have q22 : ∀ (w : World) (a : Option Addr) (n c n' c' : Nat), (binOp .eql 95 (.slice a n c) (.slice none n' c')).run Try.prog w = .ok (.bool a.isNone) w := fun w a n c n' c' => Lib.run_eql_slice_nil w _ _ a n c n' c' Try.underlying95
  cases oa with
  | none =>
    have hnil : l = [] := by
      cases l with
      | nil => rfl
      | cons a l => obtain ⟨b, off, ce, h, _⟩ := hel 0 a rfl; cases h
    clear hel
    subst hnil
    go_enter Try.func162, Try.ntmps162
    go_wp2
    go_ret
    all_goals exact ⟨_, [], rfl, Below.refl _ _, ⟨by simp, .inl ⟨rfl, rfl, _, rfl⟩⟩, by simp⟩
  | some ad =>
    clear hel
    go_enter Try.func162, Try.ntmps162
    go_wp2_with (at_builtin; refine wpList_appAll (α := Int) _ _ 95 3 plain_int w.heap.size (rd_below HA.out (by go_grown)) hl (heap_alloc_new w _) rfl rfl Try.underlying95 (by kernel_rfl) rfl rfl ?_; intro v2 w2 L2 ho2 hx2 hL2)
    go_ret
    have hb : Below w.heap.size w w2 := below_via (show Below w.heap.size w _ by go_grown) hx2
    exact ⟨v2, L2, rfl, hb, ho2, fun b hb' => by have := (hL2 b hb').1; simp only [World.size_alloc] at this; omega⟩
theorem cloneInt_a (l : List Int) (hl : GoD.size l ≤ 1048576) : ACalls Try.prog 162 [argS l] (resS l) := acalls_retS (by unfold FnOk; kernel_rfl) fun w v h => cloneInt_c w v l h (by have := sz_len hl; omega)
end Go.Proofs.Ytdhagfpgijcfbaa
