/- The data of the program: its structs as plain products; what their cells look like; equality as a bool. -/
import Derived.Test.YtnhmnfmhnepjmaaGreatMk
set_option linter.unusedVariables false
set_option linter.unusedSimpArgs false
namespace Go.Proofs.YtnhmnfmhnepjmaaGreat
open Go.RowKit
open GoD (rd own)
abbrev ValueD := Int × Int × ByteArray
abbrev FieldD := ByteArray × Int
abbrev AttrD := ByteArray × ValueD
abbrev FileD := Int × Int × Bool × Int × (List AttrD)
abbrev StoreD := (List FieldD) × (List FileD) × Int
abbrev NodeD := Int × Int × Int × ByteArray × ValueD
abbrev DirD := ByteArray × (List NodeD)
abbrev ResultD := ByteArray × (List Int)
theorem len1 {α : Type} {l : List α} (h : l.length = 1) : ∃ x0, l = [x0] := by
  match l, h with
  | [x0], _ => exact ⟨x0, rfl⟩
theorem len2 {α : Type} {l : List α} (h : l.length = 2) : ∃ x0 x1, l = [x0, x1] := by
  match l, h with
  | [x0, x1], _ => exact ⟨x0, x1, rfl⟩
theorem len3 {α : Type} {l : List α} (h : l.length = 3) : ∃ x0 x1 x2, l = [x0, x1, x2] := by
  match l, h with
  | [x0, x1, x2], _ => exact ⟨x0, x1, x2, rfl⟩
theorem len4 {α : Type} {l : List α} (h : l.length = 4) : ∃ x0 x1 x2 x3, l = [x0, x1, x2, x3] := by
  match l, h with
  | [x0, x1, x2, x3], _ => exact ⟨x0, x1, x2, x3, rfl⟩
theorem len5 {α : Type} {l : List α} (h : l.length = 5) : ∃ x0 x1 x2 x3 x4, l = [x0, x1, x2, x3, x4] := by
  match l, h with
  | [x0, x1, x2, x3, x4], _ => exact ⟨x0, x1, x2, x3, x4, rfl⟩
theorem len7 {α : Type} {l : List α} (h : l.length = 7) : ∃ x0 x1 x2 x3 x4 x5 x6, l = [x0, x1, x2, x3, x4, x5, x6] := by
  match l, h with
  | [x0, x1, x2, x3, x4, x5, x6], _ => exact ⟨x0, x1, x2, x3, x4, x5, x6, rfl⟩
theorem cells_Value {w : World} {cs : List Value} {a : ValueD} (h : rd w cs a) : cs = [.int .i64 a.1, .int .i64 a.2.1, .string a.2.2] := by
  obtain ⟨_, _, rfl, ⟨rfl, _⟩, ⟨_, _, rfl, ⟨rfl, _⟩, ⟨rfl, _⟩⟩⟩ := h
  exact rfl
theorem cells_Field {w : World} {cs : List Value} {a : FieldD} (h : rd w cs a) : cs = [.string a.1, .int .i64 a.2] := by
  obtain ⟨_, _, rfl, ⟨rfl, _⟩, ⟨rfl, _⟩⟩ := h
  exact rfl
theorem cells_Attr {w : World} {cs : List Value} {a : AttrD} (h : rd w cs a) : cs = [.string a.1, .int .i64 a.2.1, .int .i64 a.2.2.1, .string a.2.2.2] := by
  obtain ⟨_, _, rfl, ⟨rfl, _⟩, ⟨_, _, rfl, ⟨rfl, _⟩, ⟨_, _, rfl, ⟨rfl, _⟩, ⟨rfl, _⟩⟩⟩⟩ := h
  exact rfl
theorem cells_File {w : World} {cs : List Value} {a : FileD} (h : rd w cs a) : ∃ (oa1 : Option Addr) (cp1 : Nat), cs = [.int .i64 a.1, .int .i64 a.2.1, .bool a.2.2.1, .int .i64 a.2.2.2.1, .slice oa1 a.2.2.2.2.length cp1] := by
  obtain ⟨_, _, rfl, ⟨rfl, _⟩, ⟨_, _, rfl, ⟨rfl, _⟩, ⟨_, _, rfl, rfl, ⟨_, _, rfl, ⟨rfl, _⟩, ⟨oa1, cp1, rfl, _⟩⟩⟩⟩⟩ := h
  exact ⟨oa1, cp1, rfl⟩
theorem cells_Store {w : World} {cs : List Value} {a : StoreD} (h : rd w cs a) : ∃ (oa1 : Option Addr) (cp1 : Nat) (oa2 : Option Addr) (cp2 : Nat), cs = [.slice oa1 a.1.length cp1, .slice oa2 a.2.1.length cp2, .int .i64 a.2.2] := by
  obtain ⟨_, _, rfl, ⟨oa1, cp1, rfl, _⟩, ⟨_, _, rfl, ⟨oa2, cp2, rfl, _⟩, ⟨rfl, _⟩⟩⟩ := h
  exact ⟨oa1, cp1, oa2, cp2, rfl⟩
theorem cells_Node {w : World} {cs : List Value} {a : NodeD} (h : rd w cs a) : cs = [.int .i64 a.1, .int .i64 a.2.1, .int .i64 a.2.2.1, .string a.2.2.2.1, .int .i64 a.2.2.2.2.1, .int .i64 a.2.2.2.2.2.1, .string a.2.2.2.2.2.2] := by
  obtain ⟨_, _, rfl, ⟨rfl, _⟩, ⟨_, _, rfl, ⟨rfl, _⟩, ⟨_, _, rfl, ⟨rfl, _⟩, ⟨_, _, rfl, ⟨rfl, _⟩, ⟨_, _, rfl, ⟨rfl, _⟩, ⟨_, _, rfl, ⟨rfl, _⟩, ⟨rfl, _⟩⟩⟩⟩⟩⟩⟩ := h
  exact rfl
theorem cells_Dir {w : World} {cs : List Value} {a : DirD} (h : rd w cs a) : ∃ (oa1 : Option Addr) (cp1 : Nat), cs = [.string a.1, .slice oa1 a.2.length cp1] := by
  obtain ⟨_, _, rfl, ⟨rfl, _⟩, ⟨oa1, cp1, rfl, _⟩⟩ := h
  exact ⟨oa1, cp1, rfl⟩
def eqb {α : Type} [GoD α] (a b : α) : Bool := @decide (a = b) (GoD.deq a b)
theorem eqb_prod {α β : Type} [GoD α] [GoD β] (a c : α) (b d : β) : eqb (a, b) (c, d) = (eqb a c && eqb b d) := by
  unfold eqb; rw [Bool.eq_iff_iff]; simp [Prod.mk.injEq]
theorem eqb_int (a b : Int) : eqb a b = (a == b) := by unfold eqb; rw [Bool.eq_iff_iff]; simp
theorem eqb_bool (a b : Bool) : eqb a b = (a == b) := by unfold eqb; rw [Bool.eq_iff_iff]; simp
theorem eqb_str (a b : ByteArray) : (a.toList == b.toList) = eqb a b := by
  unfold eqb
  rw [ByteArray.toList_eq, ByteArray.toList_eq, Bool.eq_iff_iff]
  simp only [beq_iff_eq, decide_eq_true_eq]
  constructor
  · intro h; cases a; cases b; simp_all [Array.toList_inj]
  · intro h; rw [h]
theorem eqb_true {α : Type} [GoD α] {a b : α} (h : eqb a b = true) : a = b := by unfold eqb at h; simpa using h
theorem eqb_false {α : Type} [GoD α] {a b : α} (h : eqb a b = false) : a ≠ b := by unfold eqb at h; simpa using h
theorem eqb_refl {α : Type} [GoD α] (a : α) : eqb a a = true := by unfold eqb; simp
theorem eqS_no {α : Type} [GoD α] {la lb : List α} {k : Nat} {a b : α} (ha : la[k]? = some a) (hb : lb[k]? = some b) (h : eqb a b = false) : eqb la lb = false := by
  have := eqb_false h
  unfold eqb
  rw [decide_eq_false_iff_not]
  rintro rfl
  rw [ha] at hb
  exact this (by simpa using hb)
theorem eqS_step {α : Type} [GoD α] {la lb : List α} {k : Nat} {a b : α} (ht : la.take k = lb.take k) (ha : la[k]? = some a) (hb : lb[k]? = some b) (h : eqb a b = true) : Hid (la.take (k + 1) = lb.take (k + 1)) := by
  show la.take (k + 1) = lb.take (k + 1)
  rw [List.take_add_one, List.take_add_one, ht, ha, hb, eqb_true h]
theorem eqS_end {α : Type} [GoD α] {la lb : List α} (ht : la.take la.length = lb.take la.length) (hl : lb.length = la.length) : eqb la lb = true := by
  unfold eqb
  rw [List.take_of_length_le (Nat.le_refl _), List.take_of_length_le (by omega)] at ht
  simpa using ht
theorem eqS_len {α : Type} [GoD α] {la lb : List α} (h : ¬ la.length = lb.length) : eqb la lb = false := by
  unfold eqb
  rw [decide_eq_false_iff_not]
  rintro rfl
  exact h rfl
end Go.Proofs.YtnhmnfmhnepjmaaGreat
