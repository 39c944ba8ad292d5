/- The data of the program: its structs as plain products; what their cells look like; equality as a bool. -/
import Derived.Test.YtiafgmepdgfpbaaMk
set_option linter.unusedVariables false
set_option linter.unusedSimpArgs false
namespace Go.Proofs.Ytiafgmepdgfpbaa
open Go.RowKit
open GoD (rd own)
abbrev ValueD := Int × Int × ByteArray
abbrev FieldD := ByteArray × Int
abbrev AttrD := ByteArray × ValueD
abbrev FileD := Int × Int × Bool × Int × (List AttrD)
abbrev StoreD := (List FieldD) × (List FileD) × Int
abbrev PostingD := ByteArray × ValueD × (List Int)
abbrev NodeD := Int × Int × Int × ByteArray × ValueD
abbrev DirD := ByteArray × (List NodeD)
abbrev ResultD := ByteArray × (List Int)
abbrev DiffD := ByteArray × (List Int) × (List Int)
abbrev CatalogD := StoreD × (List DirD) × (List ResultD)
abbrev GroupD := ValueD × (List Int)
abbrev EditD := Bool × (List AttrD)
abbrev ChangeD := Int × FileD × Int × DirD
abbrev SnapshotD := StoreD × (List DirD)
abbrev DiskD := ByteArray × ByteArray
abbrev VersionD := Int × SnapshotD × Int
abbrev EventD := Int × (List Int) × (List Int)
abbrev WatchD := Int × ByteArray × (List Int) × (List EventD)
abbrev CheckD := Int × (List ByteArray)
abbrev SystemD := CatalogD × DiskD × Int × (List VersionD) × (List WatchD) × (List Int)
abbrev ActionD := Int × Int × (List ChangeD) × ByteArray × Int
theorem len1 {α : Type} {l : List α} (h : l.length = 1) : ∃ x0, l = [x0] := by
  match l, h with
  | [x0], _ => exact ⟨x0, rfl⟩
theorem len2 {α : Type} {l : List α} (h : l.length = 2) : ∃ x0 x1, l = [x0, x1] := by
  match l, h with
  | [x0, x1], _ => exact ⟨x0, x1, rfl⟩
theorem len3 {α : Type} {l : List α} (h : l.length = 3) : ∃ x0 x1 x2, l = [x0, x1, x2] := by
  match l, h with
  | [x0, x1, x2], _ => exact ⟨x0, x1, x2, rfl⟩
theorem len4 {α : Type} {l : List α} (h : l.length = 4) : ∃ x0 x1 x2 x3, l = [x0, x1, x2, x3] := by
  match l, h with
  | [x0, x1, x2, x3], _ => exact ⟨x0, x1, x2, x3, rfl⟩
theorem len5 {α : Type} {l : List α} (h : l.length = 5) : ∃ x0 x1 x2 x3 x4, l = [x0, x1, x2, x3, x4] := by
  match l, h with
  | [x0, x1, x2, x3, x4], _ => exact ⟨x0, x1, x2, x3, x4, rfl⟩
theorem len6 {α : Type} {l : List α} (h : l.length = 6) : ∃ x0 x1 x2 x3 x4 x5, l = [x0, x1, x2, x3, x4, x5] := by
  match l, h with
  | [x0, x1, x2, x3, x4, x5], _ => exact ⟨x0, x1, x2, x3, x4, x5, rfl⟩
theorem len7 {α : Type} {l : List α} (h : l.length = 7) : ∃ x0 x1 x2 x3 x4 x5 x6, l = [x0, x1, x2, x3, x4, x5, x6] := by
  match l, h with
  | [x0, x1, x2, x3, x4, x5, x6], _ => exact ⟨x0, x1, x2, x3, x4, x5, x6, rfl⟩
theorem len8 {α : Type} {l : List α} (h : l.length = 8) : ∃ x0 x1 x2 x3 x4 x5 x6 x7, l = [x0, x1, x2, x3, x4, x5, x6, x7] := by
  match l, h with
  | [x0, x1, x2, x3, x4, x5, x6, x7], _ => exact ⟨x0, x1, x2, x3, x4, x5, x6, x7, rfl⟩
theorem len9 {α : Type} {l : List α} (h : l.length = 9) : ∃ x0 x1 x2 x3 x4 x5 x6 x7 x8, l = [x0, x1, x2, x3, x4, x5, x6, x7, x8] := by
  match l, h with
  | [x0, x1, x2, x3, x4, x5, x6, x7, x8], _ => exact ⟨x0, x1, x2, x3, x4, x5, x6, x7, x8, rfl⟩
theorem len10 {α : Type} {l : List α} (h : l.length = 10) : ∃ x0 x1 x2 x3 x4 x5 x6 x7 x8 x9, l = [x0, x1, x2, x3, x4, x5, x6, x7, x8, x9] := by
  match l, h with
  | [x0, x1, x2, x3, x4, x5, x6, x7, x8, x9], _ => exact ⟨x0, x1, x2, x3, x4, x5, x6, x7, x8, x9, rfl⟩
theorem len11 {α : Type} {l : List α} (h : l.length = 11) : ∃ x0 x1 x2 x3 x4 x5 x6 x7 x8 x9 x10, l = [x0, x1, x2, x3, x4, x5, x6, x7, x8, x9, x10] := by
  match l, h with
  | [x0, x1, x2, x3, x4, x5, x6, x7, x8, x9, x10], _ => exact ⟨x0, x1, x2, x3, x4, x5, x6, x7, x8, x9, x10, rfl⟩
theorem len12 {α : Type} {l : List α} (h : l.length = 12) : ∃ x0 x1 x2 x3 x4 x5 x6 x7 x8 x9 x10 x11, l = [x0, x1, x2, x3, x4, x5, x6, x7, x8, x9, x10, x11] := by
  match l, h with
  | [x0, x1, x2, x3, x4, x5, x6, x7, x8, x9, x10, x11], _ => exact ⟨x0, x1, x2, x3, x4, x5, x6, x7, x8, x9, x10, x11, rfl⟩
theorem len13 {α : Type} {l : List α} (h : l.length = 13) : ∃ x0 x1 x2 x3 x4 x5 x6 x7 x8 x9 x10 x11 x12, l = [x0, x1, x2, x3, x4, x5, x6, x7, x8, x9, x10, x11, x12] := by
  match l, h with
  | [x0, x1, x2, x3, x4, x5, x6, x7, x8, x9, x10, x11, x12], _ => exact ⟨x0, x1, x2, x3, x4, x5, x6, x7, x8, x9, x10, x11, x12, rfl⟩
theorem len14 {α : Type} {l : List α} (h : l.length = 14) : ∃ x0 x1 x2 x3 x4 x5 x6 x7 x8 x9 x10 x11 x12 x13, l = [x0, x1, x2, x3, x4, x5, x6, x7, x8, x9, x10, x11, x12, x13] := by
  match l, h with
  | [x0, x1, x2, x3, x4, x5, x6, x7, x8, x9, x10, x11, x12, x13], _ => exact ⟨x0, x1, x2, x3, x4, x5, x6, x7, x8, x9, x10, x11, x12, x13, rfl⟩
theorem len15 {α : Type} {l : List α} (h : l.length = 15) : ∃ x0 x1 x2 x3 x4 x5 x6 x7 x8 x9 x10 x11 x12 x13 x14, l = [x0, x1, x2, x3, x4, x5, x6, x7, x8, x9, x10, x11, x12, x13, x14] := by
  match l, h with
  | [x0, x1, x2, x3, x4, x5, x6, x7, x8, x9, x10, x11, x12, x13, x14], _ => exact ⟨x0, x1, x2, x3, x4, x5, x6, x7, x8, x9, x10, x11, x12, x13, x14, rfl⟩
theorem len16 {α : Type} {l : List α} (h : l.length = 16) : ∃ x0 x1 x2 x3 x4 x5 x6 x7 x8 x9 x10 x11 x12 x13 x14 x15, l = [x0, x1, x2, x3, x4, x5, x6, x7, x8, x9, x10, x11, x12, x13, x14, x15] := by
  match l, h with
  | [x0, x1, x2, x3, x4, x5, x6, x7, x8, x9, x10, x11, x12, x13, x14, x15], _ => exact ⟨x0, x1, x2, x3, x4, x5, x6, x7, x8, x9, x10, x11, x12, x13, x14, x15, rfl⟩
theorem len17 {α : Type} {l : List α} (h : l.length = 17) : ∃ x0 x1 x2 x3 x4 x5 x6 x7 x8 x9 x10 x11 x12 x13 x14 x15 x16, l = [x0, x1, x2, x3, x4, x5, x6, x7, x8, x9, x10, x11, x12, x13, x14, x15, x16] := by
  match l, h with
  | [x0, x1, x2, x3, x4, x5, x6, x7, x8, x9, x10, x11, x12, x13, x14, x15, x16], _ => exact ⟨x0, x1, x2, x3, x4, x5, x6, x7, x8, x9, x10, x11, x12, x13, x14, x15, x16, rfl⟩
theorem len18 {α : Type} {l : List α} (h : l.length = 18) : ∃ x0 x1 x2 x3 x4 x5 x6 x7 x8 x9 x10 x11 x12 x13 x14 x15 x16 x17, l = [x0, x1, x2, x3, x4, x5, x6, x7, x8, x9, x10, x11, x12, x13, x14, x15, x16, x17] := by
  match l, h with
  | [x0, x1, x2, x3, x4, x5, x6, x7, x8, x9, x10, x11, x12, x13, x14, x15, x16, x17], _ => exact ⟨x0, x1, x2, x3, x4, x5, x6, x7, x8, x9, x10, x11, x12, x13, x14, x15, x16, x17, rfl⟩
theorem len19 {α : Type} {l : List α} (h : l.length = 19) : ∃ x0 x1 x2 x3 x4 x5 x6 x7 x8 x9 x10 x11 x12 x13 x14 x15 x16 x17 x18, l = [x0, x1, x2, x3, x4, x5, x6, x7, x8, x9, x10, x11, x12, x13, x14, x15, x16, x17, x18] := by
  match l, h with
  | [x0, x1, x2, x3, x4, x5, x6, x7, x8, x9, x10, x11, x12, x13, x14, x15, x16, x17, x18], _ => exact ⟨x0, x1, x2, x3, x4, x5, x6, x7, x8, x9, x10, x11, x12, x13, x14, x15, x16, x17, x18, rfl⟩
theorem len20 {α : Type} {l : List α} (h : l.length = 20) : ∃ x0 x1 x2 x3 x4 x5 x6 x7 x8 x9 x10 x11 x12 x13 x14 x15 x16 x17 x18 x19, l = [x0, x1, x2, x3, x4, x5, x6, x7, x8, x9, x10, x11, x12, x13, x14, x15, x16, x17, x18, x19] := by
  match l, h with
  | [x0, x1, x2, x3, x4, x5, x6, x7, x8, x9, x10, x11, x12, x13, x14, x15, x16, x17, x18, x19], _ => exact ⟨x0, x1, x2, x3, x4, x5, x6, x7, x8, x9, x10, x11, x12, x13, x14, x15, x16, x17, x18, x19, rfl⟩
theorem len21 {α : Type} {l : List α} (h : l.length = 21) : ∃ x0 x1 x2 x3 x4 x5 x6 x7 x8 x9 x10 x11 x12 x13 x14 x15 x16 x17 x18 x19 x20, l = [x0, x1, x2, x3, x4, x5, x6, x7, x8, x9, x10, x11, x12, x13, x14, x15, x16, x17, x18, x19, x20] := by
  match l, h with
  | [x0, x1, x2, x3, x4, x5, x6, x7, x8, x9, x10, x11, x12, x13, x14, x15, x16, x17, x18, x19, x20], _ => exact ⟨x0, x1, x2, x3, x4, x5, x6, x7, x8, x9, x10, x11, x12, x13, x14, x15, x16, x17, x18, x19, x20, rfl⟩
theorem len22 {α : Type} {l : List α} (h : l.length = 22) : ∃ x0 x1 x2 x3 x4 x5 x6 x7 x8 x9 x10 x11 x12 x13 x14 x15 x16 x17 x18 x19 x20 x21, l = [x0, x1, x2, x3, x4, x5, x6, x7, x8, x9, x10, x11, x12, x13, x14, x15, x16, x17, x18, x19, x20, x21] := by
  match l, h with
  | [x0, x1, x2, x3, x4, x5, x6, x7, x8, x9, x10, x11, x12, x13, x14, x15, x16, x17, x18, x19, x20, x21], _ => exact ⟨x0, x1, x2, x3, x4, x5, x6, x7, x8, x9, x10, x11, x12, x13, x14, x15, x16, x17, x18, x19, x20, x21, rfl⟩
theorem len23 {α : Type} {l : List α} (h : l.length = 23) : ∃ x0 x1 x2 x3 x4 x5 x6 x7 x8 x9 x10 x11 x12 x13 x14 x15 x16 x17 x18 x19 x20 x21 x22, l = [x0, x1, x2, x3, x4, x5, x6, x7, x8, x9, x10, x11, x12, x13, x14, x15, x16, x17, x18, x19, x20, x21, x22] := by
  match l, h with
  | [x0, x1, x2, x3, x4, x5, x6, x7, x8, x9, x10, x11, x12, x13, x14, x15, x16, x17, x18, x19, x20, x21, x22], _ => exact ⟨x0, x1, x2, x3, x4, x5, x6, x7, x8, x9, x10, x11, x12, x13, x14, x15, x16, x17, x18, x19, x20, x21, x22, rfl⟩
theorem len24 {α : Type} {l : List α} (h : l.length = 24) : ∃ x0 x1 x2 x3 x4 x5 x6 x7 x8 x9 x10 x11 x12 x13 x14 x15 x16 x17 x18 x19 x20 x21 x22 x23, l = [x0, x1, x2, x3, x4, x5, x6, x7, x8, x9, x10, x11, x12, x13, x14, x15, x16, x17, x18, x19, x20, x21, x22, x23] := by
  match l, h with
  | [x0, x1, x2, x3, x4, x5, x6, x7, x8, x9, x10, x11, x12, x13, x14, x15, x16, x17, x18, x19, x20, x21, x22, x23], _ => exact ⟨x0, x1, x2, x3, x4, x5, x6, x7, x8, x9, x10, x11, x12, x13, x14, x15, x16, x17, x18, x19, x20, x21, x22, x23, rfl⟩
theorem cells_Value {w : World} {cs : List Value} {a : ValueD} (h : rd w cs a) : cs = [.int .i64 a.1, .int .i64 a.2.1, .string a.2.2] := by
  obtain ⟨_, _, rfl, ⟨rfl, _⟩, ⟨_, _, rfl, ⟨rfl, _⟩, ⟨rfl, _⟩⟩⟩ := h
  exact rfl
theorem cells_Field {w : World} {cs : List Value} {a : FieldD} (h : rd w cs a) : cs = [.string a.1, .int .i64 a.2] := by
  obtain ⟨_, _, rfl, ⟨rfl, _⟩, ⟨rfl, _⟩⟩ := h
  exact rfl
theorem cells_Attr {w : World} {cs : List Value} {a : AttrD} (h : rd w cs a) : cs = [.string a.1, .int .i64 a.2.1, .int .i64 a.2.2.1, .string a.2.2.2] := by
  obtain ⟨_, _, rfl, ⟨rfl, _⟩, ⟨_, _, rfl, ⟨rfl, _⟩, ⟨_, _, rfl, ⟨rfl, _⟩, ⟨rfl, _⟩⟩⟩⟩ := h
  exact rfl
theorem cells_File {w : World} {cs : List Value} {a : FileD} (h : rd w cs a) : ∃ (oa1 : Option Addr) (cp1 : Nat), cs = [.int .i64 a.1, .int .i64 a.2.1, .bool a.2.2.1, .int .i64 a.2.2.2.1, .slice oa1 a.2.2.2.2.length cp1] := by
  obtain ⟨_, _, rfl, ⟨rfl, _⟩, ⟨_, _, rfl, ⟨rfl, _⟩, ⟨_, _, rfl, rfl, ⟨_, _, rfl, ⟨rfl, _⟩, ⟨oa1, cp1, rfl, _⟩⟩⟩⟩⟩ := h
  exact ⟨oa1, cp1, rfl⟩
theorem cells_Store {w : World} {cs : List Value} {a : StoreD} (h : rd w cs a) : ∃ (oa1 : Option Addr) (cp1 : Nat) (oa2 : Option Addr) (cp2 : Nat), cs = [.slice oa1 a.1.length cp1, .slice oa2 a.2.1.length cp2, .int .i64 a.2.2] := by
  obtain ⟨_, _, rfl, ⟨oa1, cp1, rfl, _⟩, ⟨_, _, rfl, ⟨oa2, cp2, rfl, _⟩, ⟨rfl, _⟩⟩⟩ := h
  exact ⟨oa1, cp1, oa2, cp2, rfl⟩
theorem cells_Posting {w : World} {cs : List Value} {a : PostingD} (h : rd w cs a) : ∃ (oa1 : Option Addr) (cp1 : Nat), cs = [.string a.1, .int .i64 a.2.1.1, .int .i64 a.2.1.2.1, .string a.2.1.2.2, .slice oa1 a.2.2.length cp1] := by
  obtain ⟨_, _, rfl, ⟨rfl, _⟩, ⟨_, _, rfl, ⟨_, _, rfl, ⟨rfl, _⟩, ⟨_, _, rfl, ⟨rfl, _⟩, ⟨rfl, _⟩⟩⟩, ⟨oa1, cp1, rfl, _⟩⟩⟩ := h
  exact ⟨oa1, cp1, rfl⟩
theorem cells_Node {w : World} {cs : List Value} {a : NodeD} (h : rd w cs a) : cs = [.int .i64 a.1, .int .i64 a.2.1, .int .i64 a.2.2.1, .string a.2.2.2.1, .int .i64 a.2.2.2.2.1, .int .i64 a.2.2.2.2.2.1, .string a.2.2.2.2.2.2] := by
  obtain ⟨_, _, rfl, ⟨rfl, _⟩, ⟨_, _, rfl, ⟨rfl, _⟩, ⟨_, _, rfl, ⟨rfl, _⟩, ⟨_, _, rfl, ⟨rfl, _⟩, ⟨_, _, rfl, ⟨rfl, _⟩, ⟨_, _, rfl, ⟨rfl, _⟩, ⟨rfl, _⟩⟩⟩⟩⟩⟩⟩ := h
  exact rfl
theorem cells_Dir {w : World} {cs : List Value} {a : DirD} (h : rd w cs a) : ∃ (oa1 : Option Addr) (cp1 : Nat), cs = [.string a.1, .slice oa1 a.2.length cp1] := by
  obtain ⟨_, _, rfl, ⟨rfl, _⟩, ⟨oa1, cp1, rfl, _⟩⟩ := h
  exact ⟨oa1, cp1, rfl⟩
theorem cells_Result {w : World} {cs : List Value} {a : ResultD} (h : rd w cs a) : ∃ (oa1 : Option Addr) (cp1 : Nat), cs = [.string a.1, .slice oa1 a.2.length cp1] := by
  obtain ⟨_, _, rfl, ⟨rfl, _⟩, ⟨oa1, cp1, rfl, _⟩⟩ := h
  exact ⟨oa1, cp1, rfl⟩
theorem cells_Diff {w : World} {cs : List Value} {a : DiffD} (h : rd w cs a) : ∃ (oa1 : Option Addr) (cp1 : Nat) (oa2 : Option Addr) (cp2 : Nat), cs = [.string a.1, .slice oa1 a.2.1.length cp1, .slice oa2 a.2.2.length cp2] := by
  obtain ⟨_, _, rfl, ⟨rfl, _⟩, ⟨_, _, rfl, ⟨oa1, cp1, rfl, _⟩, ⟨oa2, cp2, rfl, _⟩⟩⟩ := h
  exact ⟨oa1, cp1, oa2, cp2, rfl⟩
theorem cells_Catalog {w : World} {cs : List Value} {a : CatalogD} (h : rd w cs a) : ∃ (oa1 : Option Addr) (cp1 : Nat) (oa2 : Option Addr) (cp2 : Nat) (oa3 : Option Addr) (cp3 : Nat) (oa4 : Option Addr) (cp4 : Nat), cs = [.slice oa1 a.1.1.length cp1, .slice oa2 a.1.2.1.length cp2, .int .i64 a.1.2.2, .slice oa3 a.2.1.length cp3, .slice oa4 a.2.2.length cp4] := by
  obtain ⟨_, _, rfl, ⟨_, _, rfl, ⟨oa1, cp1, rfl, _⟩, ⟨_, _, rfl, ⟨oa2, cp2, rfl, _⟩, ⟨rfl, _⟩⟩⟩, ⟨_, _, rfl, ⟨oa3, cp3, rfl, _⟩, ⟨oa4, cp4, rfl, _⟩⟩⟩ := h
  exact ⟨oa1, cp1, oa2, cp2, oa3, cp3, oa4, cp4, rfl⟩
theorem cells_Group {w : World} {cs : List Value} {a : GroupD} (h : rd w cs a) : ∃ (oa1 : Option Addr) (cp1 : Nat), cs = [.int .i64 a.1.1, .int .i64 a.1.2.1, .string a.1.2.2, .slice oa1 a.2.length cp1] := by
  obtain ⟨_, _, rfl, ⟨_, _, rfl, ⟨rfl, _⟩, ⟨_, _, rfl, ⟨rfl, _⟩, ⟨rfl, _⟩⟩⟩, ⟨oa1, cp1, rfl, _⟩⟩ := h
  exact ⟨oa1, cp1, rfl⟩
theorem cells_Edit {w : World} {cs : List Value} {a : EditD} (h : rd w cs a) : ∃ (oa1 : Option Addr) (cp1 : Nat), cs = [.bool a.1, .slice oa1 a.2.length cp1] := by
  obtain ⟨_, _, rfl, rfl, ⟨oa1, cp1, rfl, _⟩⟩ := h
  exact ⟨oa1, cp1, rfl⟩
theorem cells_Change {w : World} {cs : List Value} {a : ChangeD} (h : rd w cs a) : ∃ (oa1 : Option Addr) (cp1 : Nat) (oa2 : Option Addr) (cp2 : Nat), cs = [.int .i64 a.1, .int .i64 a.2.1.1, .int .i64 a.2.1.2.1, .bool a.2.1.2.2.1, .int .i64 a.2.1.2.2.2.1, .slice oa1 a.2.1.2.2.2.2.length cp1, .int .i64 a.2.2.1, .string a.2.2.2.1, .slice oa2 a.2.2.2.2.length cp2] := by
  obtain ⟨_, _, rfl, ⟨rfl, _⟩, ⟨_, _, rfl, ⟨_, _, rfl, ⟨rfl, _⟩, ⟨_, _, rfl, ⟨rfl, _⟩, ⟨_, _, rfl, rfl, ⟨_, _, rfl, ⟨rfl, _⟩, ⟨oa1, cp1, rfl, _⟩⟩⟩⟩⟩, ⟨_, _, rfl, ⟨rfl, _⟩, ⟨_, _, rfl, ⟨rfl, _⟩, ⟨oa2, cp2, rfl, _⟩⟩⟩⟩⟩ := h
  exact ⟨oa1, cp1, oa2, cp2, rfl⟩
theorem cells_Snapshot {w : World} {cs : List Value} {a : SnapshotD} (h : rd w cs a) : ∃ (oa1 : Option Addr) (cp1 : Nat) (oa2 : Option Addr) (cp2 : Nat) (oa3 : Option Addr) (cp3 : Nat), cs = [.slice oa1 a.1.1.length cp1, .slice oa2 a.1.2.1.length cp2, .int .i64 a.1.2.2, .slice oa3 a.2.length cp3] := by
  obtain ⟨_, _, rfl, ⟨_, _, rfl, ⟨oa1, cp1, rfl, _⟩, ⟨_, _, rfl, ⟨oa2, cp2, rfl, _⟩, ⟨rfl, _⟩⟩⟩, ⟨oa3, cp3, rfl, _⟩⟩ := h
  exact ⟨oa1, cp1, oa2, cp2, oa3, cp3, rfl⟩
theorem cells_Disk {w : World} {cs : List Value} {a : DiskD} (h : rd w cs a) : cs = [.string a.1, .string a.2] := by
  obtain ⟨_, _, rfl, ⟨rfl, _⟩, ⟨rfl, _⟩⟩ := h
  exact rfl
theorem cells_Version {w : World} {cs : List Value} {a : VersionD} (h : rd w cs a) : ∃ (oa1 : Option Addr) (cp1 : Nat) (oa2 : Option Addr) (cp2 : Nat) (oa3 : Option Addr) (cp3 : Nat), cs = [.int .i64 a.1, .slice oa1 a.2.1.1.1.length cp1, .slice oa2 a.2.1.1.2.1.length cp2, .int .i64 a.2.1.1.2.2, .slice oa3 a.2.1.2.length cp3, .int .i64 a.2.2] := by
  obtain ⟨_, _, rfl, ⟨rfl, _⟩, ⟨_, _, rfl, ⟨_, _, rfl, ⟨_, _, rfl, ⟨oa1, cp1, rfl, _⟩, ⟨_, _, rfl, ⟨oa2, cp2, rfl, _⟩, ⟨rfl, _⟩⟩⟩, ⟨oa3, cp3, rfl, _⟩⟩, ⟨rfl, _⟩⟩⟩ := h
  exact ⟨oa1, cp1, oa2, cp2, oa3, cp3, rfl⟩
theorem cells_Event {w : World} {cs : List Value} {a : EventD} (h : rd w cs a) : ∃ (oa1 : Option Addr) (cp1 : Nat) (oa2 : Option Addr) (cp2 : Nat), cs = [.int .i64 a.1, .slice oa1 a.2.1.length cp1, .slice oa2 a.2.2.length cp2] := by
  obtain ⟨_, _, rfl, ⟨rfl, _⟩, ⟨_, _, rfl, ⟨oa1, cp1, rfl, _⟩, ⟨oa2, cp2, rfl, _⟩⟩⟩ := h
  exact ⟨oa1, cp1, oa2, cp2, rfl⟩
theorem cells_Watch {w : World} {cs : List Value} {a : WatchD} (h : rd w cs a) : ∃ (oa1 : Option Addr) (cp1 : Nat) (oa2 : Option Addr) (cp2 : Nat), cs = [.int .i64 a.1, .string a.2.1, .slice oa1 a.2.2.1.length cp1, .slice oa2 a.2.2.2.length cp2] := by
  obtain ⟨_, _, rfl, ⟨rfl, _⟩, ⟨_, _, rfl, ⟨rfl, _⟩, ⟨_, _, rfl, ⟨oa1, cp1, rfl, _⟩, ⟨oa2, cp2, rfl, _⟩⟩⟩⟩ := h
  exact ⟨oa1, cp1, oa2, cp2, rfl⟩
theorem cells_Check {w : World} {cs : List Value} {a : CheckD} (h : rd w cs a) : ∃ (oa1 : Option Addr) (cp1 : Nat), cs = [.int .i64 a.1, .slice oa1 a.2.length cp1] := by
  obtain ⟨_, _, rfl, ⟨rfl, _⟩, ⟨oa1, cp1, rfl, _⟩⟩ := h
  exact ⟨oa1, cp1, rfl⟩
theorem cells_System {w : World} {cs : List Value} {a : SystemD} (h : rd w cs a) : ∃ (oa1 : Option Addr) (cp1 : Nat) (oa2 : Option Addr) (cp2 : Nat) (oa3 : Option Addr) (cp3 : Nat) (oa4 : Option Addr) (cp4 : Nat) (oa5 : Option Addr) (cp5 : Nat) (oa6 : Option Addr) (cp6 : Nat) (oa7 : Option Addr) (cp7 : Nat), cs = [.slice oa1 a.1.1.1.length cp1, .slice oa2 a.1.1.2.1.length cp2, .int .i64 a.1.1.2.2, .slice oa3 a.1.2.1.length cp3, .slice oa4 a.1.2.2.length cp4, .string a.2.1.1, .string a.2.1.2, .int .i64 a.2.2.1, .slice oa5 a.2.2.2.1.length cp5, .slice oa6 a.2.2.2.2.1.length cp6, .slice oa7 a.2.2.2.2.2.length cp7] := by
  obtain ⟨_, _, rfl, ⟨_, _, rfl, ⟨_, _, rfl, ⟨oa1, cp1, rfl, _⟩, ⟨_, _, rfl, ⟨oa2, cp2, rfl, _⟩, ⟨rfl, _⟩⟩⟩, ⟨_, _, rfl, ⟨oa3, cp3, rfl, _⟩, ⟨oa4, cp4, rfl, _⟩⟩⟩, ⟨_, _, rfl, ⟨_, _, rfl, ⟨rfl, _⟩, ⟨rfl, _⟩⟩, ⟨_, _, rfl, ⟨rfl, _⟩, ⟨_, _, rfl, ⟨oa5, cp5, rfl, _⟩, ⟨_, _, rfl, ⟨oa6, cp6, rfl, _⟩, ⟨oa7, cp7, rfl, _⟩⟩⟩⟩⟩⟩ := h
  exact ⟨oa1, cp1, oa2, cp2, oa3, cp3, oa4, cp4, oa5, cp5, oa6, cp6, oa7, cp7, rfl⟩
theorem cells_Action {w : World} {cs : List Value} {a : ActionD} (h : rd w cs a) : ∃ (oa1 : Option Addr) (cp1 : Nat), cs = [.int .i64 a.1, .int .i64 a.2.1, .slice oa1 a.2.2.1.length cp1, .string a.2.2.2.1, .int .i64 a.2.2.2.2] := by
  obtain ⟨_, _, rfl, ⟨rfl, _⟩, ⟨_, _, rfl, ⟨rfl, _⟩, ⟨_, _, rfl, ⟨oa1, cp1, rfl, _⟩, ⟨_, _, rfl, ⟨rfl, _⟩, ⟨rfl, _⟩⟩⟩⟩⟩ := h
  exact ⟨oa1, cp1, rfl⟩
def eqb {α : Type} [GoD α] (a b : α) : Bool := @decide (a = b) (GoD.deq a b)
theorem eqb_prod {α β : Type} [GoD α] [GoD β] (a c : α) (b d : β) : eqb (a, b) (c, d) = (eqb a c && eqb b d) := by
  unfold eqb; rw [Bool.eq_iff_iff]; simp [Prod.mk.injEq]
theorem eqb_int (a b : Int) : eqb a b = (a == b) := by unfold eqb; rw [Bool.eq_iff_iff]; simp
theorem eqb_bool (a b : Bool) : eqb a b = (a == b) := by unfold eqb; rw [Bool.eq_iff_iff]; simp
theorem eqb_str (a b : ByteArray) : (a.toList == b.toList) = eqb a b := by
  unfold eqb
  rw [ByteArray.toList_eq, ByteArray.toList_eq, Bool.eq_iff_iff]
  simp only [beq_iff_eq, decide_eq_true_eq]
  constructor
  · intro h; cases a; cases b; simp_all [Array.toList_inj]
  · intro h; rw [h]
theorem eqb_true {α : Type} [GoD α] {a b : α} (h : eqb a b = true) : a = b := by unfold eqb at h; simpa using h
theorem eqb_false {α : Type} [GoD α] {a b : α} (h : eqb a b = false) : a ≠ b := by unfold eqb at h; simpa using h
theorem eqb_refl {α : Type} [GoD α] (a : α) : eqb a a = true := by unfold eqb; simp
theorem eqS_no {α : Type} [GoD α] {la lb : List α} {k : Nat} {a b : α} (ha : la[k]? = some a) (hb : lb[k]? = some b) (h : eqb a b = false) : eqb la lb = false := by
  have := eqb_false h
  unfold eqb
  rw [decide_eq_false_iff_not]
  rintro rfl
  rw [ha] at hb
  exact this (by simpa using hb)
theorem eqS_step {α : Type} [GoD α] {la lb : List α} {k : Nat} {a b : α} (ht : la.take k = lb.take k) (ha : la[k]? = some a) (hb : lb[k]? = some b) (h : eqb a b = true) : Hid (la.take (k + 1) = lb.take (k + 1)) := by
  show la.take (k + 1) = lb.take (k + 1)
  rw [List.take_add_one, List.take_add_one, ht, ha, hb, eqb_true h]
theorem eqS_end {α : Type} [GoD α] {la lb : List α} (ht : la.take la.length = lb.take la.length) (hl : lb.length = la.length) : eqb la lb = true := by
  unfold eqb
  rw [List.take_of_length_le (Nat.le_refl _), List.take_of_length_le (by omega)] at ht
  simpa using ht
theorem eqS_len {α : Type} [GoD α] {la lb : List α} (h : ¬ la.length = lb.length) : eqb la lb = false := by
  unfold eqb
  rw [decide_eq_false_iff_not]
  rintro rfl
  exact h rfl
end Go.Proofs.Ytiafgmepdgfpbaa
