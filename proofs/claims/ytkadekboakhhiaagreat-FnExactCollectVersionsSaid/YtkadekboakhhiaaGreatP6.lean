/- Texts of this proof, put together by a program: Sz, Eq, To, LPc, MPc. -/
import Derived.Test.YtkadekboakhhiaaGreatP5
import Derived.Test.YtkadekboakhhiaaGreatProg
import Derived.KernelRfl
import Derived.Outline
set_option linter.unusedVariables false
set_option linter.unusedSimpArgs false
namespace Go.Proofs.YtkadekboakhhiaaGreat
section
open Go.RowKit
open GoD (rd own)
set_option maxRecDepth 100000
set_option maxHeartbeats 1000000
theorem cBz {w v : World} {a : Addr} {x : Value} (hB : Below w.heap.size w v) (h : w.cell? a = some x) : v.cell? a = some x := (hB.cell (World.block_lt_of_cell? w _ h)).trans h
theorem zSz : (∀ (w : World) o, (w.alloc o).heap.size = w.heap.size + 1) ∧ (∀ (w : World) a v, (w.setCell a v).heap.size = w.heap.size) ∧ ∀ w : World, w.drew.heap.size = w.heap.size := ⟨fun _ _ => World.size_alloc .., fun _ _ _ => World.size_setCell .., fun _ => rfl⟩
abbrev zI {α : Type} [GoD α] (l : List α) (left : Int) (w : World) (q i : Value) (wr : World) : Prop := ∃ (k : Nat) (r : Int), k ≤ l.length ∧ i = .int .i64 k ∧ q = .int .i64 r ∧ 0 ≤ r ∧ r ≤ 1048576 ∧ Hid (r = left - l.length - ((l.take k).map GoD.size).sum) ∧ Below w.heap.size w wr
theorem szValue_c (w : World) (ca : List Value) (a : ValueD) (left : Int) (ha : rd w ca a) (h0 : 0 ≤ left) (h1 : left ≤ 1048576) : Calls Tryz.prog 119 #[.agg ca.toArray, .int .i64 left] w (RetSz w (GoD.size a) left) := by
  obtain ⟨a1, a2, a3⟩ := a
  obtain ⟨ac1, at1, rfl, ar1, ac2, at2, rfl, ar2, ar3⟩ := ha
  obtain ⟨rfl, ar1⟩ := ar1
  obtain ⟨rfl, ar2⟩ := ar2
  obtain ⟨rfl, ar3⟩ := ar3
  dsimp only [List.cons_append, List.nil_append] at *
  clear ar1
  clear ar2
  unfold maxLen at ar3
  have ar3 : a3.size ≤ 9223372036854775807 := by omega
  have hsz : GoD.size (a1, a2, a3) = (0 + (0 + a3.size)) := rfl
  have HSZ := Lib.hid hsz; clear hsz
  go_enter Tryz.func119, Tryz.ntmps119
  go_wp2
  all_goals
    go_ret
    refine ⟨_, rfl, ?_, by go_grown⟩
    rw [HSZ.out]
    unfold szq
    (try unfold szq at *)
    go_light
    omega
theorem szNode_c (w : World) (ca : List Value) (a : NodeD) (left : Int) (ha : rd w ca a) (h0 : 0 ≤ left) (h1 : left ≤ 1048576) : Calls Tryz.prog 98 #[.agg ca.toArray, .int .i64 left] w (RetSz w (GoD.size a) left) := by
  obtain ⟨a1, a2, a3, a4, a5⟩ := a
  obtain ⟨ac1, at1, rfl, ar1, ac2, at2, rfl, ar2, ac3, at3, rfl, ar3, ac4, at4, rfl, ar4, ar5⟩ := ha
  obtain ⟨rfl, ar1⟩ := ar1
  obtain ⟨rfl, ar2⟩ := ar2
  obtain ⟨rfl, ar3⟩ := ar3
  obtain ⟨rfl, ar4⟩ := ar4
  obtain ⟨ax5_0, ax5_1, ax5_2, rfl⟩ := len3 (show _ = 3 from GoD.rd_len ar5)
  dsimp only [List.cons_append, List.nil_append] at *
  clear ar1
  clear ar2
  clear ar3
  unfold maxLen at ar4
  have ar4 : a4.size ≤ 9223372036854775807 := by omega
  have AR5H := Lib.hid ar5; clear ar5
  have tok1 : True := trivial
  have hsz : GoD.size (a1, a2, a3, a4, a5) = (0 + (0 + (0 + (a4.size + GoD.size a5)))) := rfl
  have HSZ := Lib.hid hsz; clear hsz
  go_enter Tryz.func98, Tryz.ntmps98
  go_wp2_with (first | (go_at_call 119; have tk := tok1; clear tok1; refine call_sz (w := w) (szValue_c _ [ax5_0, ax5_1, ax5_2] a5 _ (rd_below AR5H.out (by go_grown)) (by omega) (by omega)) (by go_grown) ?_; intro w1 r1 hB hb hz hz2 hr hs; have HR1 := Lib.hid hr; clear hr; (try simp only [zSz] at hz2); have c0 := fun o => bcell hb (w.heap.size) o (by go_size); clear hb))
  all_goals
    go_ret
    refine ⟨_, rfl, ?_, by go_grown⟩
    rw [HSZ.out]
    unfold szq
    (try have u1 := HR1.out)
    (try unfold szq at *)
    go_light
    omega
theorem szNodeS_c (w : World) (v : Value) (l : List NodeD) (left : Int) (ha : rd w [v] l) (h0 : 0 ≤ left) (h1 : left ≤ 1048576) : Calls Tryz.prog 76 #[v, .int .i64 left] w (RetSz w (GoD.size l) left) := by
  obtain ⟨oa, cap, e1, hl, hm, hel⟩ := ha
  obtain rfl : v = _ := by simpa using e1
  clear e1
  have HE := Lib.hid hel; clear hel
  unfold maxLen at hm
  have hlm : l.length ≤ 9223372036854775807 := by omega
  have hsz : GoD.size l = l.length + (l.map GoD.size).sum := rfl
  have HSZ := Lib.hid hsz; clear hsz
  by_cases hneg : left - l.length < 0
  · go_enter Tryz.func76, Tryz.ntmps76
    go_wp2
    go_ret
    refine ⟨_, rfl, ?_, Below.refl _ _⟩
    rw [HSZ.out]
    unfold szq
    omega
  go_enter Tryz.func76, Tryz.ntmps76
  go_wp2
  go_loopw [1, 5] (zI l left w) (fun _ i _ => l.length - (intOf i).toNat)
  case atStart => exact ⟨0, _, Nat.zero_le _, rfl, rfl, by omega, by omega, by show _ = _; simp, Below.refl _ _⟩
  case round =>
    obtain ⟨k, r, hk, rfl, rfl, hr0, hr1, HR, hB⟩ := hrel
    by_cases hkl : k < l.length
    · have hx := List.getElem?_eq_getElem hkl
      obtain ⟨eb, eo, ee, rfl, hcl, hcc, hxr⟩ := HE.out k _ hx
      have HT := Lib.hid (sum_take hx)
      have HU := Lib.hid (sum_take_le hx)
      clear hx
      generalize l[k] = x at *
      obtain ⟨x0, x1, x2, x3, x4, x5, x6, rfl⟩ := len7 (show _ = 7 from hcl)
      have p0 : wr.cell? ⟨eb, eo + k * 7, none⟩ = some x0 := cBz hB (hcc 0 _ rfl)
      have p1 : wr.cell? ⟨eb, eo + k * 7 + 1, none⟩ = some x1 := cBz hB (hcc 1 _ rfl)
      have p2 : wr.cell? ⟨eb, eo + k * 7 + 2, none⟩ = some x2 := cBz hB (hcc 2 _ rfl)
      have p3 : wr.cell? ⟨eb, eo + k * 7 + 3, none⟩ = some x3 := cBz hB (hcc 3 _ rfl)
      have p4 : wr.cell? ⟨eb, eo + k * 7 + 4, none⟩ = some x4 := cBz hB (hcc 4 _ rfl)
      have p5 : wr.cell? ⟨eb, eo + k * 7 + 5, none⟩ = some x5 := cBz hB (hcc 5 _ rfl)
      have p6 : wr.cell? ⟨eb, eo + k * 7 + 6, none⟩ = some x6 := cBz hB (hcc 6 _ rfl)
      have HXR := Lib.hid hxr; clear hxr hcc hcl
      go_wp2_with (go_at_call 98; refine call_sz (w := w) (szNode_c _ [x0, x1, x2, x3, x4, x5, x6] x _ (rd_below HXR.out hB) (by omega) (by omega)) (by go_grown) ?_; intro w2 r2 hB2 hb hz hz2 hr2 hs; have HR2 := Lib.hid hr2; clear hr2 hb)
      · go_ret
        refine ⟨_, rfl, ?_, by go_grown⟩
        have u1 := HU.out; have u2 := HR2.out; have u3 := HR.out
        rw [HSZ.out]
        unfold szq at *
        go_light
        omega
      go_roundw
      case rel => exact ⟨k + 1, _, by omega, by go_num, rfl, by omega, by omega, by
      show _ = _
      have u1 := HT.out; have u2 := HR2.out; have u3 := HR.out
      unfold szq at *
      rw [u1]
      omega, by go_grown⟩
      case measure => simp [intOf]; omega
    obtain rfl : k = l.length := by omega
    go_wp2
    go_ret
    refine ⟨_, rfl, ?_, hB⟩
    have u3 := HR.out
    rw [List.take_length] at u3
    rw [HSZ.out]
    unfold szq
    omega
theorem szDir_c (w : World) (ca : List Value) (a : DirD) (left : Int) (ha : rd w ca a) (h0 : 0 ≤ left) (h1 : left ≤ 1048576) : Calls Tryz.prog 57 #[.agg ca.toArray, .int .i64 left] w (RetSz w (GoD.size a) left) := by
  obtain ⟨a1, a2⟩ := a
  obtain ⟨ac1, at1, rfl, ar1, ar2⟩ := ha
  obtain ⟨rfl, ar1⟩ := ar1
  obtain ⟨ax2_0, rfl⟩ := len1 (show _ = 1 from GoD.rd_len ar2)
  dsimp only [List.cons_append, List.nil_append] at *
  unfold maxLen at ar1
  have ar1 : a1.size ≤ 9223372036854775807 := by omega
  have AR2H := Lib.hid ar2; clear ar2
  have tok1 : True := trivial
  have hsz : GoD.size (a1, a2) = (a1.size + GoD.size a2) := rfl
  have HSZ := Lib.hid hsz; clear hsz
  go_enter Tryz.func57, Tryz.ntmps57
  go_wp2_with (first | (go_at_call 76; have tk := tok1; clear tok1; refine call_sz (w := w) (szNodeS_c _ ax2_0 a2 _ (rd_below AR2H.out (by go_grown)) (by omega) (by omega)) (by go_grown) ?_; intro w1 r1 hB hb hz hz2 hr hs; have HR1 := Lib.hid hr; clear hr; (try simp only [zSz] at hz2); have c0 := fun o => bcell hb (w.heap.size) o (by go_size); clear hb))
  all_goals
    go_ret
    refine ⟨_, rfl, ?_, by go_grown⟩
    rw [HSZ.out]
    unfold szq
    (try have u1 := HR1.out)
    (try unfold szq at *)
    go_light
    omega
theorem szDirS_c (w : World) (v : Value) (l : List DirD) (left : Int) (ha : rd w [v] l) (h0 : 0 ≤ left) (h1 : left ≤ 1048576) : Calls Tryz.prog 42 #[v, .int .i64 left] w (RetSz w (GoD.size l) left) := by
  obtain ⟨oa, cap, e1, hl, hm, hel⟩ := ha
  obtain rfl : v = _ := by simpa using e1
  clear e1
  have HE := Lib.hid hel; clear hel
  unfold maxLen at hm
  have hlm : l.length ≤ 9223372036854775807 := by omega
  have hsz : GoD.size l = l.length + (l.map GoD.size).sum := rfl
  have HSZ := Lib.hid hsz; clear hsz
  by_cases hneg : left - l.length < 0
  · go_enter Tryz.func42, Tryz.ntmps42
    go_wp2
    go_ret
    refine ⟨_, rfl, ?_, Below.refl _ _⟩
    rw [HSZ.out]
    unfold szq
    omega
  go_enter Tryz.func42, Tryz.ntmps42
  go_wp2
  go_loopw [1, 5] (zI l left w) (fun _ i _ => l.length - (intOf i).toNat)
  case atStart => exact ⟨0, _, Nat.zero_le _, rfl, rfl, by omega, by omega, by show _ = _; simp, Below.refl _ _⟩
  case round =>
    obtain ⟨k, r, hk, rfl, rfl, hr0, hr1, HR, hB⟩ := hrel
    by_cases hkl : k < l.length
    · have hx := List.getElem?_eq_getElem hkl
      obtain ⟨eb, eo, ee, rfl, hcl, hcc, hxr⟩ := HE.out k _ hx
      have HT := Lib.hid (sum_take hx)
      have HU := Lib.hid (sum_take_le hx)
      clear hx
      generalize l[k] = x at *
      obtain ⟨x0, x1, rfl⟩ := len2 (show _ = 2 from hcl)
      have p0 : wr.cell? ⟨eb, eo + k * 2, none⟩ = some x0 := cBz hB (hcc 0 _ rfl)
      have p1 : wr.cell? ⟨eb, eo + k * 2 + 1, none⟩ = some x1 := cBz hB (hcc 1 _ rfl)
      have HXR := Lib.hid hxr; clear hxr hcc hcl
      go_wp2_with (go_at_call 57; refine call_sz (w := w) (szDir_c _ [x0, x1] x _ (rd_below HXR.out hB) (by omega) (by omega)) (by go_grown) ?_; intro w2 r2 hB2 hb hz hz2 hr2 hs; have HR2 := Lib.hid hr2; clear hr2 hb)
      · go_ret
        refine ⟨_, rfl, ?_, by go_grown⟩
        have u1 := HU.out; have u2 := HR2.out; have u3 := HR.out
        rw [HSZ.out]
        unfold szq at *
        go_light
        omega
      go_roundw
      case rel => exact ⟨k + 1, _, by omega, by go_num, rfl, by omega, by omega, by
      show _ = _
      have u1 := HT.out; have u2 := HR2.out; have u3 := HR.out
      unfold szq at *
      rw [u1]
      omega, by go_grown⟩
      case measure => simp [intOf]; omega
    obtain rfl : k = l.length := by omega
    go_wp2
    go_ret
    refine ⟨_, rfl, ?_, hB⟩
    have u3 := HR.out
    rw [List.take_length] at u3
    rw [HSZ.out]
    unfold szq
    omega
theorem szAttr_c (w : World) (ca : List Value) (a : AttrD) (left : Int) (ha : rd w ca a) (h0 : 0 ≤ left) (h1 : left ≤ 1048576) : Calls Tryz.prog 118 #[.agg ca.toArray, .int .i64 left] w (RetSz w (GoD.size a) left) := by
  obtain ⟨a1, a2⟩ := a
  obtain ⟨ac1, at1, rfl, ar1, ar2⟩ := ha
  obtain ⟨rfl, ar1⟩ := ar1
  obtain ⟨ax2_0, ax2_1, ax2_2, rfl⟩ := len3 (show _ = 3 from GoD.rd_len ar2)
  dsimp only [List.cons_append, List.nil_append] at *
  unfold maxLen at ar1
  have ar1 : a1.size ≤ 9223372036854775807 := by omega
  have AR2H := Lib.hid ar2; clear ar2
  have tok1 : True := trivial
  have hsz : GoD.size (a1, a2) = (a1.size + GoD.size a2) := rfl
  have HSZ := Lib.hid hsz; clear hsz
  go_enter Tryz.func118, Tryz.ntmps118
  go_wp2_with (first | (go_at_call 119; have tk := tok1; clear tok1; refine call_sz (w := w) (szValue_c _ [ax2_0, ax2_1, ax2_2] a2 _ (rd_below AR2H.out (by go_grown)) (by omega) (by omega)) (by go_grown) ?_; intro w1 r1 hB hb hz hz2 hr hs; have HR1 := Lib.hid hr; clear hr; (try simp only [zSz] at hz2); have c0 := fun o => bcell hb (w.heap.size) o (by go_size); clear hb))
  all_goals
    go_ret
    refine ⟨_, rfl, ?_, by go_grown⟩
    rw [HSZ.out]
    unfold szq
    (try have u1 := HR1.out)
    (try unfold szq at *)
    go_light
    omega
theorem szAttrS_c (w : World) (v : Value) (l : List AttrD) (left : Int) (ha : rd w [v] l) (h0 : 0 ≤ left) (h1 : left ≤ 1048576) : Calls Tryz.prog 97 #[v, .int .i64 left] w (RetSz w (GoD.size l) left) := by
  obtain ⟨oa, cap, e1, hl, hm, hel⟩ := ha
  obtain rfl : v = _ := by simpa using e1
  clear e1
  have HE := Lib.hid hel; clear hel
  unfold maxLen at hm
  have hlm : l.length ≤ 9223372036854775807 := by omega
  have hsz : GoD.size l = l.length + (l.map GoD.size).sum := rfl
  have HSZ := Lib.hid hsz; clear hsz
  by_cases hneg : left - l.length < 0
  · go_enter Tryz.func97, Tryz.ntmps97
    go_wp2
    go_ret
    refine ⟨_, rfl, ?_, Below.refl _ _⟩
    rw [HSZ.out]
    unfold szq
    omega
  go_enter Tryz.func97, Tryz.ntmps97
  go_wp2
  go_loopw [1, 5] (zI l left w) (fun _ i _ => l.length - (intOf i).toNat)
  case atStart => exact ⟨0, _, Nat.zero_le _, rfl, rfl, by omega, by omega, by show _ = _; simp, Below.refl _ _⟩
  case round =>
    obtain ⟨k, r, hk, rfl, rfl, hr0, hr1, HR, hB⟩ := hrel
    by_cases hkl : k < l.length
    · have hx := List.getElem?_eq_getElem hkl
      obtain ⟨eb, eo, ee, rfl, hcl, hcc, hxr⟩ := HE.out k _ hx
      have HT := Lib.hid (sum_take hx)
      have HU := Lib.hid (sum_take_le hx)
      clear hx
      generalize l[k] = x at *
      obtain ⟨x0, x1, x2, x3, rfl⟩ := len4 (show _ = 4 from hcl)
      have p0 : wr.cell? ⟨eb, eo + k * 4, none⟩ = some x0 := cBz hB (hcc 0 _ rfl)
      have p1 : wr.cell? ⟨eb, eo + k * 4 + 1, none⟩ = some x1 := cBz hB (hcc 1 _ rfl)
      have p2 : wr.cell? ⟨eb, eo + k * 4 + 2, none⟩ = some x2 := cBz hB (hcc 2 _ rfl)
      have p3 : wr.cell? ⟨eb, eo + k * 4 + 3, none⟩ = some x3 := cBz hB (hcc 3 _ rfl)
      have HXR := Lib.hid hxr; clear hxr hcc hcl
      go_wp2_with (go_at_call 118; refine call_sz (w := w) (szAttr_c _ [x0, x1, x2, x3] x _ (rd_below HXR.out hB) (by omega) (by omega)) (by go_grown) ?_; intro w2 r2 hB2 hb hz hz2 hr2 hs; have HR2 := Lib.hid hr2; clear hr2 hb)
      · go_ret
        refine ⟨_, rfl, ?_, by go_grown⟩
        have u1 := HU.out; have u2 := HR2.out; have u3 := HR.out
        rw [HSZ.out]
        unfold szq at *
        go_light
        omega
      go_roundw
      case rel => exact ⟨k + 1, _, by omega, by go_num, rfl, by omega, by omega, by
      show _ = _
      have u1 := HT.out; have u2 := HR2.out; have u3 := HR.out
      unfold szq at *
      rw [u1]
      omega, by go_grown⟩
      case measure => simp [intOf]; omega
    obtain rfl : k = l.length := by omega
    go_wp2
    go_ret
    refine ⟨_, rfl, ?_, hB⟩
    have u3 := HR.out
    rw [List.take_length] at u3
    rw [HSZ.out]
    unfold szq
    omega
theorem szFile_c (w : World) (ca : List Value) (a : FileD) (left : Int) (ha : rd w ca a) (h0 : 0 ≤ left) (h1 : left ≤ 1048576) : Calls Tryz.prog 75 #[.agg ca.toArray, .int .i64 left] w (RetSz w (GoD.size a) left) := by
  obtain ⟨a1, a2, a3, a4, a5⟩ := a
  obtain ⟨ac1, at1, rfl, ar1, ac2, at2, rfl, ar2, ac3, at3, rfl, ar3, ac4, at4, rfl, ar4, ar5⟩ := ha
  obtain ⟨rfl, ar1⟩ := ar1
  obtain ⟨rfl, ar2⟩ := ar2
  obtain rfl := ar3
  obtain ⟨rfl, ar4⟩ := ar4
  obtain ⟨ax5_0, rfl⟩ := len1 (show _ = 1 from GoD.rd_len ar5)
  dsimp only [List.cons_append, List.nil_append] at *
  clear ar1
  clear ar2
  clear ar4
  have AR5H := Lib.hid ar5; clear ar5
  have tok1 : True := trivial
  have hsz : GoD.size (a1, a2, a3, a4, a5) = (0 + (0 + (0 + (0 + GoD.size a5)))) := rfl
  have HSZ := Lib.hid hsz; clear hsz
  go_enter Tryz.func75, Tryz.ntmps75
  go_wp2_with (first | (go_at_call 97; have tk := tok1; clear tok1; refine call_sz (w := w) (szAttrS_c _ ax5_0 a5 _ (rd_below AR5H.out (by go_grown)) (by omega) (by omega)) (by go_grown) ?_; intro w1 r1 hB hb hz hz2 hr hs; have HR1 := Lib.hid hr; clear hr; (try simp only [zSz] at hz2); have c0 := fun o => bcell hb (w.heap.size) o (by go_size); clear hb))
  all_goals
    go_ret
    refine ⟨_, rfl, ?_, by go_grown⟩
    rw [HSZ.out]
    unfold szq
    (try have u1 := HR1.out)
    (try unfold szq at *)
    go_light
    omega
theorem szFileS_c (w : World) (v : Value) (l : List FileD) (left : Int) (ha : rd w [v] l) (h0 : 0 ≤ left) (h1 : left ≤ 1048576) : Calls Tryz.prog 56 #[v, .int .i64 left] w (RetSz w (GoD.size l) left) := by
  obtain ⟨oa, cap, e1, hl, hm, hel⟩ := ha
  obtain rfl : v = _ := by simpa using e1
  clear e1
  have HE := Lib.hid hel; clear hel
  unfold maxLen at hm
  have hlm : l.length ≤ 9223372036854775807 := by omega
  have hsz : GoD.size l = l.length + (l.map GoD.size).sum := rfl
  have HSZ := Lib.hid hsz; clear hsz
  by_cases hneg : left - l.length < 0
  · go_enter Tryz.func56, Tryz.ntmps56
    go_wp2
    go_ret
    refine ⟨_, rfl, ?_, Below.refl _ _⟩
    rw [HSZ.out]
    unfold szq
    omega
  go_enter Tryz.func56, Tryz.ntmps56
  go_wp2
  go_loopw [1, 5] (zI l left w) (fun _ i _ => l.length - (intOf i).toNat)
  case atStart => exact ⟨0, _, Nat.zero_le _, rfl, rfl, by omega, by omega, by show _ = _; simp, Below.refl _ _⟩
  case round =>
    obtain ⟨k, r, hk, rfl, rfl, hr0, hr1, HR, hB⟩ := hrel
    by_cases hkl : k < l.length
    · have hx := List.getElem?_eq_getElem hkl
      obtain ⟨eb, eo, ee, rfl, hcl, hcc, hxr⟩ := HE.out k _ hx
      have HT := Lib.hid (sum_take hx)
      have HU := Lib.hid (sum_take_le hx)
      clear hx
      generalize l[k] = x at *
      obtain ⟨x0, x1, x2, x3, x4, rfl⟩ := len5 (show _ = 5 from hcl)
      have p0 : wr.cell? ⟨eb, eo + k * 5, none⟩ = some x0 := cBz hB (hcc 0 _ rfl)
      have p1 : wr.cell? ⟨eb, eo + k * 5 + 1, none⟩ = some x1 := cBz hB (hcc 1 _ rfl)
      have p2 : wr.cell? ⟨eb, eo + k * 5 + 2, none⟩ = some x2 := cBz hB (hcc 2 _ rfl)
      have p3 : wr.cell? ⟨eb, eo + k * 5 + 3, none⟩ = some x3 := cBz hB (hcc 3 _ rfl)
      have p4 : wr.cell? ⟨eb, eo + k * 5 + 4, none⟩ = some x4 := cBz hB (hcc 4 _ rfl)
      have HXR := Lib.hid hxr; clear hxr hcc hcl
      go_wp2_with (go_at_call 75; refine call_sz (w := w) (szFile_c _ [x0, x1, x2, x3, x4] x _ (rd_below HXR.out hB) (by omega) (by omega)) (by go_grown) ?_; intro w2 r2 hB2 hb hz hz2 hr2 hs; have HR2 := Lib.hid hr2; clear hr2 hb)
      · go_ret
        refine ⟨_, rfl, ?_, by go_grown⟩
        have u1 := HU.out; have u2 := HR2.out; have u3 := HR.out
        rw [HSZ.out]
        unfold szq at *
        go_light
        omega
      go_roundw
      case rel => exact ⟨k + 1, _, by omega, by go_num, rfl, by omega, by omega, by
      show _ = _
      have u1 := HT.out; have u2 := HR2.out; have u3 := HR.out
      unfold szq at *
      rw [u1]
      omega, by go_grown⟩
      case measure => simp [intOf]; omega
    obtain rfl : k = l.length := by omega
    go_wp2
    go_ret
    refine ⟨_, rfl, ?_, hB⟩
    have u3 := HR.out
    rw [List.take_length] at u3
    rw [HSZ.out]
    unfold szq
    omega
theorem szField_c (w : World) (ca : List Value) (a : FieldD) (left : Int) (ha : rd w ca a) (h0 : 0 ≤ left) (h1 : left ≤ 1048576) : Calls Tryz.prog 74 #[.agg ca.toArray, .int .i64 left] w (RetSz w (GoD.size a) left) := by
  obtain ⟨a1, a2⟩ := a
  obtain ⟨ac1, at1, rfl, ar1, ar2⟩ := ha
  obtain ⟨rfl, ar1⟩ := ar1
  obtain ⟨rfl, ar2⟩ := ar2
  dsimp only [List.cons_append, List.nil_append] at *
  unfold maxLen at ar1
  have ar1 : a1.size ≤ 9223372036854775807 := by omega
  clear ar2
  have hsz : GoD.size (a1, a2) = (a1.size + 0) := rfl
  have HSZ := Lib.hid hsz; clear hsz
  go_enter Tryz.func74, Tryz.ntmps74
  go_wp2
  all_goals
    go_ret
    refine ⟨_, rfl, ?_, by go_grown⟩
    rw [HSZ.out]
    unfold szq
    (try unfold szq at *)
    go_light
    omega
theorem szFieldS_c (w : World) (v : Value) (l : List FieldD) (left : Int) (ha : rd w [v] l) (h0 : 0 ≤ left) (h1 : left ≤ 1048576) : Calls Tryz.prog 55 #[v, .int .i64 left] w (RetSz w (GoD.size l) left) := by
  obtain ⟨oa, cap, e1, hl, hm, hel⟩ := ha
  obtain rfl : v = _ := by simpa using e1
  clear e1
  have HE := Lib.hid hel; clear hel
  unfold maxLen at hm
  have hlm : l.length ≤ 9223372036854775807 := by omega
  have hsz : GoD.size l = l.length + (l.map GoD.size).sum := rfl
  have HSZ := Lib.hid hsz; clear hsz
  by_cases hneg : left - l.length < 0
  · go_enter Tryz.func55, Tryz.ntmps55
    go_wp2
    go_ret
    refine ⟨_, rfl, ?_, Below.refl _ _⟩
    rw [HSZ.out]
    unfold szq
    omega
  go_enter Tryz.func55, Tryz.ntmps55
  go_wp2
  go_loopw [1, 5] (zI l left w) (fun _ i _ => l.length - (intOf i).toNat)
  case atStart => exact ⟨0, _, Nat.zero_le _, rfl, rfl, by omega, by omega, by show _ = _; simp, Below.refl _ _⟩
  case round =>
    obtain ⟨k, r, hk, rfl, rfl, hr0, hr1, HR, hB⟩ := hrel
    by_cases hkl : k < l.length
    · have hx := List.getElem?_eq_getElem hkl
      obtain ⟨eb, eo, ee, rfl, hcl, hcc, hxr⟩ := HE.out k _ hx
      have HT := Lib.hid (sum_take hx)
      have HU := Lib.hid (sum_take_le hx)
      clear hx
      generalize l[k] = x at *
      obtain ⟨x0, x1, rfl⟩ := len2 (show _ = 2 from hcl)
      have p0 : wr.cell? ⟨eb, eo + k * 2, none⟩ = some x0 := cBz hB (hcc 0 _ rfl)
      have p1 : wr.cell? ⟨eb, eo + k * 2 + 1, none⟩ = some x1 := cBz hB (hcc 1 _ rfl)
      have HXR := Lib.hid hxr; clear hxr hcc hcl
      go_wp2_with (go_at_call 74; refine call_sz (w := w) (szField_c _ [x0, x1] x _ (rd_below HXR.out hB) (by omega) (by omega)) (by go_grown) ?_; intro w2 r2 hB2 hb hz hz2 hr2 hs; have HR2 := Lib.hid hr2; clear hr2 hb)
      · go_ret
        refine ⟨_, rfl, ?_, by go_grown⟩
        have u1 := HU.out; have u2 := HR2.out; have u3 := HR.out
        rw [HSZ.out]
        unfold szq at *
        go_light
        omega
      go_roundw
      case rel => exact ⟨k + 1, _, by omega, by go_num, rfl, by omega, by omega, by
      show _ = _
      have u1 := HT.out; have u2 := HR2.out; have u3 := HR.out
      unfold szq at *
      rw [u1]
      omega, by go_grown⟩
      case measure => simp [intOf]; omega
    obtain rfl : k = l.length := by omega
    go_wp2
    go_ret
    refine ⟨_, rfl, ?_, hB⟩
    have u3 := HR.out
    rw [List.take_length] at u3
    rw [HSZ.out]
    unfold szq
    omega
theorem szStore_c (w : World) (ca : List Value) (a : StoreD) (left : Int) (ha : rd w ca a) (h0 : 0 ≤ left) (h1 : left ≤ 1048576) : Calls Tryz.prog 41 #[.agg ca.toArray, .int .i64 left] w (RetSz w (GoD.size a) left) := by
  obtain ⟨a1, a2, a3⟩ := a
  obtain ⟨ac1, at1, rfl, ar1, ac2, at2, rfl, ar2, ar3⟩ := ha
  obtain ⟨ax1_0, rfl⟩ := len1 (show _ = 1 from GoD.rd_len ar1)
  obtain ⟨ax2_0, rfl⟩ := len1 (show _ = 1 from GoD.rd_len ar2)
  obtain ⟨rfl, ar3⟩ := ar3
  dsimp only [List.cons_append, List.nil_append] at *
  have AR1H := Lib.hid ar1; clear ar1
  have AR2H := Lib.hid ar2; clear ar2
  clear ar3
  have tok1 : True := trivial
  have tok2 : True := trivial
  have hsz : GoD.size (a1, a2, a3) = (GoD.size a1 + (GoD.size a2 + 0)) := rfl
  have HSZ := Lib.hid hsz; clear hsz
  go_enter Tryz.func41, Tryz.ntmps41
  go_wp2_with (first | (go_at_call 55; have tk := tok1; clear tok1; refine call_sz (w := w) (szFieldS_c _ ax1_0 a1 _ (rd_below AR1H.out (by go_grown)) (by omega) (by omega)) (by go_grown) ?_; intro w1 r1 hB hb hz hz2 hr hs; have HR1 := Lib.hid hr; clear hr; (try simp only [zSz] at hz2); have c0 := fun o => bcell hb (w.heap.size) o (by go_size); clear hb) | (go_at_call 56; have tk := tok2; clear tok2; refine call_sz (w := w) (szFileS_c _ ax2_0 a2 _ (rd_below AR2H.out (by go_grown)) (by omega) (by omega)) (by go_grown) ?_; intro w2 r2 hB hb hz hz2 hr hs; have HR2 := Lib.hid hr; clear hr; (try simp only [zSz] at hz2); have c0 := fun o => bcell hb (w.heap.size) o (by go_size); clear hb))
  all_goals
    go_ret
    refine ⟨_, rfl, ?_, by go_grown⟩
    rw [HSZ.out]
    unfold szq
    (try have u1 := HR1.out)
    (try have u2 := HR2.out)
    (try unfold szq at *)
    go_light
    omega
theorem szSnapshot_c (w : World) (ca : List Value) (a : SnapshotD) (left : Int) (ha : rd w ca a) (h0 : 0 ≤ left) (h1 : left ≤ 1048576) : Calls Tryz.prog 26 #[.agg ca.toArray, .int .i64 left] w (RetSz w (GoD.size a) left) := by
  obtain ⟨a1, a2⟩ := a
  obtain ⟨ac1, at1, rfl, ar1, ar2⟩ := ha
  obtain ⟨ax1_0, ax1_1, ax1_2, rfl⟩ := len3 (show _ = 3 from GoD.rd_len ar1)
  obtain ⟨ax2_0, rfl⟩ := len1 (show _ = 1 from GoD.rd_len ar2)
  dsimp only [List.cons_append, List.nil_append] at *
  have AR1H := Lib.hid ar1; clear ar1
  have AR2H := Lib.hid ar2; clear ar2
  have tok1 : True := trivial
  have tok2 : True := trivial
  have hsz : GoD.size (a1, a2) = (GoD.size a1 + GoD.size a2) := rfl
  have HSZ := Lib.hid hsz; clear hsz
  go_enter Tryz.func26, Tryz.ntmps26
  go_wp2_with (first | (go_at_call 41; have tk := tok1; clear tok1; refine call_sz (w := w) (szStore_c _ [ax1_0, ax1_1, ax1_2] a1 _ (rd_below AR1H.out (by go_grown)) (by omega) (by omega)) (by go_grown) ?_; intro w1 r1 hB hb hz hz2 hr hs; have HR1 := Lib.hid hr; clear hr; (try simp only [zSz] at hz2); have c0 := fun o => bcell hb (w.heap.size) o (by go_size); clear hb) | (go_at_call 42; have tk := tok2; clear tok2; refine call_sz (w := w) (szDirS_c _ ax2_0 a2 _ (rd_below AR2H.out (by go_grown)) (by omega) (by omega)) (by go_grown) ?_; intro w2 r2 hB hb hz hz2 hr hs; have HR2 := Lib.hid hr; clear hr; (try simp only [zSz] at hz2); have c0 := fun o => bcell hb (w.heap.size) o (by go_size); clear hb))
  all_goals
    go_ret
    refine ⟨_, rfl, ?_, by go_grown⟩
    rw [HSZ.out]
    unfold szq
    (try have u1 := HR1.out)
    (try have u2 := HR2.out)
    (try unfold szq at *)
    go_light
    omega
theorem szVersion_c (w : World) (ca : List Value) (a : VersionD) (left : Int) (ha : rd w ca a) (h0 : 0 ≤ left) (h1 : left ≤ 1048576) : Calls Tryz.prog 11 #[.agg ca.toArray, .int .i64 left] w (RetSz w (GoD.size a) left) := by
  obtain ⟨a1, a2, a3⟩ := a
  obtain ⟨ac1, at1, rfl, ar1, ac2, at2, rfl, ar2, ar3⟩ := ha
  obtain ⟨rfl, ar1⟩ := ar1
  obtain ⟨ax2_0, ax2_1, ax2_2, ax2_3, rfl⟩ := len4 (show _ = 4 from GoD.rd_len ar2)
  obtain ⟨rfl, ar3⟩ := ar3
  dsimp only [List.cons_append, List.nil_append] at *
  clear ar1
  have AR2H := Lib.hid ar2; clear ar2
  clear ar3
  have tok1 : True := trivial
  have hsz : GoD.size (a1, a2, a3) = (0 + (GoD.size a2 + 0)) := rfl
  have HSZ := Lib.hid hsz; clear hsz
  go_enter Tryz.func11, Tryz.ntmps11
  go_wp2_with (first | (go_at_call 26; have tk := tok1; clear tok1; refine call_sz (w := w) (szSnapshot_c _ [ax2_0, ax2_1, ax2_2, ax2_3] a2 _ (rd_below AR2H.out (by go_grown)) (by omega) (by omega)) (by go_grown) ?_; intro w1 r1 hB hb hz hz2 hr hs; have HR1 := Lib.hid hr; clear hr; (try simp only [zSz] at hz2); have c0 := fun o => bcell hb (w.heap.size) o (by go_size); clear hb))
  all_goals
    go_ret
    refine ⟨_, rfl, ?_, by go_grown⟩
    rw [HSZ.out]
    unfold szq
    (try have u1 := HR1.out)
    (try unfold szq at *)
    go_light
    omega
theorem szVersionS_c (w : World) (v : Value) (l : List VersionD) (left : Int) (ha : rd w [v] l) (h0 : 0 ≤ left) (h1 : left ≤ 1048576) : Calls Tryz.prog 4 #[v, .int .i64 left] w (RetSz w (GoD.size l) left) := by
  obtain ⟨oa, cap, e1, hl, hm, hel⟩ := ha
  obtain rfl : v = _ := by simpa using e1
  clear e1
  have HE := Lib.hid hel; clear hel
  unfold maxLen at hm
  have hlm : l.length ≤ 9223372036854775807 := by omega
  have hsz : GoD.size l = l.length + (l.map GoD.size).sum := rfl
  have HSZ := Lib.hid hsz; clear hsz
  by_cases hneg : left - l.length < 0
  · go_enter Tryz.func4, Tryz.ntmps4
    go_wp2
    go_ret
    refine ⟨_, rfl, ?_, Below.refl _ _⟩
    rw [HSZ.out]
    unfold szq
    omega
  go_enter Tryz.func4, Tryz.ntmps4
  go_wp2
  go_loopw [1, 5] (zI l left w) (fun _ i _ => l.length - (intOf i).toNat)
  case atStart => exact ⟨0, _, Nat.zero_le _, rfl, rfl, by omega, by omega, by show _ = _; simp, Below.refl _ _⟩
  case round =>
    obtain ⟨k, r, hk, rfl, rfl, hr0, hr1, HR, hB⟩ := hrel
    by_cases hkl : k < l.length
    · have hx := List.getElem?_eq_getElem hkl
      obtain ⟨eb, eo, ee, rfl, hcl, hcc, hxr⟩ := HE.out k _ hx
      have HT := Lib.hid (sum_take hx)
      have HU := Lib.hid (sum_take_le hx)
      clear hx
      generalize l[k] = x at *
      obtain ⟨x0, x1, x2, x3, x4, x5, rfl⟩ := len6 (show _ = 6 from hcl)
      have p0 : wr.cell? ⟨eb, eo + k * 6, none⟩ = some x0 := cBz hB (hcc 0 _ rfl)
      have p1 : wr.cell? ⟨eb, eo + k * 6 + 1, none⟩ = some x1 := cBz hB (hcc 1 _ rfl)
      have p2 : wr.cell? ⟨eb, eo + k * 6 + 2, none⟩ = some x2 := cBz hB (hcc 2 _ rfl)
      have p3 : wr.cell? ⟨eb, eo + k * 6 + 3, none⟩ = some x3 := cBz hB (hcc 3 _ rfl)
      have p4 : wr.cell? ⟨eb, eo + k * 6 + 4, none⟩ = some x4 := cBz hB (hcc 4 _ rfl)
      have p5 : wr.cell? ⟨eb, eo + k * 6 + 5, none⟩ = some x5 := cBz hB (hcc 5 _ rfl)
      have HXR := Lib.hid hxr; clear hxr hcc hcl
      go_wp2_with (go_at_call 11; refine call_sz (w := w) (szVersion_c _ [x0, x1, x2, x3, x4, x5] x _ (rd_below HXR.out hB) (by omega) (by omega)) (by go_grown) ?_; intro w2 r2 hB2 hb hz hz2 hr2 hs; have HR2 := Lib.hid hr2; clear hr2 hb)
      · go_ret
        refine ⟨_, rfl, ?_, by go_grown⟩
        have u1 := HU.out; have u2 := HR2.out; have u3 := HR.out
        rw [HSZ.out]
        unfold szq at *
        go_light
        omega
      go_roundw
      case rel => exact ⟨k + 1, _, by omega, by go_num, rfl, by omega, by omega, by
      show _ = _
      have u1 := HT.out; have u2 := HR2.out; have u3 := HR.out
      unfold szq at *
      rw [u1]
      omega, by go_grown⟩
      case measure => simp [intOf]; omega
    obtain rfl : k = l.length := by omega
    go_wp2
    go_ret
    refine ⟨_, rfl, ?_, hB⟩
    have u3 := HR.out
    rw [List.take_length] at u3
    rw [HSZ.out]
    unfold szq
    omega
end
section
open Go.RowKit
open GoD (rd own)
set_option maxHeartbeats 1000000 in
theorem eqValue_c (w : World) (ca cb : List Value) (a b : ValueD) (ha : rd w ca a) (hb : rd w cb b) : Calls Tryz.prog 133 #[.agg ca.toArray, .agg cb.toArray] w (Ret w (.bool (eqb a b))) := by
  obtain ⟨a1, a2, a3⟩ := a
  obtain ⟨ac1, at1, rfl, ar1, ac2, at2, rfl, ar2, ar3⟩ := ha
  obtain ⟨rfl, ar1⟩ := ar1
  obtain ⟨rfl, ar2⟩ := ar2
  obtain ⟨rfl, ar3⟩ := ar3
  obtain ⟨b1, b2, b3⟩ := b
  obtain ⟨bc1, bt1, rfl, br1, bc2, bt2, rfl, br2, br3⟩ := hb
  obtain ⟨rfl, br1⟩ := br1
  obtain ⟨rfl, br2⟩ := br2
  obtain ⟨rfl, br3⟩ := br3
  dsimp only [List.cons_append, List.nil_append] at *
  generalize hr : eqb (a1, a2, a3) (b1, b2, b3) = r
  have Hr := Lib.hid hr; clear hr
  have es := eqb_str
  clear ar1 br1
  clear ar2 br2
  clear ar3 br3
  go_enter Tryz.func133, Tryz.ntmps133
  go_wp2
  all_goals
    go_ret
    refine ⟨?_, by go_grown⟩
    rw [← Hr.out]
    go_light
    clear es
    simp_all [eqb_prod, eqb_int, eqb_bool]
set_option maxHeartbeats 1000000 in
theorem eqNode_c (w : World) (ca cb : List Value) (a b : NodeD) (ha : rd w ca a) (hb : rd w cb b) : Calls Tryz.prog 117 #[.agg ca.toArray, .agg cb.toArray] w (Ret w (.bool (eqb a b))) := by
  obtain ⟨a1, a2, a3, a4, a5⟩ := a
  obtain ⟨ac1, at1, rfl, ar1, ac2, at2, rfl, ar2, ac3, at3, rfl, ar3, ac4, at4, rfl, ar4, ar5⟩ := ha
  obtain ⟨rfl, ar1⟩ := ar1
  obtain ⟨rfl, ar2⟩ := ar2
  obtain ⟨rfl, ar3⟩ := ar3
  obtain ⟨rfl, ar4⟩ := ar4
  obtain ⟨ax5_0, ax5_1, ax5_2, rfl⟩ := len3 (show _ = 3 from GoD.rd_len ar5)
  obtain ⟨b1, b2, b3, b4, b5⟩ := b
  obtain ⟨bc1, bt1, rfl, br1, bc2, bt2, rfl, br2, bc3, bt3, rfl, br3, bc4, bt4, rfl, br4, br5⟩ := hb
  obtain ⟨rfl, br1⟩ := br1
  obtain ⟨rfl, br2⟩ := br2
  obtain ⟨rfl, br3⟩ := br3
  obtain ⟨rfl, br4⟩ := br4
  obtain ⟨bx5_0, bx5_1, bx5_2, rfl⟩ := len3 (show _ = 3 from GoD.rd_len br5)
  dsimp only [List.cons_append, List.nil_append] at *
  generalize hr : eqb (a1, a2, a3, a4, a5) (b1, b2, b3, b4, b5) = r
  have Hr := Lib.hid hr; clear hr
  have es := eqb_str
  clear ar1 br1
  clear ar2 br2
  clear ar3 br3
  clear ar4 br4
  have AR5H := Lib.hid ar5; clear ar5
  have BR5H := Lib.hid br5; clear br5
  have tok1 : True := trivial
  go_enter Tryz.func117, Tryz.ntmps117
  go_wp2_with (first | (go_at_call 133; have tk := tok1; clear tok1; (refine call_ret (w := w) (eqValue_c _ [ax5_0, ax5_1, ax5_2] [bx5_0, bx5_1, bx5_2] a5 b5 (rd_below AR5H.out (by go_grown)) (rd_below BR5H.out (by go_grown))) (by go_grown) ?_; intro w' hB hb hz hz2; (repeat (first | rewrite [World.size_alloc] at hz2 | rewrite [World.size_setCell] at hz2 | rewrite [World.size_drew] at hz2)); have c0 := fun o => bcell hb (w.heap.size) o (by go_size); have c1 := fun o => bcell hb (w.heap.size + 1) o (by go_size))))
  all_goals
    go_ret
    refine ⟨?_, by go_grown⟩
    rw [← Hr.out]
    go_light
    clear es
    simp_all [eqb_prod, eqb_int, eqb_bool]
set_option maxHeartbeats 1000000 in
theorem eqAttr_c (w : World) (ca cb : List Value) (a b : AttrD) (ha : rd w ca a) (hb : rd w cb b) : Calls Tryz.prog 132 #[.agg ca.toArray, .agg cb.toArray] w (Ret w (.bool (eqb a b))) := by
  obtain ⟨a1, a2⟩ := a
  obtain ⟨ac1, at1, rfl, ar1, ar2⟩ := ha
  obtain ⟨rfl, ar1⟩ := ar1
  obtain ⟨ax2_0, ax2_1, ax2_2, rfl⟩ := len3 (show _ = 3 from GoD.rd_len ar2)
  obtain ⟨b1, b2⟩ := b
  obtain ⟨bc1, bt1, rfl, br1, br2⟩ := hb
  obtain ⟨rfl, br1⟩ := br1
  obtain ⟨bx2_0, bx2_1, bx2_2, rfl⟩ := len3 (show _ = 3 from GoD.rd_len br2)
  dsimp only [List.cons_append, List.nil_append] at *
  generalize hr : eqb (a1, a2) (b1, b2) = r
  have Hr := Lib.hid hr; clear hr
  have es := eqb_str
  clear ar1 br1
  have AR2H := Lib.hid ar2; clear ar2
  have BR2H := Lib.hid br2; clear br2
  have tok1 : True := trivial
  go_enter Tryz.func132, Tryz.ntmps132
  go_wp2_with (first | (go_at_call 133; have tk := tok1; clear tok1; (refine call_ret (w := w) (eqValue_c _ [ax2_0, ax2_1, ax2_2] [bx2_0, bx2_1, bx2_2] a2 b2 (rd_below AR2H.out (by go_grown)) (rd_below BR2H.out (by go_grown))) (by go_grown) ?_; intro w' hB hb hz hz2; (repeat (first | rewrite [World.size_alloc] at hz2 | rewrite [World.size_setCell] at hz2 | rewrite [World.size_drew] at hz2)); have c0 := fun o => bcell hb (w.heap.size) o (by go_size); have c1 := fun o => bcell hb (w.heap.size + 1) o (by go_size))))
  all_goals
    go_ret
    refine ⟨?_, by go_grown⟩
    rw [← Hr.out]
    go_light
    clear es
    simp_all [eqb_prod, eqb_int, eqb_bool]
set_option maxHeartbeats 1000000 in
theorem eqField_c (w : World) (ca cb : List Value) (a b : FieldD) (ha : rd w ca a) (hb : rd w cb b) : Calls Tryz.prog 94 #[.agg ca.toArray, .agg cb.toArray] w (Ret w (.bool (eqb a b))) := by
  obtain ⟨a1, a2⟩ := a
  obtain ⟨ac1, at1, rfl, ar1, ar2⟩ := ha
  obtain ⟨rfl, ar1⟩ := ar1
  obtain ⟨rfl, ar2⟩ := ar2
  obtain ⟨b1, b2⟩ := b
  obtain ⟨bc1, bt1, rfl, br1, br2⟩ := hb
  obtain ⟨rfl, br1⟩ := br1
  obtain ⟨rfl, br2⟩ := br2
  dsimp only [List.cons_append, List.nil_append] at *
  generalize hr : eqb (a1, a2) (b1, b2) = r
  have Hr := Lib.hid hr; clear hr
  have es := eqb_str
  clear ar1 br1
  clear ar2 br2
  go_enter Tryz.func94, Tryz.ntmps94
  go_wp2
  all_goals
    go_ret
    refine ⟨?_, by go_grown⟩
    rw [← Hr.out]
    go_light
    clear es
    simp_all [eqb_prod, eqb_int, eqb_bool]
set_option maxHeartbeats 1000000 in
theorem eqFieldS_c (w : World) (sa sb : Value) (la lb : List FieldD) (ha : rd w [sa] la) (hb : rd w [sb] lb) : Calls Tryz.prog 71 #[sa, sb] w (Ret w (.bool (eqb la lb))) := by
  obtain ⟨oa, capa, e1, hl1, hm1, hel1⟩ := ha
  obtain ⟨ob, capb, e2, hl2, hm2, hel2⟩ := hb
  obtain rfl : sa = _ := by simpa using e1
  obtain rfl : sb = _ := by simpa using e2
  clear e1 e2
  have HE1 := Lib.hid hel1; clear hel1
  have HE2 := Lib.hid hel2; clear hel2
  unfold maxLen at hm1 hm2
  have hma : la.length ≤ 9223372036854775807 := by omega
  have hmb : lb.length ≤ 9223372036854775807 := by omega
  by_cases hlen : la.length = lb.length
  · have hne : ((la.length : Int) != (lb.length : Int)) = false := by simp [hlen]
    generalize hr : eqb la lb = r
    have Hr := Lib.hid hr; clear hr
    have Hlen := Lib.hid hlen; clear hlen
    have es := eqb_str
    go_enter Tryz.func71, Tryz.ntmps71
    go_wp2
    go_loopw [5] (fun i wr => ∃ k : Nat, k ≤ la.length ∧ i = .int .i64 k ∧ Hid (la.take k = lb.take k) ∧ Below w.heap.size w wr) (fun i _ => la.length - (intOf i).toNat)
    case atStart => exact ⟨0, Nat.zero_le _, rfl, rfl, Below.refl _ _⟩
    case round =>
      obtain ⟨k, hk, rfl, htk, hB⟩ := hrel
      by_cases hlt : k < la.length
      · have hltb : k < lb.length := by have := Hlen.out; omega
        obtain ⟨ba, fa, ea, rfl, hla, hca, hra⟩ := HE1.out k _ (List.getElem?_eq_getElem hlt)
        obtain ⟨bb, fb, eb, rfl, hlb, hcb, hrb⟩ := HE2.out k _ (List.getElem?_eq_getElem hltb)
        have Hno := Lib.hid (eqS_no (List.getElem?_eq_getElem hlt) (List.getElem?_eq_getElem hltb))
        have Hyes := Lib.hid (eqS_step htk.out (List.getElem?_eq_getElem hlt) (List.getElem?_eq_getElem hltb))
        generalize la[k] = xa at *
        generalize lb[k] = xb at *
        obtain ⟨x0, x1, rfl⟩ := len2 (show _ = 2 from hla)
        obtain ⟨y0, y1, rfl⟩ := len2 (show _ = 2 from hlb)
        have qba0 : w.cell? ⟨ba, fa + k * 2, none⟩ = some _ := hca 0 _ rfl
        have pba0 := fun d os => cell_regrown ((hB.cell (World.block_lt_of_cell? w _ qba0)).trans qba0) d os
        clear qba0
        have qba1 : w.cell? ⟨ba, fa + k * 2 + 1, none⟩ = some _ := hca 1 _ rfl
        have pba1 := fun d os => cell_regrown ((hB.cell (World.block_lt_of_cell? w _ qba1)).trans qba1) d os
        clear qba1
        have qbb0 : w.cell? ⟨bb, fb + k * 2, none⟩ = some _ := hcb 0 _ rfl
        have pbb0 := fun d os => cell_regrown ((hB.cell (World.block_lt_of_cell? w _ qbb0)).trans qbb0) d os
        clear qbb0
        have qbb1 : w.cell? ⟨bb, fb + k * 2 + 1, none⟩ = some _ := hcb 1 _ rfl
        have pbb1 := fun d os => cell_regrown ((hB.cell (World.block_lt_of_cell? w _ qbb1)).trans qbb1) d os
        clear qbb1
        have ra := fun d os => rd_below (rd_below hra hB) (below_regrown wr d os)
        have rb := fun d os => rd_below (rd_below hrb hB) (below_regrown wr d os)
        have Ra := Lib.hid ra
        have Rb := Lib.hid rb
        clear ra rb
        clear hca hcb hra hrb hla hlb
        go_wp2
        refine wp_region_quiet_below (by kernel_rfl) (by kernel_rfl) ?_
        repeat (quiet_step (exact Calls.regrown_of (eqField_c _ [x0, x1] [y0, y1] xa xb (Ra.out _ _) (Rb.out _ _))))
        refine wpQuiet_nil ?_
        intro _ hw'
        obtain ⟨⟨dq, osq⟩, hw''⟩ := hw'
        subst hw''
        have hB2 := hB.trans ((below_regrown wr dq osq).mono hB.size)
        go_wp2
        · go_ret
          obtain rfl : r = false := Hr.out.symm.trans (Hno.out (by go_light; clear es; simp_all [eqb_int, eqb_bool]))
          exact ⟨rfl, hB2⟩
        go_roundw
        case rel => exact ⟨k + 1, by omega, by go_num, Hyes.out (by go_light; clear es; simp_all [eqb_int, eqb_bool]), hB2⟩
        case measure => simp [intOf]; omega
      obtain rfl : k = la.length := by omega
      have Hy := Lib.hid (eqS_end htk.out (by have := Hlen.out; omega))
      go_wp2
      go_ret
      obtain rfl : r = true := Hr.out.symm.trans Hy.out
      exact ⟨rfl, hB⟩
  have hne : ((la.length : Int) != (lb.length : Int)) = true := by simp; omega
  generalize hr : eqb la lb = r
  have Hr := Lib.hid hr; clear hr
  have Hn := Lib.hid (eqS_len hlen); clear hlen
  go_enter Tryz.func71, Tryz.ntmps71
  go_wp2
  go_ret
  obtain rfl : r = false := Hr.out.symm.trans Hn.out
  exact ⟨rfl, Below.refl _ _⟩
set_option maxHeartbeats 1000000 in
theorem eqAttrS_c (w : World) (sa sb : Value) (la lb : List AttrD) (ha : rd w [sa] la) (hb : rd w [sb] lb) : Calls Tryz.prog 116 #[sa, sb] w (Ret w (.bool (eqb la lb))) := by
  obtain ⟨oa, capa, e1, hl1, hm1, hel1⟩ := ha
  obtain ⟨ob, capb, e2, hl2, hm2, hel2⟩ := hb
  obtain rfl : sa = _ := by simpa using e1
  obtain rfl : sb = _ := by simpa using e2
  clear e1 e2
  have HE1 := Lib.hid hel1; clear hel1
  have HE2 := Lib.hid hel2; clear hel2
  unfold maxLen at hm1 hm2
  have hma : la.length ≤ 9223372036854775807 := by omega
  have hmb : lb.length ≤ 9223372036854775807 := by omega
  by_cases hlen : la.length = lb.length
  · have hne : ((la.length : Int) != (lb.length : Int)) = false := by simp [hlen]
    generalize hr : eqb la lb = r
    have Hr := Lib.hid hr; clear hr
    have Hlen := Lib.hid hlen; clear hlen
    have es := eqb_str
    go_enter Tryz.func116, Tryz.ntmps116
    go_wp2
    go_loopw [5] (fun i wr => ∃ k : Nat, k ≤ la.length ∧ i = .int .i64 k ∧ Hid (la.take k = lb.take k) ∧ Below w.heap.size w wr) (fun i _ => la.length - (intOf i).toNat)
    case atStart => exact ⟨0, Nat.zero_le _, rfl, rfl, Below.refl _ _⟩
    case round =>
      obtain ⟨k, hk, rfl, htk, hB⟩ := hrel
      by_cases hlt : k < la.length
      · have hltb : k < lb.length := by have := Hlen.out; omega
        obtain ⟨ba, fa, ea, rfl, hla, hca, hra⟩ := HE1.out k _ (List.getElem?_eq_getElem hlt)
        obtain ⟨bb, fb, eb, rfl, hlb, hcb, hrb⟩ := HE2.out k _ (List.getElem?_eq_getElem hltb)
        have Hno := Lib.hid (eqS_no (List.getElem?_eq_getElem hlt) (List.getElem?_eq_getElem hltb))
        have Hyes := Lib.hid (eqS_step htk.out (List.getElem?_eq_getElem hlt) (List.getElem?_eq_getElem hltb))
        generalize la[k] = xa at *
        generalize lb[k] = xb at *
        obtain ⟨x0, x1, x2, x3, rfl⟩ := len4 (show _ = 4 from hla)
        obtain ⟨y0, y1, y2, y3, rfl⟩ := len4 (show _ = 4 from hlb)
        have qba0 : w.cell? ⟨ba, fa + k * 4, none⟩ = some _ := hca 0 _ rfl
        have pba0 := fun d os => cell_regrown ((hB.cell (World.block_lt_of_cell? w _ qba0)).trans qba0) d os
        clear qba0
        have qba1 : w.cell? ⟨ba, fa + k * 4 + 1, none⟩ = some _ := hca 1 _ rfl
        have pba1 := fun d os => cell_regrown ((hB.cell (World.block_lt_of_cell? w _ qba1)).trans qba1) d os
        clear qba1
        have qba2 : w.cell? ⟨ba, fa + k * 4 + 2, none⟩ = some _ := hca 2 _ rfl
        have pba2 := fun d os => cell_regrown ((hB.cell (World.block_lt_of_cell? w _ qba2)).trans qba2) d os
        clear qba2
        have qba3 : w.cell? ⟨ba, fa + k * 4 + 3, none⟩ = some _ := hca 3 _ rfl
        have pba3 := fun d os => cell_regrown ((hB.cell (World.block_lt_of_cell? w _ qba3)).trans qba3) d os
        clear qba3
        have qbb0 : w.cell? ⟨bb, fb + k * 4, none⟩ = some _ := hcb 0 _ rfl
        have pbb0 := fun d os => cell_regrown ((hB.cell (World.block_lt_of_cell? w _ qbb0)).trans qbb0) d os
        clear qbb0
        have qbb1 : w.cell? ⟨bb, fb + k * 4 + 1, none⟩ = some _ := hcb 1 _ rfl
        have pbb1 := fun d os => cell_regrown ((hB.cell (World.block_lt_of_cell? w _ qbb1)).trans qbb1) d os
        clear qbb1
        have qbb2 : w.cell? ⟨bb, fb + k * 4 + 2, none⟩ = some _ := hcb 2 _ rfl
        have pbb2 := fun d os => cell_regrown ((hB.cell (World.block_lt_of_cell? w _ qbb2)).trans qbb2) d os
        clear qbb2
        have qbb3 : w.cell? ⟨bb, fb + k * 4 + 3, none⟩ = some _ := hcb 3 _ rfl
        have pbb3 := fun d os => cell_regrown ((hB.cell (World.block_lt_of_cell? w _ qbb3)).trans qbb3) d os
        clear qbb3
        have ra := fun d os => rd_below (rd_below hra hB) (below_regrown wr d os)
        have rb := fun d os => rd_below (rd_below hrb hB) (below_regrown wr d os)
        have Ra := Lib.hid ra
        have Rb := Lib.hid rb
        clear ra rb
        clear hca hcb hra hrb hla hlb
        go_wp2
        refine wp_region_quiet_below (by kernel_rfl) (by kernel_rfl) ?_
        repeat (quiet_step (exact Calls.regrown_of (eqAttr_c _ [x0, x1, x2, x3] [y0, y1, y2, y3] xa xb (Ra.out _ _) (Rb.out _ _))))
        refine wpQuiet_nil ?_
        intro _ hw'
        obtain ⟨⟨dq, osq⟩, hw''⟩ := hw'
        subst hw''
        have hB2 := hB.trans ((below_regrown wr dq osq).mono hB.size)
        go_wp2
        · go_ret
          obtain rfl : r = false := Hr.out.symm.trans (Hno.out (by go_light; clear es; simp_all [eqb_int, eqb_bool]))
          exact ⟨rfl, hB2⟩
        go_roundw
        case rel => exact ⟨k + 1, by omega, by go_num, Hyes.out (by go_light; clear es; simp_all [eqb_int, eqb_bool]), hB2⟩
        case measure => simp [intOf]; omega
      obtain rfl : k = la.length := by omega
      have Hy := Lib.hid (eqS_end htk.out (by have := Hlen.out; omega))
      go_wp2
      go_ret
      obtain rfl : r = true := Hr.out.symm.trans Hy.out
      exact ⟨rfl, hB⟩
  have hne : ((la.length : Int) != (lb.length : Int)) = true := by simp; omega
  generalize hr : eqb la lb = r
  have Hr := Lib.hid hr; clear hr
  have Hn := Lib.hid (eqS_len hlen); clear hlen
  go_enter Tryz.func116, Tryz.ntmps116
  go_wp2
  go_ret
  obtain rfl : r = false := Hr.out.symm.trans Hn.out
  exact ⟨rfl, Below.refl _ _⟩
set_option maxHeartbeats 1000000 in
theorem eqFile_c (w : World) (ca cb : List Value) (a b : FileD) (ha : rd w ca a) (hb : rd w cb b) : Calls Tryz.prog 95 #[.agg ca.toArray, .agg cb.toArray] w (Ret w (.bool (eqb a b))) := by
  obtain ⟨a1, a2, a3, a4, a5⟩ := a
  obtain ⟨ac1, at1, rfl, ar1, ac2, at2, rfl, ar2, ac3, at3, rfl, ar3, ac4, at4, rfl, ar4, ar5⟩ := ha
  obtain ⟨rfl, ar1⟩ := ar1
  obtain ⟨rfl, ar2⟩ := ar2
  obtain rfl := ar3
  obtain ⟨rfl, ar4⟩ := ar4
  obtain ⟨ax5_0, rfl⟩ := len1 (show _ = 1 from GoD.rd_len ar5)
  obtain ⟨b1, b2, b3, b4, b5⟩ := b
  obtain ⟨bc1, bt1, rfl, br1, bc2, bt2, rfl, br2, bc3, bt3, rfl, br3, bc4, bt4, rfl, br4, br5⟩ := hb
  obtain ⟨rfl, br1⟩ := br1
  obtain ⟨rfl, br2⟩ := br2
  obtain rfl := br3
  obtain ⟨rfl, br4⟩ := br4
  obtain ⟨bx5_0, rfl⟩ := len1 (show _ = 1 from GoD.rd_len br5)
  dsimp only [List.cons_append, List.nil_append] at *
  generalize hr : eqb (a1, a2, a3, a4, a5) (b1, b2, b3, b4, b5) = r
  have Hr := Lib.hid hr; clear hr
  have es := eqb_str
  clear ar1 br1
  clear ar2 br2
  clear ar4 br4
  have AR5H := Lib.hid ar5; clear ar5
  have BR5H := Lib.hid br5; clear br5
  have tok1 : True := trivial
  go_enter Tryz.func95, Tryz.ntmps95
  go_wp2_with (first | (go_at_call 116; have tk := tok1; clear tok1; (refine call_ret (w := w) (eqAttrS_c _ ax5_0 bx5_0 a5 b5 (rd_below AR5H.out (by go_grown)) (rd_below BR5H.out (by go_grown))) (by go_grown) ?_; intro w' hB hb hz hz2; (repeat (first | rewrite [World.size_alloc] at hz2 | rewrite [World.size_setCell] at hz2 | rewrite [World.size_drew] at hz2)); have c0 := fun o => bcell hb (w.heap.size) o (by go_size); have c1 := fun o => bcell hb (w.heap.size + 1) o (by go_size))))
  all_goals
    go_ret
    refine ⟨?_, by go_grown⟩
    rw [← Hr.out]
    go_light
    clear es
    simp_all [eqb_prod, eqb_int, eqb_bool]
set_option maxHeartbeats 1000000 in
theorem eqFileS_c (w : World) (sa sb : Value) (la lb : List FileD) (ha : rd w [sa] la) (hb : rd w [sb] lb) : Calls Tryz.prog 72 #[sa, sb] w (Ret w (.bool (eqb la lb))) := by
  obtain ⟨oa, capa, e1, hl1, hm1, hel1⟩ := ha
  obtain ⟨ob, capb, e2, hl2, hm2, hel2⟩ := hb
  obtain rfl : sa = _ := by simpa using e1
  obtain rfl : sb = _ := by simpa using e2
  clear e1 e2
  have HE1 := Lib.hid hel1; clear hel1
  have HE2 := Lib.hid hel2; clear hel2
  unfold maxLen at hm1 hm2
  have hma : la.length ≤ 9223372036854775807 := by omega
  have hmb : lb.length ≤ 9223372036854775807 := by omega
  by_cases hlen : la.length = lb.length
  · have hne : ((la.length : Int) != (lb.length : Int)) = false := by simp [hlen]
    generalize hr : eqb la lb = r
    have Hr := Lib.hid hr; clear hr
    have Hlen := Lib.hid hlen; clear hlen
    have es := eqb_str
    go_enter Tryz.func72, Tryz.ntmps72
    go_wp2
    go_loopw [5] (fun i wr => ∃ k : Nat, k ≤ la.length ∧ i = .int .i64 k ∧ Hid (la.take k = lb.take k) ∧ Below w.heap.size w wr) (fun i _ => la.length - (intOf i).toNat)
    case atStart => exact ⟨0, Nat.zero_le _, rfl, rfl, Below.refl _ _⟩
    case round =>
      obtain ⟨k, hk, rfl, htk, hB⟩ := hrel
      by_cases hlt : k < la.length
      · have hltb : k < lb.length := by have := Hlen.out; omega
        obtain ⟨ba, fa, ea, rfl, hla, hca, hra⟩ := HE1.out k _ (List.getElem?_eq_getElem hlt)
        obtain ⟨bb, fb, eb, rfl, hlb, hcb, hrb⟩ := HE2.out k _ (List.getElem?_eq_getElem hltb)
        have Hno := Lib.hid (eqS_no (List.getElem?_eq_getElem hlt) (List.getElem?_eq_getElem hltb))
        have Hyes := Lib.hid (eqS_step htk.out (List.getElem?_eq_getElem hlt) (List.getElem?_eq_getElem hltb))
        generalize la[k] = xa at *
        generalize lb[k] = xb at *
        obtain ⟨x0, x1, x2, x3, x4, rfl⟩ := len5 (show _ = 5 from hla)
        obtain ⟨y0, y1, y2, y3, y4, rfl⟩ := len5 (show _ = 5 from hlb)
        have qba0 : w.cell? ⟨ba, fa + k * 5, none⟩ = some _ := hca 0 _ rfl
        have pba0 := fun d os => cell_regrown ((hB.cell (World.block_lt_of_cell? w _ qba0)).trans qba0) d os
        clear qba0
        have qba1 : w.cell? ⟨ba, fa + k * 5 + 1, none⟩ = some _ := hca 1 _ rfl
        have pba1 := fun d os => cell_regrown ((hB.cell (World.block_lt_of_cell? w _ qba1)).trans qba1) d os
        clear qba1
        have qba2 : w.cell? ⟨ba, fa + k * 5 + 2, none⟩ = some _ := hca 2 _ rfl
        have pba2 := fun d os => cell_regrown ((hB.cell (World.block_lt_of_cell? w _ qba2)).trans qba2) d os
        clear qba2
        have qba3 : w.cell? ⟨ba, fa + k * 5 + 3, none⟩ = some _ := hca 3 _ rfl
        have pba3 := fun d os => cell_regrown ((hB.cell (World.block_lt_of_cell? w _ qba3)).trans qba3) d os
        clear qba3
        have qba4 : w.cell? ⟨ba, fa + k * 5 + 4, none⟩ = some _ := hca 4 _ rfl
        have pba4 := fun d os => cell_regrown ((hB.cell (World.block_lt_of_cell? w _ qba4)).trans qba4) d os
        clear qba4
        have qbb0 : w.cell? ⟨bb, fb + k * 5, none⟩ = some _ := hcb 0 _ rfl
        have pbb0 := fun d os => cell_regrown ((hB.cell (World.block_lt_of_cell? w _ qbb0)).trans qbb0) d os
        clear qbb0
        have qbb1 : w.cell? ⟨bb, fb + k * 5 + 1, none⟩ = some _ := hcb 1 _ rfl
        have pbb1 := fun d os => cell_regrown ((hB.cell (World.block_lt_of_cell? w _ qbb1)).trans qbb1) d os
        clear qbb1
        have qbb2 : w.cell? ⟨bb, fb + k * 5 + 2, none⟩ = some _ := hcb 2 _ rfl
        have pbb2 := fun d os => cell_regrown ((hB.cell (World.block_lt_of_cell? w _ qbb2)).trans qbb2) d os
        clear qbb2
        have qbb3 : w.cell? ⟨bb, fb + k * 5 + 3, none⟩ = some _ := hcb 3 _ rfl
        have pbb3 := fun d os => cell_regrown ((hB.cell (World.block_lt_of_cell? w _ qbb3)).trans qbb3) d os
        clear qbb3
        have qbb4 : w.cell? ⟨bb, fb + k * 5 + 4, none⟩ = some _ := hcb 4 _ rfl
        have pbb4 := fun d os => cell_regrown ((hB.cell (World.block_lt_of_cell? w _ qbb4)).trans qbb4) d os
        clear qbb4
        have ra := fun d os => rd_below (rd_below hra hB) (below_regrown wr d os)
        have rb := fun d os => rd_below (rd_below hrb hB) (below_regrown wr d os)
        have Ra := Lib.hid ra
        have Rb := Lib.hid rb
        clear ra rb
        clear hca hcb hra hrb hla hlb
        go_wp2
        refine wp_region_quiet_below (by kernel_rfl) (by kernel_rfl) ?_
        repeat (quiet_step (exact Calls.regrown_of (eqFile_c _ [x0, x1, x2, x3, x4] [y0, y1, y2, y3, y4] xa xb (Ra.out _ _) (Rb.out _ _))))
        refine wpQuiet_nil ?_
        intro _ hw'
        obtain ⟨⟨dq, osq⟩, hw''⟩ := hw'
        subst hw''
        have hB2 := hB.trans ((below_regrown wr dq osq).mono hB.size)
        go_wp2
        · go_ret
          obtain rfl : r = false := Hr.out.symm.trans (Hno.out (by go_light; clear es; simp_all [eqb_int, eqb_bool]))
          exact ⟨rfl, hB2⟩
        go_roundw
        case rel => exact ⟨k + 1, by omega, by go_num, Hyes.out (by go_light; clear es; simp_all [eqb_int, eqb_bool]), hB2⟩
        case measure => simp [intOf]; omega
      obtain rfl : k = la.length := by omega
      have Hy := Lib.hid (eqS_end htk.out (by have := Hlen.out; omega))
      go_wp2
      go_ret
      obtain rfl : r = true := Hr.out.symm.trans Hy.out
      exact ⟨rfl, hB⟩
  have hne : ((la.length : Int) != (lb.length : Int)) = true := by simp; omega
  generalize hr : eqb la lb = r
  have Hr := Lib.hid hr; clear hr
  have Hn := Lib.hid (eqS_len hlen); clear hlen
  go_enter Tryz.func72, Tryz.ntmps72
  go_wp2
  go_ret
  obtain rfl : r = false := Hr.out.symm.trans Hn.out
  exact ⟨rfl, Below.refl _ _⟩
set_option maxHeartbeats 1000000 in
theorem eqStore_c (w : World) (ca cb : List Value) (a b : StoreD) (ha : rd w ca a) (hb : rd w cb b) : Calls Tryz.prog 53 #[.agg ca.toArray, .agg cb.toArray] w (Ret w (.bool (eqb a b))) := by
  obtain ⟨a1, a2, a3⟩ := a
  obtain ⟨ac1, at1, rfl, ar1, ac2, at2, rfl, ar2, ar3⟩ := ha
  obtain ⟨ax1_0, rfl⟩ := len1 (show _ = 1 from GoD.rd_len ar1)
  obtain ⟨ax2_0, rfl⟩ := len1 (show _ = 1 from GoD.rd_len ar2)
  obtain ⟨rfl, ar3⟩ := ar3
  obtain ⟨b1, b2, b3⟩ := b
  obtain ⟨bc1, bt1, rfl, br1, bc2, bt2, rfl, br2, br3⟩ := hb
  obtain ⟨bx1_0, rfl⟩ := len1 (show _ = 1 from GoD.rd_len br1)
  obtain ⟨bx2_0, rfl⟩ := len1 (show _ = 1 from GoD.rd_len br2)
  obtain ⟨rfl, br3⟩ := br3
  dsimp only [List.cons_append, List.nil_append] at *
  generalize hr : eqb (a1, a2, a3) (b1, b2, b3) = r
  have Hr := Lib.hid hr; clear hr
  have es := eqb_str
  have AR1H := Lib.hid ar1; clear ar1
  have BR1H := Lib.hid br1; clear br1
  have AR2H := Lib.hid ar2; clear ar2
  have BR2H := Lib.hid br2; clear br2
  clear ar3 br3
  have tok1 : True := trivial
  have tok2 : True := trivial
  go_enter Tryz.func53, Tryz.ntmps53
  go_wp2_with (first | (go_at_call 71; have tk := tok1; clear tok1; (refine call_ret (w := w) (eqFieldS_c _ ax1_0 bx1_0 a1 b1 (rd_below AR1H.out (by go_grown)) (rd_below BR1H.out (by go_grown))) (by go_grown) ?_; intro w' hB hb hz hz2; (repeat (first | rewrite [World.size_alloc] at hz2 | rewrite [World.size_setCell] at hz2 | rewrite [World.size_drew] at hz2)); have c0 := fun o => bcell hb (w.heap.size) o (by go_size); have c1 := fun o => bcell hb (w.heap.size + 1) o (by go_size))) | (go_at_call 72; have tk := tok2; clear tok2; (refine call_ret (w := w) (eqFileS_c _ ax2_0 bx2_0 a2 b2 (rd_below AR2H.out (by go_grown)) (rd_below BR2H.out (by go_grown))) (by go_grown) ?_; intro w' hB hb hz hz2; (repeat (first | rewrite [World.size_alloc] at hz2 | rewrite [World.size_setCell] at hz2 | rewrite [World.size_drew] at hz2)); have c0 := fun o => bcell hb (w.heap.size) o (by go_size); have c1 := fun o => bcell hb (w.heap.size + 1) o (by go_size))))
  all_goals
    go_ret
    refine ⟨?_, by go_grown⟩
    rw [← Hr.out]
    go_light
    clear es
    simp_all [eqb_prod, eqb_int, eqb_bool]
set_option maxHeartbeats 1000000 in
theorem eqNodeS_c (w : World) (sa sb : Value) (la lb : List NodeD) (ha : rd w [sa] la) (hb : rd w [sb] lb) : Calls Tryz.prog 96 #[sa, sb] w (Ret w (.bool (eqb la lb))) := by
  obtain ⟨oa, capa, e1, hl1, hm1, hel1⟩ := ha
  obtain ⟨ob, capb, e2, hl2, hm2, hel2⟩ := hb
  obtain rfl : sa = _ := by simpa using e1
  obtain rfl : sb = _ := by simpa using e2
  clear e1 e2
  have HE1 := Lib.hid hel1; clear hel1
  have HE2 := Lib.hid hel2; clear hel2
  unfold maxLen at hm1 hm2
  have hma : la.length ≤ 9223372036854775807 := by omega
  have hmb : lb.length ≤ 9223372036854775807 := by omega
  by_cases hlen : la.length = lb.length
  · have hne : ((la.length : Int) != (lb.length : Int)) = false := by simp [hlen]
    generalize hr : eqb la lb = r
    have Hr := Lib.hid hr; clear hr
    have Hlen := Lib.hid hlen; clear hlen
    have es := eqb_str
    go_enter Tryz.func96, Tryz.ntmps96
    go_wp2
    go_loopw [5] (fun i wr => ∃ k : Nat, k ≤ la.length ∧ i = .int .i64 k ∧ Hid (la.take k = lb.take k) ∧ Below w.heap.size w wr) (fun i _ => la.length - (intOf i).toNat)
    case atStart => exact ⟨0, Nat.zero_le _, rfl, rfl, Below.refl _ _⟩
    case round =>
      obtain ⟨k, hk, rfl, htk, hB⟩ := hrel
      by_cases hlt : k < la.length
      · have hltb : k < lb.length := by have := Hlen.out; omega
        obtain ⟨ba, fa, ea, rfl, hla, hca, hra⟩ := HE1.out k _ (List.getElem?_eq_getElem hlt)
        obtain ⟨bb, fb, eb, rfl, hlb, hcb, hrb⟩ := HE2.out k _ (List.getElem?_eq_getElem hltb)
        have Hno := Lib.hid (eqS_no (List.getElem?_eq_getElem hlt) (List.getElem?_eq_getElem hltb))
        have Hyes := Lib.hid (eqS_step htk.out (List.getElem?_eq_getElem hlt) (List.getElem?_eq_getElem hltb))
        generalize la[k] = xa at *
        generalize lb[k] = xb at *
        obtain ⟨x0, x1, x2, x3, x4, x5, x6, rfl⟩ := len7 (show _ = 7 from hla)
        obtain ⟨y0, y1, y2, y3, y4, y5, y6, rfl⟩ := len7 (show _ = 7 from hlb)
        have qba0 : w.cell? ⟨ba, fa + k * 7, none⟩ = some _ := hca 0 _ rfl
        have pba0 := fun d os => cell_regrown ((hB.cell (World.block_lt_of_cell? w _ qba0)).trans qba0) d os
        clear qba0
        have qba1 : w.cell? ⟨ba, fa + k * 7 + 1, none⟩ = some _ := hca 1 _ rfl
        have pba1 := fun d os => cell_regrown ((hB.cell (World.block_lt_of_cell? w _ qba1)).trans qba1) d os
        clear qba1
        have qba2 : w.cell? ⟨ba, fa + k * 7 + 2, none⟩ = some _ := hca 2 _ rfl
        have pba2 := fun d os => cell_regrown ((hB.cell (World.block_lt_of_cell? w _ qba2)).trans qba2) d os
        clear qba2
        have qba3 : w.cell? ⟨ba, fa + k * 7 + 3, none⟩ = some _ := hca 3 _ rfl
        have pba3 := fun d os => cell_regrown ((hB.cell (World.block_lt_of_cell? w _ qba3)).trans qba3) d os
        clear qba3
        have qba4 : w.cell? ⟨ba, fa + k * 7 + 4, none⟩ = some _ := hca 4 _ rfl
        have pba4 := fun d os => cell_regrown ((hB.cell (World.block_lt_of_cell? w _ qba4)).trans qba4) d os
        clear qba4
        have qba5 : w.cell? ⟨ba, fa + k * 7 + 5, none⟩ = some _ := hca 5 _ rfl
        have pba5 := fun d os => cell_regrown ((hB.cell (World.block_lt_of_cell? w _ qba5)).trans qba5) d os
        clear qba5
        have qba6 : w.cell? ⟨ba, fa + k * 7 + 6, none⟩ = some _ := hca 6 _ rfl
        have pba6 := fun d os => cell_regrown ((hB.cell (World.block_lt_of_cell? w _ qba6)).trans qba6) d os
        clear qba6
        have qbb0 : w.cell? ⟨bb, fb + k * 7, none⟩ = some _ := hcb 0 _ rfl
        have pbb0 := fun d os => cell_regrown ((hB.cell (World.block_lt_of_cell? w _ qbb0)).trans qbb0) d os
        clear qbb0
        have qbb1 : w.cell? ⟨bb, fb + k * 7 + 1, none⟩ = some _ := hcb 1 _ rfl
        have pbb1 := fun d os => cell_regrown ((hB.cell (World.block_lt_of_cell? w _ qbb1)).trans qbb1) d os
        clear qbb1
        have qbb2 : w.cell? ⟨bb, fb + k * 7 + 2, none⟩ = some _ := hcb 2 _ rfl
        have pbb2 := fun d os => cell_regrown ((hB.cell (World.block_lt_of_cell? w _ qbb2)).trans qbb2) d os
        clear qbb2
        have qbb3 : w.cell? ⟨bb, fb + k * 7 + 3, none⟩ = some _ := hcb 3 _ rfl
        have pbb3 := fun d os => cell_regrown ((hB.cell (World.block_lt_of_cell? w _ qbb3)).trans qbb3) d os
        clear qbb3
        have qbb4 : w.cell? ⟨bb, fb + k * 7 + 4, none⟩ = some _ := hcb 4 _ rfl
        have pbb4 := fun d os => cell_regrown ((hB.cell (World.block_lt_of_cell? w _ qbb4)).trans qbb4) d os
        clear qbb4
        have qbb5 : w.cell? ⟨bb, fb + k * 7 + 5, none⟩ = some _ := hcb 5 _ rfl
        have pbb5 := fun d os => cell_regrown ((hB.cell (World.block_lt_of_cell? w _ qbb5)).trans qbb5) d os
        clear qbb5
        have qbb6 : w.cell? ⟨bb, fb + k * 7 + 6, none⟩ = some _ := hcb 6 _ rfl
        have pbb6 := fun d os => cell_regrown ((hB.cell (World.block_lt_of_cell? w _ qbb6)).trans qbb6) d os
        clear qbb6
        have ra := fun d os => rd_below (rd_below hra hB) (below_regrown wr d os)
        have rb := fun d os => rd_below (rd_below hrb hB) (below_regrown wr d os)
        have Ra := Lib.hid ra
        have Rb := Lib.hid rb
        clear ra rb
        clear hca hcb hra hrb hla hlb
        go_wp2
        refine wp_region_quiet_below (by kernel_rfl) (by kernel_rfl) ?_
        repeat (quiet_step (exact Calls.regrown_of (eqNode_c _ [x0, x1, x2, x3, x4, x5, x6] [y0, y1, y2, y3, y4, y5, y6] xa xb (Ra.out _ _) (Rb.out _ _))))
        refine wpQuiet_nil ?_
        intro _ hw'
        obtain ⟨⟨dq, osq⟩, hw''⟩ := hw'
        subst hw''
        have hB2 := hB.trans ((below_regrown wr dq osq).mono hB.size)
        go_wp2
        · go_ret
          obtain rfl : r = false := Hr.out.symm.trans (Hno.out (by go_light; clear es; simp_all [eqb_int, eqb_bool]))
          exact ⟨rfl, hB2⟩
        go_roundw
        case rel => exact ⟨k + 1, by omega, by go_num, Hyes.out (by go_light; clear es; simp_all [eqb_int, eqb_bool]), hB2⟩
        case measure => simp [intOf]; omega
      obtain rfl : k = la.length := by omega
      have Hy := Lib.hid (eqS_end htk.out (by have := Hlen.out; omega))
      go_wp2
      go_ret
      obtain rfl : r = true := Hr.out.symm.trans Hy.out
      exact ⟨rfl, hB⟩
  have hne : ((la.length : Int) != (lb.length : Int)) = true := by simp; omega
  generalize hr : eqb la lb = r
  have Hr := Lib.hid hr; clear hr
  have Hn := Lib.hid (eqS_len hlen); clear hlen
  go_enter Tryz.func96, Tryz.ntmps96
  go_wp2
  go_ret
  obtain rfl : r = false := Hr.out.symm.trans Hn.out
  exact ⟨rfl, Below.refl _ _⟩
set_option maxHeartbeats 1000000 in
theorem eqDir_c (w : World) (ca cb : List Value) (a b : DirD) (ha : rd w ca a) (hb : rd w cb b) : Calls Tryz.prog 73 #[.agg ca.toArray, .agg cb.toArray] w (Ret w (.bool (eqb a b))) := by
  obtain ⟨a1, a2⟩ := a
  obtain ⟨ac1, at1, rfl, ar1, ar2⟩ := ha
  obtain ⟨rfl, ar1⟩ := ar1
  obtain ⟨ax2_0, rfl⟩ := len1 (show _ = 1 from GoD.rd_len ar2)
  obtain ⟨b1, b2⟩ := b
  obtain ⟨bc1, bt1, rfl, br1, br2⟩ := hb
  obtain ⟨rfl, br1⟩ := br1
  obtain ⟨bx2_0, rfl⟩ := len1 (show _ = 1 from GoD.rd_len br2)
  dsimp only [List.cons_append, List.nil_append] at *
  generalize hr : eqb (a1, a2) (b1, b2) = r
  have Hr := Lib.hid hr; clear hr
  have es := eqb_str
  clear ar1 br1
  have AR2H := Lib.hid ar2; clear ar2
  have BR2H := Lib.hid br2; clear br2
  have tok1 : True := trivial
  go_enter Tryz.func73, Tryz.ntmps73
  go_wp2_with (first | (go_at_call 96; have tk := tok1; clear tok1; (refine call_ret (w := w) (eqNodeS_c _ ax2_0 bx2_0 a2 b2 (rd_below AR2H.out (by go_grown)) (rd_below BR2H.out (by go_grown))) (by go_grown) ?_; intro w' hB hb hz hz2; (repeat (first | rewrite [World.size_alloc] at hz2 | rewrite [World.size_setCell] at hz2 | rewrite [World.size_drew] at hz2)); have c0 := fun o => bcell hb (w.heap.size) o (by go_size); have c1 := fun o => bcell hb (w.heap.size + 1) o (by go_size))))
  all_goals
    go_ret
    refine ⟨?_, by go_grown⟩
    rw [← Hr.out]
    go_light
    clear es
    simp_all [eqb_prod, eqb_int, eqb_bool]
set_option maxHeartbeats 1000000 in
theorem eqDirS_c (w : World) (sa sb : Value) (la lb : List DirD) (ha : rd w [sa] la) (hb : rd w [sb] lb) : Calls Tryz.prog 54 #[sa, sb] w (Ret w (.bool (eqb la lb))) := by
  obtain ⟨oa, capa, e1, hl1, hm1, hel1⟩ := ha
  obtain ⟨ob, capb, e2, hl2, hm2, hel2⟩ := hb
  obtain rfl : sa = _ := by simpa using e1
  obtain rfl : sb = _ := by simpa using e2
  clear e1 e2
  have HE1 := Lib.hid hel1; clear hel1
  have HE2 := Lib.hid hel2; clear hel2
  unfold maxLen at hm1 hm2
  have hma : la.length ≤ 9223372036854775807 := by omega
  have hmb : lb.length ≤ 9223372036854775807 := by omega
  by_cases hlen : la.length = lb.length
  · have hne : ((la.length : Int) != (lb.length : Int)) = false := by simp [hlen]
    generalize hr : eqb la lb = r
    have Hr := Lib.hid hr; clear hr
    have Hlen := Lib.hid hlen; clear hlen
    have es := eqb_str
    go_enter Tryz.func54, Tryz.ntmps54
    go_wp2
    go_loopw [5] (fun i wr => ∃ k : Nat, k ≤ la.length ∧ i = .int .i64 k ∧ Hid (la.take k = lb.take k) ∧ Below w.heap.size w wr) (fun i _ => la.length - (intOf i).toNat)
    case atStart => exact ⟨0, Nat.zero_le _, rfl, rfl, Below.refl _ _⟩
    case round =>
      obtain ⟨k, hk, rfl, htk, hB⟩ := hrel
      by_cases hlt : k < la.length
      · have hltb : k < lb.length := by have := Hlen.out; omega
        obtain ⟨ba, fa, ea, rfl, hla, hca, hra⟩ := HE1.out k _ (List.getElem?_eq_getElem hlt)
        obtain ⟨bb, fb, eb, rfl, hlb, hcb, hrb⟩ := HE2.out k _ (List.getElem?_eq_getElem hltb)
        have Hno := Lib.hid (eqS_no (List.getElem?_eq_getElem hlt) (List.getElem?_eq_getElem hltb))
        have Hyes := Lib.hid (eqS_step htk.out (List.getElem?_eq_getElem hlt) (List.getElem?_eq_getElem hltb))
        generalize la[k] = xa at *
        generalize lb[k] = xb at *
        obtain ⟨x0, x1, rfl⟩ := len2 (show _ = 2 from hla)
        obtain ⟨y0, y1, rfl⟩ := len2 (show _ = 2 from hlb)
        have qba0 : w.cell? ⟨ba, fa + k * 2, none⟩ = some _ := hca 0 _ rfl
        have pba0 := fun d os => cell_regrown ((hB.cell (World.block_lt_of_cell? w _ qba0)).trans qba0) d os
        clear qba0
        have qba1 : w.cell? ⟨ba, fa + k * 2 + 1, none⟩ = some _ := hca 1 _ rfl
        have pba1 := fun d os => cell_regrown ((hB.cell (World.block_lt_of_cell? w _ qba1)).trans qba1) d os
        clear qba1
        have qbb0 : w.cell? ⟨bb, fb + k * 2, none⟩ = some _ := hcb 0 _ rfl
        have pbb0 := fun d os => cell_regrown ((hB.cell (World.block_lt_of_cell? w _ qbb0)).trans qbb0) d os
        clear qbb0
        have qbb1 : w.cell? ⟨bb, fb + k * 2 + 1, none⟩ = some _ := hcb 1 _ rfl
        have pbb1 := fun d os => cell_regrown ((hB.cell (World.block_lt_of_cell? w _ qbb1)).trans qbb1) d os
        clear qbb1
        have ra := fun d os => rd_below (rd_below hra hB) (below_regrown wr d os)
        have rb := fun d os => rd_below (rd_below hrb hB) (below_regrown wr d os)
        have Ra := Lib.hid ra
        have Rb := Lib.hid rb
        clear ra rb
        clear hca hcb hra hrb hla hlb
        go_wp2
        refine wp_region_quiet_below (by kernel_rfl) (by kernel_rfl) ?_
        repeat (quiet_step (exact Calls.regrown_of (eqDir_c _ [x0, x1] [y0, y1] xa xb (Ra.out _ _) (Rb.out _ _))))
        refine wpQuiet_nil ?_
        intro _ hw'
        obtain ⟨⟨dq, osq⟩, hw''⟩ := hw'
        subst hw''
        have hB2 := hB.trans ((below_regrown wr dq osq).mono hB.size)
        go_wp2
        · go_ret
          obtain rfl : r = false := Hr.out.symm.trans (Hno.out (by go_light; clear es; simp_all [eqb_int, eqb_bool]))
          exact ⟨rfl, hB2⟩
        go_roundw
        case rel => exact ⟨k + 1, by omega, by go_num, Hyes.out (by go_light; clear es; simp_all [eqb_int, eqb_bool]), hB2⟩
        case measure => simp [intOf]; omega
      obtain rfl : k = la.length := by omega
      have Hy := Lib.hid (eqS_end htk.out (by have := Hlen.out; omega))
      go_wp2
      go_ret
      obtain rfl : r = true := Hr.out.symm.trans Hy.out
      exact ⟨rfl, hB⟩
  have hne : ((la.length : Int) != (lb.length : Int)) = true := by simp; omega
  generalize hr : eqb la lb = r
  have Hr := Lib.hid hr; clear hr
  have Hn := Lib.hid (eqS_len hlen); clear hlen
  go_enter Tryz.func54, Tryz.ntmps54
  go_wp2
  go_ret
  obtain rfl : r = false := Hr.out.symm.trans Hn.out
  exact ⟨rfl, Below.refl _ _⟩
set_option maxHeartbeats 1000000 in
theorem eqSnapshot_c (w : World) (ca cb : List Value) (a b : SnapshotD) (ha : rd w ca a) (hb : rd w cb b) : Calls Tryz.prog 35 #[.agg ca.toArray, .agg cb.toArray] w (Ret w (.bool (eqb a b))) := by
  obtain ⟨a1, a2⟩ := a
  obtain ⟨ac1, at1, rfl, ar1, ar2⟩ := ha
  obtain ⟨ax1_0, ax1_1, ax1_2, rfl⟩ := len3 (show _ = 3 from GoD.rd_len ar1)
  obtain ⟨ax2_0, rfl⟩ := len1 (show _ = 1 from GoD.rd_len ar2)
  obtain ⟨b1, b2⟩ := b
  obtain ⟨bc1, bt1, rfl, br1, br2⟩ := hb
  obtain ⟨bx1_0, bx1_1, bx1_2, rfl⟩ := len3 (show _ = 3 from GoD.rd_len br1)
  obtain ⟨bx2_0, rfl⟩ := len1 (show _ = 1 from GoD.rd_len br2)
  dsimp only [List.cons_append, List.nil_append] at *
  generalize hr : eqb (a1, a2) (b1, b2) = r
  have Hr := Lib.hid hr; clear hr
  have es := eqb_str
  have AR1H := Lib.hid ar1; clear ar1
  have BR1H := Lib.hid br1; clear br1
  have AR2H := Lib.hid ar2; clear ar2
  have BR2H := Lib.hid br2; clear br2
  have tok1 : True := trivial
  have tok2 : True := trivial
  go_enter Tryz.func35, Tryz.ntmps35
  go_wp2_with (first | (go_at_call 53; have tk := tok1; clear tok1; (refine call_ret (w := w) (eqStore_c _ [ax1_0, ax1_1, ax1_2] [bx1_0, bx1_1, bx1_2] a1 b1 (rd_below AR1H.out (by go_grown)) (rd_below BR1H.out (by go_grown))) (by go_grown) ?_; intro w' hB hb hz hz2; (repeat (first | rewrite [World.size_alloc] at hz2 | rewrite [World.size_setCell] at hz2 | rewrite [World.size_drew] at hz2)); have c0 := fun o => bcell hb (w.heap.size) o (by go_size); have c1 := fun o => bcell hb (w.heap.size + 1) o (by go_size))) | (go_at_call 54; have tk := tok2; clear tok2; (refine call_ret (w := w) (eqDirS_c _ ax2_0 bx2_0 a2 b2 (rd_below AR2H.out (by go_grown)) (rd_below BR2H.out (by go_grown))) (by go_grown) ?_; intro w' hB hb hz hz2; (repeat (first | rewrite [World.size_alloc] at hz2 | rewrite [World.size_setCell] at hz2 | rewrite [World.size_drew] at hz2)); have c0 := fun o => bcell hb (w.heap.size) o (by go_size); have c1 := fun o => bcell hb (w.heap.size + 1) o (by go_size))))
  all_goals
    go_ret
    refine ⟨?_, by go_grown⟩
    rw [← Hr.out]
    go_light
    clear es
    simp_all [eqb_prod, eqb_int, eqb_bool]
set_option maxHeartbeats 1000000 in
theorem eqVersion_c (w : World) (ca cb : List Value) (a b : VersionD) (ha : rd w ca a) (hb : rd w cb b) : Calls Tryz.prog 19 #[.agg ca.toArray, .agg cb.toArray] w (Ret w (.bool (eqb a b))) := by
  obtain ⟨a1, a2, a3⟩ := a
  obtain ⟨ac1, at1, rfl, ar1, ac2, at2, rfl, ar2, ar3⟩ := ha
  obtain ⟨rfl, ar1⟩ := ar1
  obtain ⟨ax2_0, ax2_1, ax2_2, ax2_3, rfl⟩ := len4 (show _ = 4 from GoD.rd_len ar2)
  obtain ⟨rfl, ar3⟩ := ar3
  obtain ⟨b1, b2, b3⟩ := b
  obtain ⟨bc1, bt1, rfl, br1, bc2, bt2, rfl, br2, br3⟩ := hb
  obtain ⟨rfl, br1⟩ := br1
  obtain ⟨bx2_0, bx2_1, bx2_2, bx2_3, rfl⟩ := len4 (show _ = 4 from GoD.rd_len br2)
  obtain ⟨rfl, br3⟩ := br3
  dsimp only [List.cons_append, List.nil_append] at *
  generalize hr : eqb (a1, a2, a3) (b1, b2, b3) = r
  have Hr := Lib.hid hr; clear hr
  have es := eqb_str
  clear ar1 br1
  have AR2H := Lib.hid ar2; clear ar2
  have BR2H := Lib.hid br2; clear br2
  clear ar3 br3
  have tok1 : True := trivial
  go_enter Tryz.func19, Tryz.ntmps19
  go_wp2_with (first | (go_at_call 35; have tk := tok1; clear tok1; (refine call_ret (w := w) (eqSnapshot_c _ [ax2_0, ax2_1, ax2_2, ax2_3] [bx2_0, bx2_1, bx2_2, bx2_3] a2 b2 (rd_below AR2H.out (by go_grown)) (rd_below BR2H.out (by go_grown))) (by go_grown) ?_; intro w' hB hb hz hz2; (repeat (first | rewrite [World.size_alloc] at hz2 | rewrite [World.size_setCell] at hz2 | rewrite [World.size_drew] at hz2)); have c0 := fun o => bcell hb (w.heap.size) o (by go_size); have c1 := fun o => bcell hb (w.heap.size + 1) o (by go_size))))
  all_goals
    go_ret
    refine ⟨?_, by go_grown⟩
    rw [← Hr.out]
    go_light
    clear es
    simp_all [eqb_prod, eqb_int, eqb_bool]
set_option maxHeartbeats 1000000 in
theorem eqVersionS_c (w : World) (sa sb : Value) (la lb : List VersionD) (ha : rd w [sa] la) (hb : rd w [sb] lb) : Calls Tryz.prog 8 #[sa, sb] w (Ret w (.bool (eqb la lb))) := by
  obtain ⟨oa, capa, e1, hl1, hm1, hel1⟩ := ha
  obtain ⟨ob, capb, e2, hl2, hm2, hel2⟩ := hb
  obtain rfl : sa = _ := by simpa using e1
  obtain rfl : sb = _ := by simpa using e2
  clear e1 e2
  have HE1 := Lib.hid hel1; clear hel1
  have HE2 := Lib.hid hel2; clear hel2
  unfold maxLen at hm1 hm2
  have hma : la.length ≤ 9223372036854775807 := by omega
  have hmb : lb.length ≤ 9223372036854775807 := by omega
  by_cases hlen : la.length = lb.length
  · have hne : ((la.length : Int) != (lb.length : Int)) = false := by simp [hlen]
    generalize hr : eqb la lb = r
    have Hr := Lib.hid hr; clear hr
    have Hlen := Lib.hid hlen; clear hlen
    have es := eqb_str
    go_enter Tryz.func8, Tryz.ntmps8
    go_wp2
    go_loopw [5] (fun i wr => ∃ k : Nat, k ≤ la.length ∧ i = .int .i64 k ∧ Hid (la.take k = lb.take k) ∧ Below w.heap.size w wr) (fun i _ => la.length - (intOf i).toNat)
    case atStart => exact ⟨0, Nat.zero_le _, rfl, rfl, Below.refl _ _⟩
    case round =>
      obtain ⟨k, hk, rfl, htk, hB⟩ := hrel
      by_cases hlt : k < la.length
      · have hltb : k < lb.length := by have := Hlen.out; omega
        obtain ⟨ba, fa, ea, rfl, hla, hca, hra⟩ := HE1.out k _ (List.getElem?_eq_getElem hlt)
        obtain ⟨bb, fb, eb, rfl, hlb, hcb, hrb⟩ := HE2.out k _ (List.getElem?_eq_getElem hltb)
        have Hno := Lib.hid (eqS_no (List.getElem?_eq_getElem hlt) (List.getElem?_eq_getElem hltb))
        have Hyes := Lib.hid (eqS_step htk.out (List.getElem?_eq_getElem hlt) (List.getElem?_eq_getElem hltb))
        generalize la[k] = xa at *
        generalize lb[k] = xb at *
        obtain ⟨x0, x1, x2, x3, x4, x5, rfl⟩ := len6 (show _ = 6 from hla)
        obtain ⟨y0, y1, y2, y3, y4, y5, rfl⟩ := len6 (show _ = 6 from hlb)
        have qba0 : w.cell? ⟨ba, fa + k * 6, none⟩ = some _ := hca 0 _ rfl
        have pba0 := fun d os => cell_regrown ((hB.cell (World.block_lt_of_cell? w _ qba0)).trans qba0) d os
        clear qba0
        have qba1 : w.cell? ⟨ba, fa + k * 6 + 1, none⟩ = some _ := hca 1 _ rfl
        have pba1 := fun d os => cell_regrown ((hB.cell (World.block_lt_of_cell? w _ qba1)).trans qba1) d os
        clear qba1
        have qba2 : w.cell? ⟨ba, fa + k * 6 + 2, none⟩ = some _ := hca 2 _ rfl
        have pba2 := fun d os => cell_regrown ((hB.cell (World.block_lt_of_cell? w _ qba2)).trans qba2) d os
        clear qba2
        have qba3 : w.cell? ⟨ba, fa + k * 6 + 3, none⟩ = some _ := hca 3 _ rfl
        have pba3 := fun d os => cell_regrown ((hB.cell (World.block_lt_of_cell? w _ qba3)).trans qba3) d os
        clear qba3
        have qba4 : w.cell? ⟨ba, fa + k * 6 + 4, none⟩ = some _ := hca 4 _ rfl
        have pba4 := fun d os => cell_regrown ((hB.cell (World.block_lt_of_cell? w _ qba4)).trans qba4) d os
        clear qba4
        have qba5 : w.cell? ⟨ba, fa + k * 6 + 5, none⟩ = some _ := hca 5 _ rfl
        have pba5 := fun d os => cell_regrown ((hB.cell (World.block_lt_of_cell? w _ qba5)).trans qba5) d os
        clear qba5
        have qbb0 : w.cell? ⟨bb, fb + k * 6, none⟩ = some _ := hcb 0 _ rfl
        have pbb0 := fun d os => cell_regrown ((hB.cell (World.block_lt_of_cell? w _ qbb0)).trans qbb0) d os
        clear qbb0
        have qbb1 : w.cell? ⟨bb, fb + k * 6 + 1, none⟩ = some _ := hcb 1 _ rfl
        have pbb1 := fun d os => cell_regrown ((hB.cell (World.block_lt_of_cell? w _ qbb1)).trans qbb1) d os
        clear qbb1
        have qbb2 : w.cell? ⟨bb, fb + k * 6 + 2, none⟩ = some _ := hcb 2 _ rfl
        have pbb2 := fun d os => cell_regrown ((hB.cell (World.block_lt_of_cell? w _ qbb2)).trans qbb2) d os
        clear qbb2
        have qbb3 : w.cell? ⟨bb, fb + k * 6 + 3, none⟩ = some _ := hcb 3 _ rfl
        have pbb3 := fun d os => cell_regrown ((hB.cell (World.block_lt_of_cell? w _ qbb3)).trans qbb3) d os
        clear qbb3
        have qbb4 : w.cell? ⟨bb, fb + k * 6 + 4, none⟩ = some _ := hcb 4 _ rfl
        have pbb4 := fun d os => cell_regrown ((hB.cell (World.block_lt_of_cell? w _ qbb4)).trans qbb4) d os
        clear qbb4
        have qbb5 : w.cell? ⟨bb, fb + k * 6 + 5, none⟩ = some _ := hcb 5 _ rfl
        have pbb5 := fun d os => cell_regrown ((hB.cell (World.block_lt_of_cell? w _ qbb5)).trans qbb5) d os
        clear qbb5
        have ra := fun d os => rd_below (rd_below hra hB) (below_regrown wr d os)
        have rb := fun d os => rd_below (rd_below hrb hB) (below_regrown wr d os)
        have Ra := Lib.hid ra
        have Rb := Lib.hid rb
        clear ra rb
        clear hca hcb hra hrb hla hlb
        go_wp2
        refine wp_region_quiet_below (by kernel_rfl) (by kernel_rfl) ?_
        repeat (quiet_step (exact Calls.regrown_of (eqVersion_c _ [x0, x1, x2, x3, x4, x5] [y0, y1, y2, y3, y4, y5] xa xb (Ra.out _ _) (Rb.out _ _))))
        refine wpQuiet_nil ?_
        intro _ hw'
        obtain ⟨⟨dq, osq⟩, hw''⟩ := hw'
        subst hw''
        have hB2 := hB.trans ((below_regrown wr dq osq).mono hB.size)
        go_wp2
        · go_ret
          obtain rfl : r = false := Hr.out.symm.trans (Hno.out (by go_light; clear es; simp_all [eqb_int, eqb_bool]))
          exact ⟨rfl, hB2⟩
        go_roundw
        case rel => exact ⟨k + 1, by omega, by go_num, Hyes.out (by go_light; clear es; simp_all [eqb_int, eqb_bool]), hB2⟩
        case measure => simp [intOf]; omega
      obtain rfl : k = la.length := by omega
      have Hy := Lib.hid (eqS_end htk.out (by have := Hlen.out; omega))
      go_wp2
      go_ret
      obtain rfl : r = true := Hr.out.symm.trans Hy.out
      exact ⟨rfl, hB⟩
  have hne : ((la.length : Int) != (lb.length : Int)) = true := by simp; omega
  generalize hr : eqb la lb = r
  have Hr := Lib.hid hr; clear hr
  have Hn := Lib.hid (eqS_len hlen); clear hlen
  go_enter Tryz.func8, Tryz.ntmps8
  go_wp2
  go_ret
  obtain rfl : r = false := Hr.out.symm.trans Hn.out
  exact ⟨rfl, Below.refl _ _⟩
end
section
open Go.RowKit
open GoD (rd own)
set_option maxRecDepth 100000
set_option maxHeartbeats 1000000
theorem cBt {w v : World} {a : Addr} {x : Value} (hB : Below w.heap.size w v) (h : w.cell? a = some x) : v.cell? a = some x := (hB.cell (World.block_lt_of_cell? w _ h)).trans h
theorem zSt : (∀ (w : World) o, (w.alloc o).heap.size = w.heap.size + 1) ∧ (∀ (w : World) a v, (w.setCell a v).heap.size = w.heap.size) ∧ ∀ w : World, w.drew.heap.size = w.heap.size := ⟨fun _ _ => World.size_alloc .., fun _ _ _ => World.size_setCell .., fun _ => rfl⟩
abbrev tI {α : Type} [GoD α] (w : World) (e : TypeId) (l : List α) (i : Value) (wr : World) : Prop := ∃ k : Nat, k ≤ l.length ∧ i = .int .i64 k ∧ Below w.heap.size w wr ∧ w.heap.size < wr.heap.size ∧ Hid (Part wr w.heap.size l.length e l k)
theorem cXt {w : World} {g : Nat} {cur : Array Value} {e : TypeId} {fr : Nat × Nat} (h : w.heap[g]? = some (.cells cur e fr)) (o : Nat) (ho : o < cur.size) : ∃ y, w.cell? ⟨g, o, none⟩ = some y := ⟨_, cells_of_heap h o ho⟩
theorem toField_c (w : World) (ca : List Value) (a : FieldD) (ha : rd w ca a) (hsz : GoD.size a ≤ 1048576) : Calls Tryz.prog 82 #[.agg ca.toArray] w (RetA w a) := by
  obtain ⟨a1, a2⟩ := a
  obtain ⟨ac1, at1, rfl, ar1, ar2⟩ := ha
  obtain ⟨rfl, ar1⟩ := ar1
  obtain ⟨rfl, ar2⟩ := ar2
  dsimp only [List.cons_append, List.nil_append] at *
  replace hsz : (GoD.size a1 + GoD.size a2) ≤ 1048576 := hsz
  have AR1H := Lib.hid ar1; clear ar1
  have AR2H := Lib.hid ar2; clear ar2
  go_enter Tryz.func82, Tryz.ntmps82
  go_wp2_with (first | ((with_reducible show bodyPost _ _ _ _ _ _); refine bodyPost_ret (v := .agg #[.string a1, .int .i64 a2]) (by simp [results, Tryz.results82, go_sem]) rfl ⟨[.string a1, .int .i64 a2], ([] ++ []), rfl, by go_grown, ?_, ?_⟩; (exact (own_pair (own_s _ AR1H.out) (own_i _ AR2H.out) (by simp))); simp))
theorem toValue_c (w : World) (ca : List Value) (a : ValueD) (ha : rd w ca a) (hsz : GoD.size a ≤ 1048576) : Calls Tryz.prog 124 #[.agg ca.toArray] w (RetA w a) := by
  obtain ⟨a1, a2, a3⟩ := a
  obtain ⟨ac1, at1, rfl, ar1, ac2, at2, rfl, ar2, ar3⟩ := ha
  obtain ⟨rfl, ar1⟩ := ar1
  obtain ⟨rfl, ar2⟩ := ar2
  obtain ⟨rfl, ar3⟩ := ar3
  dsimp only [List.cons_append, List.nil_append] at *
  replace hsz : (GoD.size a1 + (GoD.size a2 + GoD.size a3)) ≤ 1048576 := hsz
  have AR1H := Lib.hid ar1; clear ar1
  have AR2H := Lib.hid ar2; clear ar2
  have AR3H := Lib.hid ar3; clear ar3
  go_enter Tryz.func124, Tryz.ntmps124
  go_wp2_with (first | ((with_reducible show bodyPost _ _ _ _ _ _); refine bodyPost_ret (v := .agg #[.int .i64 a1, .int .i64 a2, .string a3]) (by simp [results, Tryz.results124, go_sem]) rfl ⟨[.int .i64 a1, .int .i64 a2, .string a3], ([] ++ ([] ++ [])), rfl, by go_grown, ?_, ?_⟩; (exact (own_pair (own_i _ AR1H.out) (own_pair (own_i _ AR2H.out) (own_s _ AR3H.out) (by simp)) (by simp))); simp))
theorem toNode_c (w : World) (ca : List Value) (a : NodeD) (ha : rd w ca a) (hsz : GoD.size a ≤ 1048576) : Calls Tryz.prog 108 #[.agg ca.toArray] w (RetA w a) := by
  obtain ⟨a1, a2, a3, a4, a5⟩ := a
  obtain ⟨ac1, at1, rfl, ar1, ac2, at2, rfl, ar2, ac3, at3, rfl, ar3, ac4, at4, rfl, ar4, ar5⟩ := ha
  obtain ⟨rfl, ar1⟩ := ar1
  obtain ⟨rfl, ar2⟩ := ar2
  obtain ⟨rfl, ar3⟩ := ar3
  obtain ⟨rfl, ar4⟩ := ar4
  obtain ⟨ax5_0, ax5_1, ax5_2, rfl⟩ := len3 (show _ = 3 from GoD.rd_len ar5)
  dsimp only [List.cons_append, List.nil_append] at *
  replace hsz : (GoD.size a1 + (GoD.size a2 + (GoD.size a3 + (GoD.size a4 + GoD.size a5)))) ≤ 1048576 := hsz
  have AR1H := Lib.hid ar1; clear ar1
  have AR2H := Lib.hid ar2; clear ar2
  have AR3H := Lib.hid ar3; clear ar3
  have AR4H := Lib.hid ar4; clear ar4
  have AR5H := Lib.hid ar5; clear ar5
  have tok1 : True := trivial
  go_enter Tryz.func108, Tryz.ntmps108
  go_wp2_with (first | (go_at_call 124; have tk := tok1; clear tok1; refine call_retA (w := w) (toValue_c _ [ax5_0, ax5_1, ax5_2] a5 (rd_below AR5H.out (by go_grown)) (by omega)) (by go_grown) ?_; intro w1 cs1 L1 hB hb hz _ ho1 hL1; obtain rfl := cells_Value (GoD.own_rd ho1); have hz2 := hb.size; (try simp only [zSt] at hz2); (try simp only [zSt] at hL1); have hlt1 := GoD.own_lt ho1; have c1_0 := fun o => bcell hb (w.heap.size) o (by go_size); have f1_0 := fun o => bfroz hb (w.heap.size) o (by go_size); have c1_1 := fun o => bcell hb (w.heap.size + 1) o (by go_size); have f1_1 := fun o => bfroz hb (w.heap.size + 1) o (by go_size); have c1_2 := fun o => bcell hb (w.heap.size + 1 + 1) o (by go_size); have f1_2 := fun o => bfroz hb (w.heap.size + 1 + 1) o (by go_size); have HO1 := Lib.hid ho1; clear ho1; have HL1 := Lib.hid hL1; clear hL1; have HT1 := Lib.hid hlt1; clear hlt1; have HB1 := Lib.hid hb; clear hb) | ((with_reducible show bodyPost _ _ _ _ _ _); refine bodyPost_ret (v := .agg #[.int .i64 a1, .int .i64 a2, .int .i64 a3, .string a4, .int .i64 a5.1, .int .i64 a5.2.1, .string a5.2.2]) (by simp [results, Tryz.results108, go_sem, c1_1]) rfl ⟨[.int .i64 a1, .int .i64 a2, .int .i64 a3, .string a4, .int .i64 a5.1, .int .i64 a5.2.1, .string a5.2.2], ([] ++ ([] ++ ([] ++ ([] ++ L1)))), rfl, by go_grown, ?_, ?_⟩; (exact (own_pair (own_i _ AR1H.out) (own_pair (own_i _ AR2H.out) (own_pair (own_i _ AR3H.out) (own_pair (own_s _ AR4H.out) (show own L1 _ [.int .i64 a5.1, .int .i64 a5.2.1, .string a5.2.2] a5 by (repeat (first | (with_reducible exact HO1.out) | ((with_reducible refine own_setCell ?_ ?_); rotate_left; exact (fun hm => by have := HL1.out _ hm; omega)) | (with_reducible refine own_alloc ?_) | (with_reducible refine own_drew ?_)))) (by simp)) (by simp)) (by simp)) (by simp))); intro x hx; (try simp only [List.mem_append, List.not_mem_nil, List.append_nil, List.nil_append, false_or, or_false] at hx); rcases hx with hx <;> first | (have := HL1.out x hx; omega)))
theorem toFieldS_c (w : World) (v : Value) (l : List FieldD) (ha : rd w [v] l) (hsz : GoD.size l ≤ 1048576) : Calls Tryz.prog 62 #[v] w (RetS w l) := by
  obtain ⟨oa, cap, e1, hl, hm, hel⟩ := ha
  obtain rfl : v = _ := by simpa using e1
  clear e1
  have HE := Lib.hid hel; clear hel
  have hn : l.length ≤ 1048576 := by have := size_list_len l; omega
  have HS := Lib.hid (fun i a (h : l[i]? = some a) => size_list_get h)
  have hlm : l.length ≤ maxLen := by omega
  go_enter Tryz.func62, Tryz.ntmps62
  go_wp2_with (at_make; refine wp_make w (.tmp 6) (.tmp 6) 41 66 2 l.length rfl rfl Tryz.underlying41 (by kernel_rfl) rfl rfl (by omega) (by go_grown) ?_; intro w1 cur hcur hcs hB1 hb1 hlt1)
  go_loopw [4] (tI w 66 l) (fun i _ => l.length - (intOf i).toNat)
  case atStart => exact ⟨0, Nat.zero_le _, rfl, hB1, hlt1, Part.start hcur hcs l⟩
  case round =>
    obtain ⟨k, hk, rfl, hB, hlt, hP⟩ := hrel
    clear hB1 hb1 hlt1 hcur hcs
    by_cases hkl : k < l.length
    · have hx := List.getElem?_eq_getElem hkl
      obtain ⟨eb, eo, ee, rfl, hcl, hcc, hxr⟩ := HE.out k _ hx
      have hxs := HS.out k _ hx
      have HX := Lib.hid hx; clear hx
      generalize l[k] = x at *
      obtain ⟨cur2, hg, hgs⟩ := hP.out.block
      have hgs2 : cur2.size = l.length * 2 := hgs
      have hroom := Nat.mul_le_mul_right 2 (show k + 1 ≤ l.length by omega)
      obtain ⟨x0, x1, rfl⟩ := len2 (show _ = 2 from hcl)
      have p0 : wr.cell? ⟨eb, eo + k * 2, none⟩ = some x0 := cBt hB (hcc 0 _ rfl)
      have p1 : wr.cell? ⟨eb, eo + k * 2 + 1, none⟩ = some x1 := cBt hB (hcc 1 _ rfl)
      have HXR := Lib.hid hxr; clear hxr hcc hcl
      have HG := Lib.hid hg; clear hg
      go_wp2_with (go_at_call 82; refine call_retA (w := w) (toField_c _ [x0, x1] x (rd_below HXR.out hB) (by omega)) (by go_grown) ?_; intro w2 cs L hB2 hb2 hz2 _ ho hL; obtain rfl := cells_Field (GoD.own_rd ho); have hg2 := (hb2.block _ hlt).trans HG.out; obtain ⟨z0, q0⟩ := cXt hg2 (k * 2) (by omega); obtain ⟨z1, q1⟩ := cXt hg2 (k * 2 + 1) (by omega); have fz := free_of_heap hg2; clear hg2; have HO := Lib.hid ho; clear ho; have HL := Lib.hid hL; clear hL; have HB2 := Lib.hid hb2; clear hb2)
      go_roundw
      case rel => exact ⟨k + 1, by omega, by go_num, by go_grown, by simp only [World.size_setCell]; omega, by
        have h := hP.out.step HB2.out hkl hk HX.out HO.out HL.out
        rw [show GoD.n FieldD = 2 from rfl] at h
        simp only [World.setCells, Nat.add_assoc, Nat.reduceAdd] at h
        exact h⟩
      case measure => simp [intOf]; omega
    obtain rfl : k = l.length := by omega
    go_wp2
    go_ret
    obtain ⟨L, hL, hLB⟩ := hP.out.done hlm
    exact ⟨_, L, rfl, hB, hL, hLB⟩
theorem toAttr_c (w : World) (ca : List Value) (a : AttrD) (ha : rd w ca a) (hsz : GoD.size a ≤ 1048576) : Calls Tryz.prog 123 #[.agg ca.toArray] w (RetA w a) := by
  obtain ⟨a1, a2⟩ := a
  obtain ⟨ac1, at1, rfl, ar1, ar2⟩ := ha
  obtain ⟨rfl, ar1⟩ := ar1
  obtain ⟨ax2_0, ax2_1, ax2_2, rfl⟩ := len3 (show _ = 3 from GoD.rd_len ar2)
  dsimp only [List.cons_append, List.nil_append] at *
  replace hsz : (GoD.size a1 + GoD.size a2) ≤ 1048576 := hsz
  have AR1H := Lib.hid ar1; clear ar1
  have AR2H := Lib.hid ar2; clear ar2
  have tok1 : True := trivial
  go_enter Tryz.func123, Tryz.ntmps123
  go_wp2_with (first | (go_at_call 124; have tk := tok1; clear tok1; refine call_retA (w := w) (toValue_c _ [ax2_0, ax2_1, ax2_2] a2 (rd_below AR2H.out (by go_grown)) (by omega)) (by go_grown) ?_; intro w1 cs1 L1 hB hb hz _ ho1 hL1; obtain rfl := cells_Value (GoD.own_rd ho1); have hz2 := hb.size; (try simp only [zSt] at hz2); (try simp only [zSt] at hL1); have hlt1 := GoD.own_lt ho1; have c1_0 := fun o => bcell hb (w.heap.size) o (by go_size); have f1_0 := fun o => bfroz hb (w.heap.size) o (by go_size); have c1_1 := fun o => bcell hb (w.heap.size + 1) o (by go_size); have f1_1 := fun o => bfroz hb (w.heap.size + 1) o (by go_size); have c1_2 := fun o => bcell hb (w.heap.size + 1 + 1) o (by go_size); have f1_2 := fun o => bfroz hb (w.heap.size + 1 + 1) o (by go_size); have HO1 := Lib.hid ho1; clear ho1; have HL1 := Lib.hid hL1; clear hL1; have HT1 := Lib.hid hlt1; clear hlt1; have HB1 := Lib.hid hb; clear hb) | ((with_reducible show bodyPost _ _ _ _ _ _); refine bodyPost_ret (v := .agg #[.string a1, .int .i64 a2.1, .int .i64 a2.2.1, .string a2.2.2]) (by simp [results, Tryz.results123, go_sem, c1_1]) rfl ⟨[.string a1, .int .i64 a2.1, .int .i64 a2.2.1, .string a2.2.2], ([] ++ L1), rfl, by go_grown, ?_, ?_⟩; (exact (own_pair (own_s _ AR1H.out) (show own L1 _ [.int .i64 a2.1, .int .i64 a2.2.1, .string a2.2.2] a2 by (repeat (first | (with_reducible exact HO1.out) | ((with_reducible refine own_setCell ?_ ?_); rotate_left; exact (fun hm => by have := HL1.out _ hm; omega)) | (with_reducible refine own_alloc ?_) | (with_reducible refine own_drew ?_)))) (by simp))); intro x hx; (try simp only [List.mem_append, List.not_mem_nil, List.append_nil, List.nil_append, false_or, or_false] at hx); rcases hx with hx <;> first | (have := HL1.out x hx; omega)))
theorem toAttrS_c (w : World) (v : Value) (l : List AttrD) (ha : rd w [v] l) (hsz : GoD.size l ≤ 1048576) : Calls Tryz.prog 107 #[v] w (RetS w l) := by
  obtain ⟨oa, cap, e1, hl, hm, hel⟩ := ha
  obtain rfl : v = _ := by simpa using e1
  clear e1
  have HE := Lib.hid hel; clear hel
  have hn : l.length ≤ 1048576 := by have := size_list_len l; omega
  have HS := Lib.hid (fun i a (h : l[i]? = some a) => size_list_get h)
  have hlm : l.length ≤ maxLen := by omega
  go_enter Tryz.func107, Tryz.ntmps107
  go_wp2_with (at_make; refine wp_make w (.tmp 6) (.tmp 6) 67 89 4 l.length rfl rfl Tryz.underlying67 (by kernel_rfl) rfl rfl (by omega) (by go_grown) ?_; intro w1 cur hcur hcs hB1 hb1 hlt1)
  go_loopw [4] (tI w 89 l) (fun i _ => l.length - (intOf i).toNat)
  case atStart => exact ⟨0, Nat.zero_le _, rfl, hB1, hlt1, Part.start hcur hcs l⟩
  case round =>
    obtain ⟨k, hk, rfl, hB, hlt, hP⟩ := hrel
    clear hB1 hb1 hlt1 hcur hcs
    by_cases hkl : k < l.length
    · have hx := List.getElem?_eq_getElem hkl
      obtain ⟨eb, eo, ee, rfl, hcl, hcc, hxr⟩ := HE.out k _ hx
      have hxs := HS.out k _ hx
      have HX := Lib.hid hx; clear hx
      generalize l[k] = x at *
      obtain ⟨cur2, hg, hgs⟩ := hP.out.block
      have hgs2 : cur2.size = l.length * 4 := hgs
      have hroom := Nat.mul_le_mul_right 4 (show k + 1 ≤ l.length by omega)
      obtain ⟨x0, x1, x2, x3, rfl⟩ := len4 (show _ = 4 from hcl)
      have p0 : wr.cell? ⟨eb, eo + k * 4, none⟩ = some x0 := cBt hB (hcc 0 _ rfl)
      have p1 : wr.cell? ⟨eb, eo + k * 4 + 1, none⟩ = some x1 := cBt hB (hcc 1 _ rfl)
      have p2 : wr.cell? ⟨eb, eo + k * 4 + 2, none⟩ = some x2 := cBt hB (hcc 2 _ rfl)
      have p3 : wr.cell? ⟨eb, eo + k * 4 + 3, none⟩ = some x3 := cBt hB (hcc 3 _ rfl)
      have HXR := Lib.hid hxr; clear hxr hcc hcl
      have HG := Lib.hid hg; clear hg
      go_wp2_with (go_at_call 123; refine call_retA (w := w) (toAttr_c _ [x0, x1, x2, x3] x (rd_below HXR.out hB) (by omega)) (by go_grown) ?_; intro w2 cs L hB2 hb2 hz2 _ ho hL; obtain rfl := cells_Attr (GoD.own_rd ho); have hg2 := (hb2.block _ hlt).trans HG.out; obtain ⟨z0, q0⟩ := cXt hg2 (k * 4) (by omega); obtain ⟨z1, q1⟩ := cXt hg2 (k * 4 + 1) (by omega); obtain ⟨z2, q2⟩ := cXt hg2 (k * 4 + 2) (by omega); obtain ⟨z3, q3⟩ := cXt hg2 (k * 4 + 3) (by omega); have fz := free_of_heap hg2; clear hg2; have HO := Lib.hid ho; clear ho; have HL := Lib.hid hL; clear hL; have HB2 := Lib.hid hb2; clear hb2)
      go_roundw
      case rel => exact ⟨k + 1, by omega, by go_num, by go_grown, by simp only [World.size_setCell]; omega, by
        have h := hP.out.step HB2.out hkl hk HX.out HO.out HL.out
        rw [show GoD.n AttrD = 4 from rfl] at h
        simp only [World.setCells, Nat.add_assoc, Nat.reduceAdd] at h
        exact h⟩
      case measure => simp [intOf]; omega
    obtain rfl : k = l.length := by omega
    go_wp2
    go_ret
    obtain ⟨L, hL, hLB⟩ := hP.out.done hlm
    exact ⟨_, L, rfl, hB, hL, hLB⟩
theorem toFile_c (w : World) (ca : List Value) (a : FileD) (ha : rd w ca a) (hsz : GoD.size a ≤ 1048576) : Calls Tryz.prog 83 #[.agg ca.toArray] w (RetA w a) := by
  obtain ⟨a1, a2, a3, a4, a5⟩ := a
  obtain ⟨ac1, at1, rfl, ar1, ac2, at2, rfl, ar2, ac3, at3, rfl, ar3, ac4, at4, rfl, ar4, ar5⟩ := ha
  obtain ⟨rfl, ar1⟩ := ar1
  obtain ⟨rfl, ar2⟩ := ar2
  obtain rfl := ar3
  obtain ⟨rfl, ar4⟩ := ar4
  obtain ⟨ax5_0, rfl⟩ := len1 (show _ = 1 from GoD.rd_len ar5)
  dsimp only [List.cons_append, List.nil_append] at *
  replace hsz : (GoD.size a1 + (GoD.size a2 + (GoD.size a3 + (GoD.size a4 + GoD.size a5)))) ≤ 1048576 := hsz
  have AR1H := Lib.hid ar1; clear ar1
  have AR2H := Lib.hid ar2; clear ar2
  have AR4H := Lib.hid ar4; clear ar4
  have AR5H := Lib.hid ar5; clear ar5
  have tok1 : True := trivial
  go_enter Tryz.func83, Tryz.ntmps83
  go_wp2_with (first | (go_at_call 107; have tk := tok1; clear tok1; refine call_retS (w := w) (toAttrS_c _ ax5_0 a5 (rd_below AR5H.out (by go_grown)) (by omega)) (by go_grown) ?_; intro w1 v1 L1 hB hb hz _ ho1 hL1; obtain ⟨oa1, cp1, rfl⟩ := slice_of_own ho1; have hz2 := hb.size; (try simp only [zSt] at hz2); (try simp only [zSt] at hL1); have hlt1 := GoD.own_lt ho1; have c1_0 := fun o => bcell hb (w.heap.size) o (by go_size); have f1_0 := fun o => bfroz hb (w.heap.size) o (by go_size); have c1_1 := fun o => bcell hb (w.heap.size + 1) o (by go_size); have f1_1 := fun o => bfroz hb (w.heap.size + 1) o (by go_size); have c1_2 := fun o => bcell hb (w.heap.size + 1 + 1) o (by go_size); have f1_2 := fun o => bfroz hb (w.heap.size + 1 + 1) o (by go_size); have HO1 := Lib.hid ho1; clear ho1; have HL1 := Lib.hid hL1; clear hL1; have HT1 := Lib.hid hlt1; clear hlt1; have HB1 := Lib.hid hb; clear hb) | ((with_reducible show bodyPost _ _ _ _ _ _); refine bodyPost_ret (v := .agg #[.int .i64 a1, .int .i64 a2, .bool a3, .int .i64 a4, .slice oa1 a5.length cp1]) (by simp [results, Tryz.results83, go_sem, c1_1]) rfl ⟨[.int .i64 a1, .int .i64 a2, .bool a3, .int .i64 a4, .slice oa1 a5.length cp1], ([] ++ ([] ++ ([] ++ ([] ++ L1)))), rfl, by go_grown, ?_, ?_⟩; (exact (own_pair (own_i _ AR1H.out) (own_pair (own_i _ AR2H.out) (own_pair (own_b _ _) (own_pair (own_i _ AR4H.out) (show own L1 _ [.slice oa1 a5.length cp1] a5 by (repeat (first | (with_reducible exact HO1.out) | ((with_reducible refine own_setCell ?_ ?_); rotate_left; exact (fun hm => by have := HL1.out _ hm; omega)) | (with_reducible refine own_alloc ?_) | (with_reducible refine own_drew ?_)))) (by simp)) (by simp)) (by simp)) (by simp))); intro x hx; (try simp only [List.mem_append, List.not_mem_nil, List.append_nil, List.nil_append, false_or, or_false] at hx); rcases hx with hx <;> first | (have := HL1.out x hx; omega)))
theorem toFileS_c (w : World) (v : Value) (l : List FileD) (ha : rd w [v] l) (hsz : GoD.size l ≤ 1048576) : Calls Tryz.prog 63 #[v] w (RetS w l) := by
  obtain ⟨oa, cap, e1, hl, hm, hel⟩ := ha
  obtain rfl : v = _ := by simpa using e1
  clear e1
  have HE := Lib.hid hel; clear hel
  have hn : l.length ≤ 1048576 := by have := size_list_len l; omega
  have HS := Lib.hid (fun i a (h : l[i]? = some a) => size_list_get h)
  have hlm : l.length ≤ maxLen := by omega
  go_enter Tryz.func63, Tryz.ntmps63
  go_wp2_with (at_make; refine wp_make w (.tmp 6) (.tmp 6) 42 69 5 l.length rfl rfl Tryz.underlying42 (by kernel_rfl) rfl rfl (by omega) (by go_grown) ?_; intro w1 cur hcur hcs hB1 hb1 hlt1)
  go_loopw [4] (tI w 69 l) (fun i _ => l.length - (intOf i).toNat)
  case atStart => exact ⟨0, Nat.zero_le _, rfl, hB1, hlt1, Part.start hcur hcs l⟩
  case round =>
    obtain ⟨k, hk, rfl, hB, hlt, hP⟩ := hrel
    clear hB1 hb1 hlt1 hcur hcs
    by_cases hkl : k < l.length
    · have hx := List.getElem?_eq_getElem hkl
      obtain ⟨eb, eo, ee, rfl, hcl, hcc, hxr⟩ := HE.out k _ hx
      have hxs := HS.out k _ hx
      have HX := Lib.hid hx; clear hx
      generalize l[k] = x at *
      obtain ⟨cur2, hg, hgs⟩ := hP.out.block
      have hgs2 : cur2.size = l.length * 5 := hgs
      have hroom := Nat.mul_le_mul_right 5 (show k + 1 ≤ l.length by omega)
      obtain ⟨x0, x1, x2, x3, x4, rfl⟩ := len5 (show _ = 5 from hcl)
      have p0 : wr.cell? ⟨eb, eo + k * 5, none⟩ = some x0 := cBt hB (hcc 0 _ rfl)
      have p1 : wr.cell? ⟨eb, eo + k * 5 + 1, none⟩ = some x1 := cBt hB (hcc 1 _ rfl)
      have p2 : wr.cell? ⟨eb, eo + k * 5 + 2, none⟩ = some x2 := cBt hB (hcc 2 _ rfl)
      have p3 : wr.cell? ⟨eb, eo + k * 5 + 3, none⟩ = some x3 := cBt hB (hcc 3 _ rfl)
      have p4 : wr.cell? ⟨eb, eo + k * 5 + 4, none⟩ = some x4 := cBt hB (hcc 4 _ rfl)
      have HXR := Lib.hid hxr; clear hxr hcc hcl
      have HG := Lib.hid hg; clear hg
      go_wp2_with (go_at_call 83; refine call_retA (w := w) (toFile_c _ [x0, x1, x2, x3, x4] x (rd_below HXR.out hB) (by omega)) (by go_grown) ?_; intro w2 cs L hB2 hb2 hz2 _ ho hL; obtain ⟨eoa1, ecp1, rfl⟩ := cells_File (GoD.own_rd ho); have hg2 := (hb2.block _ hlt).trans HG.out; obtain ⟨z0, q0⟩ := cXt hg2 (k * 5) (by omega); obtain ⟨z1, q1⟩ := cXt hg2 (k * 5 + 1) (by omega); obtain ⟨z2, q2⟩ := cXt hg2 (k * 5 + 2) (by omega); obtain ⟨z3, q3⟩ := cXt hg2 (k * 5 + 3) (by omega); obtain ⟨z4, q4⟩ := cXt hg2 (k * 5 + 4) (by omega); have fz := free_of_heap hg2; clear hg2; have HO := Lib.hid ho; clear ho; have HL := Lib.hid hL; clear hL; have HB2 := Lib.hid hb2; clear hb2)
      go_roundw
      case rel => exact ⟨k + 1, by omega, by go_num, by go_grown, by simp only [World.size_setCell]; omega, by
        have h := hP.out.step HB2.out hkl hk HX.out HO.out HL.out
        rw [show GoD.n FileD = 5 from rfl] at h
        simp only [World.setCells, Nat.add_assoc, Nat.reduceAdd] at h
        exact h⟩
      case measure => simp [intOf]; omega
    obtain rfl : k = l.length := by omega
    go_wp2
    go_ret
    obtain ⟨L, hL, hLB⟩ := hP.out.done hlm
    exact ⟨_, L, rfl, hB, hL, hLB⟩
theorem toStore_c (w : World) (ca : List Value) (a : StoreD) (ha : rd w ca a) (hsz : GoD.size a ≤ 1048576) : Calls Tryz.prog 47 #[.agg ca.toArray] w (RetA w a) := by
  obtain ⟨a1, a2, a3⟩ := a
  obtain ⟨ac1, at1, rfl, ar1, ac2, at2, rfl, ar2, ar3⟩ := ha
  obtain ⟨ax1_0, rfl⟩ := len1 (show _ = 1 from GoD.rd_len ar1)
  obtain ⟨ax2_0, rfl⟩ := len1 (show _ = 1 from GoD.rd_len ar2)
  obtain ⟨rfl, ar3⟩ := ar3
  dsimp only [List.cons_append, List.nil_append] at *
  replace hsz : (GoD.size a1 + (GoD.size a2 + GoD.size a3)) ≤ 1048576 := hsz
  have AR1H := Lib.hid ar1; clear ar1
  have AR2H := Lib.hid ar2; clear ar2
  have AR3H := Lib.hid ar3; clear ar3
  have tok1 : True := trivial
  have tok2 : True := trivial
  go_enter Tryz.func47, Tryz.ntmps47
  go_wp2_with (first | (go_at_call 62; have tk := tok1; clear tok1; refine call_retS (w := w) (toFieldS_c _ ax1_0 a1 (rd_below AR1H.out (by go_grown)) (by omega)) (by go_grown) ?_; intro w1 v1 L1 hB hb hz _ ho1 hL1; obtain ⟨oa1, cp1, rfl⟩ := slice_of_own ho1; have hz2 := hb.size; (try simp only [zSt] at hz2); (try simp only [zSt] at hL1); have hlt1 := GoD.own_lt ho1; have c1_0 := fun o => bcell hb (w.heap.size) o (by go_size); have f1_0 := fun o => bfroz hb (w.heap.size) o (by go_size); have c1_1 := fun o => bcell hb (w.heap.size + 1) o (by go_size); have f1_1 := fun o => bfroz hb (w.heap.size + 1) o (by go_size); have c1_2 := fun o => bcell hb (w.heap.size + 1 + 1) o (by go_size); have f1_2 := fun o => bfroz hb (w.heap.size + 1 + 1) o (by go_size); have HO1 := Lib.hid ho1; clear ho1; have HL1 := Lib.hid hL1; clear hL1; have HT1 := Lib.hid hlt1; clear hlt1; have HB1 := Lib.hid hb; clear hb) | (go_at_call 63; have tk := tok2; clear tok2; refine call_retS (w := w) (toFileS_c _ ax2_0 a2 (rd_below AR2H.out (by go_grown)) (by omega)) (by go_grown) ?_; intro w2 v2 L2 hB hb hz _ ho2 hL2; obtain ⟨oa2, cp2, rfl⟩ := slice_of_own ho2; have hz2 := hb.size; (try simp only [zSt] at hz2); (try simp only [zSt] at hL2); have hlt2 := GoD.own_lt ho2; have c2_0 := fun o => bcell hb (w.heap.size) o (by go_size); have f2_0 := fun o => bfroz hb (w.heap.size) o (by go_size); have c2_1 := fun o => bcell hb (w.heap.size + 1) o (by go_size); have f2_1 := fun o => bfroz hb (w.heap.size + 1) o (by go_size); have c2_2 := fun o => bcell hb (w.heap.size + 1 + 1) o (by go_size); have f2_2 := fun o => bfroz hb (w.heap.size + 1 + 1) o (by go_size); have HO2 := Lib.hid ho2; clear ho2; have HL2 := Lib.hid hL2; clear hL2; have HT2 := Lib.hid hlt2; clear hlt2; have HB2 := Lib.hid hb; clear hb) | ((with_reducible show bodyPost _ _ _ _ _ _); refine bodyPost_ret (v := .agg #[.slice oa1 a1.length cp1, .slice oa2 a2.length cp2, .int .i64 a3]) (by simp [results, Tryz.results47, go_sem, c1_1, c2_1]) rfl ⟨[.slice oa1 a1.length cp1, .slice oa2 a2.length cp2, .int .i64 a3], (L1 ++ (L2 ++ [])), rfl, by go_grown, ?_, ?_⟩; (exact (own_pair (show own L1 _ [.slice oa1 a1.length cp1] a1 by (repeat (first | (with_reducible exact HO1.out) | ((with_reducible refine own_setCell ?_ ?_); rotate_left; exact (fun hm => by have := HL1.out _ hm; omega)) | (with_reducible refine own_alloc ?_) | (with_reducible refine own_drew ?_) | (with_reducible refine own_below ?_ HB2.out)))) (own_pair (show own L2 _ [.slice oa2 a2.length cp2] a2 by (repeat (first | (with_reducible exact HO2.out) | ((with_reducible refine own_setCell ?_ ?_); rotate_left; exact (fun hm => by have := HL2.out _ hm; omega)) | (with_reducible refine own_alloc ?_) | (with_reducible refine own_drew ?_)))) (own_i _ AR3H.out) (by simp)) (fun x hx hy => by (try simp only [List.mem_append, List.not_mem_nil, List.append_nil, List.nil_append, false_or, or_false] at hy); have := HT1.out x hx; rcases hy with hy <;> (first | (have := HL2.out x hy; omega))))); intro x hx; (try simp only [List.mem_append, List.not_mem_nil, List.append_nil, List.nil_append, false_or, or_false] at hx); rcases hx with hx | hx <;> first | (have := HL1.out x hx; omega) | (have := HL2.out x hx; omega)))
theorem toNodeS_c (w : World) (v : Value) (l : List NodeD) (ha : rd w [v] l) (hsz : GoD.size l ≤ 1048576) : Calls Tryz.prog 84 #[v] w (RetS w l) := by
  obtain ⟨oa, cap, e1, hl, hm, hel⟩ := ha
  obtain rfl : v = _ := by simpa using e1
  clear e1
  have HE := Lib.hid hel; clear hel
  have hn : l.length ≤ 1048576 := by have := size_list_len l; omega
  have HS := Lib.hid (fun i a (h : l[i]? = some a) => size_list_get h)
  have hlm : l.length ≤ maxLen := by omega
  go_enter Tryz.func84, Tryz.ntmps84
  go_wp2_with (at_make; refine wp_make w (.tmp 6) (.tmp 6) 71 91 7 l.length rfl rfl Tryz.underlying71 (by kernel_rfl) rfl rfl (by omega) (by go_grown) ?_; intro w1 cur hcur hcs hB1 hb1 hlt1)
  go_loopw [4] (tI w 91 l) (fun i _ => l.length - (intOf i).toNat)
  case atStart => exact ⟨0, Nat.zero_le _, rfl, hB1, hlt1, Part.start hcur hcs l⟩
  case round =>
    obtain ⟨k, hk, rfl, hB, hlt, hP⟩ := hrel
    clear hB1 hb1 hlt1 hcur hcs
    by_cases hkl : k < l.length
    · have hx := List.getElem?_eq_getElem hkl
      obtain ⟨eb, eo, ee, rfl, hcl, hcc, hxr⟩ := HE.out k _ hx
      have hxs := HS.out k _ hx
      have HX := Lib.hid hx; clear hx
      generalize l[k] = x at *
      obtain ⟨cur2, hg, hgs⟩ := hP.out.block
      have hgs2 : cur2.size = l.length * 7 := hgs
      have hroom := Nat.mul_le_mul_right 7 (show k + 1 ≤ l.length by omega)
      obtain ⟨x0, x1, x2, x3, x4, x5, x6, rfl⟩ := len7 (show _ = 7 from hcl)
      have p0 : wr.cell? ⟨eb, eo + k * 7, none⟩ = some x0 := cBt hB (hcc 0 _ rfl)
      have p1 : wr.cell? ⟨eb, eo + k * 7 + 1, none⟩ = some x1 := cBt hB (hcc 1 _ rfl)
      have p2 : wr.cell? ⟨eb, eo + k * 7 + 2, none⟩ = some x2 := cBt hB (hcc 2 _ rfl)
      have p3 : wr.cell? ⟨eb, eo + k * 7 + 3, none⟩ = some x3 := cBt hB (hcc 3 _ rfl)
      have p4 : wr.cell? ⟨eb, eo + k * 7 + 4, none⟩ = some x4 := cBt hB (hcc 4 _ rfl)
      have p5 : wr.cell? ⟨eb, eo + k * 7 + 5, none⟩ = some x5 := cBt hB (hcc 5 _ rfl)
      have p6 : wr.cell? ⟨eb, eo + k * 7 + 6, none⟩ = some x6 := cBt hB (hcc 6 _ rfl)
      have HXR := Lib.hid hxr; clear hxr hcc hcl
      have HG := Lib.hid hg; clear hg
      go_wp2_with (go_at_call 108; refine call_retA (w := w) (toNode_c _ [x0, x1, x2, x3, x4, x5, x6] x (rd_below HXR.out hB) (by omega)) (by go_grown) ?_; intro w2 cs L hB2 hb2 hz2 _ ho hL; obtain rfl := cells_Node (GoD.own_rd ho); have hg2 := (hb2.block _ hlt).trans HG.out; obtain ⟨z0, q0⟩ := cXt hg2 (k * 7) (by omega); obtain ⟨z1, q1⟩ := cXt hg2 (k * 7 + 1) (by omega); obtain ⟨z2, q2⟩ := cXt hg2 (k * 7 + 2) (by omega); obtain ⟨z3, q3⟩ := cXt hg2 (k * 7 + 3) (by omega); obtain ⟨z4, q4⟩ := cXt hg2 (k * 7 + 4) (by omega); obtain ⟨z5, q5⟩ := cXt hg2 (k * 7 + 5) (by omega); obtain ⟨z6, q6⟩ := cXt hg2 (k * 7 + 6) (by omega); have fz := free_of_heap hg2; clear hg2; have HO := Lib.hid ho; clear ho; have HL := Lib.hid hL; clear hL; have HB2 := Lib.hid hb2; clear hb2)
      go_roundw
      case rel => exact ⟨k + 1, by omega, by go_num, by go_grown, by simp only [World.size_setCell]; omega, by
        have h := hP.out.step HB2.out hkl hk HX.out HO.out HL.out
        rw [show GoD.n NodeD = 7 from rfl] at h
        simp only [World.setCells, Nat.add_assoc, Nat.reduceAdd] at h
        exact h⟩
      case measure => simp [intOf]; omega
    obtain rfl : k = l.length := by omega
    go_wp2
    go_ret
    obtain ⟨L, hL, hLB⟩ := hP.out.done hlm
    exact ⟨_, L, rfl, hB, hL, hLB⟩
theorem toDir_c (w : World) (ca : List Value) (a : DirD) (ha : rd w ca a) (hsz : GoD.size a ≤ 1048576) : Calls Tryz.prog 64 #[.agg ca.toArray] w (RetA w a) := by
  obtain ⟨a1, a2⟩ := a
  obtain ⟨ac1, at1, rfl, ar1, ar2⟩ := ha
  obtain ⟨rfl, ar1⟩ := ar1
  obtain ⟨ax2_0, rfl⟩ := len1 (show _ = 1 from GoD.rd_len ar2)
  dsimp only [List.cons_append, List.nil_append] at *
  replace hsz : (GoD.size a1 + GoD.size a2) ≤ 1048576 := hsz
  have AR1H := Lib.hid ar1; clear ar1
  have AR2H := Lib.hid ar2; clear ar2
  have tok1 : True := trivial
  go_enter Tryz.func64, Tryz.ntmps64
  go_wp2_with (first | (go_at_call 84; have tk := tok1; clear tok1; refine call_retS (w := w) (toNodeS_c _ ax2_0 a2 (rd_below AR2H.out (by go_grown)) (by omega)) (by go_grown) ?_; intro w1 v1 L1 hB hb hz _ ho1 hL1; obtain ⟨oa1, cp1, rfl⟩ := slice_of_own ho1; have hz2 := hb.size; (try simp only [zSt] at hz2); (try simp only [zSt] at hL1); have hlt1 := GoD.own_lt ho1; have c1_0 := fun o => bcell hb (w.heap.size) o (by go_size); have f1_0 := fun o => bfroz hb (w.heap.size) o (by go_size); have c1_1 := fun o => bcell hb (w.heap.size + 1) o (by go_size); have f1_1 := fun o => bfroz hb (w.heap.size + 1) o (by go_size); have c1_2 := fun o => bcell hb (w.heap.size + 1 + 1) o (by go_size); have f1_2 := fun o => bfroz hb (w.heap.size + 1 + 1) o (by go_size); have HO1 := Lib.hid ho1; clear ho1; have HL1 := Lib.hid hL1; clear hL1; have HT1 := Lib.hid hlt1; clear hlt1; have HB1 := Lib.hid hb; clear hb) | ((with_reducible show bodyPost _ _ _ _ _ _); refine bodyPost_ret (v := .agg #[.string a1, .slice oa1 a2.length cp1]) (by simp [results, Tryz.results64, go_sem, c1_1]) rfl ⟨[.string a1, .slice oa1 a2.length cp1], ([] ++ L1), rfl, by go_grown, ?_, ?_⟩; (exact (own_pair (own_s _ AR1H.out) (show own L1 _ [.slice oa1 a2.length cp1] a2 by (repeat (first | (with_reducible exact HO1.out) | ((with_reducible refine own_setCell ?_ ?_); rotate_left; exact (fun hm => by have := HL1.out _ hm; omega)) | (with_reducible refine own_alloc ?_) | (with_reducible refine own_drew ?_)))) (by simp))); intro x hx; (try simp only [List.mem_append, List.not_mem_nil, List.append_nil, List.nil_append, false_or, or_false] at hx); rcases hx with hx <;> first | (have := HL1.out x hx; omega)))
theorem toDirS_c (w : World) (v : Value) (l : List DirD) (ha : rd w [v] l) (hsz : GoD.size l ≤ 1048576) : Calls Tryz.prog 48 #[v] w (RetS w l) := by
  obtain ⟨oa, cap, e1, hl, hm, hel⟩ := ha
  obtain rfl : v = _ := by simpa using e1
  clear e1
  have HE := Lib.hid hel; clear hel
  have hn : l.length ≤ 1048576 := by have := size_list_len l; omega
  have HS := Lib.hid (fun i a (h : l[i]? = some a) => size_list_get h)
  have hlm : l.length ≤ maxLen := by omega
  go_enter Tryz.func48, Tryz.ntmps48
  go_wp2_with (at_make; refine wp_make w (.tmp 6) (.tmp 6) 45 73 2 l.length rfl rfl Tryz.underlying45 (by kernel_rfl) rfl rfl (by omega) (by go_grown) ?_; intro w1 cur hcur hcs hB1 hb1 hlt1)
  go_loopw [4] (tI w 73 l) (fun i _ => l.length - (intOf i).toNat)
  case atStart => exact ⟨0, Nat.zero_le _, rfl, hB1, hlt1, Part.start hcur hcs l⟩
  case round =>
    obtain ⟨k, hk, rfl, hB, hlt, hP⟩ := hrel
    clear hB1 hb1 hlt1 hcur hcs
    by_cases hkl : k < l.length
    · have hx := List.getElem?_eq_getElem hkl
      obtain ⟨eb, eo, ee, rfl, hcl, hcc, hxr⟩ := HE.out k _ hx
      have hxs := HS.out k _ hx
      have HX := Lib.hid hx; clear hx
      generalize l[k] = x at *
      obtain ⟨cur2, hg, hgs⟩ := hP.out.block
      have hgs2 : cur2.size = l.length * 2 := hgs
      have hroom := Nat.mul_le_mul_right 2 (show k + 1 ≤ l.length by omega)
      obtain ⟨x0, x1, rfl⟩ := len2 (show _ = 2 from hcl)
      have p0 : wr.cell? ⟨eb, eo + k * 2, none⟩ = some x0 := cBt hB (hcc 0 _ rfl)
      have p1 : wr.cell? ⟨eb, eo + k * 2 + 1, none⟩ = some x1 := cBt hB (hcc 1 _ rfl)
      have HXR := Lib.hid hxr; clear hxr hcc hcl
      have HG := Lib.hid hg; clear hg
      go_wp2_with (go_at_call 64; refine call_retA (w := w) (toDir_c _ [x0, x1] x (rd_below HXR.out hB) (by omega)) (by go_grown) ?_; intro w2 cs L hB2 hb2 hz2 _ ho hL; obtain ⟨eoa1, ecp1, rfl⟩ := cells_Dir (GoD.own_rd ho); have hg2 := (hb2.block _ hlt).trans HG.out; obtain ⟨z0, q0⟩ := cXt hg2 (k * 2) (by omega); obtain ⟨z1, q1⟩ := cXt hg2 (k * 2 + 1) (by omega); have fz := free_of_heap hg2; clear hg2; have HO := Lib.hid ho; clear ho; have HL := Lib.hid hL; clear hL; have HB2 := Lib.hid hb2; clear hb2)
      go_roundw
      case rel => exact ⟨k + 1, by omega, by go_num, by go_grown, by simp only [World.size_setCell]; omega, by
        have h := hP.out.step HB2.out hkl hk HX.out HO.out HL.out
        rw [show GoD.n DirD = 2 from rfl] at h
        simp only [World.setCells, Nat.add_assoc, Nat.reduceAdd] at h
        exact h⟩
      case measure => simp [intOf]; omega
    obtain rfl : k = l.length := by omega
    go_wp2
    go_ret
    obtain ⟨L, hL, hLB⟩ := hP.out.done hlm
    exact ⟨_, L, rfl, hB, hL, hLB⟩
theorem toSnapshot_c (w : World) (ca : List Value) (a : SnapshotD) (ha : rd w ca a) (hsz : GoD.size a ≤ 1048576) : Calls Tryz.prog 30 #[.agg ca.toArray] w (RetA w a) := by
  obtain ⟨a1, a2⟩ := a
  obtain ⟨ac1, at1, rfl, ar1, ar2⟩ := ha
  obtain ⟨ax1_0, ax1_1, ax1_2, rfl⟩ := len3 (show _ = 3 from GoD.rd_len ar1)
  obtain ⟨ax2_0, rfl⟩ := len1 (show _ = 1 from GoD.rd_len ar2)
  dsimp only [List.cons_append, List.nil_append] at *
  replace hsz : (GoD.size a1 + GoD.size a2) ≤ 1048576 := hsz
  have AR1H := Lib.hid ar1; clear ar1
  have AR2H := Lib.hid ar2; clear ar2
  have tok1 : True := trivial
  have tok2 : True := trivial
  go_enter Tryz.func30, Tryz.ntmps30
  go_wp2_with (first | (go_at_call 47; have tk := tok1; clear tok1; refine call_retA (w := w) (toStore_c _ [ax1_0, ax1_1, ax1_2] a1 (rd_below AR1H.out (by go_grown)) (by omega)) (by go_grown) ?_; intro w1 cs1 L1 hB hb hz _ ho1 hL1; obtain ⟨r1_oa1, r1_cp1, r1_oa2, r1_cp2, rfl⟩ := cells_Store (GoD.own_rd ho1); have hz2 := hb.size; (try simp only [zSt] at hz2); (try simp only [zSt] at hL1); have hlt1 := GoD.own_lt ho1; have c1_0 := fun o => bcell hb (w.heap.size) o (by go_size); have f1_0 := fun o => bfroz hb (w.heap.size) o (by go_size); have c1_1 := fun o => bcell hb (w.heap.size + 1) o (by go_size); have f1_1 := fun o => bfroz hb (w.heap.size + 1) o (by go_size); have c1_2 := fun o => bcell hb (w.heap.size + 1 + 1) o (by go_size); have f1_2 := fun o => bfroz hb (w.heap.size + 1 + 1) o (by go_size); have HO1 := Lib.hid ho1; clear ho1; have HL1 := Lib.hid hL1; clear hL1; have HT1 := Lib.hid hlt1; clear hlt1; have HB1 := Lib.hid hb; clear hb) | (go_at_call 48; have tk := tok2; clear tok2; refine call_retS (w := w) (toDirS_c _ ax2_0 a2 (rd_below AR2H.out (by go_grown)) (by omega)) (by go_grown) ?_; intro w2 v2 L2 hB hb hz _ ho2 hL2; obtain ⟨oa2, cp2, rfl⟩ := slice_of_own ho2; have hz2 := hb.size; (try simp only [zSt] at hz2); (try simp only [zSt] at hL2); have hlt2 := GoD.own_lt ho2; have c2_0 := fun o => bcell hb (w.heap.size) o (by go_size); have f2_0 := fun o => bfroz hb (w.heap.size) o (by go_size); have c2_1 := fun o => bcell hb (w.heap.size + 1) o (by go_size); have f2_1 := fun o => bfroz hb (w.heap.size + 1) o (by go_size); have c2_2 := fun o => bcell hb (w.heap.size + 1 + 1) o (by go_size); have f2_2 := fun o => bfroz hb (w.heap.size + 1 + 1) o (by go_size); have HO2 := Lib.hid ho2; clear ho2; have HL2 := Lib.hid hL2; clear hL2; have HT2 := Lib.hid hlt2; clear hlt2; have HB2 := Lib.hid hb; clear hb) | ((with_reducible show bodyPost _ _ _ _ _ _); refine bodyPost_ret (v := .agg #[.slice r1_oa1 a1.1.length r1_cp1, .slice r1_oa2 a1.2.1.length r1_cp2, .int .i64 a1.2.2, .slice oa2 a2.length cp2]) (by simp [results, Tryz.results30, go_sem, c1_1, c2_1]) rfl ⟨[.slice r1_oa1 a1.1.length r1_cp1, .slice r1_oa2 a1.2.1.length r1_cp2, .int .i64 a1.2.2, .slice oa2 a2.length cp2], (L1 ++ L2), rfl, by go_grown, ?_, ?_⟩; (exact (own_pair (show own L1 _ [.slice r1_oa1 a1.1.length r1_cp1, .slice r1_oa2 a1.2.1.length r1_cp2, .int .i64 a1.2.2] a1 by (repeat (first | (with_reducible exact HO1.out) | ((with_reducible refine own_setCell ?_ ?_); rotate_left; exact (fun hm => by have := HL1.out _ hm; omega)) | (with_reducible refine own_alloc ?_) | (with_reducible refine own_drew ?_) | (with_reducible refine own_below ?_ HB2.out)))) (show own L2 _ [.slice oa2 a2.length cp2] a2 by (repeat (first | (with_reducible exact HO2.out) | ((with_reducible refine own_setCell ?_ ?_); rotate_left; exact (fun hm => by have := HL2.out _ hm; omega)) | (with_reducible refine own_alloc ?_) | (with_reducible refine own_drew ?_)))) (fun x hx hy => by (try simp only [List.mem_append, List.not_mem_nil, List.append_nil, List.nil_append, false_or, or_false] at hy); have := HT1.out x hx; rcases hy with hy <;> (first | (have := HL2.out x hy; omega))))); intro x hx; (try simp only [List.mem_append, List.not_mem_nil, List.append_nil, List.nil_append, false_or, or_false] at hx); rcases hx with hx | hx <;> first | (have := HL1.out x hx; omega) | (have := HL2.out x hx; omega)))
theorem toVersion_c (w : World) (ca : List Value) (a : VersionD) (ha : rd w ca a) (hsz : GoD.size a ≤ 1048576) : Calls Tryz.prog 14 #[.agg ca.toArray] w (RetA w a) := by
  obtain ⟨a1, a2, a3⟩ := a
  obtain ⟨ac1, at1, rfl, ar1, ac2, at2, rfl, ar2, ar3⟩ := ha
  obtain ⟨rfl, ar1⟩ := ar1
  obtain ⟨ax2_0, ax2_1, ax2_2, ax2_3, rfl⟩ := len4 (show _ = 4 from GoD.rd_len ar2)
  obtain ⟨rfl, ar3⟩ := ar3
  dsimp only [List.cons_append, List.nil_append] at *
  replace hsz : (GoD.size a1 + (GoD.size a2 + GoD.size a3)) ≤ 1048576 := hsz
  have AR1H := Lib.hid ar1; clear ar1
  have AR2H := Lib.hid ar2; clear ar2
  have AR3H := Lib.hid ar3; clear ar3
  have tok1 : True := trivial
  go_enter Tryz.func14, Tryz.ntmps14
  go_wp2_with (first | (go_at_call 30; have tk := tok1; clear tok1; refine call_retA (w := w) (toSnapshot_c _ [ax2_0, ax2_1, ax2_2, ax2_3] a2 (rd_below AR2H.out (by go_grown)) (by omega)) (by go_grown) ?_; intro w1 cs1 L1 hB hb hz _ ho1 hL1; obtain ⟨r1_oa1, r1_cp1, r1_oa2, r1_cp2, r1_oa3, r1_cp3, rfl⟩ := cells_Snapshot (GoD.own_rd ho1); have hz2 := hb.size; (try simp only [zSt] at hz2); (try simp only [zSt] at hL1); have hlt1 := GoD.own_lt ho1; have c1_0 := fun o => bcell hb (w.heap.size) o (by go_size); have f1_0 := fun o => bfroz hb (w.heap.size) o (by go_size); have c1_1 := fun o => bcell hb (w.heap.size + 1) o (by go_size); have f1_1 := fun o => bfroz hb (w.heap.size + 1) o (by go_size); have c1_2 := fun o => bcell hb (w.heap.size + 1 + 1) o (by go_size); have f1_2 := fun o => bfroz hb (w.heap.size + 1 + 1) o (by go_size); have HO1 := Lib.hid ho1; clear ho1; have HL1 := Lib.hid hL1; clear hL1; have HT1 := Lib.hid hlt1; clear hlt1; have HB1 := Lib.hid hb; clear hb) | ((with_reducible show bodyPost _ _ _ _ _ _); refine bodyPost_ret (v := .agg #[.int .i64 a1, .slice r1_oa1 a2.1.1.length r1_cp1, .slice r1_oa2 a2.1.2.1.length r1_cp2, .int .i64 a2.1.2.2, .slice r1_oa3 a2.2.length r1_cp3, .int .i64 a3]) (by simp [results, Tryz.results14, go_sem, c1_1]) rfl ⟨[.int .i64 a1, .slice r1_oa1 a2.1.1.length r1_cp1, .slice r1_oa2 a2.1.2.1.length r1_cp2, .int .i64 a2.1.2.2, .slice r1_oa3 a2.2.length r1_cp3, .int .i64 a3], ([] ++ (L1 ++ [])), rfl, by go_grown, ?_, ?_⟩; (exact (own_pair (own_i _ AR1H.out) (own_pair (show own L1 _ [.slice r1_oa1 a2.1.1.length r1_cp1, .slice r1_oa2 a2.1.2.1.length r1_cp2, .int .i64 a2.1.2.2, .slice r1_oa3 a2.2.length r1_cp3] a2 by (repeat (first | (with_reducible exact HO1.out) | ((with_reducible refine own_setCell ?_ ?_); rotate_left; exact (fun hm => by have := HL1.out _ hm; omega)) | (with_reducible refine own_alloc ?_) | (with_reducible refine own_drew ?_)))) (own_i _ AR3H.out) (by simp)) (by simp))); intro x hx; (try simp only [List.mem_append, List.not_mem_nil, List.append_nil, List.nil_append, false_or, or_false] at hx); rcases hx with hx <;> first | (have := HL1.out x hx; omega)))
theorem toVersionS_c (w : World) (v : Value) (l : List VersionD) (ha : rd w [v] l) (hsz : GoD.size l ≤ 1048576) : Calls Tryz.prog 6 #[v] w (RetS w l) := by
  obtain ⟨oa, cap, e1, hl, hm, hel⟩ := ha
  obtain rfl : v = _ := by simpa using e1
  clear e1
  have HE := Lib.hid hel; clear hel
  have hn : l.length ≤ 1048576 := by have := size_list_len l; omega
  have HS := Lib.hid (fun i a (h : l[i]? = some a) => size_list_get h)
  have hlm : l.length ≤ maxLen := by omega
  go_enter Tryz.func6, Tryz.ntmps6
  go_wp2_with (at_make; refine wp_make w (.tmp 6) (.tmp 6) 24 49 6 l.length rfl rfl Tryz.underlying24 (by kernel_rfl) rfl rfl (by omega) (by go_grown) ?_; intro w1 cur hcur hcs hB1 hb1 hlt1)
  go_loopw [4] (tI w 49 l) (fun i _ => l.length - (intOf i).toNat)
  case atStart => exact ⟨0, Nat.zero_le _, rfl, hB1, hlt1, Part.start hcur hcs l⟩
  case round =>
    obtain ⟨k, hk, rfl, hB, hlt, hP⟩ := hrel
    clear hB1 hb1 hlt1 hcur hcs
    by_cases hkl : k < l.length
    · have hx := List.getElem?_eq_getElem hkl
      obtain ⟨eb, eo, ee, rfl, hcl, hcc, hxr⟩ := HE.out k _ hx
      have hxs := HS.out k _ hx
      have HX := Lib.hid hx; clear hx
      generalize l[k] = x at *
      obtain ⟨cur2, hg, hgs⟩ := hP.out.block
      have hgs2 : cur2.size = l.length * 6 := hgs
      have hroom := Nat.mul_le_mul_right 6 (show k + 1 ≤ l.length by omega)
      obtain ⟨x0, x1, x2, x3, x4, x5, rfl⟩ := len6 (show _ = 6 from hcl)
      have p0 : wr.cell? ⟨eb, eo + k * 6, none⟩ = some x0 := cBt hB (hcc 0 _ rfl)
      have p1 : wr.cell? ⟨eb, eo + k * 6 + 1, none⟩ = some x1 := cBt hB (hcc 1 _ rfl)
      have p2 : wr.cell? ⟨eb, eo + k * 6 + 2, none⟩ = some x2 := cBt hB (hcc 2 _ rfl)
      have p3 : wr.cell? ⟨eb, eo + k * 6 + 3, none⟩ = some x3 := cBt hB (hcc 3 _ rfl)
      have p4 : wr.cell? ⟨eb, eo + k * 6 + 4, none⟩ = some x4 := cBt hB (hcc 4 _ rfl)
      have p5 : wr.cell? ⟨eb, eo + k * 6 + 5, none⟩ = some x5 := cBt hB (hcc 5 _ rfl)
      have HXR := Lib.hid hxr; clear hxr hcc hcl
      have HG := Lib.hid hg; clear hg
      go_wp2_with (go_at_call 14; refine call_retA (w := w) (toVersion_c _ [x0, x1, x2, x3, x4, x5] x (rd_below HXR.out hB) (by omega)) (by go_grown) ?_; intro w2 cs L hB2 hb2 hz2 _ ho hL; obtain ⟨eoa1, ecp1, eoa2, ecp2, eoa3, ecp3, rfl⟩ := cells_Version (GoD.own_rd ho); have hg2 := (hb2.block _ hlt).trans HG.out; obtain ⟨z0, q0⟩ := cXt hg2 (k * 6) (by omega); obtain ⟨z1, q1⟩ := cXt hg2 (k * 6 + 1) (by omega); obtain ⟨z2, q2⟩ := cXt hg2 (k * 6 + 2) (by omega); obtain ⟨z3, q3⟩ := cXt hg2 (k * 6 + 3) (by omega); obtain ⟨z4, q4⟩ := cXt hg2 (k * 6 + 4) (by omega); obtain ⟨z5, q5⟩ := cXt hg2 (k * 6 + 5) (by omega); have fz := free_of_heap hg2; clear hg2; have HO := Lib.hid ho; clear ho; have HL := Lib.hid hL; clear hL; have HB2 := Lib.hid hb2; clear hb2)
      go_roundw
      case rel => exact ⟨k + 1, by omega, by go_num, by go_grown, by simp only [World.size_setCell]; omega, by
        have h := hP.out.step HB2.out hkl hk HX.out HO.out HL.out
        rw [show GoD.n VersionD = 6 from rfl] at h
        simp only [World.setCells, Nat.add_assoc, Nat.reduceAdd] at h
        exact h⟩
      case measure => simp [intOf]; omega
    obtain rfl : k = l.length := by omega
    go_wp2
    go_ret
    obtain ⟨L, hL, hLB⟩ := hP.out.done hlm
    exact ⟨_, L, rfl, hB, hL, hLB⟩
open GoE (enc wide)
theorem szVersionS_a (a : (List VersionD)) (left : Int) (h0 : 0 ≤ left) (h1 : left ≤ 1048576) : ACalls Tryz.prog 4 [argS a, intA left] (intA (szI (GoD.size a) left)) := acalls_szS (by unfold FnOk; kernel_rfl) h0 h1 fun w c hr => szVersionS_c w c a left hr h0 h1
theorem toVersionS_a (a : (List VersionD)) (h : GoD.size a ≤ 1048576) : ACalls Tryz.prog 6 [argS a] (resS a) := acalls_toS (by unfold FnOk; kernel_rfl) fun w c hr => toVersionS_c w c a hr h
theorem eqVersionS_a {a b : (List VersionD)} (h : a = b) : ACalls Tryz.prog 8 [argS a, argS b] (boolA true) := acalls_eqS (by unfold FnOk; kernel_rfl) h fun w c c2 h1 h2 => eqVersionS_c w c c2 a b h1 h2
theorem markVersionS_m (a : (List VersionD)) (K : Int) (k : Nat) (hK : K = k) (h1 : 1 ≤ k) (hk : k ≤ 1152921504606846976) (hs : GoD.size a ≤ 1073741824) : MarkS Tryz.prog 9 a K (markS a k) := ⟨(by unfold FnOk; kernel_rfl), fun w L c ho => markVersionS_c w c a L K k hK h1 (by have := bdS (l := a) (k := k) (by decide) hs; omega) ho⟩
theorem heldVersionS_a (a : (List VersionD)) (hs : GoD.size a ≤ 1073741824) : ACalls Tryz.prog 10 [argS (markS a 1).1, intA 1] (intA ((markS a 1).2 : Nat)) := acalls_heS (by unfold FnOk; kernel_rfl) (by have := bdS (l := a) (k := 1) (by decide) hs; rw [inR_i64]; unfold I64; omega) fun w c hr => heldVersionS_c w c a _ 1 1 rfl (by omega) (by have := bdS (l := a) (k := 1) (by decide) hs; omega) rfl hr
def lawsFnExactCollectVersions (aV : (List VersionD)) : Bool := (bif decide ((szI (GoD.size aV) 1048576) < (0 : Int)) then true else true)
theorem lawsFnExactCollectVersions_a (aV : (List VersionD)) : ACalls Tryz.prog 3 [.h aV] (.b (lawsFnExactCollectVersions aV)) := by
 refine en tt_ok Tryz.func3 fun w0 F0 hG => ?_
 refine sn tt_ok [0, 2] [] (p0) ?_
 refine tn tt_ok [0, 2, 3] [] (p0) ?_
 have hz1 := szI_bd (GoD.size aV) 1048576
 refine tu tt_ok [(2, .b false), (3, .i (szI (GoD.size aV) 1048576))] [] [] [] (pc 2 (szVersionS_a aV 1048576 (by omega) (by omega)) p0) ?_
 refine awp_seq ?_
 refine sn tt_ok [0, 2, 15] [] (p0) ?_
 refine ck (decide ((szI (GoD.size aV) 1048576) < (0 : Int))) (fun h2 => ?_) (fun h2 => ?_)
 ·
  refine tn tt_ok [0, 2] [] (p0) ?_
  refine awp_ret ?_
  exact pb [] (bif_t h2 (rfl))
 have h2d := of_decide_eq_false h2
 refine awp_skip ?_
 have hsz_aV : GoD.size aV ≤ 1048576 := by omega
 refine tn tt_ok [0, 2, 4] [] (pc 1 (toVersionS_a aV hsz_aV) (pc 2 ((collectVersions_eq aV) ▸ (specCollectVersions_a aV)) p0)) ?_
 refine tu tt_ok [(4, .o 1152 (implCollectVersions aV)), (5, .o 1280 aV)] [3] [] [] (pc 1 (toVersionS_a aV hsz_aV) p0) ?_
 refine sn tt_ok [0, 2, 4, 5, 6] [] (pc 1 (implCollectVersions_a aV) p0) ?_
 refine awp_seq ?_
 refine tn tt_ok [0, 2, 4, 5, 6, 26] [] (pc 2 (eqVersionS_a (a := implCollectVersions aV) (b := implCollectVersions aV) (rfl)) (pe 3 (show .b (!true) = .b false from rfl) p0)) ?_
 refine ckF ?_
 refine awp_skip ?_
 refine awp_seq ?_
 refine tu tt_ok [(6, .o 1408 (implCollectVersions aV)), (31, .b false)] [] [] [] (pc 2 (toVersionS_a aV hsz_aV) (pc 3 (eqVersionS_a (a := aV) (b := aV) (rfl)) (pe 4 (show .b (!true) = .b false from rfl) p0))) ?_
 refine ckF ?_
 refine awp_skip ?_
 refine sn tt_ok [0, 2, 4, 5, 6, 7] [] (p0) ?_
 refine awp_seq ?_
 refine mz [(7, .i 1)] [31] [] [] ?_
 have hm3 := bdS (l := aV) (k := 1) (by decide) (Nat.le_trans hsz_aV (by decide))
 have hm4 := markS_le aV 1
 refine awp_markS (markVersionS_m aV 1 1 rfl (by omega) (by omega) ((Nat.le_trans hsz_aV (by decide)))) (by rw [inR_i64]; unfold I64; omega) GoM.mkT 1280 [0, 2, 4, 6, 7] [] (s' := ⟨[(0, .h aV), (2, .b false), (4, .o 1152 (implCollectVersions aV)), (6, .o 1408 (implCollectVersions aV)), (7, .i (((markS aV 1).2 : Nat) : Int))], []⟩) rfl rfl rfl rfl rfl rfl rfl rfl rfl rfl rfl rfl (by kernel_rfl) (by kernel_rfl) rfl rfl (by kernel_rfl) ?_
 refine awp_seq ?_
 refine sn tt_ok [0, 2, 4, 6, 42] [] (pe 1 (av_df (p := (((markS aV 1).2 : Nat) : Int) < (0 : Int)) (by omega)) (pc 5 (eqVersionS_a (a := implCollectVersions aV) (b := implCollectVersions aV) (rfl)) (pe 6 (show .b (!true) = .b false from rfl) p0))) ?_
 refine ckF ?_
 refine awp_skip ?_
 refine tn tt_ok [0, 2, 4, 6, 8] [] (p0) ?_
 refine awp_seq ?_
 refine mz [(8, .i 1)] [7] [] [] ?_
 have hm5 := bdS (l := (implCollectVersions aV)) (k := 1) (by decide) (Nat.le_trans (collect_size aV) (by omega))
 have hm6 := markS_le (implCollectVersions aV) 1
 refine awp_markS (markVersionS_m (implCollectVersions aV) 1 1 rfl (by omega) (by omega) ((Nat.le_trans (collect_size aV) (by omega)))) (by rw [inR_i64]; unfold I64; omega) GoM.mkT 1408 [0, 2, 4, 6, 8] [] (s' := ⟨[(0, .h aV), (2, .b false), (4, .o 1152 (implCollectVersions aV)), (6, .h ((markS (implCollectVersions aV) 1).1)), (8, .i (((markS (implCollectVersions aV) 1).2 : Nat) : Int))], []⟩) rfl rfl rfl rfl rfl rfl rfl rfl rfl rfl rfl rfl (by kernel_rfl) (by kernel_rfl) rfl rfl (by kernel_rfl) ?_
 refine su tt_ok [(9, .i 1)] [] [] [] (p0) ?_
 refine sn tt_ok [0, 2, 4, 6, 8, 9] [] (pc 2 (heldVersionS_a (implCollectVersions aV) (Nat.le_trans (collect_size aV) (by omega))) p0) ?_
 refine awp_seq ?_
 refine tn tt_ok [0, 2, 4, 6, 8, 9, 50] [] (pe 1 (av_df (p := (((markS (implCollectVersions aV) 1).2 : Nat) : Int) < (0 : Int)) (by omega)) p0) ?_
 refine ckF ?_
 refine awp_skip ?_
 refine awp_seq ?_
 refine tu tt_ok [(9, .i (((markS (implCollectVersions aV) 1).2 : Nat) : Int)), (53, .b false)] [9] [] [] (pe 2 (show .b ((((markS (implCollectVersions aV) 1).2 : Nat) : Int) != (((markS (implCollectVersions aV) 1).2 : Nat) : Int)) = .b false from av_bool (by simp)) p0) ?_
 refine ckF ?_
 refine awp_skip ?_
 refine sn tt_ok [2, 4, 6, 8, 9, 10] [] (pc 1 (toVersionS_a aV hsz_aV) (pc 2 (implCollectVersions_a aV) p0)) ?_
 refine awp_seq ?_
 refine tn tt_ok [2, 6, 8, 9, 60] [] (pc 2 (eqVersionS_a (a := implCollectVersions aV) (b := implCollectVersions aV) (rfl)) (pe 3 (show .b (!true) = .b false from rfl) p0)) ?_
 refine ckF ?_
 refine awp_skip ?_
 refine tu tt_ok [(9, .i 1)] [0, 4, 9, 53] [] [] (p0) ?_
 refine sn tt_ok [2, 8, 9] [] (pc 2 (heldVersionS_a (implCollectVersions aV) (Nat.le_trans (collect_size aV) (by omega))) p0) ?_
 refine awp_seq ?_
 refine tn tt_ok [2, 8, 9, 65] [] (pe 1 (av_df (p := (((markS (implCollectVersions aV) 1).2 : Nat) : Int) < (0 : Int)) (by omega)) p0) ?_
 refine ckF ?_
 refine awp_skip ?_
 refine awp_seq ?_
 refine tu tt_ok [(68, .b false)] [6, 8, 9] [] [] (pe 2 (show .b ((((markS (implCollectVersions aV) 1).2 : Nat) : Int) != (((markS (implCollectVersions aV) 1).2 : Nat) : Int)) = .b false from av_bool (by simp)) p0) ?_
 refine ckF ?_
 refine awp_skip ?_
 refine sn tt_ok [2] [] (p0) ?_
 refine awp_ret ?_
 exact pb [] (bif_f h2 (rfl))
open GoD (rd own)
set_option maxRecDepth 100000 in
set_option maxHeartbeats 1000000 in
theorem bigCollectVersions (w : World) (v0 : Value) (a0 : (List VersionD)) (h0 : rd w [v0] a0) (hbig : ¬ (GoD.size a0 ≤ 1048576)) : Calls Tryz.prog 3 #[v0] w (Ret w (.bool true)) := by
  obtain ⟨p0_oa, p0_cp, rfl⟩ := slice_of_rd h0
  have hln0 := len_of_rd h0
  have HA0 := Lib.hid h0; clear h0
  have tok1 : True := trivial
  go_enter Tryz.func3, Tryz.ntmps3
  go_wp2_with (first | (go_at_call 4; have tk := tok1; clear tok1; refine call_sz (w := w) (szVersionS_c _ (.slice p0_oa a0.length p0_cp) a0 _ (rd_below HA0.out (by repeat (first | (with_reducible exact Below.refl _ _) | (with_reducible refine Below.alloc ?_ (by go_size) _) | (with_reducible refine Below.drew ?_)))) (by omega) (by omega)) (by repeat (first | (with_reducible exact Below.refl _ _) | (with_reducible refine Below.alloc ?_ (by go_size) _) | (with_reducible refine Below.drew ?_))) ?_; intro w1 r1 hB1 hb hz1 _ hr hs1; have HR1 := Lib.hid hr; clear hr; have hz2 := hb.size; (repeat (first | rewrite [World.size_alloc] at hz2 | rewrite [World.size_setCell] at hz2 | rewrite [World.size_drew] at hz2)); have HB1 := Lib.hid hb; clear hb) | (exfalso; have q1 := HR1.out; apply hbig; unfold szq at *; omega))
  all_goals
    go_ret
    refine ⟨rfl, ?_⟩
    first | (with_reducible assumption) | go_grown
theorem lawsFnExactCollectVersions_true (a0 : (List VersionD)) : lawsFnExactCollectVersions a0 = true := by
  unfold lawsFnExactCollectVersions
  simp
theorem lawCollectVersions (w : World) (v0 : Value) (a0 : (List VersionD)) (h0 : rd w [v0] a0) : Calls Tryz.prog 3 #[v0] w (Ret w (.bool true)) := by
  by_cases hbig : GoD.size a0 ≤ 1048576
  · haveI : Good Tryz.prog w := Good.none (by kernel_rfl) w
    have h := (lawsFnExactCollectVersions_a a0).run (.cons (arg_sli h0 (GoE.wide_size (show GoD.size a0 ≤ 1073741824 by omega))) .nil)
    rw [lawsFnExactCollectVersions_true] at h
    exact h.mono fun _ _ h => ret_bool h
  exact bigCollectVersions w v0 a0 h0 hbig
end
end Go.Proofs.YtkadekboakhhiaaGreat
