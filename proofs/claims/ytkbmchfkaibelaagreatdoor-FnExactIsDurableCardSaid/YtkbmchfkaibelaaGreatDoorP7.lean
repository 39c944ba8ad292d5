/- Texts of this proof, put together by a program: Sz, Fam, LYdu, MYdu. -/
import Derived.Test.YtkbmchfkaibelaaGreatDoorP6
import Derived.Test.YtkbmchfkaibelaaGreatDoorProg
import Derived.KernelRfl
import Derived.Outline
set_option linter.unusedVariables false
set_option linter.unusedSimpArgs false
namespace Go.Proofs.YtkbmchfkaibelaaGreatDoor
section
open Go.RowKit
open GoD (rd own)
set_option maxRecDepth 100000
set_option maxHeartbeats 1000000
theorem cBz {w v : World} {a : Addr} {x : Value} (hB : Below w.heap.size w v) (h : w.cell? a = some x) : v.cell? a = some x := (hB.cell (World.block_lt_of_cell? w _ h)).trans h
theorem zSz : (∀ (w : World) o, (w.alloc o).heap.size = w.heap.size + 1) ∧ (∀ (w : World) a v, (w.setCell a v).heap.size = w.heap.size) ∧ ∀ w : World, w.drew.heap.size = w.heap.size := ⟨fun _ _ => World.size_alloc .., fun _ _ _ => World.size_setCell .., fun _ => rfl⟩
abbrev zI {α : Type} [GoD α] (l : List α) (left : Int) (w : World) (q i : Value) (wr : World) : Prop := ∃ (k : Nat) (r : Int), k ≤ l.length ∧ i = .int .i64 k ∧ q = .int .i64 r ∧ 0 ≤ r ∧ r ≤ 1048576 ∧ Hid (r = left - l.length - ((l.take k).map GoD.size).sum) ∧ Below w.heap.size w wr
theorem MH (w : World) (ca : List Value) (a : X6) (left : Int) (ha : rd w ca a) (h0 : 0 ≤ left) (h1 : left ≤ 1048576) : Calls Tryz.prog 89 #[.agg ca.toArray, .int .i64 left] w (Ab w (GoD.size a) left) := by
  obtain ⟨a1, a2⟩ := a
  obtain ⟨ac1, at1, rfl, ar1, ar2⟩ := ha
  obtain ⟨rfl, ar1⟩ := ar1
  obtain ⟨rfl, ar2⟩ := ar2
  dsimp only [List.cons_append, List.nil_append] at *
  unfold maxLen at ar1
  have ar1 : a1.size ≤ 9223372036854775807 := by omega
  clear ar2
  have hsz : GoD.size (a1, a2) = (a1.size + 0) := rfl
  have HSZ := Lib.hid hsz; clear hsz
  go_enter Tryz.func89, Tryz.ntmps89
  go_wp2
  all_goals
    go_ret
    refine ⟨_, rfl, ?_, by go_grown⟩
    rw [HSZ.out]
    unfold szq
    (try unfold szq at *)
    go_light
    omega
theorem DW (w : World) (v : Value) (l : List X6) (left : Int) (ha : rd w [v] l) (h0 : 0 ≤ left) (h1 : left ≤ 1048576) : Calls Tryz.prog 54 #[v, .int .i64 left] w (Ab w (GoD.size l) left) := by
  obtain ⟨oa, cap, e1, hl, hm, hel⟩ := ha
  obtain rfl : v = _ := by simpa using e1
  clear e1
  have HE := Lib.hid hel; clear hel
  unfold maxLen at hm
  have hlm : l.length ≤ 9223372036854775807 := by omega
  have hsz : GoD.size l = l.length + (l.map GoD.size).sum := rfl
  have HSZ := Lib.hid hsz; clear hsz
  by_cases hneg : left - l.length < 0
  · go_enter Tryz.func54, Tryz.ntmps54
    go_wp2
    go_ret
    refine ⟨_, rfl, ?_, Below.refl _ _⟩
    rw [HSZ.out]
    unfold szq
    omega
  go_enter Tryz.func54, Tryz.ntmps54
  go_wp2
  go_loopw [1, 5] (zI l left w) (fun _ i _ => l.length - (intOf i).toNat)
  case atStart => exact ⟨0, _, Nat.zero_le _, rfl, rfl, by omega, by omega, by show _ = _; simp, Below.refl _ _⟩
  case round =>
    obtain ⟨k, r, hk, rfl, rfl, hr0, hr1, HR, hB⟩ := hrel
    by_cases hkl : k < l.length
    · have hx := List.getElem?_eq_getElem hkl
      obtain ⟨eb, eo, ee, rfl, hcl, hcc, hxr⟩ := HE.out k _ hx
      have HT := Lib.hid (Ap hx)
      have HU := Lib.hid (Vi hx)
      clear hx
      generalize l[k] = x at *
      obtain ⟨x0, x1, rfl⟩ := T3 (show _ = 2 from hcl)
      have p0 : wr.cell? ⟨eb, eo + k * 2, none⟩ = some x0 := cBz hB (hcc 0 _ rfl)
      have p1 : wr.cell? ⟨eb, eo + k * 2 + 1, none⟩ = some x1 := cBz hB (hcc 1 _ rfl)
      have HXR := Lib.hid hxr; clear hxr hcc hcl
      go_wp2_with (go_at_call 89; refine Z6 (w := w) (MH _ [x0, x1] x _ (Y1 HXR.out hB) (by omega) (by omega)) (by go_grown) ?_; intro w2 r2 hB2 hb hz hz2 hr2 hs; have HR2 := Lib.hid hr2; clear hr2 hb)
      · go_ret
        refine ⟨_, rfl, ?_, by go_grown⟩
        have u1 := HU.out; have u2 := HR2.out; have u3 := HR.out
        rw [HSZ.out]
        unfold szq at *
        go_light
        omega
      go_roundw
      case rel => exact ⟨k + 1, _, by omega, by go_num, rfl, by omega, by omega, by
      show _ = _
      have u1 := HT.out; have u2 := HR2.out; have u3 := HR.out
      unfold szq at *
      rw [u1]
      omega, by go_grown⟩
      case measure => simp [intOf]; omega
    obtain rfl : k = l.length := by omega
    go_wp2
    go_ret
    refine ⟨_, rfl, ?_, hB⟩
    have u3 := HR.out
    rw [List.take_length] at u3
    rw [HSZ.out]
    unfold szq
    omega
theorem VG (w : World) (ca : List Value) (a : Jf) (left : Int) (ha : rd w ca a) (h0 : 0 ≤ left) (h1 : left ≤ 1048576) : Calls Tryz.prog 162 #[.agg ca.toArray, .int .i64 left] w (Ab w (GoD.size a) left) := by
  obtain ⟨a1, a2, a3⟩ := a
  obtain ⟨ac1, at1, rfl, ar1, ac2, at2, rfl, ar2, ar3⟩ := ha
  obtain ⟨rfl, ar1⟩ := ar1
  obtain ⟨rfl, ar2⟩ := ar2
  obtain ⟨rfl, ar3⟩ := ar3
  dsimp only [List.cons_append, List.nil_append] at *
  clear ar1
  clear ar2
  unfold maxLen at ar3
  have ar3 : a3.size ≤ 9223372036854775807 := by omega
  have hsz : GoD.size (a1, a2, a3) = (0 + (0 + a3.size)) := rfl
  have HSZ := Lib.hid hsz; clear hsz
  go_enter Tryz.func162, Tryz.ntmps162
  go_wp2
  all_goals
    go_ret
    refine ⟨_, rfl, ?_, by go_grown⟩
    rw [HSZ.out]
    unfold szq
    (try unfold szq at *)
    go_light
    omega
theorem RK (w : World) (ca : List Value) (a : Kz) (left : Int) (ha : rd w ca a) (h0 : 0 ≤ left) (h1 : left ≤ 1048576) : Calls Tryz.prog 161 #[.agg ca.toArray, .int .i64 left] w (Ab w (GoD.size a) left) := by
  obtain ⟨a1, a2⟩ := a
  obtain ⟨ac1, at1, rfl, ar1, ar2⟩ := ha
  obtain ⟨rfl, ar1⟩ := ar1
  obtain ⟨ax2_0, ax2_1, ax2_2, rfl⟩ := Qc6 (show _ = 3 from GoD.rd_len ar2)
  dsimp only [List.cons_append, List.nil_append] at *
  unfold maxLen at ar1
  have ar1 : a1.size ≤ 9223372036854775807 := by omega
  have AR2H := Lib.hid ar2; clear ar2
  have tok1 : True := trivial
  have hsz : GoD.size (a1, a2) = (a1.size + GoD.size a2) := rfl
  have HSZ := Lib.hid hsz; clear hsz
  go_enter Tryz.func161, Tryz.ntmps161
  go_wp2_with (first | (go_at_call 162; have tk := tok1; clear tok1; refine Z6 (w := w) (VG _ [ax2_0, ax2_1, ax2_2] a2 _ (Y1 AR2H.out (by go_grown)) (by omega) (by omega)) (by go_grown) ?_; intro w1 r1 hB hb hz hz2 hr hs; have HR1 := Lib.hid hr; clear hr; (try simp only [zSz] at hz2); have c0 := fun o => Bx hb (w.heap.size) o (by go_size); clear hb))
  all_goals
    go_ret
    refine ⟨_, rfl, ?_, by go_grown⟩
    rw [HSZ.out]
    unfold szq
    (try have u1 := HR1.out)
    (try unfold szq at *)
    go_light
    omega
theorem MI (w : World) (v : Value) (l : List Kz) (left : Int) (ha : rd w [v] l) (h0 : 0 ≤ left) (h1 : left ≤ 1048576) : Calls Tryz.prog 127 #[v, .int .i64 left] w (Ab w (GoD.size l) left) := by
  obtain ⟨oa, cap, e1, hl, hm, hel⟩ := ha
  obtain rfl : v = _ := by simpa using e1
  clear e1
  have HE := Lib.hid hel; clear hel
  unfold maxLen at hm
  have hlm : l.length ≤ 9223372036854775807 := by omega
  have hsz : GoD.size l = l.length + (l.map GoD.size).sum := rfl
  have HSZ := Lib.hid hsz; clear hsz
  by_cases hneg : left - l.length < 0
  · go_enter Tryz.func127, Tryz.ntmps127
    go_wp2
    go_ret
    refine ⟨_, rfl, ?_, Below.refl _ _⟩
    rw [HSZ.out]
    unfold szq
    omega
  go_enter Tryz.func127, Tryz.ntmps127
  go_wp2
  go_loopw [1, 5] (zI l left w) (fun _ i _ => l.length - (intOf i).toNat)
  case atStart => exact ⟨0, _, Nat.zero_le _, rfl, rfl, by omega, by omega, by show _ = _; simp, Below.refl _ _⟩
  case round =>
    obtain ⟨k, r, hk, rfl, rfl, hr0, hr1, HR, hB⟩ := hrel
    by_cases hkl : k < l.length
    · have hx := List.getElem?_eq_getElem hkl
      obtain ⟨eb, eo, ee, rfl, hcl, hcc, hxr⟩ := HE.out k _ hx
      have HT := Lib.hid (Ap hx)
      have HU := Lib.hid (Vi hx)
      clear hx
      generalize l[k] = x at *
      obtain ⟨x0, x1, x2, x3, rfl⟩ := Qel (show _ = 4 from hcl)
      have p0 : wr.cell? ⟨eb, eo + k * 4, none⟩ = some x0 := cBz hB (hcc 0 _ rfl)
      have p1 : wr.cell? ⟨eb, eo + k * 4 + 1, none⟩ = some x1 := cBz hB (hcc 1 _ rfl)
      have p2 : wr.cell? ⟨eb, eo + k * 4 + 2, none⟩ = some x2 := cBz hB (hcc 2 _ rfl)
      have p3 : wr.cell? ⟨eb, eo + k * 4 + 3, none⟩ = some x3 := cBz hB (hcc 3 _ rfl)
      have HXR := Lib.hid hxr; clear hxr hcc hcl
      go_wp2_with (go_at_call 161; refine Z6 (w := w) (RK _ [x0, x1, x2, x3] x _ (Y1 HXR.out hB) (by omega) (by omega)) (by go_grown) ?_; intro w2 r2 hB2 hb hz hz2 hr2 hs; have HR2 := Lib.hid hr2; clear hr2 hb)
      · go_ret
        refine ⟨_, rfl, ?_, by go_grown⟩
        have u1 := HU.out; have u2 := HR2.out; have u3 := HR.out
        rw [HSZ.out]
        unfold szq at *
        go_light
        omega
      go_roundw
      case rel => exact ⟨k + 1, _, by omega, by go_num, rfl, by omega, by omega, by
      show _ = _
      have u1 := HT.out; have u2 := HR2.out; have u3 := HR.out
      unfold szq at *
      rw [u1]
      omega, by go_grown⟩
      case measure => simp [intOf]; omega
    obtain rfl : k = l.length := by omega
    go_wp2
    go_ret
    refine ⟨_, rfl, ?_, hB⟩
    have u3 := HR.out
    rw [List.take_length] at u3
    rw [HSZ.out]
    unfold szq
    omega
theorem RL (w : World) (ca : List Value) (a : Zl) (left : Int) (ha : rd w ca a) (h0 : 0 ≤ left) (h1 : left ≤ 1048576) : Calls Tryz.prog 90 #[.agg ca.toArray, .int .i64 left] w (Ab w (GoD.size a) left) := by
  obtain ⟨a1, a2, a3, a4, a5⟩ := a
  obtain ⟨ac1, at1, rfl, ar1, ac2, at2, rfl, ar2, ac3, at3, rfl, ar3, ac4, at4, rfl, ar4, ar5⟩ := ha
  obtain ⟨rfl, ar1⟩ := ar1
  obtain ⟨rfl, ar2⟩ := ar2
  obtain rfl := ar3
  obtain ⟨rfl, ar4⟩ := ar4
  obtain ⟨ax5_0, rfl⟩ := Dg (show _ = 1 from GoD.rd_len ar5)
  dsimp only [List.cons_append, List.nil_append] at *
  clear ar1
  clear ar2
  clear ar4
  have AR5H := Lib.hid ar5; clear ar5
  have tok1 : True := trivial
  have hsz : GoD.size (a1, a2, a3, a4, a5) = (0 + (0 + (0 + (0 + GoD.size a5)))) := rfl
  have HSZ := Lib.hid hsz; clear hsz
  go_enter Tryz.func90, Tryz.ntmps90
  go_wp2_with (first | (go_at_call 127; have tk := tok1; clear tok1; refine Z6 (w := w) (MI _ ax5_0 a5 _ (Y1 AR5H.out (by go_grown)) (by omega) (by omega)) (by go_grown) ?_; intro w1 r1 hB hb hz hz2 hr hs; have HR1 := Lib.hid hr; clear hr; (try simp only [zSz] at hz2); have c0 := fun o => Bx hb (w.heap.size) o (by go_size); clear hb))
  all_goals
    go_ret
    refine ⟨_, rfl, ?_, by go_grown⟩
    rw [HSZ.out]
    unfold szq
    (try have u1 := HR1.out)
    (try unfold szq at *)
    go_light
    omega
theorem MJ (w : World) (v : Value) (l : List Zl) (left : Int) (ha : rd w [v] l) (h0 : 0 ≤ left) (h1 : left ≤ 1048576) : Calls Tryz.prog 55 #[v, .int .i64 left] w (Ab w (GoD.size l) left) := by
  obtain ⟨oa, cap, e1, hl, hm, hel⟩ := ha
  obtain rfl : v = _ := by simpa using e1
  clear e1
  have HE := Lib.hid hel; clear hel
  unfold maxLen at hm
  have hlm : l.length ≤ 9223372036854775807 := by omega
  have hsz : GoD.size l = l.length + (l.map GoD.size).sum := rfl
  have HSZ := Lib.hid hsz; clear hsz
  by_cases hneg : left - l.length < 0
  · go_enter Tryz.func55, Tryz.ntmps55
    go_wp2
    go_ret
    refine ⟨_, rfl, ?_, Below.refl _ _⟩
    rw [HSZ.out]
    unfold szq
    omega
  go_enter Tryz.func55, Tryz.ntmps55
  go_wp2
  go_loopw [1, 5] (zI l left w) (fun _ i _ => l.length - (intOf i).toNat)
  case atStart => exact ⟨0, _, Nat.zero_le _, rfl, rfl, by omega, by omega, by show _ = _; simp, Below.refl _ _⟩
  case round =>
    obtain ⟨k, r, hk, rfl, rfl, hr0, hr1, HR, hB⟩ := hrel
    by_cases hkl : k < l.length
    · have hx := List.getElem?_eq_getElem hkl
      obtain ⟨eb, eo, ee, rfl, hcl, hcc, hxr⟩ := HE.out k _ hx
      have HT := Lib.hid (Ap hx)
      have HU := Lib.hid (Vi hx)
      clear hx
      generalize l[k] = x at *
      obtain ⟨x0, x1, x2, x3, x4, rfl⟩ := Qe3 (show _ = 5 from hcl)
      have p0 : wr.cell? ⟨eb, eo + k * 5, none⟩ = some x0 := cBz hB (hcc 0 _ rfl)
      have p1 : wr.cell? ⟨eb, eo + k * 5 + 1, none⟩ = some x1 := cBz hB (hcc 1 _ rfl)
      have p2 : wr.cell? ⟨eb, eo + k * 5 + 2, none⟩ = some x2 := cBz hB (hcc 2 _ rfl)
      have p3 : wr.cell? ⟨eb, eo + k * 5 + 3, none⟩ = some x3 := cBz hB (hcc 3 _ rfl)
      have p4 : wr.cell? ⟨eb, eo + k * 5 + 4, none⟩ = some x4 := cBz hB (hcc 4 _ rfl)
      have HXR := Lib.hid hxr; clear hxr hcc hcl
      go_wp2_with (go_at_call 90; refine Z6 (w := w) (RL _ [x0, x1, x2, x3, x4] x _ (Y1 HXR.out hB) (by omega) (by omega)) (by go_grown) ?_; intro w2 r2 hB2 hb hz hz2 hr2 hs; have HR2 := Lib.hid hr2; clear hr2 hb)
      · go_ret
        refine ⟨_, rfl, ?_, by go_grown⟩
        have u1 := HU.out; have u2 := HR2.out; have u3 := HR.out
        rw [HSZ.out]
        unfold szq at *
        go_light
        omega
      go_roundw
      case rel => exact ⟨k + 1, _, by omega, by go_num, rfl, by omega, by omega, by
      show _ = _
      have u1 := HT.out; have u2 := HR2.out; have u3 := HR.out
      unfold szq at *
      rw [u1]
      omega, by go_grown⟩
      case measure => simp [intOf]; omega
    obtain rfl : k = l.length := by omega
    go_wp2
    go_ret
    refine ⟨_, rfl, ?_, hB⟩
    have u3 := HR.out
    rw [List.take_length] at u3
    rw [HSZ.out]
    unfold szq
    omega
theorem VH (w : World) (ca : List Value) (a : V0) (left : Int) (ha : rd w ca a) (h0 : 0 ≤ left) (h1 : left ≤ 1048576) : Calls Tryz.prog 30 #[.agg ca.toArray, .int .i64 left] w (Ab w (GoD.size a) left) := by
  obtain ⟨a1, a2, a3⟩ := a
  obtain ⟨ac1, at1, rfl, ar1, ac2, at2, rfl, ar2, ar3⟩ := ha
  obtain ⟨ax1_0, rfl⟩ := Dg (show _ = 1 from GoD.rd_len ar1)
  obtain ⟨ax2_0, rfl⟩ := Dg (show _ = 1 from GoD.rd_len ar2)
  obtain ⟨rfl, ar3⟩ := ar3
  dsimp only [List.cons_append, List.nil_append] at *
  have AR1H := Lib.hid ar1; clear ar1
  have AR2H := Lib.hid ar2; clear ar2
  clear ar3
  have tok1 : True := trivial
  have tok2 : True := trivial
  have hsz : GoD.size (a1, a2, a3) = (GoD.size a1 + (GoD.size a2 + 0)) := rfl
  have HSZ := Lib.hid hsz; clear hsz
  go_enter Tryz.func30, Tryz.ntmps30
  go_wp2_with (first | (go_at_call 54; have tk := tok1; clear tok1; refine Z6 (w := w) (DW _ ax1_0 a1 _ (Y1 AR1H.out (by go_grown)) (by omega) (by omega)) (by go_grown) ?_; intro w1 r1 hB hb hz hz2 hr hs; have HR1 := Lib.hid hr; clear hr; (try simp only [zSz] at hz2); have c0 := fun o => Bx hb (w.heap.size) o (by go_size); clear hb) | (go_at_call 55; have tk := tok2; clear tok2; refine Z6 (w := w) (MJ _ ax2_0 a2 _ (Y1 AR2H.out (by go_grown)) (by omega) (by omega)) (by go_grown) ?_; intro w2 r2 hB hb hz hz2 hr hs; have HR2 := Lib.hid hr; clear hr; (try simp only [zSz] at hz2); have c0 := fun o => Bx hb (w.heap.size) o (by go_size); clear hb))
  all_goals
    go_ret
    refine ⟨_, rfl, ?_, by go_grown⟩
    rw [HSZ.out]
    unfold szq
    (try have u1 := HR1.out)
    (try have u2 := HR2.out)
    (try unfold szq at *)
    go_light
    omega
theorem RM (w : World) (ca : List Value) (a : Qw) (left : Int) (ha : rd w ca a) (h0 : 0 ≤ left) (h1 : left ≤ 1048576) : Calls Tryz.prog 128 #[.agg ca.toArray, .int .i64 left] w (Ab w (GoD.size a) left) := by
  obtain ⟨a1, a2, a3, a4, a5⟩ := a
  obtain ⟨ac1, at1, rfl, ar1, ac2, at2, rfl, ar2, ac3, at3, rfl, ar3, ac4, at4, rfl, ar4, ar5⟩ := ha
  obtain ⟨rfl, ar1⟩ := ar1
  obtain ⟨rfl, ar2⟩ := ar2
  obtain ⟨rfl, ar3⟩ := ar3
  obtain ⟨rfl, ar4⟩ := ar4
  obtain ⟨ax5_0, ax5_1, ax5_2, rfl⟩ := Qc6 (show _ = 3 from GoD.rd_len ar5)
  dsimp only [List.cons_append, List.nil_append] at *
  clear ar1
  clear ar2
  clear ar3
  unfold maxLen at ar4
  have ar4 : a4.size ≤ 9223372036854775807 := by omega
  have AR5H := Lib.hid ar5; clear ar5
  have tok1 : True := trivial
  have hsz : GoD.size (a1, a2, a3, a4, a5) = (0 + (0 + (0 + (a4.size + GoD.size a5)))) := rfl
  have HSZ := Lib.hid hsz; clear hsz
  go_enter Tryz.func128, Tryz.ntmps128
  go_wp2_with (first | (go_at_call 162; have tk := tok1; clear tok1; refine Z6 (w := w) (VG _ [ax5_0, ax5_1, ax5_2] a5 _ (Y1 AR5H.out (by go_grown)) (by omega) (by omega)) (by go_grown) ?_; intro w1 r1 hB hb hz hz2 hr hs; have HR1 := Lib.hid hr; clear hr; (try simp only [zSz] at hz2); have c0 := fun o => Bx hb (w.heap.size) o (by go_size); clear hb))
  all_goals
    go_ret
    refine ⟨_, rfl, ?_, by go_grown⟩
    rw [HSZ.out]
    unfold szq
    (try have u1 := HR1.out)
    (try unfold szq at *)
    go_light
    omega
theorem MK (w : World) (v : Value) (l : List Qw) (left : Int) (ha : rd w [v] l) (h0 : 0 ≤ left) (h1 : left ≤ 1048576) : Calls Tryz.prog 91 #[v, .int .i64 left] w (Ab w (GoD.size l) left) := by
  obtain ⟨oa, cap, e1, hl, hm, hel⟩ := ha
  obtain rfl : v = _ := by simpa using e1
  clear e1
  have HE := Lib.hid hel; clear hel
  unfold maxLen at hm
  have hlm : l.length ≤ 9223372036854775807 := by omega
  have hsz : GoD.size l = l.length + (l.map GoD.size).sum := rfl
  have HSZ := Lib.hid hsz; clear hsz
  by_cases hneg : left - l.length < 0
  · go_enter Tryz.func91, Tryz.ntmps91
    go_wp2
    go_ret
    refine ⟨_, rfl, ?_, Below.refl _ _⟩
    rw [HSZ.out]
    unfold szq
    omega
  go_enter Tryz.func91, Tryz.ntmps91
  go_wp2
  go_loopw [1, 5] (zI l left w) (fun _ i _ => l.length - (intOf i).toNat)
  case atStart => exact ⟨0, _, Nat.zero_le _, rfl, rfl, by omega, by omega, by show _ = _; simp, Below.refl _ _⟩
  case round =>
    obtain ⟨k, r, hk, rfl, rfl, hr0, hr1, HR, hB⟩ := hrel
    by_cases hkl : k < l.length
    · have hx := List.getElem?_eq_getElem hkl
      obtain ⟨eb, eo, ee, rfl, hcl, hcc, hxr⟩ := HE.out k _ hx
      have HT := Lib.hid (Ap hx)
      have HU := Lib.hid (Vi hx)
      clear hx
      generalize l[k] = x at *
      obtain ⟨x0, x1, x2, x3, x4, x5, x6, rfl⟩ := Qfe (show _ = 7 from hcl)
      have p0 : wr.cell? ⟨eb, eo + k * 7, none⟩ = some x0 := cBz hB (hcc 0 _ rfl)
      have p1 : wr.cell? ⟨eb, eo + k * 7 + 1, none⟩ = some x1 := cBz hB (hcc 1 _ rfl)
      have p2 : wr.cell? ⟨eb, eo + k * 7 + 2, none⟩ = some x2 := cBz hB (hcc 2 _ rfl)
      have p3 : wr.cell? ⟨eb, eo + k * 7 + 3, none⟩ = some x3 := cBz hB (hcc 3 _ rfl)
      have p4 : wr.cell? ⟨eb, eo + k * 7 + 4, none⟩ = some x4 := cBz hB (hcc 4 _ rfl)
      have p5 : wr.cell? ⟨eb, eo + k * 7 + 5, none⟩ = some x5 := cBz hB (hcc 5 _ rfl)
      have p6 : wr.cell? ⟨eb, eo + k * 7 + 6, none⟩ = some x6 := cBz hB (hcc 6 _ rfl)
      have HXR := Lib.hid hxr; clear hxr hcc hcl
      go_wp2_with (go_at_call 128; refine Z6 (w := w) (RM _ [x0, x1, x2, x3, x4, x5, x6] x _ (Y1 HXR.out hB) (by omega) (by omega)) (by go_grown) ?_; intro w2 r2 hB2 hb hz hz2 hr2 hs; have HR2 := Lib.hid hr2; clear hr2 hb)
      · go_ret
        refine ⟨_, rfl, ?_, by go_grown⟩
        have u1 := HU.out; have u2 := HR2.out; have u3 := HR.out
        rw [HSZ.out]
        unfold szq at *
        go_light
        omega
      go_roundw
      case rel => exact ⟨k + 1, _, by omega, by go_num, rfl, by omega, by omega, by
      show _ = _
      have u1 := HT.out; have u2 := HR2.out; have u3 := HR.out
      unfold szq at *
      rw [u1]
      omega, by go_grown⟩
      case measure => simp [intOf]; omega
    obtain rfl : k = l.length := by omega
    go_wp2
    go_ret
    refine ⟨_, rfl, ?_, hB⟩
    have u3 := HR.out
    rw [List.take_length] at u3
    rw [HSZ.out]
    unfold szq
    omega
theorem Qb3 (w : World) (ca : List Value) (a : Zw) (left : Int) (ha : rd w ca a) (h0 : 0 ≤ left) (h1 : left ≤ 1048576) : Calls Tryz.prog 56 #[.agg ca.toArray, .int .i64 left] w (Ab w (GoD.size a) left) := by
  obtain ⟨a1, a2⟩ := a
  obtain ⟨ac1, at1, rfl, ar1, ar2⟩ := ha
  obtain ⟨rfl, ar1⟩ := ar1
  obtain ⟨ax2_0, rfl⟩ := Dg (show _ = 1 from GoD.rd_len ar2)
  dsimp only [List.cons_append, List.nil_append] at *
  unfold maxLen at ar1
  have ar1 : a1.size ≤ 9223372036854775807 := by omega
  have AR2H := Lib.hid ar2; clear ar2
  have tok1 : True := trivial
  have hsz : GoD.size (a1, a2) = (a1.size + GoD.size a2) := rfl
  have HSZ := Lib.hid hsz; clear hsz
  go_enter Tryz.func56, Tryz.ntmps56
  go_wp2_with (first | (go_at_call 91; have tk := tok1; clear tok1; refine Z6 (w := w) (MK _ ax2_0 a2 _ (Y1 AR2H.out (by go_grown)) (by omega) (by omega)) (by go_grown) ?_; intro w1 r1 hB hb hz hz2 hr hs; have HR1 := Lib.hid hr; clear hr; (try simp only [zSz] at hz2); have c0 := fun o => Bx hb (w.heap.size) o (by go_size); clear hb))
  all_goals
    go_ret
    refine ⟨_, rfl, ?_, by go_grown⟩
    rw [HSZ.out]
    unfold szq
    (try have u1 := HR1.out)
    (try unfold szq at *)
    go_light
    omega
theorem CC (w : World) (v : Value) (l : List Zw) (left : Int) (ha : rd w [v] l) (h0 : 0 ≤ left) (h1 : left ≤ 1048576) : Calls Tryz.prog 31 #[v, .int .i64 left] w (Ab w (GoD.size l) left) := by
  obtain ⟨oa, cap, e1, hl, hm, hel⟩ := ha
  obtain rfl : v = _ := by simpa using e1
  clear e1
  have HE := Lib.hid hel; clear hel
  unfold maxLen at hm
  have hlm : l.length ≤ 9223372036854775807 := by omega
  have hsz : GoD.size l = l.length + (l.map GoD.size).sum := rfl
  have HSZ := Lib.hid hsz; clear hsz
  by_cases hneg : left - l.length < 0
  · go_enter Tryz.func31, Tryz.ntmps31
    go_wp2
    go_ret
    refine ⟨_, rfl, ?_, Below.refl _ _⟩
    rw [HSZ.out]
    unfold szq
    omega
  go_enter Tryz.func31, Tryz.ntmps31
  go_wp2
  go_loopw [1, 5] (zI l left w) (fun _ i _ => l.length - (intOf i).toNat)
  case atStart => exact ⟨0, _, Nat.zero_le _, rfl, rfl, by omega, by omega, by show _ = _; simp, Below.refl _ _⟩
  case round =>
    obtain ⟨k, r, hk, rfl, rfl, hr0, hr1, HR, hB⟩ := hrel
    by_cases hkl : k < l.length
    · have hx := List.getElem?_eq_getElem hkl
      obtain ⟨eb, eo, ee, rfl, hcl, hcc, hxr⟩ := HE.out k _ hx
      have HT := Lib.hid (Ap hx)
      have HU := Lib.hid (Vi hx)
      clear hx
      generalize l[k] = x at *
      obtain ⟨x0, x1, rfl⟩ := T3 (show _ = 2 from hcl)
      have p0 : wr.cell? ⟨eb, eo + k * 2, none⟩ = some x0 := cBz hB (hcc 0 _ rfl)
      have p1 : wr.cell? ⟨eb, eo + k * 2 + 1, none⟩ = some x1 := cBz hB (hcc 1 _ rfl)
      have HXR := Lib.hid hxr; clear hxr hcc hcl
      go_wp2_with (go_at_call 56; refine Z6 (w := w) (Qb3 _ [x0, x1] x _ (Y1 HXR.out hB) (by omega) (by omega)) (by go_grown) ?_; intro w2 r2 hB2 hb hz hz2 hr2 hs; have HR2 := Lib.hid hr2; clear hr2 hb)
      · go_ret
        refine ⟨_, rfl, ?_, by go_grown⟩
        have u1 := HU.out; have u2 := HR2.out; have u3 := HR.out
        rw [HSZ.out]
        unfold szq at *
        go_light
        omega
      go_roundw
      case rel => exact ⟨k + 1, _, by omega, by go_num, rfl, by omega, by omega, by
      show _ = _
      have u1 := HT.out; have u2 := HR2.out; have u3 := HR.out
      unfold szq at *
      rw [u1]
      omega, by go_grown⟩
      case measure => simp [intOf]; omega
    obtain rfl : k = l.length := by omega
    go_wp2
    go_ret
    refine ⟨_, rfl, ?_, hB⟩
    have u3 := HR.out
    rw [List.take_length] at u3
    rw [HSZ.out]
    unfold szq
    omega
theorem VI (w : World) (ca : List Value) (a : Qp) (left : Int) (ha : rd w ca a) (h0 : 0 ≤ left) (h1 : left ≤ 1048576) : Calls Tryz.prog 58 #[.agg ca.toArray, .int .i64 left] w (Ab w (GoD.size a) left) := by
  obtain ⟨a1, a2⟩ := a
  obtain ⟨ac1, at1, rfl, ar1, ar2⟩ := ha
  obtain ⟨ax1_0, ax1_1, ax1_2, rfl⟩ := Qc6 (show _ = 3 from GoD.rd_len ar1)
  obtain ⟨ax2_0, rfl⟩ := Dg (show _ = 1 from GoD.rd_len ar2)
  dsimp only [List.cons_append, List.nil_append] at *
  have AR1H := Lib.hid ar1; clear ar1
  have AR2H := Lib.hid ar2; clear ar2
  have tok1 : True := trivial
  have tok2 : True := trivial
  have hsz : GoD.size (a1, a2) = (GoD.size a1 + GoD.size a2) := rfl
  have HSZ := Lib.hid hsz; clear hsz
  go_enter Tryz.func58, Tryz.ntmps58
  go_wp2_with (first | (go_at_call 30; have tk := tok1; clear tok1; refine Z6 (w := w) (VH _ [ax1_0, ax1_1, ax1_2] a1 _ (Y1 AR1H.out (by go_grown)) (by omega) (by omega)) (by go_grown) ?_; intro w1 r1 hB hb hz hz2 hr hs; have HR1 := Lib.hid hr; clear hr; (try simp only [zSz] at hz2); have c0 := fun o => Bx hb (w.heap.size) o (by go_size); clear hb) | (go_at_call 31; have tk := tok2; clear tok2; refine Z6 (w := w) (CC _ ax2_0 a2 _ (Y1 AR2H.out (by go_grown)) (by omega) (by omega)) (by go_grown) ?_; intro w2 r2 hB hb hz hz2 hr hs; have HR2 := Lib.hid hr; clear hr; (try simp only [zSz] at hz2); have c0 := fun o => Bx hb (w.heap.size) o (by go_size); clear hb))
  all_goals
    go_ret
    refine ⟨_, rfl, ?_, by go_grown⟩
    rw [HSZ.out]
    unfold szq
    (try have u1 := HR1.out)
    (try have u2 := HR2.out)
    (try unfold szq at *)
    go_light
    omega
theorem HN (w : World) (ca : List Value) (a : U7) (left : Int) (ha : rd w ca a) (h0 : 0 ≤ left) (h1 : left ≤ 1048576) : Calls Tryz.prog 33 #[.agg ca.toArray, .int .i64 left] w (Ab w (GoD.size a) left) := by
  obtain ⟨a1, a2, a3⟩ := a
  obtain ⟨ac1, at1, rfl, ar1, ac2, at2, rfl, ar2, ar3⟩ := ha
  obtain ⟨rfl, ar1⟩ := ar1
  obtain ⟨ax2_0, ax2_1, ax2_2, ax2_3, rfl⟩ := Qel (show _ = 4 from GoD.rd_len ar2)
  obtain ⟨rfl, ar3⟩ := ar3
  dsimp only [List.cons_append, List.nil_append] at *
  clear ar1
  have AR2H := Lib.hid ar2; clear ar2
  clear ar3
  have tok1 : True := trivial
  have hsz : GoD.size (a1, a2, a3) = (0 + (GoD.size a2 + 0)) := rfl
  have HSZ := Lib.hid hsz; clear hsz
  go_enter Tryz.func33, Tryz.ntmps33
  go_wp2_with (first | (go_at_call 58; have tk := tok1; clear tok1; refine Z6 (w := w) (VI _ [ax2_0, ax2_1, ax2_2, ax2_3] a2 _ (Y1 AR2H.out (by go_grown)) (by omega) (by omega)) (by go_grown) ?_; intro w1 r1 hB hb hz hz2 hr hs; have HR1 := Lib.hid hr; clear hr; (try simp only [zSz] at hz2); have c0 := fun o => Bx hb (w.heap.size) o (by go_size); clear hb))
  all_goals
    go_ret
    refine ⟨_, rfl, ?_, by go_grown⟩
    rw [HSZ.out]
    unfold szq
    (try have u1 := HR1.out)
    (try unfold szq at *)
    go_light
    omega
theorem Mg (w : World) (v : Value) (l : List Int) (left : Int) (ha : rd w [v] l) (h0 : 0 ≤ left) (h1 : left ≤ 1048576) : Calls Tryz.prog 13 #[v, .int .i64 left] w (Ab w (GoD.size l) left) := by
  obtain ⟨oa, cap, e1, hl, hm, hel⟩ := ha
  obtain rfl : v = _ := by simpa using e1
  clear e1
  have HE := Lib.hid hel; clear hel
  unfold maxLen at hm
  have hlm : l.length ≤ 9223372036854775807 := by omega
  have hsz : GoD.size l = l.length + (l.map GoD.size).sum := rfl
  have HSZ := Lib.hid hsz; clear hsz
  have hz0 : (l.map GoD.size).sum = 0 := NL l (fun _ => rfl)
  have HZ0 := Lib.hid hz0; clear hz0
  go_enter Tryz.func13, Tryz.ntmps13
  go_wp2
  all_goals
    go_ret
    refine ⟨_, rfl, ?_, by go_grown⟩
    rw [HSZ.out, HZ0.out]
    unfold szq
    go_light
    omega
theorem MM (w : World) (ca : List Value) (a : Eg) (left : Int) (ha : rd w ca a) (h0 : 0 ≤ left) (h1 : left ≤ 1048576) : Calls Tryz.prog 92 #[.agg ca.toArray, .int .i64 left] w (Ab w (GoD.size a) left) := by
  obtain ⟨a1, a2, a3⟩ := a
  obtain ⟨ac1, at1, rfl, ar1, ac2, at2, rfl, ar2, ar3⟩ := ha
  obtain ⟨rfl, ar1⟩ := ar1
  obtain ⟨ax2_0, rfl⟩ := Dg (show _ = 1 from GoD.rd_len ar2)
  obtain ⟨ax3_0, rfl⟩ := Dg (show _ = 1 from GoD.rd_len ar3)
  dsimp only [List.cons_append, List.nil_append] at *
  clear ar1
  have AR2H := Lib.hid ar2; clear ar2
  have AR3H := Lib.hid ar3; clear ar3
  have tok1 : True := trivial
  have tok2 : True := trivial
  have hsz : GoD.size (a1, a2, a3) = (0 + (GoD.size a2 + GoD.size a3)) := rfl
  have HSZ := Lib.hid hsz; clear hsz
  go_enter Tryz.func92, Tryz.ntmps92
  go_wp2_with (first | (go_at_call 13; have tk := tok1; clear tok1; refine Z6 (w := w) (Mg _ ax2_0 a2 _ (Y1 AR2H.out (by go_grown)) (by omega) (by omega)) (by go_grown) ?_; intro w1 r1 hB hb hz hz2 hr hs; have HR1 := Lib.hid hr; clear hr; (try simp only [zSz] at hz2); have c0 := fun o => Bx hb (w.heap.size) o (by go_size); clear hb) | (go_at_call 13; have tk := tok2; clear tok2; refine Z6 (w := w) (Mg _ ax3_0 a3 _ (Y1 AR3H.out (by go_grown)) (by omega) (by omega)) (by go_grown) ?_; intro w2 r2 hB hb hz hz2 hr hs; have HR2 := Lib.hid hr; clear hr; (try simp only [zSz] at hz2); have c0 := fun o => Bx hb (w.heap.size) o (by go_size); clear hb))
  all_goals
    go_ret
    refine ⟨_, rfl, ?_, by go_grown⟩
    rw [HSZ.out]
    unfold szq
    (try have u1 := HR1.out)
    (try have u2 := HR2.out)
    (try unfold szq at *)
    go_light
    omega
theorem RN (w : World) (ca : List Value) (a : Ep) (left : Int) (ha : rd w ca a) (h0 : 0 ≤ left) (h1 : left ≤ 1048576) : Calls Tryz.prog 10 #[.agg ca.toArray, .int .i64 left] w (Ab w (GoD.size a) left) := by
  obtain ⟨a1, a2⟩ := a
  obtain ⟨ac1, at1, rfl, ar1, ar2⟩ := ha
  obtain ⟨rfl, ar1⟩ := ar1
  obtain ⟨rfl, ar2⟩ := ar2
  dsimp only [List.cons_append, List.nil_append] at *
  unfold maxLen at ar1
  have ar1 : a1.size ≤ 9223372036854775807 := by omega
  unfold maxLen at ar2
  have ar2 : a2.size ≤ 9223372036854775807 := by omega
  have hsz : GoD.size (a1, a2) = (a1.size + a2.size) := rfl
  have HSZ := Lib.hid hsz; clear hsz
  go_enter Tryz.func10, Tryz.ntmps10
  go_wp2
  all_goals
    go_ret
    refine ⟨_, rfl, ?_, by go_grown⟩
    rw [HSZ.out]
    unfold szq
    (try unfold szq at *)
    go_light
    omega
theorem DX (w : World) (ca : List Value) (a : Bb) (left : Int) (ha : rd w ca a) (h0 : 0 ≤ left) (h1 : left ≤ 1048576) : Calls Tryz.prog 57 #[.agg ca.toArray, .int .i64 left] w (Ab w (GoD.size a) left) := by
  obtain ⟨a1, a2⟩ := a
  obtain ⟨ac1, at1, rfl, ar1, ar2⟩ := ha
  obtain ⟨rfl, ar1⟩ := ar1
  obtain ⟨ax2_0, rfl⟩ := Dg (show _ = 1 from GoD.rd_len ar2)
  dsimp only [List.cons_append, List.nil_append] at *
  unfold maxLen at ar1
  have ar1 : a1.size ≤ 9223372036854775807 := by omega
  have AR2H := Lib.hid ar2; clear ar2
  have tok1 : True := trivial
  have hsz : GoD.size (a1, a2) = (a1.size + GoD.size a2) := rfl
  have HSZ := Lib.hid hsz; clear hsz
  go_enter Tryz.func57, Tryz.ntmps57
  go_wp2_with (first | (go_at_call 13; have tk := tok1; clear tok1; refine Z6 (w := w) (Mg _ ax2_0 a2 _ (Y1 AR2H.out (by go_grown)) (by omega) (by omega)) (by go_grown) ?_; intro w1 r1 hB hb hz hz2 hr hs; have HR1 := Lib.hid hr; clear hr; (try simp only [zSz] at hz2); have c0 := fun o => Bx hb (w.heap.size) o (by go_size); clear hb))
  all_goals
    go_ret
    refine ⟨_, rfl, ?_, by go_grown⟩
    rw [HSZ.out]
    unfold szq
    (try have u1 := HR1.out)
    (try unfold szq at *)
    go_light
    omega
theorem HO (w : World) (v : Value) (l : List Bb) (left : Int) (ha : rd w [v] l) (h0 : 0 ≤ left) (h1 : left ≤ 1048576) : Calls Tryz.prog 32 #[v, .int .i64 left] w (Ab w (GoD.size l) left) := by
  obtain ⟨oa, cap, e1, hl, hm, hel⟩ := ha
  obtain rfl : v = _ := by simpa using e1
  clear e1
  have HE := Lib.hid hel; clear hel
  unfold maxLen at hm
  have hlm : l.length ≤ 9223372036854775807 := by omega
  have hsz : GoD.size l = l.length + (l.map GoD.size).sum := rfl
  have HSZ := Lib.hid hsz; clear hsz
  by_cases hneg : left - l.length < 0
  · go_enter Tryz.func32, Tryz.ntmps32
    go_wp2
    go_ret
    refine ⟨_, rfl, ?_, Below.refl _ _⟩
    rw [HSZ.out]
    unfold szq
    omega
  go_enter Tryz.func32, Tryz.ntmps32
  go_wp2
  go_loopw [1, 5] (zI l left w) (fun _ i _ => l.length - (intOf i).toNat)
  case atStart => exact ⟨0, _, Nat.zero_le _, rfl, rfl, by omega, by omega, by show _ = _; simp, Below.refl _ _⟩
  case round =>
    obtain ⟨k, r, hk, rfl, rfl, hr0, hr1, HR, hB⟩ := hrel
    by_cases hkl : k < l.length
    · have hx := List.getElem?_eq_getElem hkl
      obtain ⟨eb, eo, ee, rfl, hcl, hcc, hxr⟩ := HE.out k _ hx
      have HT := Lib.hid (Ap hx)
      have HU := Lib.hid (Vi hx)
      clear hx
      generalize l[k] = x at *
      obtain ⟨x0, x1, rfl⟩ := T3 (show _ = 2 from hcl)
      have p0 : wr.cell? ⟨eb, eo + k * 2, none⟩ = some x0 := cBz hB (hcc 0 _ rfl)
      have p1 : wr.cell? ⟨eb, eo + k * 2 + 1, none⟩ = some x1 := cBz hB (hcc 1 _ rfl)
      have HXR := Lib.hid hxr; clear hxr hcc hcl
      go_wp2_with (go_at_call 57; refine Z6 (w := w) (DX _ [x0, x1] x _ (Y1 HXR.out hB) (by omega) (by omega)) (by go_grown) ?_; intro w2 r2 hB2 hb hz hz2 hr2 hs; have HR2 := Lib.hid hr2; clear hr2 hb)
      · go_ret
        refine ⟨_, rfl, ?_, by go_grown⟩
        have u1 := HU.out; have u2 := HR2.out; have u3 := HR.out
        rw [HSZ.out]
        unfold szq at *
        go_light
        omega
      go_roundw
      case rel => exact ⟨k + 1, _, by omega, by go_num, rfl, by omega, by omega, by
      show _ = _
      have u1 := HT.out; have u2 := HR2.out; have u3 := HR.out
      unfold szq at *
      rw [u1]
      omega, by go_grown⟩
      case measure => simp [intOf]; omega
    obtain rfl : k = l.length := by omega
    go_wp2
    go_ret
    refine ⟨_, rfl, ?_, hB⟩
    have u3 := HR.out
    rw [List.take_length] at u3
    rw [HSZ.out]
    unfold szq
    omega
theorem HP (w : World) (ca : List Value) (a : Cr) (left : Int) (ha : rd w ca a) (h0 : 0 ≤ left) (h1 : left ≤ 1048576) : Calls Tryz.prog 9 #[.agg ca.toArray, .int .i64 left] w (Ab w (GoD.size a) left) := by
  obtain ⟨a1, a2, a3⟩ := a
  obtain ⟨ac1, at1, rfl, ar1, ac2, at2, rfl, ar2, ar3⟩ := ha
  obtain ⟨ax1_0, ax1_1, ax1_2, rfl⟩ := Qc6 (show _ = 3 from GoD.rd_len ar1)
  obtain ⟨ax2_0, rfl⟩ := Dg (show _ = 1 from GoD.rd_len ar2)
  obtain ⟨ax3_0, rfl⟩ := Dg (show _ = 1 from GoD.rd_len ar3)
  dsimp only [List.cons_append, List.nil_append] at *
  have AR1H := Lib.hid ar1; clear ar1
  have AR2H := Lib.hid ar2; clear ar2
  have AR3H := Lib.hid ar3; clear ar3
  have tok1 : True := trivial
  have tok2 : True := trivial
  have tok3 : True := trivial
  have hsz : GoD.size (a1, a2, a3) = (GoD.size a1 + (GoD.size a2 + GoD.size a3)) := rfl
  have HSZ := Lib.hid hsz; clear hsz
  go_enter Tryz.func9, Tryz.ntmps9
  go_wp2_with (first | (go_at_call 30; have tk := tok1; clear tok1; refine Z6 (w := w) (VH _ [ax1_0, ax1_1, ax1_2] a1 _ (Y1 AR1H.out (by go_grown)) (by omega) (by omega)) (by go_grown) ?_; intro w1 r1 hB hb hz hz2 hr hs; have HR1 := Lib.hid hr; clear hr; (try simp only [zSz] at hz2); have c0 := fun o => Bx hb (w.heap.size) o (by go_size); clear hb) | (go_at_call 31; have tk := tok2; clear tok2; refine Z6 (w := w) (CC _ ax2_0 a2 _ (Y1 AR2H.out (by go_grown)) (by omega) (by omega)) (by go_grown) ?_; intro w2 r2 hB hb hz hz2 hr hs; have HR2 := Lib.hid hr; clear hr; (try simp only [zSz] at hz2); have c0 := fun o => Bx hb (w.heap.size) o (by go_size); clear hb) | (go_at_call 32; have tk := tok3; clear tok3; refine Z6 (w := w) (HO _ ax3_0 a3 _ (Y1 AR3H.out (by go_grown)) (by omega) (by omega)) (by go_grown) ?_; intro w3 r3 hB hb hz hz2 hr hs; have HR3 := Lib.hid hr; clear hr; (try simp only [zSz] at hz2); have c0 := fun o => Bx hb (w.heap.size) o (by go_size); clear hb))
  all_goals
    go_ret
    refine ⟨_, rfl, ?_, by go_grown⟩
    rw [HSZ.out]
    unfold szq
    (try have u1 := HR1.out)
    (try have u2 := HR2.out)
    (try have u3 := HR3.out)
    (try unfold szq at *)
    go_light
    omega
theorem VJ (w : World) (v : Value) (l : List U7) (left : Int) (ha : rd w [v] l) (h0 : 0 ≤ left) (h1 : left ≤ 1048576) : Calls Tryz.prog 11 #[v, .int .i64 left] w (Ab w (GoD.size l) left) := by
  obtain ⟨oa, cap, e1, hl, hm, hel⟩ := ha
  obtain rfl : v = _ := by simpa using e1
  clear e1
  have HE := Lib.hid hel; clear hel
  unfold maxLen at hm
  have hlm : l.length ≤ 9223372036854775807 := by omega
  have hsz : GoD.size l = l.length + (l.map GoD.size).sum := rfl
  have HSZ := Lib.hid hsz; clear hsz
  by_cases hneg : left - l.length < 0
  · go_enter Tryz.func11, Tryz.ntmps11
    go_wp2
    go_ret
    refine ⟨_, rfl, ?_, Below.refl _ _⟩
    rw [HSZ.out]
    unfold szq
    omega
  go_enter Tryz.func11, Tryz.ntmps11
  go_wp2
  go_loopw [1, 5] (zI l left w) (fun _ i _ => l.length - (intOf i).toNat)
  case atStart => exact ⟨0, _, Nat.zero_le _, rfl, rfl, by omega, by omega, by show _ = _; simp, Below.refl _ _⟩
  case round =>
    obtain ⟨k, r, hk, rfl, rfl, hr0, hr1, HR, hB⟩ := hrel
    by_cases hkl : k < l.length
    · have hx := List.getElem?_eq_getElem hkl
      obtain ⟨eb, eo, ee, rfl, hcl, hcc, hxr⟩ := HE.out k _ hx
      have HT := Lib.hid (Ap hx)
      have HU := Lib.hid (Vi hx)
      clear hx
      generalize l[k] = x at *
      obtain ⟨x0, x1, x2, x3, x4, x5, rfl⟩ := Qfd (show _ = 6 from hcl)
      have p0 : wr.cell? ⟨eb, eo + k * 6, none⟩ = some x0 := cBz hB (hcc 0 _ rfl)
      have p1 : wr.cell? ⟨eb, eo + k * 6 + 1, none⟩ = some x1 := cBz hB (hcc 1 _ rfl)
      have p2 : wr.cell? ⟨eb, eo + k * 6 + 2, none⟩ = some x2 := cBz hB (hcc 2 _ rfl)
      have p3 : wr.cell? ⟨eb, eo + k * 6 + 3, none⟩ = some x3 := cBz hB (hcc 3 _ rfl)
      have p4 : wr.cell? ⟨eb, eo + k * 6 + 4, none⟩ = some x4 := cBz hB (hcc 4 _ rfl)
      have p5 : wr.cell? ⟨eb, eo + k * 6 + 5, none⟩ = some x5 := cBz hB (hcc 5 _ rfl)
      have HXR := Lib.hid hxr; clear hxr hcc hcl
      go_wp2_with (go_at_call 33; refine Z6 (w := w) (HN _ [x0, x1, x2, x3, x4, x5] x _ (Y1 HXR.out hB) (by omega) (by omega)) (by go_grown) ?_; intro w2 r2 hB2 hb hz hz2 hr2 hs; have HR2 := Lib.hid hr2; clear hr2 hb)
      · go_ret
        refine ⟨_, rfl, ?_, by go_grown⟩
        have u1 := HU.out; have u2 := HR2.out; have u3 := HR.out
        rw [HSZ.out]
        unfold szq at *
        go_light
        omega
      go_roundw
      case rel => exact ⟨k + 1, _, by omega, by go_num, rfl, by omega, by omega, by
      show _ = _
      have u1 := HT.out; have u2 := HR2.out; have u3 := HR.out
      unfold szq at *
      rw [u1]
      omega, by go_grown⟩
      case measure => simp [intOf]; omega
    obtain rfl : k = l.length := by omega
    go_wp2
    go_ret
    refine ⟨_, rfl, ?_, hB⟩
    have u3 := HR.out
    rw [List.take_length] at u3
    rw [HSZ.out]
    unfold szq
    omega
theorem DY (w : World) (v : Value) (l : List Eg) (left : Int) (ha : rd w [v] l) (h0 : 0 ≤ left) (h1 : left ≤ 1048576) : Calls Tryz.prog 59 #[v, .int .i64 left] w (Ab w (GoD.size l) left) := by
  obtain ⟨oa, cap, e1, hl, hm, hel⟩ := ha
  obtain rfl : v = _ := by simpa using e1
  clear e1
  have HE := Lib.hid hel; clear hel
  unfold maxLen at hm
  have hlm : l.length ≤ 9223372036854775807 := by omega
  have hsz : GoD.size l = l.length + (l.map GoD.size).sum := rfl
  have HSZ := Lib.hid hsz; clear hsz
  by_cases hneg : left - l.length < 0
  · go_enter Tryz.func59, Tryz.ntmps59
    go_wp2
    go_ret
    refine ⟨_, rfl, ?_, Below.refl _ _⟩
    rw [HSZ.out]
    unfold szq
    omega
  go_enter Tryz.func59, Tryz.ntmps59
  go_wp2
  go_loopw [1, 5] (zI l left w) (fun _ i _ => l.length - (intOf i).toNat)
  case atStart => exact ⟨0, _, Nat.zero_le _, rfl, rfl, by omega, by omega, by show _ = _; simp, Below.refl _ _⟩
  case round =>
    obtain ⟨k, r, hk, rfl, rfl, hr0, hr1, HR, hB⟩ := hrel
    by_cases hkl : k < l.length
    · have hx := List.getElem?_eq_getElem hkl
      obtain ⟨eb, eo, ee, rfl, hcl, hcc, hxr⟩ := HE.out k _ hx
      have HT := Lib.hid (Ap hx)
      have HU := Lib.hid (Vi hx)
      clear hx
      generalize l[k] = x at *
      obtain ⟨x0, x1, x2, rfl⟩ := Qc6 (show _ = 3 from hcl)
      have p0 : wr.cell? ⟨eb, eo + k * 3, none⟩ = some x0 := cBz hB (hcc 0 _ rfl)
      have p1 : wr.cell? ⟨eb, eo + k * 3 + 1, none⟩ = some x1 := cBz hB (hcc 1 _ rfl)
      have p2 : wr.cell? ⟨eb, eo + k * 3 + 2, none⟩ = some x2 := cBz hB (hcc 2 _ rfl)
      have HXR := Lib.hid hxr; clear hxr hcc hcl
      go_wp2_with (go_at_call 92; refine Z6 (w := w) (MM _ [x0, x1, x2] x _ (Y1 HXR.out hB) (by omega) (by omega)) (by go_grown) ?_; intro w2 r2 hB2 hb hz hz2 hr2 hs; have HR2 := Lib.hid hr2; clear hr2 hb)
      · go_ret
        refine ⟨_, rfl, ?_, by go_grown⟩
        have u1 := HU.out; have u2 := HR2.out; have u3 := HR.out
        rw [HSZ.out]
        unfold szq at *
        go_light
        omega
      go_roundw
      case rel => exact ⟨k + 1, _, by omega, by go_num, rfl, by omega, by omega, by
      show _ = _
      have u1 := HT.out; have u2 := HR2.out; have u3 := HR.out
      unfold szq at *
      rw [u1]
      omega, by go_grown⟩
      case measure => simp [intOf]; omega
    obtain rfl : k = l.length := by omega
    go_wp2
    go_ret
    refine ⟨_, rfl, ?_, hB⟩
    have u3 := HR.out
    rw [List.take_length] at u3
    rw [HSZ.out]
    unfold szq
    omega
theorem MN (w : World) (ca : List Value) (a : Eh) (left : Int) (ha : rd w ca a) (h0 : 0 ≤ left) (h1 : left ≤ 1048576) : Calls Tryz.prog 34 #[.agg ca.toArray, .int .i64 left] w (Ab w (GoD.size a) left) := by
  obtain ⟨a1, a2, a3, a4⟩ := a
  obtain ⟨ac1, at1, rfl, ar1, ac2, at2, rfl, ar2, ac3, at3, rfl, ar3, ar4⟩ := ha
  obtain ⟨rfl, ar1⟩ := ar1
  obtain ⟨rfl, ar2⟩ := ar2
  obtain ⟨ax3_0, rfl⟩ := Dg (show _ = 1 from GoD.rd_len ar3)
  obtain ⟨ax4_0, rfl⟩ := Dg (show _ = 1 from GoD.rd_len ar4)
  dsimp only [List.cons_append, List.nil_append] at *
  clear ar1
  unfold maxLen at ar2
  have ar2 : a2.size ≤ 9223372036854775807 := by omega
  have AR3H := Lib.hid ar3; clear ar3
  have AR4H := Lib.hid ar4; clear ar4
  have tok1 : True := trivial
  have tok2 : True := trivial
  have hsz : GoD.size (a1, a2, a3, a4) = (0 + (a2.size + (GoD.size a3 + GoD.size a4))) := rfl
  have HSZ := Lib.hid hsz; clear hsz
  go_enter Tryz.func34, Tryz.ntmps34
  go_wp2_with (first | (go_at_call 13; have tk := tok1; clear tok1; refine Z6 (w := w) (Mg _ ax3_0 a3 _ (Y1 AR3H.out (by go_grown)) (by omega) (by omega)) (by go_grown) ?_; intro w1 r1 hB hb hz hz2 hr hs; have HR1 := Lib.hid hr; clear hr; (try simp only [zSz] at hz2); have c0 := fun o => Bx hb (w.heap.size) o (by go_size); clear hb) | (go_at_call 59; have tk := tok2; clear tok2; refine Z6 (w := w) (DY _ ax4_0 a4 _ (Y1 AR4H.out (by go_grown)) (by omega) (by omega)) (by go_grown) ?_; intro w2 r2 hB hb hz hz2 hr hs; have HR2 := Lib.hid hr; clear hr; (try simp only [zSz] at hz2); have c0 := fun o => Bx hb (w.heap.size) o (by go_size); clear hb))
  all_goals
    go_ret
    refine ⟨_, rfl, ?_, by go_grown⟩
    rw [HSZ.out]
    unfold szq
    (try have u1 := HR1.out)
    (try have u2 := HR2.out)
    (try unfold szq at *)
    go_light
    omega
theorem DZ (w : World) (v : Value) (l : List Eh) (left : Int) (ha : rd w [v] l) (h0 : 0 ≤ left) (h1 : left ≤ 1048576) : Calls Tryz.prog 12 #[v, .int .i64 left] w (Ab w (GoD.size l) left) := by
  obtain ⟨oa, cap, e1, hl, hm, hel⟩ := ha
  obtain rfl : v = _ := by simpa using e1
  clear e1
  have HE := Lib.hid hel; clear hel
  unfold maxLen at hm
  have hlm : l.length ≤ 9223372036854775807 := by omega
  have hsz : GoD.size l = l.length + (l.map GoD.size).sum := rfl
  have HSZ := Lib.hid hsz; clear hsz
  by_cases hneg : left - l.length < 0
  · go_enter Tryz.func12, Tryz.ntmps12
    go_wp2
    go_ret
    refine ⟨_, rfl, ?_, Below.refl _ _⟩
    rw [HSZ.out]
    unfold szq
    omega
  go_enter Tryz.func12, Tryz.ntmps12
  go_wp2
  go_loopw [1, 5] (zI l left w) (fun _ i _ => l.length - (intOf i).toNat)
  case atStart => exact ⟨0, _, Nat.zero_le _, rfl, rfl, by omega, by omega, by show _ = _; simp, Below.refl _ _⟩
  case round =>
    obtain ⟨k, r, hk, rfl, rfl, hr0, hr1, HR, hB⟩ := hrel
    by_cases hkl : k < l.length
    · have hx := List.getElem?_eq_getElem hkl
      obtain ⟨eb, eo, ee, rfl, hcl, hcc, hxr⟩ := HE.out k _ hx
      have HT := Lib.hid (Ap hx)
      have HU := Lib.hid (Vi hx)
      clear hx
      generalize l[k] = x at *
      obtain ⟨x0, x1, x2, x3, rfl⟩ := Qel (show _ = 4 from hcl)
      have p0 : wr.cell? ⟨eb, eo + k * 4, none⟩ = some x0 := cBz hB (hcc 0 _ rfl)
      have p1 : wr.cell? ⟨eb, eo + k * 4 + 1, none⟩ = some x1 := cBz hB (hcc 1 _ rfl)
      have p2 : wr.cell? ⟨eb, eo + k * 4 + 2, none⟩ = some x2 := cBz hB (hcc 2 _ rfl)
      have p3 : wr.cell? ⟨eb, eo + k * 4 + 3, none⟩ = some x3 := cBz hB (hcc 3 _ rfl)
      have HXR := Lib.hid hxr; clear hxr hcc hcl
      go_wp2_with (go_at_call 34; refine Z6 (w := w) (MN _ [x0, x1, x2, x3] x _ (Y1 HXR.out hB) (by omega) (by omega)) (by go_grown) ?_; intro w2 r2 hB2 hb hz hz2 hr2 hs; have HR2 := Lib.hid hr2; clear hr2 hb)
      · go_ret
        refine ⟨_, rfl, ?_, by go_grown⟩
        have u1 := HU.out; have u2 := HR2.out; have u3 := HR.out
        rw [HSZ.out]
        unfold szq at *
        go_light
        omega
      go_roundw
      case rel => exact ⟨k + 1, _, by omega, by go_num, rfl, by omega, by omega, by
      show _ = _
      have u1 := HT.out; have u2 := HR2.out; have u3 := HR.out
      unfold szq at *
      rw [u1]
      omega, by go_grown⟩
      case measure => simp [intOf]; omega
    obtain rfl : k = l.length := by omega
    go_wp2
    go_ret
    refine ⟨_, rfl, ?_, hB⟩
    have u3 := HR.out
    rw [List.take_length] at u3
    rw [HSZ.out]
    unfold szq
    omega
theorem QP (w : World) (ca : List Value) (a : Jy) (left : Int) (ha : rd w ca a) (h0 : 0 ≤ left) (h1 : left ≤ 1048576) : Calls Tryz.prog 4 #[.agg ca.toArray, .int .i64 left] w (Ab w (GoD.size a) left) := by
  obtain ⟨a1, a2, a3, a4, a5, a6⟩ := a
  obtain ⟨ac1, at1, rfl, ar1, ac2, at2, rfl, ar2, ac3, at3, rfl, ar3, ac4, at4, rfl, ar4, ac5, at5, rfl, ar5, ar6⟩ := ha
  obtain ⟨ax1_0, ax1_1, ax1_2, ax1_3, ax1_4, rfl⟩ := Qe3 (show _ = 5 from GoD.rd_len ar1)
  obtain ⟨ax2_0, ax2_1, rfl⟩ := T3 (show _ = 2 from GoD.rd_len ar2)
  obtain ⟨rfl, ar3⟩ := ar3
  obtain ⟨ax4_0, rfl⟩ := Dg (show _ = 1 from GoD.rd_len ar4)
  obtain ⟨ax5_0, rfl⟩ := Dg (show _ = 1 from GoD.rd_len ar5)
  obtain ⟨ax6_0, rfl⟩ := Dg (show _ = 1 from GoD.rd_len ar6)
  dsimp only [List.cons_append, List.nil_append] at *
  have AR1H := Lib.hid ar1; clear ar1
  have AR2H := Lib.hid ar2; clear ar2
  clear ar3
  have AR4H := Lib.hid ar4; clear ar4
  have AR5H := Lib.hid ar5; clear ar5
  have AR6H := Lib.hid ar6; clear ar6
  have tok1 : True := trivial
  have tok2 : True := trivial
  have tok3 : True := trivial
  have tok4 : True := trivial
  have tok5 : True := trivial
  have hsz : GoD.size (a1, a2, a3, a4, a5, a6) = (GoD.size a1 + (GoD.size a2 + (0 + (GoD.size a4 + (GoD.size a5 + GoD.size a6))))) := rfl
  have HSZ := Lib.hid hsz; clear hsz
  go_enter Tryz.func4, Tryz.ntmps4
  go_wp2_with (first | (go_at_call 9; have tk := tok1; clear tok1; refine Z6 (w := w) (HP _ [ax1_0, ax1_1, ax1_2, ax1_3, ax1_4] a1 _ (Y1 AR1H.out (by go_grown)) (by omega) (by omega)) (by go_grown) ?_; intro w1 r1 hB hb hz hz2 hr hs; have HR1 := Lib.hid hr; clear hr; (try simp only [zSz] at hz2); have c0 := fun o => Bx hb (w.heap.size) o (by go_size); clear hb) | (go_at_call 10; have tk := tok2; clear tok2; refine Z6 (w := w) (RN _ [ax2_0, ax2_1] a2 _ (Y1 AR2H.out (by go_grown)) (by omega) (by omega)) (by go_grown) ?_; intro w2 r2 hB hb hz hz2 hr hs; have HR2 := Lib.hid hr; clear hr; (try simp only [zSz] at hz2); have c0 := fun o => Bx hb (w.heap.size) o (by go_size); clear hb) | (go_at_call 11; have tk := tok3; clear tok3; refine Z6 (w := w) (VJ _ ax4_0 a4 _ (Y1 AR4H.out (by go_grown)) (by omega) (by omega)) (by go_grown) ?_; intro w3 r3 hB hb hz hz2 hr hs; have HR3 := Lib.hid hr; clear hr; (try simp only [zSz] at hz2); have c0 := fun o => Bx hb (w.heap.size) o (by go_size); clear hb) | (go_at_call 12; have tk := tok4; clear tok4; refine Z6 (w := w) (DZ _ ax5_0 a5 _ (Y1 AR5H.out (by go_grown)) (by omega) (by omega)) (by go_grown) ?_; intro w4 r4 hB hb hz hz2 hr hs; have HR4 := Lib.hid hr; clear hr; (try simp only [zSz] at hz2); have c0 := fun o => Bx hb (w.heap.size) o (by go_size); clear hb) | (go_at_call 13; have tk := tok5; clear tok5; refine Z6 (w := w) (Mg _ ax6_0 a6 _ (Y1 AR6H.out (by go_grown)) (by omega) (by omega)) (by go_grown) ?_; intro w5 r5 hB hb hz hz2 hr hs; have HR5 := Lib.hid hr; clear hr; (try simp only [zSz] at hz2); have c0 := fun o => Bx hb (w.heap.size) o (by go_size); clear hb))
  all_goals
    go_ret
    refine ⟨_, rfl, ?_, by go_grown⟩
    rw [HSZ.out]
    unfold szq
    (try have u1 := HR1.out)
    (try have u2 := HR2.out)
    (try have u3 := HR3.out)
    (try have u4 := HR4.out)
    (try have u5 := HR5.out)
    (try unfold szq at *)
    go_light
    omega
end
section
open Go.RowKit
open GoE (enc)
section
variable {α : Type} [GoE α] {P : Program} {tt : List (Nat × TI)} {f g t6 : Nat} {fn : Func} {i0 i1 i2 i3 i4 i5 i6 i7 i8 B B1 : Nat} {O0 O1 O2 O3 O4 O5 O6 O7 O8 : Array Oper}
theorem eqS (htt : Aq P tt = true) (hm : P.follows .mixedOrders = true) (hf : P.funcs[f]? = some fn) (b8 : Bool) (o : α → Ob) (ho : ∀ (w0 : Base) [GoodAt P w0] (a : α), (o a).holds (X9 P w0) (Z8 P w0)) (l : List α)
    (hb : fn.body = some (.seq (.region i0 O0 false) (.seq (.seq (.region i1 O1 false) (.cond (.tmp 10) (.seq (.region i2 O2 false) .ret) .skip)) (.seq (.seq (.region i3 O3 false) (.block B (.loop (.seq (.seq (.region i4 O4 false) (.cond (.tmp 14) .skip (.exit B))) (.seq (.block B1 (.seq (.region i6 O6 true) (.cond (.tmp t6) (.seq (.region i7 O7 false) .ret) .skip))) (.region i5 O5 false)))))) (.seq (.region i8 O8 false) .ret)))) := by exact rfl)
    (hok : Bu P f := by unfold Bu; kernel_rfl) (hn : 2 ≤ fn.ntmps := by exact Nat.le_of_ble_eq_true rfl)
    (h0 : Js tt fn.ntmps [] O0.toList [0, 1, 4] [] (Ss [.h l, .h l]) = some (⟨[(0, .h l), (1, .h l), (4, .b false)], []⟩, []) := by kernel_rfl)
    (h1 : Js tt fn.ntmps [(1, .val (.i (l.length : Int))), (3, .val (.i (l.length : Int))), (4, .val (.b false))] O1.toList [0, 1, 4, 10] [] ⟨[(0, .h l), (1, .h l), (4, .b false)], []⟩ = some (⟨[(0, .h l), (1, .h l), (4, .b false), (10, .b false)], []⟩, [.eq (.i ((eL l).length : Int)) (.i (l.length : Int)), .eq (.i ((eL l).length : Int)) (.i (l.length : Int)), .eq (.b ((l.length : Int) != (l.length : Int))) (.b false)]) := by kernel_rfl)
    (h3 : Js tt fn.ntmps [] O3.toList [5, 0, 1, 4] [] ⟨[(0, .h l), (1, .h l), (4, .b false), (10, .b false)], []⟩ = some (⟨[(5, .i 0), (0, .h l), (1, .h l), (4, .b false)], []⟩, []) := by kernel_rfl)
    (h4 : ∀ (k : Nat) (b : Bool), Js tt fn.ntmps [(2, .val (.i (l.length : Int))), (3, .val (.b b))] O4.toList [5, 0, 1, 4, 14] [] ⟨[(5, .i (k : Int)), (0, .h l), (1, .h l), (4, .b false)], []⟩ = some (⟨[(5, .i (k : Int)), (0, .h l), (1, .h l), (4, .b false), (14, .b b)], []⟩, [.eq (.i ((eL l).length : Int)) (.i (l.length : Int)), .eq (.b (decide ((k : Int) < (l.length : Int)))) (.b b)]) := by intro k b; kernel_rfl)
    (h6 : ∀ (k : Nat) (a : α), Hr tt fn.ntmps [(2, .row (enc a)), (6, .row (enc a)), (8, .val (.b b8))] O6.toList [5, 0, 1, 4, t6] [] ⟨[(5, .i (k : Int)), (0, .h l), (1, .h l), (4, .b false), (14, .b true)], []⟩ = some (⟨[(5, .i (k : Int)), (0, .h l), (1, .h l), (4, .b false), (t6, .b false)], []⟩, [.elem (eL l) (k : Int) (enc a), .elem (eL l) (k : Int) (enc a), o a]) := by intro k a; kernel_rfl)
    (h7 : ∀ k : Nat, get [(5, AV.i (k : Int)), (0, .h l), (1, .h l), (4, .b false), (t6, .b false)] t6 = some (.b false) := by intro k; kernel_rfl)
    (h5 : ∀ k : Nat, Js tt fn.ntmps [(1, .val (.i ((k + 1 : Nat) : Int)))] O5.toList [5, 0, 1, 4] [] ⟨[(5, .i (k : Int)), (0, .h l), (1, .h l), (4, .b false), (t6, .b false)], []⟩ = some (⟨[(5, .i ((k + 1 : Nat) : Int)), (0, .h l), (1, .h l), (4, .b false)], []⟩, [.eq (.i (IntKind.i64.wrap ((k : Int) + 1))) (.i ((k + 1 : Nat) : Int))]) := by intro k; kernel_rfl)
    (h8 : Js tt fn.ntmps [] O8.toList [4] [] ⟨[(4, .b false)], []⟩ = some (⟨[(4, .b true)], []⟩, []) := by kernel_rfl)
    (hr : Dw tt fn.results.toList ⟨[(4, .b true)], []⟩ = some (.b true) := by kernel_rfl) : ACalls P f [.h l, .h l] (.b true) := by
  refine I3 htt hf hb hok hn fun w0 F0 hG => ?_
  refine Qc (Y4 htt [] _ _ h0 p0 ?_)
  refine Qc (Qc (Y4 htt _ _ _ h1 (pl 1 l (pl 3 l (pf 4 (by simp) p0))) ?_))
  refine ckF (Qf ?_)
  refine Qc (Qc (Y4 htt [] _ _ h3 p0 ?_))
  refine wT 0 0 .sh l (fun hw hl => ?_) rfl
  refine Su (R := Bool) (τ := Unit) (fun _ _ (_ : Unit) => .next ()) (fun _ _ => ()) l () (fun k _ => [(5, .i (k : Int))]) [5] (fun _ => []) [0, 1, 5] (Qd rfl) (fun k s hk hI => ?_) (fun k s hk hI => ?_) (fun y _ => ?_)
  · obtain ⟨a, hx⟩ := Yi (l := l) (i := k) hk
    refine Qc (Qc (Y4 htt _ _ _ (h4 k true) (pl 2 l (pt 3 (decide_eq_true (p := (k : Int) < (l.length : Int)) (by omega)) p0)) ?_))
    refine ckT (Qf ?_)
    refine Qc (Qy (Qc (Ot htt hm _ _ _ (h6 k a) (pn 2 hx (pn 6 hx (po 8 (.val (.b b8)) (px (ho w0 a) p0)))) ?_)))
    refine Lb (h7 k) (Qf ?_)
    refine Y4 htt _ _ _ (h5 k) (pe 1 (Jr (Q1 k (by omega))) p0) ?_
    exact ⟨(), Qd rfl, Xl hx rfl hI⟩
  · refine Qc (Qc (Y4 htt _ _ _ (h4 k false) (pl 2 l (pf 3 (decide_eq_false (p := (k : Int) < (l.length : Int)) (by omega)) p0)) ?_))
    refine ckF (Xs ?_)
    show (bif Nat.beq B B then _ else _ : Prop)
    rw [Nat.beq_refl]
    exact ⟨(), Qd rfl, Yn hk rfl hI⟩
  refine Qc (Y4 htt [] _ _ h8 p0 (Qe ?_))
  exact Bk [] hr rfl
def eqZ (a : α) : St := ⟨[(2, .p 2 0), (3, .p 3 0), (4, .b false)], [(2, (enc a).map shC), (3, (enc a).map shC)]⟩
variable {N : Nat} {w0 : Base} {F0 : Nat → Prop} {c y : Code} {rs : List ResultVar} {t : Nat}
theorem eqA (htt : Aq P tt = true) (hf : P.funcs[f]? = some fn) (a : α) (k : ∀ (w0 : Base) (F0 : Nat → Prop) (_ : GoodAt P w0), AWP P fn.ntmps w0 F0 c (EO tt fn.results.toList (.b true)) (eqZ a))
    (hb : fn.body = some (.seq (.region i0 O0 false) c) := by exact rfl) (hok : Bu P f := by unfold Bu; kernel_rfl) (hn : 2 ≤ fn.ntmps := by exact Nat.le_of_ble_eq_true rfl)
    (h0 : Js tt fn.ntmps [] O0.toList [2, 3, 4] [2, 3] (Ss [Vs a, Vs a]) = some (eqZ a, []) := by kernel_rfl) : ACalls P f [Vs a, Vs a] (.b true) :=
  I3 htt hf hb hok hn fun w0 F0 hG => Qc (Y4 htt [] _ _ h0 p0 (k w0 F0 hG))
def eqY (a : α) (t : Nat) (b : Bool) : St := ⟨[(2, .p 2 0), (3, .p 3 0), (4, .b false), (t, .b b)], [(2, (enc a).map shC), (3, (enc a).map shC)]⟩
theorem eqF (htt : Aq P tt = true) {a : α} {b : Bool} {Q : Exit → St → Prop} (k : AWP P N w0 F0 y Q (eqZ a)) (hc : b = false := by simp)
    (h : Js tt N [(O1.size - 1, .val (.b false))] O1.toList [2, 3, 4, t] [2, 3] (eqZ a) = some (eqY a t false, [.eq (.b b) (.b false)]) := by kernel_rfl) (hg : get (eqY a t false).tm t = some (.b false) := by kernel_rfl) (hk : (eqY a t false).keep [2, 3, 4] [2, 3] = eqZ a := by kernel_rfl) : AWP P N w0 F0 (.seq (.seq (.region i1 O1 false) (.cond (.tmp t) (.seq (.region i2 O2 false) .ret) .skip)) y) Q (eqZ a) :=
  Qc (Qc (Y4 htt _ _ _ h (pf (O1.size - 1) hc p0) (Lb hg (Qf (Au (Ra _ _ hk) k)))))
theorem eqG (htt : Aq P tt = true) {a : α} {v : AV} {Q : Exit → St → Prop} [GoodAt P w0] (hv : ACalls P g [v, v] (.b true)) (k : AWP P N w0 F0 y Q (eqZ a))
    (h : Js tt N [(O1.size - 2, .val (.b true))] O1.toList [2, 3, 4, t] [2, 3] (eqZ a) = some (eqY a t false, [.call g [v, v] (.b true)]) := by kernel_rfl) (hg : get (eqY a t false).tm t = some (.b false) := by kernel_rfl) (hk : (eqY a t false).keep [2, 3, 4] [2, 3] = eqZ a := by kernel_rfl) : AWP P N w0 F0 (.seq (.seq (.region i1 O1 false) (.cond (.tmp t) (.seq (.region i2 O2 false) .ret) .skip)) y) Q (eqZ a) :=
  Qc (Qc (Y4 htt _ _ _ h (pc (O1.size - 2) hv p0) (Lb hg (Qf (Au (Ra _ _ hk) k)))))
theorem eqE (htt : Aq P tt = true) {a : α} (h : Js tt N [] O1.toList [4] [] (eqZ a) = some (⟨[(4, .b true)], []⟩, []) := by kernel_rfl) (hr : Dw tt rs ⟨[(4, .b true)], []⟩ = some (.b true) := by kernel_rfl) : AWP P N w0 F0 (.seq (.region i1 O1 false) .ret) (EO tt rs (.b true)) (eqZ a) :=
  Qc (Y4 htt [] _ _ h p0 (Qe (Bk [] hr rfl)))
theorem eqI (htt : Aq P tt = true) {a : α} (x : Int) {Q : Exit → St → Prop} (k : AWP P N w0 F0 y Q (eqZ a))
    (h : Js tt N [(O1.size - 1, .val (.b false))] O1.toList [2, 3, 4, t] [2, 3] (eqZ a) = some (eqY a t false, [.eq (.b (x != x)) (.b false)]) := by kernel_rfl) (hg : get (eqY a t false).tm t = some (.b false) := by kernel_rfl) (hk : (eqY a t false).keep [2, 3, 4] [2, 3] = eqZ a := by kernel_rfl) : AWP P N w0 F0 (.seq (.seq (.region i1 O1 false) (.cond (.tmp t) (.seq (.region i2 O2 false) .ret) .skip)) y) Q (eqZ a) := eqF htt k (by simp) h hg hk
theorem eqB (htt : Aq P tt = true) {a : α} (x : Bool) {Q : Exit → St → Prop} (k : AWP P N w0 F0 y Q (eqZ a))
    (h : Js tt N [(O1.size - 1, .val (.b false))] O1.toList [2, 3, 4, t] [2, 3] (eqZ a) = some (eqY a t false, [.eq (.b (!(x == x))) (.b false)]) := by kernel_rfl) (hg : get (eqY a t false).tm t = some (.b false) := by kernel_rfl) (hk : (eqY a t false).keep [2, 3, 4] [2, 3] = eqZ a := by kernel_rfl) : AWP P N w0 F0 (.seq (.seq (.region i1 O1 false) (.cond (.tmp t) (.seq (.region i2 O2 false) .ret) .skip)) y) Q (eqZ a) := eqF htt k (by simp) h hg hk
theorem eqT (htt : Aq P tt = true) {a : α} (x : ByteArray) {Q : Exit → St → Prop} (k : AWP P N w0 F0 y Q (eqZ a))
    (h : Js tt N [(O1.size - 1, .val (.b false))] O1.toList [2, 3, 4, t] [2, 3] (eqZ a) = some (eqY a t false, [.eq (.b (!(x.toList == x.toList))) (.b false)]) := by kernel_rfl) (hg : get (eqY a t false).tm t = some (.b false) := by kernel_rfl) (hk : (eqY a t false).keep [2, 3, 4] [2, 3] = eqZ a := by kernel_rfl) : AWP P N w0 F0 (.seq (.seq (.region i1 O1 false) (.cond (.tmp t) (.seq (.region i2 O2 false) .ret) .skip)) y) Q (eqZ a) := eqF htt k (by simp) h hg hk
/-! ### sizes -/
/-! ### copies -/
def toM {β : Type} (l : List β) (d : β) (k : Nat) : List β := l.take k ++ List.replicate (l.length - k) d
theorem TL {β : Type} (l : List β) (d : β) {k : Nat} (h : k < l.length) : (toM l d k)[k]? = some d := by
  unfold toM
  rw [List.getElem?_append_right (by simp; omega), List.getElem?_replicate]
  simp
  omega
theorem Qb4 {β : Type} {l : List β} (d : β) {k : Nat} {a : β} (h : l[k]? = some a) : (toM l d k).set k a = toM l d (k + 1) := by
  have hk : k < l.length := (List.getElem?_eq_some_iff.1 h).1
  obtain ⟨m, hm⟩ : ∃ m, l.length - k = m + 1 := ⟨l.length - k - 1, by omega⟩
  unfold toM
  rw [hm, show l.length - (k + 1) = m by omega, List.replicate_succ, List.set_append_right _ _ (by simp; omega), List.take_add_one, h]
  simp [Nat.min_eq_left (Nat.le_of_lt hk)]
theorem toS (d : α) (htt : Aq P tt = true) (hf : P.funcs[f]? = some fn) (j : Nat) (mid : α → List (Nat × Orc)) (mo : α → List Ob) (hg : ∀ (w0 : Base) [GoodAt P w0] (a : α) (orcs : List (Nat × Orc)) (obs : List Ob), PL (X9 P w0) (Z8 P w0) orcs obs → PL (X9 P w0) (Z8 P w0) (mid a ++ orcs) (mo a ++ obs)) (l : List α)
    (hb : fn.body = some (.seq (.region i0 O0 false) (.seq (.region i1 O1 false) (.seq (.seq (.region i2 O2 false) (.block B (.loop (.seq (.seq (.region i3 O3 false) (.cond (.tmp 11) .skip (.exit B))) (.seq (.block B1 (.region i5 O5 false)) (.region i4 O4 false)))))) (.seq (.region i6 O6 false) .ret)))) := by exact rfl)
    (hok : Bu P f := by unfold Bu; kernel_rfl) (hn : 1 ≤ fn.ntmps := by exact Nat.le_of_ble_eq_true rfl)
    (h0 : Js tt fn.ntmps [] O0.toList [0] [] (Ss [.h l]) = some (⟨[(0, .h l)], []⟩, []) := by kernel_rfl)
    (h1 : Js tt fn.ntmps [(1, .val (.i (l.length : Int)))] O1.toList [3, 0] [] ⟨[(0, .h l)], []⟩ = some (⟨[(3, .one (.slc (.own true 448) (GoD.n α) (List.replicate l.length (enc d)))), (0, .h l)], []⟩, [.eq (.i ((eL l).length : Int)) (.i (l.length : Int)), .rng 0 (l.length : Int) 1073741824]) := by kernel_rfl)
    (h2 : ∀ m : List α, Js tt fn.ntmps [] O2.toList [4, 3, 0] [] ⟨[(3, .one (.slc (.own true 448) (GoD.n α) (eL m))), (0, .h l)], []⟩ = some (⟨[(4, .i 0), (3, .one (.slc (.own true 448) (GoD.n α) (eL m))), (0, .h l)], []⟩, []) := by intro m; kernel_rfl)
    (h3 : ∀ (k : Nat) (m : List α) (b : Bool), Js tt fn.ntmps [(2, .val (.i (l.length : Int))), (3, .val (.b b))] O3.toList [4, 3, 0, 11] [] ⟨[(4, .i (k : Int)), (3, .one (.slc (.own true 448) (GoD.n α) (eL m))), (0, .h l)], []⟩ = some (⟨[(4, .i (k : Int)), (3, .one (.slc (.own true 448) (GoD.n α) (eL m))), (0, .h l), (11, .b b)], []⟩, [.eq (.i ((eL l).length : Int)) (.i (l.length : Int)), .eq (.b (decide ((k : Int) < (l.length : Int)))) (.b b)]) := by intro k m b; kernel_rfl)
    (h5 : ∀ (k : Nat) (m : List α) (a x : α), Js tt fn.ntmps ((4, .row (enc a)) :: (mid a ++ [(j, .rowE (enc x))])) O5.toList [4, 3, 0] [] ⟨[(4, .i (k : Int)), (3, .one (.slc (.own true 448) (GoD.n α) (eL m))), (0, .h l), (11, .b true)], []⟩ = some (⟨[(4, .i (k : Int)), (3, .one (.slc (.own true 448) (GoD.n α) (setRow (eL m) k 0 (enc a)))), (0, .h l)], []⟩, (.elem (eL l) (k : Int) (enc a) :: (mo a ++ [.elem (eL m) (k : Int) (enc x)]))) := by intro k m a x; kernel_rfl)
    (h4 : ∀ (k : Nat) (m : List α), Js tt fn.ntmps [(1, .val (.i ((k + 1 : Nat) : Int)))] O4.toList [4, 3, 0] [] ⟨[(4, .i (k : Int)), (3, .one (.slc (.own true 448) (GoD.n α) (eL m))), (0, .h l)], []⟩ = some (⟨[(4, .i ((k + 1 : Nat) : Int)), (3, .one (.slc (.own true 448) (GoD.n α) (eL m))), (0, .h l)], []⟩, [.eq (.i (IntKind.i64.wrap ((k : Int) + 1))) (.i ((k + 1 : Nat) : Int))]) := by intro k m; kernel_rfl)
    (h6 : ∀ m : List α, Js tt fn.ntmps [] O6.toList [2] [] ⟨[(3, .one (.slc (.own true 448) (GoD.n α) (eL m)))], []⟩ = some (⟨[(2, .one (.slc (.own true 448) (GoD.n α) (eL m)))], []⟩, []) := by intro m; kernel_rfl)
    (hr : ∀ m : List α, Dw tt fn.results.toList ⟨[(2, .one (.slc (.own true 448) (GoD.n α) (eL m)))], []⟩ = some (JA m) := by intro m; kernel_rfl)
    (hlen : ∀ a b : α, (enc a).length = (enc b).length := by intro a b; rfl) : ACalls P f [.h l] (JA l) := by
  refine I3 htt hf hb hok hn fun w0 F0 hG => ?_
  refine Qc (Y4 htt [] _ _ h0 p0 ?_)
  refine wT 0 0 .sh l (fun hw hl => ?_) rfl
  refine Qc (Y4 htt _ _ _ h1 (pl 1 l (px (show (0 : Int) ≤ 0 ∧ (0 : Int) ≤ (l.length : Int) ∧ (l.length : Int) ≤ ((1073741824 : Nat) : Int) by omega) p0)) ?_)
  have e0 : List.replicate l.length (enc d) = eL (toM l d 0) := by simp [toM, eL]
  rw [e0]
  refine Qc (Qc (Y4 htt [] _ _ (h2 _) p0 ?_))
  refine K0 (σ := Unit) (τ := Unit) (fun k _ => ⟨[(4, .i (k : Int)), (3, .one (.slc (.own true 448) (GoD.n α) (eL (toM l d k)))), (0, .h l)], []⟩) (fun _ => ⟨[(3, .one (.slc (.own true 448) (GoD.n α) (eL l)))], []⟩) (fun _ _ => True) (fun _ => True) l.length () (GS rfl) trivial (fun k _ hk _ => ?_) (fun k _ hk _ => ?_) (fun _ _ => ?_)
  · obtain ⟨a, hx⟩ := Yi (l := l) (i := k) hk
    refine Qc (Qc (Y4 htt _ _ _ (h3 k _ true) (pl 2 l (pt 3 (decide_eq_true (p := (k : Int) < (l.length : Int)) (by omega)) p0)) ?_))
    refine ckT (Qf ?_)
    refine Qc (Qy (Y4 htt _ _ _ (h5 k _ a d) (pn 4 hx (hg w0 a _ _ (pN j (TL l d hk) p0))) ?_))
    rw [Jx (y := a) (TL l d hk) (by rw [Nat.zero_add, List.take_zero, List.nil_append, List.drop_eq_nil_of_le (Nat.le_of_eq (hlen d a)), List.append_nil]), Qb4 d hx]
    exact Y4 htt _ _ _ (h4 k _) (pe 1 (Jr (Q1 k (by omega))) p0) ⟨(), GS rfl, trivial⟩
  · subst hk
    refine Qc (Qc (Y4 htt _ _ _ (h3 _ _ false) (pl 2 l (pf 3 (decide_eq_false (p := (l.length : Int) < (l.length : Int)) (by omega)) p0)) ?_))
    refine ckF (Xs ?_)
    show (bif Nat.beq B B then _ else _ : Prop)
    rw [Nat.beq_refl]
    refine ⟨(), ?_, trivial⟩
    rw [show toM l d l.length = l by simp [toM]]
    exact Qd rfl
  exact Qc (Y4 htt [] _ _ (h6 _) p0 (Qe (Bk [] (hr _) rfl)))
end
open GoE (enc wide)
theorem EA (a : Jy) (left : Int) (h0 : 0 ≤ left) (h1 : left ≤ 1048576) : ACalls Tryz.prog 4 [Vs a, Qd4 left] (Qd4 (szI (GoD.size a) left)) := DV (by unfold Bu; kernel_rfl) h0 h1 fun w c hr => QP w c a left hr h0 h1
def Ir (a_ : X6) : X6 := a_
theorem YW (a_ : X6) : ACalls Tryz.prog 105 [.a [.s a_.1, .i a_.2]] (.a [.s ((Ir a_).1), .i ((Ir a_).2)]) := by
 refine en Qa Tryz.func105 fun w0 F0 hG => ?_
 refine sn Qa [1, 2] [1, 2] (p0) ?_
 refine tn Qa [1, 2, 3] [1, 2, 3] (p0) ?_
 refine tu Qa [(1, .p 1 0), (2, .p 2 0), (3, .p 3 0)] [0] [(1, [.s a_.1, .i a_.2]), (2, [.s ⟨#[]⟩, .i 0]), (3, [.s a_.1, .i 0])] [] (p0) ?_
 refine sn Qa [2, 3] [2, 3] (p0) ?_
 refine tn Qa [2] [2] (p0) ?_
 refine Qe ?_
 exact pz [] (show Ir a_ = a_ from rfl) (fun z => .a [.s z.1, .i z.2])
theorem MO (a : X6) : ACalls Tryz.prog 105 [Vs a] (Fw a) := YW a
theorem EB (l : (List X6)) : ACalls Tryz.prog 68 [.h l] (JA l) := toS default Qa Tryz.func68 7 (fun a => [(6, .val (Fw a))]) (fun a => [.call 105 [Vs a] (Fw a)]) (fun _ _ a _ _ => pc 6 (MO a)) l
def Ec (a_ : Jf) : Jf := a_
theorem YX (a_ : Jf) : ACalls Tryz.prog 175 [.a [.i a_.1, .i a_.2.1, .s a_.2.2]] (.a [.i ((Ec a_).1), .i ((Ec a_).2.1), .s ((Ec a_).2.2)]) := by
 refine en Qa Tryz.func175 fun w0 F0 hG => ?_
 refine sn Qa [1, 2] [1, 2] (p0) ?_
 refine tn Qa [1, 2, 3] [1, 2, 3] (p0) ?_
 refine tu Qa [(1, .p 1 0), (2, .p 2 0), (3, .p 3 0)] [0] [(1, [.i a_.1, .i a_.2.1, .s a_.2.2]), (2, [.i 0, .i 0, .s ⟨#[]⟩]), (3, [.i a_.1, .i 0, .s ⟨#[]⟩])] [] (p0) ?_
 refine sn Qa [1, 2, 3] [1, 2, 3] (p0) ?_
 refine tn Qa [2, 3] [2, 3] (p0) ?_
 refine tu Qa [] [1, 3] [(2, [.i a_.1, .i a_.2.1, .s a_.2.2])] [1, 2, 3] (p0) ?_
 refine Qe ?_
 exact pz [] (show Ec a_ = a_ from rfl) (fun z => .a [.i z.1, .i z.2.1, .s z.2.2])
theorem VK (a : Jf) : ACalls Tryz.prog 175 [Vs a] (Fw a) := YX a
def Dp (a_ : Kz) : Kz := a_
theorem VL (a_ : Kz) : ACalls Tryz.prog 174 [.a [.s a_.1, .i a_.2.1, .i a_.2.2.1, .s a_.2.2.2]] (.a [.s ((Dp a_).1), .i ((Dp a_).2.1), .i ((Dp a_).2.2.1), .s ((Dp a_).2.2.2)]) := by
 refine en Qa Tryz.func174 fun w0 F0 hG => ?_
 refine sn Qa [1, 2] [1, 2] (p0) ?_
 refine tn Qa [1, 2, 3] [1, 2, 3] (p0) ?_
 refine tu Qa [(1, .p 1 0), (2, .p 2 0), (3, .p 3 0)] [0] [(1, [.s a_.1, .i a_.2.1, .i a_.2.2.1, .s a_.2.2.2]), (2, [.s ⟨#[]⟩, .i 0, .i 0, .s ⟨#[]⟩]), (3, [.s a_.1, .i 0, .i 0, .s ⟨#[]⟩])] [] (p0) ?_
 refine sn Qa [2, 3] [2, 3] (pc 2 (VK a_.2) p0) ?_
 refine tn Qa [2] [2] (p0) ?_
 refine Qe ?_
 exact pz [] (show Dp a_ = a_ from rfl) (fun z => .a [.s z.1, .i z.2.1, .i z.2.2.1, .s z.2.2.2])
theorem RO (a : Kz) : ACalls Tryz.prog 174 [Vs a] (Fw a) := VL a
theorem MP (l : (List Kz)) : ACalls Tryz.prog 140 [.h l] (JA l) := toS default Qa Tryz.func140 7 (fun a => [(6, .val (Fw a))]) (fun a => [.call 174 [Vs a] (Fw a)]) (fun _ _ a _ _ => pc 6 (RO a)) l
def Bw (a_ : Zl) : Zl := a_
theorem VM (a_ : Zl) : ACalls Tryz.prog 106 [.a [.i a_.1, .i a_.2.1, .b a_.2.2.1, .i a_.2.2.2.1, .h a_.2.2.2.2]] (.a [.i ((Bw a_).1), .i ((Bw a_).2.1), .b ((Bw a_).2.2.1), .i ((Bw a_).2.2.2.1), .o 0 ((Bw a_).2.2.2.2)]) := by
 refine en Qa Tryz.func106 fun w0 F0 hG => ?_
 refine sn Qa [1, 2] [1, 2] (p0) ?_
 refine tn Qa [1, 2, 3] [1, 2, 3] (p0) ?_
 refine tu Qa [(1, .p 1 0), (2, .p 2 0), (3, .p 3 0)] [0] [(1, [.i a_.1, .i a_.2.1, .b a_.2.2.1, .i a_.2.2.2.1, .h a_.2.2.2.2]), (2, [.i 0, .i 0, .b false, .i 0, .e 4]), (3, [.i a_.1, .i 0, .b false, .i 0, .e 4])] [] (p0) ?_
 refine sn Qa [1, 2, 3] [1, 2, 3] (p0) ?_
 refine tn Qa [1, 2, 3] [1, 2, 3] (p0) ?_
 refine tu Qa [] [] [(3, [.i a_.1, .i a_.2.1, .b a_.2.2.1, .i a_.2.2.2.1, .e 4])] [3] (p0) ?_
 refine sn Qa [2, 3] [2, 3] (pc 2 (MP a_.2.2.2.2) p0) ?_
 refine tn Qa [2] [2] (p0) ?_
 refine Qe ?_
 exact pz [] (show Bw a_ = a_ from rfl) (fun z => .a [.i z.1, .i z.2.1, .b z.2.2.1, .i z.2.2.2.1, .o 0 z.2.2.2.2])
theorem RP (a : Zl) : ACalls Tryz.prog 106 [Vs a] (Fw a) := VM a
theorem MQ (l : (List Zl)) : ACalls Tryz.prog 69 [.h l] (JA l) := toS default Qa Tryz.func69 7 (fun a => [(6, .val (Fw a))]) (fun a => [.call 106 [Vs a] (Fw a)]) (fun _ _ a _ _ => pc 6 (RP a)) l
def Ed (a_ : V0) : V0 := a_
theorem YY (a_ : V0) : ACalls Tryz.prog 39 [.a [.h a_.1, .h a_.2.1, .i a_.2.2]] (.a [.o 0 ((Ed a_).1), .o 1 ((Ed a_).2.1), .i ((Ed a_).2.2)]) := by
 refine en Qa Tryz.func39 fun w0 F0 hG => ?_
 refine sn Qa [1, 2] [1, 2] (p0) ?_
 refine tn Qa [1, 2, 3] [1, 2, 3] (p0) ?_
 refine tu Qa [(1, .p 1 0), (2, .p 2 0), (3, .p 3 0)] [0] [(1, [.h a_.1, .h a_.2.1, .i a_.2.2]), (2, [.e 2, .e 5, .i 0]), (3, [.o 384 a_.1, .e 5, .i 0])] [] (pc 2 (EB a_.1) p0) ?_
 refine sn Qa [1, 2, 3] [1, 2, 3] (pc 2 (MQ a_.2.1) p0) ?_
 refine tn Qa [2, 3] [2, 3] (p0) ?_
 refine tu Qa [] [1, 3] [(2, [.o 384 a_.1, .o 640 a_.2.1, .i a_.2.2])] [1, 2, 3] (p0) ?_
 refine Qe ?_
 exact pz [] (show Ed a_ = a_ from rfl) (fun z => .a [.o 0 z.1, .o 1 z.2.1, .i z.2.2])
theorem VN (a : V0) : ACalls Tryz.prog 39 [Vs a] (Fw a) := YY a
def Hl (a_ : Qw) : Qw := a_
theorem VO (a_ : Qw) : ACalls Tryz.prog 141 [.a [.i a_.1, .i a_.2.1, .i a_.2.2.1, .s a_.2.2.2.1, .i a_.2.2.2.2.1, .i a_.2.2.2.2.2.1, .s a_.2.2.2.2.2.2]] (.a [.i ((Hl a_).1), .i ((Hl a_).2.1), .i ((Hl a_).2.2.1), .s ((Hl a_).2.2.2.1), .i ((Hl a_).2.2.2.2.1), .i ((Hl a_).2.2.2.2.2.1), .s ((Hl a_).2.2.2.2.2.2)]) := by
 refine en Qa Tryz.func141 fun w0 F0 hG => ?_
 refine sn Qa [1, 2] [1, 2] (p0) ?_
 refine tn Qa [1, 2, 3] [1, 2, 3] (p0) ?_
 refine tu Qa [(1, .p 1 0), (2, .p 2 0), (3, .p 3 0)] [0] [(1, [.i a_.1, .i a_.2.1, .i a_.2.2.1, .s a_.2.2.2.1, .i a_.2.2.2.2.1, .i a_.2.2.2.2.2.1, .s a_.2.2.2.2.2.2]), (2, [.i 0, .i 0, .i 0, .s ⟨#[]⟩, .i 0, .i 0, .s ⟨#[]⟩]), (3, [.i a_.1, .i 0, .i 0, .s ⟨#[]⟩, .i 0, .i 0, .s ⟨#[]⟩])] [] (p0) ?_
 refine sn Qa [1, 2, 3] [1, 2, 3] (p0) ?_
 refine tn Qa [1, 2, 3] [1, 2, 3] (p0) ?_
 refine tu Qa [] [] [(3, [.i a_.1, .i a_.2.1, .i a_.2.2.1, .s a_.2.2.2.1, .i 0, .i 0, .s ⟨#[]⟩])] [3] (p0) ?_
 refine sn Qa [2, 3] [2, 3] (pc 2 (VK a_.2.2.2.2) p0) ?_
 refine tn Qa [2] [2] (p0) ?_
 refine Qe ?_
 exact pz [] (show Hl a_ = a_ from rfl) (fun z => .a [.i z.1, .i z.2.1, .i z.2.2.1, .s z.2.2.2.1, .i z.2.2.2.2.1, .i z.2.2.2.2.2.1, .s z.2.2.2.2.2.2])
theorem RQ (a : Qw) : ACalls Tryz.prog 141 [Vs a] (Fw a) := VO a
theorem MR (l : (List Qw)) : ACalls Tryz.prog 107 [.h l] (JA l) := toS default Qa Tryz.func107 7 (fun a => [(6, .val (Fw a))]) (fun a => [.call 141 [Vs a] (Fw a)]) (fun _ _ a _ _ => pc 6 (RQ a)) l
def Sm (a_ : Zw) : Zw := a_
theorem HQ (a_ : Zw) : ACalls Tryz.prog 70 [.a [.s a_.1, .h a_.2]] (.a [.s ((Sm a_).1), .o 0 ((Sm a_).2)]) := by
 refine en Qa Tryz.func70 fun w0 F0 hG => ?_
 refine sn Qa [1, 2] [1, 2] (p0) ?_
 refine tn Qa [1, 2, 3] [1, 2, 3] (p0) ?_
 refine tu Qa [(1, .p 1 0), (2, .p 2 0), (3, .p 3 0)] [0] [(1, [.s a_.1, .h a_.2]), (2, [.s ⟨#[]⟩, .e 7]), (3, [.s a_.1, .e 7])] [] (p0) ?_
 refine sn Qa [2, 3] [2, 3] (pc 2 (MR a_.2) p0) ?_
 refine tn Qa [2] [2] (p0) ?_
 refine Qe ?_
 exact pz [] (show Sm a_ = a_ from rfl) (fun z => .a [.s z.1, .o 0 z.2])
theorem Qb5 (a : Zw) : ACalls Tryz.prog 70 [Vs a] (Fw a) := HQ a
theorem CD (l : (List Zw)) : ACalls Tryz.prog 40 [.h l] (JA l) := toS default Qa Tryz.func40 7 (fun a => [(6, .val (Fw a))]) (fun a => [.call 70 [Vs a] (Fw a)]) (fun _ _ a _ _ => pc 6 (Qb5 a)) l
theorem Mh (l : (List Int)) : ACalls Tryz.prog 21 [.h l] (JA l) := toS default Qa Tryz.func21 6 (fun _ => []) (fun _ => []) (fun _ _ _ _ _ h => h) l
def Fq (a_ : Bb) : Bb := a_
theorem S8 (a_ : Bb) : ACalls Tryz.prog 71 [.a [.s a_.1, .h a_.2]] (.a [.s ((Fq a_).1), .o 0 ((Fq a_).2)]) := by
 refine en Qa Tryz.func71 fun w0 F0 hG => ?_
 refine sn Qa [1, 2] [1, 2] (p0) ?_
 refine tn Qa [1, 2, 3] [1, 2, 3] (p0) ?_
 refine tu Qa [(1, .p 1 0), (2, .p 2 0), (3, .p 3 0)] [0] [(1, [.s a_.1, .h a_.2]), (2, [.s ⟨#[]⟩, .e 1]), (3, [.s a_.1, .e 1])] [] (p0) ?_
 refine sn Qa [2, 3] [2, 3] (pc 2 (Mh a_.2) p0) ?_
 refine tn Qa [2] [2] (p0) ?_
 refine Qe ?_
 exact pz [] (show Fq a_ = a_ from rfl) (fun z => .a [.s z.1, .o 0 z.2])
theorem EC (a : Bb) : ACalls Tryz.prog 71 [Vs a] (Fw a) := S8 a
theorem HS (l : (List Bb)) : ACalls Tryz.prog 41 [.h l] (JA l) := toS default Qa Tryz.func41 7 (fun a => [(6, .val (Fw a))]) (fun a => [.call 71 [Vs a] (Fw a)]) (fun _ _ a _ _ => pc 6 (EC a)) l
def Ux (a_ : Cr) : Cr := a_
theorem Sn (a_ : Cr) : ACalls Tryz.prog 17 [.a [.h a_.1.1, .h a_.1.2.1, .i a_.1.2.2, .h a_.2.1, .h a_.2.2]] (.a [.o 0 ((Ux a_).1.1), .o 1 ((Ux a_).1.2.1), .i ((Ux a_).1.2.2), .o 2 ((Ux a_).2.1), .o 3 ((Ux a_).2.2)]) := by
 refine en Qa Tryz.func17 fun w0 F0 hG => ?_
 refine sn Qa [1, 2] [1, 2] (p0) ?_
 refine tn Qa [1, 2, 3] [1, 2, 3] (p0) ?_
 refine tu Qa [(1, .p 1 0), (2, .p 2 0), (3, .p 3 0)] [0] [(1, [.h a_.1.1, .h a_.1.2.1, .i a_.1.2.2, .h a_.2.1, .h a_.2.2]), (2, [.e 2, .e 5, .i 0, .e 2, .e 2]), (3, [.o 384 a_.1.1, .o 385 a_.1.2.1, .i a_.1.2.2, .e 2, .e 2])] [] (pc 2 (VN a_.1) p0) ?_
 refine sn Qa [1, 2, 3] [1, 2, 3] (pc 2 (CD a_.2.1) p0) ?_
 refine tn Qa [2, 3] [2, 3] (pc 2 (HS a_.2.2) p0) ?_
 refine tu Qa [] [1, 3] [(2, [.o 384 a_.1.1, .o 385 a_.1.2.1, .i a_.1.2.2, .o 640 a_.2.1, .o 896 a_.2.2])] [1, 2, 3] (p0) ?_
 refine Qe ?_
 exact pz [] (show Ux a_ = a_ from rfl) (fun z => .a [.o 0 z.1.1, .o 1 z.1.2.1, .i z.1.2.2, .o 2 z.2.1, .o 3 z.2.2])
theorem HV (a : Cr) : ACalls Tryz.prog 17 [Vs a] (Fw a) := Sn a
def Nq (a_ : Ep) : Ep := a_
theorem VP (a_ : Ep) : ACalls Tryz.prog 18 [.a [.s a_.1, .s a_.2]] (.a [.s ((Nq a_).1), .s ((Nq a_).2)]) := by
 refine en Qa Tryz.func18 fun w0 F0 hG => ?_
 refine sn Qa [1, 2] [1, 2] (p0) ?_
 refine tn Qa [1, 2, 3] [1, 2, 3] (p0) ?_
 refine tu Qa [(1, .p 1 0), (2, .p 2 0), (3, .p 3 0)] [0] [(1, [.s a_.1, .s a_.2]), (2, [.s ⟨#[]⟩, .s ⟨#[]⟩]), (3, [.s a_.1, .s ⟨#[]⟩])] [] (p0) ?_
 refine sn Qa [2, 3] [2, 3] (p0) ?_
 refine tn Qa [2] [2] (p0) ?_
 refine Qe ?_
 exact pz [] (show Nq a_ = a_ from rfl) (fun z => .a [.s z.1, .s z.2])
theorem RR (a : Ep) : ACalls Tryz.prog 18 [Vs a] (Fw a) := VP a
def U6 (a_ : Qp) : Qp := a_
theorem Oj (a_ : Qp) : ACalls Tryz.prog 72 [.a [.h a_.1.1, .h a_.1.2.1, .i a_.1.2.2, .h a_.2]] (.a [.o 0 ((U6 a_).1.1), .o 1 ((U6 a_).1.2.1), .i ((U6 a_).1.2.2), .o 2 ((U6 a_).2)]) := by
 refine en Qa Tryz.func72 fun w0 F0 hG => ?_
 refine sn Qa [1, 2] [1, 2] (p0) ?_
 refine tn Qa [1, 2, 3] [1, 2, 3] (p0) ?_
 refine tu Qa [(1, .p 1 0), (2, .p 2 0), (3, .p 3 0)] [0] [(1, [.h a_.1.1, .h a_.1.2.1, .i a_.1.2.2, .h a_.2]), (2, [.e 2, .e 5, .i 0, .e 2]), (3, [.o 384 a_.1.1, .o 385 a_.1.2.1, .i a_.1.2.2, .e 2])] [] (pc 2 (VN a_.1) p0) ?_
 refine sn Qa [2, 3] [2, 3] (pc 2 (CD a_.2) p0) ?_
 refine tn Qa [2] [2] (p0) ?_
 refine Qe ?_
 exact pz [] (show U6 a_ = a_ from rfl) (fun z => .a [.o 0 z.1.1, .o 1 z.1.2.1, .i z.1.2.2, .o 2 z.2])
theorem VQ (a : Qp) : ACalls Tryz.prog 72 [Vs a] (Fw a) := Oj a
def Wd (a_ : U7) : U7 := a_
theorem So (a_ : U7) : ACalls Tryz.prog 42 [.a [.i a_.1, .h a_.2.1.1.1, .h a_.2.1.1.2.1, .i a_.2.1.1.2.2, .h a_.2.1.2, .i a_.2.2]] (.a [.i ((Wd a_).1), .o 0 ((Wd a_).2.1.1.1), .o 1 ((Wd a_).2.1.1.2.1), .i ((Wd a_).2.1.1.2.2), .o 2 ((Wd a_).2.1.2), .i ((Wd a_).2.2)]) := by
 refine en Qa Tryz.func42 fun w0 F0 hG => ?_
 refine sn Qa [1, 2] [1, 2] (p0) ?_
 refine tn Qa [1, 2, 3] [1, 2, 3] (p0) ?_
 refine tu Qa [(1, .p 1 0), (2, .p 2 0), (3, .p 3 0)] [0] [(1, [.i a_.1, .h a_.2.1.1.1, .h a_.2.1.1.2.1, .i a_.2.1.1.2.2, .h a_.2.1.2, .i a_.2.2]), (2, [.i 0, .e 2, .e 5, .i 0, .e 2, .i 0]), (3, [.i a_.1, .e 2, .e 5, .i 0, .e 2, .i 0])] [] (p0) ?_
 refine sn Qa [1, 2, 3] [1, 2, 3] (pc 2 (VQ a_.2.1) p0) ?_
 refine tn Qa [2, 3] [2, 3] (p0) ?_
 refine tu Qa [] [1, 3] [(2, [.i a_.1, .o 576 a_.2.1.1.1, .o 577 a_.2.1.1.2.1, .i a_.2.1.1.2.2, .o 578 a_.2.1.2, .i a_.2.2])] [1, 2, 3] (p0) ?_
 refine Qe ?_
 exact pz [] (show Wd a_ = a_ from rfl) (fun z => .a [.i z.1, .o 0 z.2.1.1.1, .o 1 z.2.1.1.2.1, .i z.2.1.1.2.2, .o 2 z.2.1.2, .i z.2.2])
theorem HW (a : U7) : ACalls Tryz.prog 42 [Vs a] (Fw a) := So a
theorem VT (l : (List U7)) : ACalls Tryz.prog 19 [.h l] (JA l) := toS default Qa Tryz.func19 7 (fun a => [(6, .val (Fw a))]) (fun a => [.call 42 [Vs a] (Fw a)]) (fun _ _ a _ _ => pc 6 (HW a)) l
def Ee (a_ : Eg) : Eg := a_
theorem YZ (a_ : Eg) : ACalls Tryz.prog 108 [.a [.i a_.1, .h a_.2.1, .h a_.2.2]] (.a [.i ((Ee a_).1), .o 0 ((Ee a_).2.1), .o 1 ((Ee a_).2.2)]) := by
 refine en Qa Tryz.func108 fun w0 F0 hG => ?_
 refine sn Qa [1, 2] [1, 2] (p0) ?_
 refine tn Qa [1, 2, 3] [1, 2, 3] (p0) ?_
 refine tu Qa [(1, .p 1 0), (2, .p 2 0), (3, .p 3 0)] [0] [(1, [.i a_.1, .h a_.2.1, .h a_.2.2]), (2, [.i 0, .e 1, .e 1]), (3, [.i a_.1, .e 1, .e 1])] [] (p0) ?_
 refine sn Qa [1, 2, 3] [1, 2, 3] (pc 2 (Mh a_.2.1) p0) ?_
 refine tn Qa [2, 3] [2, 3] (pc 2 (Mh a_.2.2) p0) ?_
 refine tu Qa [] [1, 3] [(2, [.i a_.1, .o 576 a_.2.1, .o 832 a_.2.2])] [1, 2, 3] (p0) ?_
 refine Qe ?_
 exact pz [] (show Ee a_ = a_ from rfl) (fun z => .a [.i z.1, .o 0 z.2.1, .o 1 z.2.2])
theorem MS (a : Eg) : ACalls Tryz.prog 108 [Vs a] (Fw a) := YZ a
theorem ED (l : (List Eg)) : ACalls Tryz.prog 73 [.h l] (JA l) := toS default Qa Tryz.func73 7 (fun a => [(6, .val (Fw a))]) (fun a => [.call 108 [Vs a] (Fw a)]) (fun _ _ a _ _ => pc 6 (MS a)) l
def Cl (a_ : Eh) : Eh := a_
theorem ZA (a_ : Eh) : ACalls Tryz.prog 43 [.a [.i a_.1, .s a_.2.1, .h a_.2.2.1, .h a_.2.2.2]] (.a [.i ((Cl a_).1), .s ((Cl a_).2.1), .o 0 ((Cl a_).2.2.1), .o 1 ((Cl a_).2.2.2)]) := by
 refine en Qa Tryz.func43 fun w0 F0 hG => ?_
 refine sn Qa [1, 2] [1, 2] (p0) ?_
 refine tn Qa [1, 2, 3] [1, 2, 3] (p0) ?_
 refine tu Qa [(1, .p 1 0), (2, .p 2 0), (3, .p 3 0)] [0] [(1, [.i a_.1, .s a_.2.1, .h a_.2.2.1, .h a_.2.2.2]), (2, [.i 0, .s ⟨#[]⟩, .e 1, .e 3]), (3, [.i a_.1, .s ⟨#[]⟩, .e 1, .e 3])] [] (p0) ?_
 refine sn Qa [1, 2, 3] [1, 2, 3] (p0) ?_
 refine tn Qa [1, 2, 3] [1, 2, 3] (pc 2 (Mh a_.2.2.1) p0) ?_
 refine tu Qa [] [1] [(3, [.i a_.1, .s a_.2.1, .o 768 a_.2.2.1, .o 1024 a_.2.2.2])] [1, 3] (pc 2 (ED a_.2.2.2) p0) ?_
 refine sn Qa [2] [2] (p0) ?_
 refine Qe ?_
 exact pz [] (show Cl a_ = a_ from rfl) (fun z => .a [.i z.1, .s z.2.1, .o 0 z.2.2.1, .o 1 z.2.2.2])
theorem MT (a : Eh) : ACalls Tryz.prog 43 [Vs a] (Fw a) := ZA a
theorem EE (l : (List Eh)) : ACalls Tryz.prog 20 [.h l] (JA l) := toS default Qa Tryz.func20 7 (fun a => [(6, .val (Fw a))]) (fun a => [.call 43 [Vs a] (Fw a)]) (fun _ _ a _ _ => pc 6 (MT a)) l
def Jp (a_ : Jy) : Jy := a_
theorem S9 (a_ : Jy) : ACalls Tryz.prog 6 [.a [.h a_.1.1.1, .h a_.1.1.2.1, .i a_.1.1.2.2, .h a_.1.2.1, .h a_.1.2.2, .s a_.2.1.1, .s a_.2.1.2, .i a_.2.2.1, .h a_.2.2.2.1, .h a_.2.2.2.2.1, .h a_.2.2.2.2.2]] (.a [.o 0 ((Jp a_).1.1.1), .o 1 ((Jp a_).1.1.2.1), .i ((Jp a_).1.1.2.2), .o 2 ((Jp a_).1.2.1), .o 3 ((Jp a_).1.2.2), .s ((Jp a_).2.1.1), .s ((Jp a_).2.1.2), .i ((Jp a_).2.2.1), .o 4 ((Jp a_).2.2.2.1), .o 5 ((Jp a_).2.2.2.2.1), .o 6 ((Jp a_).2.2.2.2.2)]) := by
 refine en Qa Tryz.func6 fun w0 F0 hG => ?_
 refine sn Qa [1, 2] [1, 2] (p0) ?_
 refine tn Qa [1, 2, 3] [1, 2, 3] (p0) ?_
 refine tu Qa [(1, .p 1 0), (2, .p 2 0), (3, .p 3 0)] [0] [(1, [.h a_.1.1.1, .h a_.1.1.2.1, .i a_.1.1.2.2, .h a_.1.2.1, .h a_.1.2.2, .s a_.2.1.1, .s a_.2.1.2, .i a_.2.2.1, .h a_.2.2.2.1, .h a_.2.2.2.2.1, .h a_.2.2.2.2.2]), (2, [.e 2, .e 5, .i 0, .e 2, .e 2, .s ⟨#[]⟩, .s ⟨#[]⟩, .i 0, .e 6, .e 4, .e 1]), (3, [.o 384 a_.1.1.1, .o 385 a_.1.1.2.1, .i a_.1.1.2.2, .o 386 a_.1.2.1, .o 387 a_.1.2.2, .s ⟨#[]⟩, .s ⟨#[]⟩, .i 0, .e 6, .e 4, .e 1])] [] (pc 2 (HV a_.1) p0) ?_
 refine sn Qa [1, 2, 3] [1, 2, 3] (pc 2 (RR a_.2.1) p0) ?_
 refine tn Qa [1, 2, 3] [1, 2, 3] (p0) ?_
 refine tu Qa [] [] [(3, [.o 384 a_.1.1.1, .o 385 a_.1.1.2.1, .i a_.1.1.2.2, .o 386 a_.1.2.1, .o 387 a_.1.2.2, .s a_.2.1.1, .s a_.2.1.2, .i a_.2.2.1, .o 1088 a_.2.2.2.1, .e 4, .e 1])] [3] (pc 2 (VT a_.2.2.2.1) p0) ?_
 refine sn Qa [1, 2, 3] [1, 2, 3] (pc 2 (EE a_.2.2.2.2.1) p0) ?_
 refine tn Qa [2, 3] [2, 3] (pc 2 (Mh a_.2.2.2.2.2) p0) ?_
 refine tu Qa [] [1, 3] [(2, [.o 384 a_.1.1.1, .o 385 a_.1.1.2.1, .i a_.1.1.2.2, .o 386 a_.1.2.1, .o 387 a_.1.2.2, .s a_.2.1.1, .s a_.2.1.2, .i a_.2.2.1, .o 1088 a_.2.2.2.1, .o 1344 a_.2.2.2.2.1, .o 1600 a_.2.2.2.2.2])] [1, 2, 3] (p0) ?_
 refine Qe ?_
 exact pz [] (show Jp a_ = a_ from rfl) (fun z => .a [.o 0 z.1.1.1, .o 1 z.1.1.2.1, .i z.1.1.2.2, .o 2 z.1.2.1, .o 3 z.1.2.2, .s z.2.1.1, .s z.2.1.2, .i z.2.2.1, .o 4 z.2.2.2.1, .o 5 z.2.2.2.2.1, .o 6 z.2.2.2.2.2])
theorem EF (a : Jy) : ACalls Tryz.prog 6 [Vs a] (Fw a) := S9 a
theorem Nr (a : Jy) (h : GoD.size a ≤ 1048576) : ACalls Tryz.prog 6 [Vs a] (Fw a) := EF a
theorem MU (a : X6) : ACalls Tryz.prog 123 [Vs a, Vs a] (.b true) := eqA Qa Tryz.func123 a fun _ _ _ => eqT Qa a.1 <| eqI Qa a.2 <| eqE Qa
theorem EG (l : (List X6)) : ACalls Tryz.prog 83 [.h l, .h l] (.b true) := eqS Qa Yp Tryz.func83 true (fun a => .call 123 [Vs a, Vs a] (.b true)) (fun _ _ a => Cz (MU a)) l
theorem VU (a : Jf) : ACalls Tryz.prog 194 [Vs a, Vs a] (.b true) := eqA Qa Tryz.func194 a fun _ _ _ => eqI Qa a.1 <| eqI Qa a.2.1 <| eqT Qa a.2.2 <| eqE Qa
theorem RS (a : Kz) : ACalls Tryz.prog 193 [Vs a, Vs a] (.b true) := eqA Qa Tryz.func193 a fun _ _ _ => eqT Qa a.1 <| eqG Qa (VU a.2) <| eqE Qa
theorem MV (l : (List Kz)) : ACalls Tryz.prog 159 [.h l, .h l] (.b true) := eqS Qa Yp Tryz.func159 true (fun a => .call 193 [Vs a, Vs a] (.b true)) (fun _ _ a => Cz (RS a)) l
theorem RT (a : Zl) : ACalls Tryz.prog 124 [Vs a, Vs a] (.b true) := eqA Qa Tryz.func124 a fun _ _ _ => eqI Qa a.1 <| eqI Qa a.2.1 <| eqB Qa a.2.2.1 <| eqI Qa a.2.2.2.1 <| eqG Qa (MV a.2.2.2.2) <| eqE Qa
theorem MW (l : (List Zl)) : ACalls Tryz.prog 84 [.h l, .h l] (.b true) := eqS Qa Yp Tryz.func84 true (fun a => .call 124 [Vs a, Vs a] (.b true)) (fun _ _ a => Cz (RT a)) l
theorem VW (a : V0) : ACalls Tryz.prog 49 [Vs a, Vs a] (.b true) := eqA Qa Tryz.func49 a fun _ _ _ => eqG Qa (EG a.1) <| eqG Qa (MW a.2.1) <| eqI Qa a.2.2 <| eqE Qa
theorem RU (a : Qw) : ACalls Tryz.prog 160 [Vs a, Vs a] (.b true) := eqA Qa Tryz.func160 a fun _ _ _ => eqI Qa a.1 <| eqI Qa a.2.1 <| eqI Qa a.2.2.1 <| eqT Qa a.2.2.2.1 <| eqG Qa (VU a.2.2.2.2) <| eqE Qa
theorem MX (l : (List Qw)) : ACalls Tryz.prog 125 [.h l, .h l] (.b true) := eqS Qa Yp Tryz.func125 true (fun a => .call 160 [Vs a, Vs a] (.b true)) (fun _ _ a => Cz (RU a)) l
theorem Qb6 (a : Zw) : ACalls Tryz.prog 85 [Vs a, Vs a] (.b true) := eqA Qa Tryz.func85 a fun _ _ _ => eqT Qa a.1 <| eqG Qa (MX a.2) <| eqE Qa
theorem CE (l : (List Zw)) : ACalls Tryz.prog 50 [.h l, .h l] (.b true) := eqS Qa Yp Tryz.func50 true (fun a => .call 85 [Vs a, Vs a] (.b true)) (fun _ _ a => Cz (Qb6 a)) l
theorem Mi (l : (List Int)) : ACalls Tryz.prog 29 [.h l, .h l] (.b true) := eqS Qa Yp Tryz.func29 false (fun a => .eq (.b (a != a)) (.b false)) (fun _ _ a => Qz (by simp)) l
theorem EH (a : Bb) : ACalls Tryz.prog 86 [Vs a, Vs a] (.b true) := eqA Qa Tryz.func86 a fun _ _ _ => eqT Qa a.1 <| eqG Qa (Mi a.2) <| eqE Qa
theorem HX (l : (List Bb)) : ACalls Tryz.prog 51 [.h l, .h l] (.b true) := eqS Qa Yp Tryz.func51 true (fun a => .call 86 [Vs a, Vs a] (.b true)) (fun _ _ a => Cz (EH a)) l
theorem HY (a : Cr) : ACalls Tryz.prog 25 [Vs a, Vs a] (.b true) := eqA Qa Tryz.func25 a fun _ _ _ => eqG Qa (VW a.1) <| eqG Qa (CE a.2.1) <| eqG Qa (HX a.2.2) <| eqE Qa
theorem RV (a : Ep) : ACalls Tryz.prog 26 [Vs a, Vs a] (.b true) := eqA Qa Tryz.func26 a fun _ _ _ => eqT Qa a.1 <| eqT Qa a.2 <| eqE Qa
theorem VX (a : Qp) : ACalls Tryz.prog 87 [Vs a, Vs a] (.b true) := eqA Qa Tryz.func87 a fun _ _ _ => eqG Qa (VW a.1) <| eqG Qa (CE a.2) <| eqE Qa
theorem HZ (a : U7) : ACalls Tryz.prog 52 [Vs a, Vs a] (.b true) := eqA Qa Tryz.func52 a fun _ _ _ => eqI Qa a.1 <| eqG Qa (VX a.2.1) <| eqI Qa a.2.2 <| eqE Qa
theorem VY (l : (List U7)) : ACalls Tryz.prog 27 [.h l, .h l] (.b true) := eqS Qa Yp Tryz.func27 true (fun a => .call 52 [Vs a, Vs a] (.b true)) (fun _ _ a => Cz (HZ a)) l
theorem MY (a : Eg) : ACalls Tryz.prog 126 [Vs a, Vs a] (.b true) := eqA Qa Tryz.func126 a fun _ _ _ => eqI Qa a.1 <| eqG Qa (Mi a.2.1) <| eqG Qa (Mi a.2.2) <| eqE Qa
theorem EI (l : (List Eg)) : ACalls Tryz.prog 88 [.h l, .h l] (.b true) := eqS Qa Yp Tryz.func88 true (fun a => .call 126 [Vs a, Vs a] (.b true)) (fun _ _ a => Cz (MY a)) l
theorem MZ (a : Eh) : ACalls Tryz.prog 53 [Vs a, Vs a] (.b true) := eqA Qa Tryz.func53 a fun _ _ _ => eqI Qa a.1 <| eqT Qa a.2.1 <| eqG Qa (Mi a.2.2.1) <| eqG Qa (EI a.2.2.2) <| eqE Qa
theorem EJ (l : (List Eh)) : ACalls Tryz.prog 28 [.h l, .h l] (.b true) := eqS Qa Yp Tryz.func28 true (fun a => .call 53 [Vs a, Vs a] (.b true)) (fun _ _ a => Cz (MZ a)) l
theorem EK (a : Jy) : ACalls Tryz.prog 8 [Vs a, Vs a] (.b true) := eqA Qa Tryz.func8 a fun _ _ _ => eqG Qa (HY a.1) <| eqG Qa (RV a.2.1) <| eqI Qa a.2.2.1 <| eqG Qa (VY a.2.2.2.1) <| eqG Qa (EJ a.2.2.2.2.1) <| eqG Qa (Mi a.2.2.2.2.2) <| eqE Qa
theorem EL {a b : Jy} (h : a = b) : ACalls Tryz.prog 8 [Vs a, Vs b] (Qc0 true) := h ▸ EK a
def U0 (aX : Jy) : Bool := (bif decide ((szI (GoD.size aX) 1048576) < (0 : Int)) then true else true)
theorem Er (aX : Jy) : ACalls Tryz.prog 3 [.a [.h aX.1.1.1, .h aX.1.1.2.1, .i aX.1.1.2.2, .h aX.1.2.1, .h aX.1.2.2, .s aX.2.1.1, .s aX.2.1.2, .i aX.2.2.1, .h aX.2.2.2.1, .h aX.2.2.2.2.1, .h aX.2.2.2.2.2]] (.b (U0 aX)) := by
 refine en Qa Tryz.func3 fun w0 F0 hG => ?_
 refine sn Qa [1, 2] [1] (p0) ?_
 refine tn Qa [1, 2, 3] [1] (p0) ?_
 have hz1 := Qdt (GoD.size aX) 1048576
 refine tu Qa [(1, .p 1 0), (2, .b false), (3, .i (szI (GoD.size aX) 1048576))] [0] [(1, [.h aX.1.1.1, .h aX.1.1.2.1, .i aX.1.1.2.2, .h aX.1.2.1, .h aX.1.2.2, .s aX.2.1.1, .s aX.2.1.2, .i aX.2.2.1, .h aX.2.2.2.1, .h aX.2.2.2.2.1, .h aX.2.2.2.2.2])] [] (pc 2 (EA aX 1048576 (by omega) (by omega)) p0) ?_
 refine Qc ?_
 refine sn Qa [1, 2, 11] [1] (p0) ?_
 refine ck (decide ((szI (GoD.size aX) 1048576) < (0 : Int))) (fun h2 => ?_) (fun h2 => ?_)
 ·
  refine tn Qa [1, 2] [1] (p0) ?_
  refine Qe ?_
  exact pb [] (Xi h2 (rfl))
 have h2d := of_decide_eq_false h2
 refine Qf ?_
 have hsz_aX : GoD.size aX ≤ 1048576 := by omega
 refine tn Qa [1, 2, 4] [1] (pc 1 (Nr aX hsz_aX) (pc 2 ((VF aX) ▸ (Sl aX (Nat.le_trans (Tn (Tn (To hsz_aX))) (by decide)) (Nat.le_trans (To (Tn (To hsz_aX))) (by decide)))) p0)) ?_
 refine tu Qa [(4, .b (Wc aX)), (5, .p 5 0)] [3] [(5, [.o 1024 aX.1.1.1, .o 1025 aX.1.1.2.1, .i aX.1.1.2.2, .o 1026 aX.1.2.1, .o 1027 aX.1.2.2, .s aX.2.1.1, .s aX.2.1.2, .i aX.2.2.1, .o 1028 aX.2.2.2.1, .o 1029 aX.2.2.2.2.1, .o 1030 aX.2.2.2.2.2])] [] (pc 1 (Nr aX hsz_aX) p0) ?_
 refine sn Qa [1, 2, 4, 5, 6] [1, 5] (pc 1 (Sk aX (Nat.le_trans (Tn (Tn (To hsz_aX))) (by decide)) (Nat.le_trans (To (Tn (To hsz_aX))) (by decide))) p0) ?_
 refine Qc ?_
 refine tn Qa [1, 2, 5, 21] [1, 5] (pe 2 (show .b (!((Wc aX) == (Wc aX))) = .b false from Qz (by simp)) p0) ?_
 refine ckF ?_
 refine Qf ?_
 refine Qc ?_
 refine tU Qa Yp [(26, .b false)] [1, 4, 5] [] [1, 5] (pc 2 (Nr aX hsz_aX) (pc 3 (EL (a := aX) (b := aX) (rfl)) (pe 4 (show .b (!true) = .b false from rfl) p0))) ?_
 refine ckF ?_
 refine Qf ?_
 refine sn Qa [2] [] (p0) ?_
 refine Qe ?_
 exact pb [] (Qk h2 (rfl))
open GoD (rd own)
set_option maxRecDepth 100000 in
set_option maxHeartbeats 1000000 in
theorem VZ (w : World) (c0 : List Value) (a0 : Jy) (h0 : rd w c0 a0) (hbig : ¬ (GoD.size a0 ≤ 1048576)) : Calls Tryz.prog 3 #[.agg c0.toArray] w (Ret w (.bool true)) := by
  obtain ⟨p0_oa1, p0_cp1, p0_oa2, p0_cp2, p0_oa3, p0_cp3, p0_oa4, p0_cp4, p0_oa5, p0_cp5, p0_oa6, p0_cp6, p0_oa7, p0_cp7, rfl⟩ := JJ h0
  have HA0 := Lib.hid h0; clear h0
  have tok1 : True := trivial
  go_enter Tryz.func3, Tryz.ntmps3
  go_wp2_with (first | (go_at_call 4; have tk := tok1; clear tok1; refine Z6 (w := w) (QP _ [.slice p0_oa1 a0.1.1.1.length p0_cp1, .slice p0_oa2 a0.1.1.2.1.length p0_cp2, .int .i64 a0.1.1.2.2, .slice p0_oa3 a0.1.2.1.length p0_cp3, .slice p0_oa4 a0.1.2.2.length p0_cp4, .string a0.2.1.1, .string a0.2.1.2, .int .i64 a0.2.2.1, .slice p0_oa5 a0.2.2.2.1.length p0_cp5, .slice p0_oa6 a0.2.2.2.2.1.length p0_cp6, .slice p0_oa7 a0.2.2.2.2.2.length p0_cp7] a0 _ (Y1 HA0.out (by repeat (first | (with_reducible exact Below.refl _ _) | (with_reducible refine Below.alloc ?_ (by go_size) _) | (with_reducible refine Below.drew ?_)))) (by omega) (by omega)) (by repeat (first | (with_reducible exact Below.refl _ _) | (with_reducible refine Below.alloc ?_ (by go_size) _) | (with_reducible refine Below.drew ?_))) ?_; intro w1 r1 hB1 hb hz1 _ hr hs1; have HR1 := Lib.hid hr; clear hr; have hz2 := hb.size; (repeat (first | rewrite [World.size_alloc] at hz2 | rewrite [World.size_setCell] at hz2 | rewrite [World.size_drew] at hz2)); have c1_0 := fun o => Bx hb (w.heap.size) o (by go_size); have l1_0 : w.heap.size < w1.heap.size := (by go_size); have HB1 := Lib.hid hb; clear hb) | (exfalso; have q1 := HR1.out; apply hbig; unfold szq at *; omega))
  all_goals
    go_ret
    refine ⟨rfl, ?_⟩
    first | (with_reducible assumption) | go_grown
theorem C6 (a0 : Jy) : U0 a0 = true := by
  unfold U0
  simp
theorem WA (w : World) (c0 : List Value) (a0 : Jy) (h0 : rd w c0 a0) (hG : Good Tryz.prog w) : Calls Tryz.prog 3 #[.agg c0.toArray] w (Ret w (.bool true)) := by
  by_cases hbig : GoD.size a0 ≤ 1048576
  · haveI : Good Tryz.prog w := hG
    have h := (Er a0).run (.cons (Qaq h0 (GoE.wide_size (show GoD.size a0 ≤ 1073741824 by omega))) .nil)
    rw [C6] at h
    exact h.mono fun _ _ h => OQ h
  exact VZ w c0 a0 h0 hbig
end
end Go.Proofs.YtkbmchfkaibelaaGreatDoor
