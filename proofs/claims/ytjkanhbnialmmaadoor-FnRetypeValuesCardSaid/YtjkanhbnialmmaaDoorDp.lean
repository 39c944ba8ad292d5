/- Draws: picks out of lists. -/
import Derived.Test.YtjkanhbnialmmaaDoorDr
namespace Go.Proofs.YtjkanhbnialmmaaDoor
open Go.RowKit
open GoD (rd own)
set_option maxRecDepth 20000 in
theorem once_c (w0 w : World) (v : Value) (n g : Nat) (m : Int) (hcd : Code w0 v n) (hC : Cur w0 v n g w) (hm : m ≤ 1000000000) : Calls Tryd.prog 32 #[.pointer (some ⟨g, 0, none⟩), .int .i64 m] w fun e w' => ∃ b : Bool, e = .returned (.bool b) ∧ Cur w0 v n g w' ∧ Chg [g] w w' := by
  have HCD := Lib.hid hcd; clear hcd
  have HC := Lib.hid hC; clear hC
  go_enter Tryd.func32, Tryd.ntmps32
  go_wp2_with (go_at_call 33; refine (below_c w0 w v n g m HCD.out HC.out hm).mono ?_; rintro e1 w1 ⟨x1, rfl, hx0, hx1, hc, hg⟩; have HC1 := Lib.hid hc; clear hc; have HG1 := Lib.hid hg; clear hg)
  go_ret
  exact ⟨_, rfl, HC1.out, HG1.out⟩
set_option maxRecDepth 20000 in
theorem pickInt_c (w0 w : World) (v : Value) (n g : Nat) (l : List Int) (b cap : Nat) (hcd : Code w0 v n) (hC : Cur w0 v n g w) (hl0 : 0 < l.length) (hl1 : l.length ≤ 1000000) (hb : b < w.heap.size) (hbg : ¬ b = g) (hcs : ∀ j x, l[j]? = some x → w.cell? ⟨b, j, none⟩ = some (.int .i64 x)) : Calls Tryd.prog 30 #[.pointer (some ⟨g, 0, none⟩), .slice (some ⟨b, 0, none⟩) l.length cap] w fun e w' => ∃ x, x ∈ l ∧ e = .returned (.int .i64 x) ∧ Cur w0 v n g w' ∧ Chg [g] w w' := by
  have HCD := Lib.hid hcd; clear hcd
  have HC := Lib.hid hC; clear hC
  have HCS := Lib.hid hcs; clear hcs
  have hl9 : l.length ≤ 9223372036854775807 := by omega
  go_enter Tryd.func30, Tryd.ntmps30
  go_wp2_with (go_at_call 33; refine (below_c w0 w v n g (l.length : Int) HCD.out HC.out (by omega)).mono ?_; rintro e1 w1 ⟨x1, rfl, hx0, hx1, hc, hg⟩; obtain ⟨k, rfl⟩ : ∃ k : Nat, x1 = (k : Int) := ⟨x1.toNat, by omega⟩; have hkl : k < l.length := (by have := hx1 (by omega); omega); clear hx1; have hy := List.getElem?_eq_getElem hkl; generalize l[k] = y at hy; have yc : w1.cell? ⟨b, k, none⟩ = some (.int .i64 y) := (hg.cell hb (by simpa using hbg) k).trans (HCS.out k y hy); have HY := Lib.hid hy; clear hy; have HC1 := Lib.hid hc; clear hc; have HG1 := Lib.hid hg; clear hg)
  go_ret
  exact ⟨y, List.mem_of_getElem? HY.out, rfl, HC1.out, HG1.out⟩
set_option maxRecDepth 20000 in
theorem pickStr_c (w0 w : World) (v : Value) (n g : Nat) (l : List ByteArray) (b cap : Nat) (hcd : Code w0 v n) (hC : Cur w0 v n g w) (hl0 : 0 < l.length) (hl1 : l.length ≤ 1000000) (hb : b < w.heap.size) (hbg : ¬ b = g) (hcs : ∀ j x, l[j]? = some x → w.cell? ⟨b, j, none⟩ = some (.string x)) : Calls Tryd.prog 34 #[.pointer (some ⟨g, 0, none⟩), .slice (some ⟨b, 0, none⟩) l.length cap] w fun e w' => ∃ x, x ∈ l ∧ e = .returned (.string x) ∧ Cur w0 v n g w' ∧ Chg [g] w w' := by
  have HCD := Lib.hid hcd; clear hcd
  have HC := Lib.hid hC; clear hC
  have HCS := Lib.hid hcs; clear hcs
  have hl9 : l.length ≤ 9223372036854775807 := by omega
  go_enter Tryd.func34, Tryd.ntmps34
  go_wp2_with (go_at_call 33; refine (below_c w0 w v n g (l.length : Int) HCD.out HC.out (by omega)).mono ?_; rintro e1 w1 ⟨x1, rfl, hx0, hx1, hc, hg⟩; obtain ⟨k, rfl⟩ : ∃ k : Nat, x1 = (k : Int) := ⟨x1.toNat, by omega⟩; have hkl : k < l.length := (by have := hx1 (by omega); omega); clear hx1; have hy := List.getElem?_eq_getElem hkl; generalize l[k] = y at hy; have yc : w1.cell? ⟨b, k, none⟩ = some (.string y) := (hg.cell hb (by simpa using hbg) k).trans (HCS.out k y hy); have HY := Lib.hid hy; clear hy; have HC1 := Lib.hid hc; clear hc; have HG1 := Lib.hid hg; clear hg)
  go_ret
  exact ⟨y, List.mem_of_getElem? HY.out, rfl, HC1.out, HG1.out⟩
end Go.Proofs.YtjkanhbnialmmaaDoor
