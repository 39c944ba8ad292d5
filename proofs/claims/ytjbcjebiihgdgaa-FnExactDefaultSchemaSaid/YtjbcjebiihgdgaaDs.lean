/- The usual schema. -/
import Derived.Test.YtjbcjebiihgdgaaProg
import Derived.Test.YtjbcjebiihgdgaaTy
import Derived.Outline
namespace Go.Proofs.Ytjbcjebiihgdgaa
open Go.RowKit
open GoD (rd own)
def usual : List FieldD := [(⟨#[97]⟩, 1), (⟨#[98]⟩, 1), (⟨#[110]⟩, 2), (⟨#[116]⟩, 2)]
def usualCells : Array Value := #[.string ⟨#[97]⟩, .int .i64 1, .string ⟨#[98]⟩, .int .i64 1, .string ⟨#[110]⟩, .int .i64 2, .string ⟨#[116]⟩, .int .i64 2]
theorem own_field (w : World) {s : ByteArray} {n : Int} (h1 : s.size ≤ maxLen) (h2 : I64 n) : own [] w [.string s, .int .i64 n] ((s, n) : FieldD) := own_pair (own_s w h1) (own_i w h2) (by simp)
theorem own_usual {w : World} {g : Nat} {e : TypeId} (hg : w.heap[g]? = some (.cells usualCells e (0, 0))) : own [g] w [.slice (some ⟨g, 0, none⟩) 4 4] usual := by
  refine ⟨by simp, .inr ⟨g, 4, usualCells, e, [[], [], [], []], rfl, hg, Nat.le_refl _, by decide, rfl, rfl, rfl, fun i Li a hi ha => ?_⟩⟩
  match i, hi, ha with
  | 0, hi, ha => cases hi; cases ha; exact own_field w (by decide) (by unfold I64; omega)
  | 1, hi, ha => cases hi; cases ha; exact own_field w (by decide) (by unfold I64; omega)
  | 2, hi, ha => cases hi; cases ha; exact own_field w (by decide) (by unfold I64; omega)
  | 3, hi, ha => cases hi; cases ha; exact own_field w (by decide) (by unfold I64; omega)
theorem implDefaultSchema_c (w : World) : Calls Try.prog 10 #[] w (RetS w usual) := by
  go_enter Try.func10, Try.ntmps10
  go_wp2
  go_ret
  exact ⟨_, [w.heap.size], rfl, by go_grown, own_usual (heap_alloc_new w _), by simp⟩
theorem l03Usual_c (w : World) : Calls Try.prog 45 #[] w (RetS w usual) := by
  go_enter Try.func45, Try.ntmps45
  go_wp2
  go_ret
  exact ⟨_, [w.heap.size], rfl, by go_grown, own_usual (heap_alloc_new w _), by simp⟩
theorem specDefaultSchema_c (w : World) : Calls Try.prog 9 #[] w (RetRS w usual) := by
  go_enter Try.func9, Try.ntmps9
  go_wp2_with (go_at_call 45; refine call_retS (w := w) (l03Usual_c _) (Below.refl _ _) ?_; intro w1 v1 L1 hB hb hz hz2 ho hL)
  go_ret
  exact ⟨v1, rfl, hB, GoD.own_rd ho⟩
theorem usual_size : GoD.size usual ≤ 1073741824 := by decide
end Go.Proofs.Ytjbcjebiihgdgaa
