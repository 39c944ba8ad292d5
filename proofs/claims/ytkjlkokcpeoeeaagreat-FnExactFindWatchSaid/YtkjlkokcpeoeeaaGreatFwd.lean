/- The watch found: both sides alike. -/
import Derived.Test.YtkjlkokcpeoeeaaGreatFwc
namespace Go.Proofs.YtkjlkokcpeoeeaaGreat
open Go.RowKit

theorem copyWatch_id (w : WatchD) : implcopyWatch w = w := by
  unfold implcopyWatch
  rw [forL_map (f := implcopyWatch_f0) (g := implcopyEvent) (fun _ _ _ => rfl)]
  show (w.1, w.2.1, w.2.2.1, [] ++ w.2.2.2.map implcopyEvent) = w
  rw [show implcopyEvent = id from rfl, List.map_id]
  rfl
theorem l29Copy_id (w : WatchD) : specl29Copy w = w := by
  unfold specl29Copy specl29Events
  rw [forL_map (f := specl29Events_f0) (g := id) (fun _ _ _ => rfl)]
  show (w.1, w.2.1, w.2.2.1, [] ++ w.2.2.2.map id) = w
  rw [List.map_id]
  rfl
theorem findWatch_eq (x : SystemD) (i : Int) : specFindWatch x i = implFindWatch x i := by
  unfold specFindWatch implFindWatch
  rw [l29Copy_id, copyWatch_id]
  rfl
theorem findWatch_size (x : SystemD) (i : Int) : GoD.size (implFindWatch x i).1 ≤ GoD.size x := by
  unfold implFindWatch
  rw [copyWatch_id]
  cases hc : implwithin i 0 ((x.2.2.2.2.1.length : Int) - 1) with
  | false => exact Nat.zero_le _
  | true =>
    have := within_iff.1 hc
    have h1 := sz_get (nth_get (l := x.2.2.2.2.1) (i := Int.toNat i) (by omega)) (Nat.le_refl _)
    exact Nat.le_trans h1 (sz_fst (sz_snd (sz_snd (sz_snd (sz_snd (Nat.le_refl _))))))
end Go.Proofs.YtkjlkokcpeoeeaaGreat
