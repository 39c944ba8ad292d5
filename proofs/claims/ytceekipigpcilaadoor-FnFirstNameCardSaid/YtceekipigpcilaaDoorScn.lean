/- strings.Contains of one byte, as a contract of the machine. -/
import Derived.Test.YtceekipigpcilaaDoorSh
import Derived.Test.YtceekipigpcilaaDoorZc
import Derived.KernelRfl
set_option linter.unusedVariables false
set_option linter.unusedSimpArgs false
namespace Go.Proofs.YtceekipigpcilaaDoor
open Go.RowKit
def hasByte (s : ByteArray) (c : UInt8) : Bool := decide (0 ≤ Lib.indexByte s.data.toList c)
theorem acalls_ss_b {P : Program} {f : Nat} (hok : FnOk P f) {s t : ByteArray} {b : Bool} (h : ∀ w, Calls P f #[.string s, .string t] w (fun e w' => e = .returned (.bool b) ∧ w' = w)) : ACalls P f [.s s, .s t] (.b b) := by
  refine ⟨hok, fun w hg F vals hF hall => ?_⟩
  cases hall with
  | cons h1 h2 =>
    cases h2 with
    | cons h2 h3 =>
      cases h3
      obtain ⟨rfl, _⟩ := h1
      obtain ⟨rfl, _⟩ := h2
      refine (h w).mono ?_
      rintro e w' ⟨rfl, rfl⟩
      exact ⟨_, fun _ => [], rfl, Below.refl _ _, fun _ => List.nodup_nil, fun k b hm => by simp at hm, fun k k' b hm => by simp at hm, rfl⟩
theorem hasByte_a (s : ByteArray) (c : UInt8) : ACalls Tryd.prog 26 [.s s, .s ⟨#[c]⟩] (.b (hasByte s c)) := acalls_ss_b (by unfold FnOk; kernel_rfl) fun w => Sh.strings_Contains_one s c w
end Go.Proofs.YtceekipigpcilaaDoor
