/- The first file with a base name is listed under that name alone, later ones with their ID: the law on FirstName is true. -/
import Derived.Test.YtceekipigpcilaaDoorLFn
set_option linter.unusedVariables false
set_option linter.unusedSimpArgs false
namespace Go.Proofs.YtceekipigpcilaaDoor
open Go.RowKit
def fig (n : Int) : ByteArray := ⟨#[UInt8.ofNat (48 + n.toNat)]⟩
theorem numeral_fig {n : Int} (h0 : 0 ≤ n) (h1 : n < 10) : numeral n = fig n := by
  unfold numeral fig Lib.itoa
  rw [if_neg (by omega)]
  show (⟨(Lib.decDigits n.toNat).toArray⟩ : ByteArray) = _
  rw [dig_small (by omega)]
def entC_f (s : StoreD) (_ : Nat) (a : Int) (t : (List ByteArray) × (List ByteArray)) : Rd (List ByteArray) ((List ByteArray) × (List ByteArray)) (List ByteArray) :=
  bif (slicesContains_string t.1 (implBaseName (((implFindFile s a)).1))) then .next (t.1 ++ [(implBaseName (((implFindFile s a)).1))], t.2 ++ [(((implBaseName (((implFindFile s a)).1)) ++ (⟨#[46]⟩ : ByteArray)) ++ (fig a))]) else .next (t.1 ++ [(implBaseName (((implFindFile s a)).1))], t.2 ++ [(implBaseName (((implFindFile s a)).1))])
def entC (s : StoreD) (ids : List Int) : List ByteArray := (Out.on (forL (entC_f s) implEntryNames_e0 ids 0 ([], [])) (fun y0 => y0))
theorem entC_eq (s : StoreD) : implEntryNames s [3, 1, 2] = entC s [3, 1, 2] := by
  unfold implEntryNames entC
  rw [forL_congr (g := entC_f s) (fun _ _ => rfl) [3, 1, 2] 0 ([], []) fun i a t hi => ?_]
  have ha : a ∈ [(3 : Int), 1, 2] := List.mem_of_getElem? hi
  have h : 0 ≤ a ∧ a < 10 := by simp at ha; omega
  unfold implEntryNames_f0 entC_f
  rw [numeral_fig h.1 h.2]
def disC (s : StoreD) (ids : List Int) : List Int := (Out.on (forL (implDisambiguatedIDs_f0 ids) implDisambiguatedIDs_e0 (entC s ids) 0 []) (fun y0 => y0))
theorem disC_eq (s : StoreD) : implDisambiguatedIDs s [3, 1, 2] = disC s [3, 1, 2] := by
  unfold implDisambiguatedIDs disC
  rw [entC_eq]
def firstC (t : Int) : Bool := (Out.on (forN (firstF t) lawsFnFirstName_e0 (Int.toNat (3 : Int)) 0 (specNewStore specDefaultSchema)) (fun y0 => ((lawssameTexts (entC y0 [3, 1, 2]) [(nth ([⟨#[105, 110, 107]⟩, ⟨#[115, 101, 97]⟩] : (List ByteArray)) (Int.toNat t)), ((nth ([⟨#[105, 110, 107]⟩, ⟨#[115, 101, 97]⟩] : (List ByteArray)) (Int.toNat t)) ++ (⟨#[46, 49]⟩ : ByteArray)), ((nth ([⟨#[105, 110, 107]⟩, ⟨#[115, 101, 97]⟩] : (List ByteArray)) (Int.toNat t)) ++ (⟨#[46, 50]⟩ : ByteArray))]) && (lawssameInts (disC y0 [3, 1, 2]) [1, 2]))))
theorem firstC_0 : firstC 0 = true := by kernel_rfl
theorem firstC_1 : firstC 1 = true := by kernel_rfl
theorem lawsFnFirstName_true (code : List UInt8) : lawsFnFirstName code = true := by
  unfold lawsFnFirstName
  cases lawsbig code with
  | true => rfl
  | false =>
    simp only [cond_false, entC_eq, disC_eq]
    show firstC (Int.tmod (nth (specDrawPlaces code) 0) 2) = true
    have h := (place_mod code 0 (by decide) (m := 2) (by decide)).2
    generalize Int.tmod (nth (specDrawPlaces code) 0) 2 = t at h
    have ht : t = 0 ∨ t = 1 := by omega
    rcases ht with rfl | rfl
    · exact firstC_0
    · exact firstC_1
end Go.Proofs.YtceekipigpcilaaDoor
