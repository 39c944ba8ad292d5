/- A store takes twelve files and no more: the law on StoreLimits is true. -/
import Derived.Test.YtceekipigpcilaaLSl
set_option linter.unusedVariables false
set_option linter.unusedSimpArgs false
namespace Go.Proofs.Ytceekipigpcilaa
open Go.RowKit
def flsGo : Nat → List Int → List FileD
  | _, [] => []
  | k, o :: r => (((k : Int) + 1, o, false, 0, []) : FileD) :: flsGo (k + 1) r
theorem flsGo_app : ∀ (l : List Int) (k : Nat) (o : Int), flsGo k (l ++ [o]) = flsGo k l ++ [(((k + l.length : Nat) : Int) + 1, o, false, 0, [])]
  | [], k, o => by simp [flsGo]
  | x :: l, k, o => by
    simp only [List.cons_append, flsGo, flsGo_app l (k + 1) o, List.length_cons]
    rw [show k + 1 + l.length = k + (l.length + 1) by omega]
theorem flsGo_len : ∀ (l : List Int) (k : Nat), (flsGo k l).length = l.length
  | [], _ => rfl
  | _ :: l, k => by simp [flsGo, flsGo_len l (k + 1)]
theorem flsGo_get : ∀ (l : List Int) (k i : Nat) (a : FileD), (flsGo k l)[i]? = some a → ∃ o, o ∈ l ∧ a = (((k + i : Nat) : Int) + 1, o, false, 0, [])
  | [], k, i, a, h => by simp [flsGo] at h
  | x :: l, k, i, a, h => by
    cases i with
    | zero => obtain rfl : _ = a := by simpa [flsGo] using h
              exact ⟨x, by simp, rfl⟩
    | succ i =>
      obtain ⟨o, h1, h2⟩ := flsGo_get l (k + 1) i a (by simpa [flsGo] using h)
      exact ⟨o, List.mem_cons_of_mem _ h1, by rw [h2, show k + 1 + i = k + (i + 1) by omega]⟩
def stOf (os : List Int) : StoreD := (specDefaultSchema, flsGo 0 os, (os.length : Int) + 1)
theorem schema_ok : implIsValidSchema specDefaultSchema = true := by kernel_rfl
theorem file_ok {i o : Int} (h1 : 1 ≤ i) (h2 : i ≤ 60) (h3 : 0 ≤ o) (h4 : o ≤ 2) : implIsValidFile specDefaultSchema (i, o, false, 0, []) = true := by
  unfold implIsValidFile
  simp only [forL, implIsValidFile_e0, Out.on, schema_ok, implisUser, implwithin]
  simp [h1, h2, h3, h4]
def Own (os : List Int) : Prop := ∀ o, o ∈ os → 0 ≤ o ∧ o ≤ 2
theorem store_ok {os : List Int} (hl : os.length ≤ 12) (ho : Own os) : implIsValidStore (stOf os) = true := by
  unfold implIsValidStore
  rw [forL_of_all (l := (stOf os).2.1) (k := 0) (fun i a hi => ?_)]
  · simp only [Out.on, implIsValidStore_e0, stOf, schema_ok, implwithin, flsGo_len]
    have h1 : ((os.length : Nat) : Int) ≤ 12 := by omega
    have h2 : (1 : Int) ≤ (os.length : Int) + 1 := by omega
    have h3 : (os.length : Int) + 1 ≤ 61 := by omega
    simp [h1, h2, h3]
  · have hi : (flsGo 0 os)[i]? = some a := hi
    have hlt : i < os.length := by
      have := (List.getElem?_eq_some_iff.1 hi).1
      rwa [flsGo_len] at this
    obtain ⟨o, h1, rfl⟩ := flsGo_get os 0 i a hi
    obtain ⟨h2, h3⟩ := ho o h1
    simp only [implIsValidStore_f0, stOf, Nat.zero_add]
    rw [file_ok (by omega) (by omega) h2 h3]
    have e1 : decide ((i : Int) + 1 ≥ (os.length : Int) + 1) = false := by simp; omega
    have e2 : (decide ((i : Int) > 0) && decide ((nth (flsGo 0 os) (Int.toNat ((i : Int) - 1))).1 ≥ (i : Int) + 1)) = false := by
      by_cases hp : (i : Int) > 0
      · rw [decide_eq_true hp, Bool.true_and]
        have hj : Int.toNat ((i : Int) - 1) < (flsGo 0 os).length := by rw [flsGo_len]; omega
        obtain ⟨o', _, h5⟩ := flsGo_get os 0 _ _ (nth_get hj)
        rw [h5]
        simp
        omega
      · rw [decide_eq_false hp]; rfl
    rw [e1, e2]
    rfl
theorem create_ok {os : List Int} {o : Int} (hl : os.length < 12) (ho : Own os) (h1 : 0 ≤ o) (h2 : o ≤ 2) : implCreateFile (stOf os) (0, o, false, 0, []) = (stOf (os ++ [o]), (os.length : Int) + 1, true) := by
  unfold implCreateFile
  rw [store_ok (by omega) ho]
  have e1 : decide (((stOf os).2.1.length : Int) ≥ 12) = false := by
    simp only [stOf, flsGo_len]; simp; omega
  have e2 : implIsValidFile (stOf os).1 ((stOf os).2.2, o, false, 0, []) = true := file_ok (i := (os.length : Int) + 1) (by omega) (by omega) h1 h2
  simp only [implcopyFile, e1, e2, Bool.not_true, Bool.false_or, cond_false, implcopyStore, copyFiles_id]
  have e3 : IntKind.i64.wrap ((stOf os).2.2 + 1) = ((os ++ [o]).length : Int) + 1 := by
    rw [IntWalk.i64_in _ (by show _ ∧ _; simp only [stOf]; omega)]
    simp [stOf]
  rw [e3]
  simp only [stOf, flsGo_app, Nat.zero_add]
theorem create_no {os : List Int} {f : FileD} (hl : os.length = 12) : (implCreateFile (stOf os) f).2.2 = false := by
  unfold implCreateFile
  have e1 : decide (((stOf os).2.1.length : Int) ≥ 12) = true := by
    simp only [stOf, flsGo_len, hl]; rfl
  simp only [e1, Bool.true_or, Bool.or_true, cond_true]
theorem tmod3 {x : Int} (h : 0 ≤ x) : 0 ≤ Int.tmod x 3 ∧ Int.tmod x 3 ≤ 2 := ⟨Int.tmod_nonneg _ h, by have := Int.tmod_lt_of_pos x (show (0 : Int) < 3 by decide); omega⟩
theorem place_own (code : List UInt8) (k : Nat) : 0 ≤ Int.tmod (nth (specDrawPlaces code) (Int.toNat (Int.tmod ((k : Nat) : Int) 8))) 3 ∧ Int.tmod (nth (specDrawPlaces code) (Int.toNat (Int.tmod ((k : Nat) : Int) 8))) 3 ≤ 2 := by
  refine tmod3 (places_bd code _ (List.mem_of_getElem? (nth_get ?_))).1
  have h1 := Int.tmod_lt_of_pos ((k : Nat) : Int) (show (0 : Int) < 8 by decide)
  have h2 := places_len code
  omega
theorem limits_go (code : List UInt8) : ∀ (n k : Nat) (os : List Int), k + n = 14 → os.length = min k 12 → Own os →
    ∃ os', forN (lawsFnStoreLimits_f0 code) lawsFnStoreLimits_e0 n k ((os.length : Int), stOf os) = .brk (12, stOf os') ∧ os'.length = 12 ∧ Own os'
  | 0, k, os, hk, hl, ho => by
    have h12 : os.length = 12 := by omega
    exact ⟨os, by simp [forN, lawsFnStoreLimits_e0, h12], h12, ho⟩
  | n + 1, k, os, hk, hl, ho => by
    obtain ⟨h1, h2⟩ := place_own code k
    simp only [forN, lawsFnStoreLimits_f0]
    generalize Int.tmod (nth (specDrawPlaces code) (Int.toNat (Int.tmod ((k : Nat) : Int) 8))) 3 = o at h1 h2
    by_cases hlt : os.length < 12
    · rw [create_ok hlt ho h1 h2]
      simp only [cond_true]
      have e : IntKind.i64.wrap ((os.length : Int) + 1) = ((os ++ [o]).length : Int) := by
        rw [IntWalk.i64_in _ (by show _ ∧ _; omega)]; simp
      rw [e]
      exact limits_go code n (k + 1) (os ++ [o]) (by omega) (by simp; omega) (fun x hx => by
        rcases List.mem_append.1 hx with hx | hx
        · exact ho x hx
        · obtain rfl := List.mem_singleton.1 hx; exact ⟨h1, h2⟩)
    · rw [create_no (by omega)]
      simp only [cond_false]
      exact limits_go code n (k + 1) os (by omega) (by omega) ho
theorem fileIDs_len (s : StoreD) : (implFileIDs s).length = s.2.1.length := by
  unfold implFileIDs
  rw [forL_map (f := implFileIDs_f0) (e := implFileIDs_e0) (g := fun a => a.1) (fun k a s => rfl) s.2.1 0 []]
  simp [Out.on, implFileIDs_e0]
theorem lawsFnStoreLimits_true (code : List UInt8) : lawsFnStoreLimits code = true := by
  unfold lawsFnStoreLimits
  cases lawsbig code with
  | true => rfl
  | false =>
    obtain ⟨os, h1, h2, h3⟩ := limits_go code 14 0 [] rfl rfl (fun o h => by simp at h)
    have h1 : forN (lawsFnStoreLimits_f0 code) lawsFnStoreLimits_e0 (Int.toNat (14 : Int)) 0 (0, (implNewStore specDefaultSchema)) = _ := h1
    simp only [cond_false, h1, Out.on, fileIDs_len, store_ok (Nat.le_of_eq h2) h3]
    simp only [stOf, flsGo_len, h2]
    rfl
end Go.Proofs.Ytceekipigpcilaa
