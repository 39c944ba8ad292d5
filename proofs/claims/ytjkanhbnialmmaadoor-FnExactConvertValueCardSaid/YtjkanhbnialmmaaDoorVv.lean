/- Which values are valid. -/
import Derived.Test.YtjkanhbnialmmaaDoorIn
import Derived.Test.YtjkanhbnialmmaaDoorTy
import Derived.Test.YtjkanhbnialmmaaDoorOwn
import Derived.Outline
import Derived.Laws.StructEq
namespace Go.Proofs.YtjkanhbnialmmaaDoor
open Go.RowKit
open GoD (rd own)

def lowB (b : UInt8) : Bool := decide (97 ≤ b.toNat) && decide (b.toNat ≤ 122)
/-- small letters alone, at least one, at most m -/
def textOk (s : ByteArray) (m : Int) : Bool := s.data.toList.all lowB && inR (s.size : Int) 1 m
theorem text_bad {s : ByteArray} {m : Int} {k : Nat} {b : UInt8} (hk : k < s.size) (hb : s[k] = b) (h : lowB b = false) : textOk s m = false := by
  unfold textOk
  rw [Bool.and_eq_false_iff]
  left
  rw [List.all_eq_false]
  exact ⟨b, List.mem_iff_getElem.2 ⟨k, by rw [Array.length_toList]; exact hk, hb⟩, by rw [h]; exact Bool.false_ne_true⟩
theorem text_good {s : ByteArray} {m : Int} (h : ∀ k (hk : k < s.size), lowB s[k] = true) : textOk s m = inR (s.size : Int) 1 m := by
  unfold textOk
  have : s.data.toList.all lowB = true := by
    rw [List.all_eq_true]
    intro b hb
    obtain ⟨k, hk, e⟩ := List.mem_iff_getElem.1 hb
    rw [← e]
    exact h k (by rw [Array.length_toList] at hk; exact hk)
  rw [this, Bool.true_and]
set_option maxRecDepth 20000 in
set_option maxHeartbeats 1000000 in
theorem l02Text_c (w : World) (s : ByteArray) (m : Int) (hs : s.size ≤ maxLen) : Calls Tryd.prog 44 #[.string s, .int .i64 m] w (Ret w (.bool (textOk s m))) := by
  unfold maxLen at hs
  have hB : ∀ k b (hk : k < s.size), s[k] = b → lowB b = false → textOk s m = false := fun k b hk hb h => text_bad hk hb h
  have hG : (∀ k (hk : k < s.size), lowB s[k] = true) → textOk s m = inR (s.size : Int) 1 m := text_good
  generalize textOk s m = r at *
  have HB := Lib.hid hB; clear hB
  have HG := Lib.hid hG; clear hG
  go_enter Tryd.func44, Tryd.ntmps44
  go_wp2
  go_loop [5] (fun i => ∃ k : Nat, k ≤ s.size ∧ i = .int .i64 k ∧ Hid (∀ j (hj : j < s.size), j < k → lowB s[j] = true)) (fun i => s.size - (intOf i).toNat)
  case atStart => exact ⟨0, Nat.zero_le _, rfl, Lib.hid (fun j _ hj => absurd hj (Nat.not_lt_zero _))⟩
  case round =>
    obtain ⟨k, hk, rfl, hlow⟩ := hrel
    by_cases hkl : k < s.size
    · obtain ⟨x, hx⟩ : ∃ x, s[k] = x := ⟨_, rfl⟩
      have HX := Lib.hid hx
      by_cases h97 : (x.toNat : Int) < 97
      · obtain rfl : r = false := HB.out k x hkl HX.out (by unfold lowB; simp only [Bool.and_eq_false_iff, decide_eq_false_iff_not]; omega)
        go_wp2
        go_ret
        exact ⟨rfl, Below.refl _ _⟩
      by_cases h122 : 122 < (x.toNat : Int)
      · obtain rfl : r = false := HB.out k x hkl HX.out (by unfold lowB; simp only [Bool.and_eq_false_iff, decide_eq_false_iff_not]; omega)
        go_wp2
        go_ret
        exact ⟨rfl, Below.refl _ _⟩
      go_wp2
      go_round
      case rel => exact ⟨k + 1, by omega, by go_num, Lib.hid (fun j hj hjk => by
        by_cases e : j = k
        · subst e
          rw [HX.out]
          unfold lowB
          simp only [Bool.and_eq_true, decide_eq_true_eq]
          omega
        · exact hlow.out j hj (by omega))⟩
      case measure => simp [intOf]; omega
    · obtain rfl : k = s.size := by omega
      have hr := HG.out (fun j hj => hlow.out j hj hj)
      have HR := Lib.hid hr.symm; clear hr
      go_wp2_with (first | (go_at_call 19; refine call_ret (w := w) (l01In_b _ (s.size : Int) 1 m r HR.out) (by go_grown) ?_; intro g1 hG1 hb hz1 hz2; clear hb hz2))
      go_ret
      exact ⟨rfl, hG1⟩
set_option maxRecDepth 20000 in
set_option maxHeartbeats 1000000 in
theorem implIsValidString_c (w : World) (s : ByteArray) (hs : s.size ≤ maxLen) : Calls Tryd.prog 39 #[.string s] w (Ret w (.bool (textOk s 6))) := by
  unfold maxLen at hs
  have hB : ∀ k b (hk : k < s.size), s[k] = b → lowB b = false → textOk s 6 = false := fun k b hk hb h => text_bad hk hb h
  have hG : (∀ k (hk : k < s.size), lowB s[k] = true) → textOk s 6 = inR (s.size : Int) 1 6 := text_good
  generalize textOk s 6 = r at *
  have HB := Lib.hid hB; clear hB
  have HG := Lib.hid hG; clear hG
  go_enter Tryd.func39, Tryd.ntmps39
  go_wp2
  go_loop [6] (fun i => ∃ k : Nat, k ≤ s.size ∧ i = .int .i64 k ∧ Hid (∀ j (hj : j < s.size), j < k → lowB s[j] = true)) (fun i => s.size - (intOf i).toNat)
  case atStart => exact ⟨0, Nat.zero_le _, rfl, Lib.hid (fun j _ hj => absurd hj (Nat.not_lt_zero _))⟩
  case round =>
    obtain ⟨k, hk, rfl, hlow⟩ := hrel
    by_cases hkl : k < s.size
    · obtain ⟨x, hx⟩ : ∃ x, s[k] = x := ⟨_, rfl⟩
      have HX := Lib.hid hx
      by_cases h97 : (x.toNat : Int) < 97
      · obtain rfl : r = false := HB.out k x hkl HX.out (by unfold lowB; simp only [Bool.and_eq_false_iff, decide_eq_false_iff_not]; omega)
        go_wp2
        go_ret
        exact ⟨rfl, Below.refl _ _⟩
      by_cases h122 : 122 < (x.toNat : Int)
      · obtain rfl : r = false := HB.out k x hkl HX.out (by unfold lowB; simp only [Bool.and_eq_false_iff, decide_eq_false_iff_not]; omega)
        go_wp2
        go_ret
        exact ⟨rfl, Below.refl _ _⟩
      go_wp2
      go_round
      case rel => exact ⟨k + 1, by omega, by go_num, Lib.hid (fun j hj hjk => by
        by_cases e : j = k
        · subst e
          rw [HX.out]
          unfold lowB
          simp only [Bool.and_eq_true, decide_eq_true_eq]
          omega
        · exact hlow.out j hj (by omega))⟩
      case measure => simp [intOf]; omega
    · obtain rfl : k = s.size := by omega
      have hr := HG.out (fun j hj => hlow.out j hj hj)
      have HR := Lib.hid hr.symm; clear hr
      go_wp2_with (first | (go_at_call 21; refine call_ret (w := w) (within_b _ (s.size : Int) 1 6 r HR.out) (by go_grown) ?_; intro g1 hG1 hb hz1 hz2; clear hb hz2))
      go_ret
      exact ⟨rfl, hG1⟩
theorem l02Text_b (w : World) (s : ByteArray) (m : Int) (r : Bool) (hs : s.size ≤ maxLen) (h : textOk s m = r) : Calls Tryd.prog 44 #[.string s, .int .i64 m] w (Ret w (.bool r)) := h ▸ l02Text_c w s m hs
theorem implIsValidString_b (w : World) (s : ByteArray) (r : Bool) (hs : s.size ≤ maxLen) (h : textOk s 6 = r) : Calls Tryd.prog 39 #[.string s] w (Ret w (.bool r)) := h ▸ implIsValidString_c w s hs
theorem specIsValidString_b (w : World) (s : ByteArray) (r : Bool) (hs : s.size ≤ maxLen) (h : textOk s 6 = r) : Calls Tryd.prog 38 #[.string s] w (Ret w (.bool r)) := by
  have HS := Lib.hid hs
  unfold maxLen at hs
  have HR := Lib.hid h; clear h
  go_enter Tryd.func38, Tryd.ntmps38
  go_wp2_with (first | (go_at_call 44; refine call_ret (w := w) (l02Text_b _ s 6 r HS.out HR.out) (by go_grown) ?_; intro g1 hG1 hb hz1 hz2; clear hb hz2))
  go_ret
  exact ⟨rfl, hG1⟩
def okVal (v : ValueD) : Bool :=
  if v.1 = 0 then v.2.1 == 0 && eqb v.2.2 ⟨#[]⟩ else if v.1 = 1 then inR v.2.1 0 999 && eqb v.2.2 ⟨#[]⟩ else if v.1 = 2 then textOk v.2.2 6 && v.2.1 == 0 else false
theorem empty_eqb (s : ByteArray) : s.toList.isEmpty = eqb s ⟨#[]⟩ := by
  rw [← eqb_str, show (⟨#[]⟩ : ByteArray).toList = [] by rw [ByteArray.toList_eq]]
  cases s.toList <;> rfl
theorem eqZero (i : Int) (s : ByteArray) (w : World) : (binOp .eql 30 (.agg #[.int .i64 0, .int .i64 i, .string s]) (.agg #[.int .i64 0, .int .i64 0, .string ⟨#[]⟩])).run Tryd.prog w = .ok (.bool (i == 0 && s.toList == (⟨#[]⟩ : ByteArray).toList)) w := by
  have u3 := Tryd.underlying3
  have a3 := Tryd.isAgg3
  have z3 := Tryd.sizeOf3
  have u9 := Tryd.underlying9
  have a9 := Tryd.isAgg9
  have z9 := Tryd.sizeOf9
  have hS : Tryd.prog.underlying 30 = some (.struct (Tryd.prog.fieldsOf 30)) := by kernel_rfl
  have hp : Tryd.prog.stoodInHeld 30 = false := by kernel_rfl
  rw [run_eql_struct, show (10000 : Nat) = 9999 + 1 from rfl, run_equalIn_agg w 9999 30 _ _ hS hp]
  simp only [Program.fieldsOf, Tryd.underlying30]
  go_simp
  by_cases h1 : i = 0 <;> simp [h1]
  cases s.toList <;> simp
set_option maxRecDepth 20000 in
set_option maxHeartbeats 1000000 in
theorem specIsValidValue_c (w : World) (a1 a2 : Int) (a3 : ByteArray) (h3 : a3.size ≤ maxLen) : Calls Tryd.prog 24 #[.agg #[.int .i64 a1, .int .i64 a2, .string a3]] w (Ret w (.bool (okVal (a1, a2, a3)))) := by
  have HS := Lib.hid h3
  unfold maxLen at h3
  have es := eqb_str
  by_cases h0 : a1 = 0
  · subst h0
    have hv : okVal (0, a2, a3) = (a2 == 0 && eqb a3 ⟨#[]⟩) := rfl
    rw [hv]; clear hv
    have hz := fun w => eqZero a2 a3 w
    rw [eqb_str] at hz
    generalize (a2 == 0 && eqb a3 ⟨#[]⟩) = r at *
    clear es
    go_enter Tryd.func24, Tryd.ntmps24
    go_wp2
    go_ret
    exact ⟨rfl, by go_grown⟩
  by_cases h1 : a1 = 1
  · subst h1
    have hv : okVal (1, a2, a3) = (inR a2 0 999 && eqb a3 ⟨#[]⟩) := rfl
    rw [hv]; clear hv h0
    cases hr : inR a2 0 999
    · have HR := Lib.hid hr; clear hr
      rw [Bool.false_and]
      go_enter Tryd.func24, Tryd.ntmps24
      go_wp2_with (first | (go_at_call 19; refine call_ret (w := w) (l01In_b _ a2 0 999 false HR.out) (by go_grown) ?_; intro g1 hG1 hb hz1 hz2; have q0 := fun o => bcell hb w.heap.size o (by first | go_size | omega); clear hb hz2))
      go_ret
      exact ⟨rfl, by go_grown⟩
    · have HR := Lib.hid hr; clear hr
      rw [Bool.true_and]
      generalize he : eqb a3 ⟨#[]⟩ = r
      have he2 : a3.toList.isEmpty = r := by rw [empty_eqb]; exact he
      have HEE := Lib.hid he; clear he es
      go_enter Tryd.func24, Tryd.ntmps24
      go_wp2_with (first | (go_at_call 19; refine call_ret (w := w) (l01In_b _ a2 0 999 true HR.out) (by go_grown) ?_; intro g1 hG1 hb hz1 hz2; have q0 := fun o => bcell hb w.heap.size o (by first | go_size | omega); clear hb hz2))
      go_ret
      exact ⟨rfl, by go_grown⟩
  by_cases h2 : a1 = 2
  · subst h2
    have hv : okVal (2, a2, a3) = (textOk a3 6 && a2 == 0) := rfl
    rw [hv]; clear hv h0 h1
    cases hr : textOk a3 6
    · have HR := Lib.hid hr; clear hr
      rw [Bool.false_and]
      go_enter Tryd.func24, Tryd.ntmps24
      go_wp2_with (first | (go_at_call 38; refine call_ret (w := w) (specIsValidString_b _ a3 false HS.out HR.out) (by go_grown) ?_; intro g1 hG1 hb hz1 hz2; have q0 := fun o => bcell hb w.heap.size o (by first | go_size | omega); clear hb hz2))
      go_ret
      exact ⟨rfl, by go_grown⟩
    · have HR := Lib.hid hr; clear hr
      rw [Bool.true_and]
      go_enter Tryd.func24, Tryd.ntmps24
      go_wp2_with (first | (go_at_call 38; refine call_ret (w := w) (specIsValidString_b _ a3 true HS.out HR.out) (by go_grown) ?_; intro g1 hG1 hb hz1 hz2; have q0 := fun o => bcell hb w.heap.size o (by first | go_size | omega); clear hb hz2))
      go_ret
      exact ⟨rfl, by go_grown⟩
  have hv : okVal (a1, a2, a3) = false := by unfold okVal; rw [if_neg h0, if_neg h1, if_neg h2]
  rw [hv]; clear hv
  go_enter Tryd.func24, Tryd.ntmps24
  go_wp2
  go_ret
  exact ⟨rfl, by go_grown⟩
theorem specIsValidValue_b (w : World) (a1 a2 : Int) (a3 : ByteArray) (r : Bool) (h3 : a3.size ≤ maxLen) (h : okVal (a1, a2, a3) = r) : Calls Tryd.prog 24 #[.agg #[.int .i64 a1, .int .i64 a2, .string a3]] w (Ret w (.bool r)) := h ▸ specIsValidValue_c w a1 a2 a3 h3
set_option maxRecDepth 20000 in
set_option maxHeartbeats 1000000 in
theorem implIsValidValue_c (w : World) (a1 a2 : Int) (a3 : ByteArray) (h3 : a3.size ≤ maxLen) : Calls Tryd.prog 27 #[.agg #[.int .i64 a1, .int .i64 a2, .string a3]] w (Ret w (.bool (okVal (a1, a2, a3)))) := by
  have HS := Lib.hid h3
  unfold maxLen at h3
  have es := eqb_str
  by_cases h0 : a1 = 0
  · subst h0
    have hv : okVal (0, a2, a3) = (a2 == 0 && eqb a3 ⟨#[]⟩) := rfl
    rw [hv]; clear hv
    have hz := fun w => eqZero a2 a3 w
    rw [eqb_str] at hz
    generalize (a2 == 0 && eqb a3 ⟨#[]⟩) = r at *
    clear es
    go_enter Tryd.func27, Tryd.ntmps27
    go_wp2
    go_ret
    exact ⟨rfl, by go_grown⟩
  by_cases h1 : a1 = 1
  · subst h1
    have hv : okVal (1, a2, a3) = (inR a2 0 999 && eqb a3 ⟨#[]⟩) := rfl
    rw [hv]; clear hv h0
    cases hr : inR a2 0 999
    · have HR := Lib.hid hr; clear hr
      rw [Bool.false_and]
      go_enter Tryd.func27, Tryd.ntmps27
      go_wp2_with (first | (go_at_call 21; refine call_ret (w := w) (within_b _ a2 0 999 false HR.out) (by go_grown) ?_; intro g1 hG1 hb hz1 hz2; have q0 := fun o => bcell hb w.heap.size o (by first | go_size | omega); clear hb hz2))
      go_ret
      exact ⟨rfl, by go_grown⟩
    · have HR := Lib.hid hr; clear hr
      rw [Bool.true_and]
      generalize he : eqb a3 ⟨#[]⟩ = r
      have he2 : a3.toList.isEmpty = r := by rw [empty_eqb]; exact he
      have HEE := Lib.hid he; clear he es
      go_enter Tryd.func27, Tryd.ntmps27
      go_wp2_with (first | (go_at_call 21; refine call_ret (w := w) (within_b _ a2 0 999 true HR.out) (by go_grown) ?_; intro g1 hG1 hb hz1 hz2; have q0 := fun o => bcell hb w.heap.size o (by first | go_size | omega); clear hb hz2))
      go_ret
      exact ⟨rfl, by go_grown⟩
  by_cases h2 : a1 = 2
  · subst h2
    have hv : okVal (2, a2, a3) = (textOk a3 6 && a2 == 0) := rfl
    rw [hv]; clear hv h0 h1
    cases hr : textOk a3 6
    · have HR := Lib.hid hr; clear hr
      rw [Bool.false_and]
      go_enter Tryd.func27, Tryd.ntmps27
      go_wp2_with (first | (go_at_call 39; refine call_ret (w := w) (implIsValidString_b _ a3 false HS.out HR.out) (by go_grown) ?_; intro g1 hG1 hb hz1 hz2; have q0 := fun o => bcell hb w.heap.size o (by first | go_size | omega); clear hb hz2))
      go_ret
      exact ⟨rfl, by go_grown⟩
    · have HR := Lib.hid hr; clear hr
      rw [Bool.true_and]
      go_enter Tryd.func27, Tryd.ntmps27
      go_wp2_with (first | (go_at_call 39; refine call_ret (w := w) (implIsValidString_b _ a3 true HS.out HR.out) (by go_grown) ?_; intro g1 hG1 hb hz1 hz2; have q0 := fun o => bcell hb w.heap.size o (by first | go_size | omega); clear hb hz2))
      go_ret
      exact ⟨rfl, by go_grown⟩
  have hv : okVal (a1, a2, a3) = false := by unfold okVal; rw [if_neg h0, if_neg h1, if_neg h2]
  rw [hv]; clear hv
  go_enter Tryd.func27, Tryd.ntmps27
  go_wp2
  go_ret
  exact ⟨rfl, by go_grown⟩
theorem implIsValidValue_b (w : World) (a1 a2 : Int) (a3 : ByteArray) (r : Bool) (h3 : a3.size ≤ maxLen) (h : okVal (a1, a2, a3) = r) : Calls Tryd.prog 27 #[.agg #[.int .i64 a1, .int .i64 a2, .string a3]] w (Ret w (.bool r)) := h ▸ implIsValidValue_c w a1 a2 a3 h3
end Go.Proofs.YtjkanhbnialmmaaDoor
