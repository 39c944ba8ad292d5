/- Strings of letters as small numbers. -/
import Derived.Test.YtjkanhbnialmmaaDoorFi
import Derived.Lib.Atoi
import Derived.Test.YtjkanhbnialmmaaDoorTy
import Derived.Outline
namespace Go.Proofs.YtjkanhbnialmmaaDoor
open Go.RowKit
open GoD (rd own)

theorem eqb_ne {α : Type} [GoD α] {a b : α} (h : ¬ a = b) : eqb a b = false := by
  unfold eqb
  exact @decide_eq_false _ (_) h
theorem decFrom_append (r : List UInt8) : ∀ (l : List UInt8) (acc : Nat), Lib.decFrom acc (l ++ r) = (Lib.decFrom acc l).bind (fun a => Lib.decFrom a r)
  | [], acc => rfl
  | b :: l, acc => by
    simp only [List.cons_append, Lib.decFrom]
    cases Lib.digitVal b with
    | none => rfl
    | some d => exact decFrom_append r l _
theorem digitVal_of (d : Nat) (h : d < 10) : Lib.digitVal (UInt8.ofNat (48 + d)) = some d := by
  have h1 : (UInt8.ofNat (48 + d)).toNat = 48 + d := by rw [UInt8.toNat_ofNat']; omega
  unfold Lib.digitVal
  rw [h1, if_pos (by omega)]
  congr 1
  omega
theorem decFrom_digits : ∀ n : Nat, Lib.decFrom 0 (Lib.decDigits n) = some n := by
  intro n
  induction n using Nat.strongRecOn with
  | ind n ih =>
    by_cases h : n < 10
    · rw [dig_small h]
      simp only [Lib.decFrom, digitVal_of n h]
      simp
    · rw [dig_step h, decFrom_append, ih (n / 10) (by omega)]
      simp only [Option.bind_some, Lib.decFrom, digitVal_of (n % 10) (Nat.mod_lt _ (by decide))]
      congr 1
      omega
theorem digits_all : ∀ n : Nat, ∀ b, b ∈ Lib.decDigits n → 48 ≤ b.toNat ∧ b.toNat ≤ 57 := by
  intro n
  induction n using Nat.strongRecOn with
  | ind n ih =>
    intro b hb
    by_cases h : n < 10
    · rw [dig_small h] at hb
      have e := List.mem_singleton.1 hb
      rw [e, UInt8.toNat_ofNat']
      omega
    · rw [dig_step h] at hb
      rcases List.mem_append.1 hb with hb | hb
      · exact ih (n / 10) (by omega) b hb
      · have e := List.mem_singleton.1 hb
        rw [e, UInt8.toNat_ofNat']
        omega
theorem digits_ne (n : Nat) : Lib.decDigits n ≠ [] := by
  by_cases h : n < 10
  · rw [dig_small h]; simp
  · rw [dig_step h]; simp
theorem atoi_digits (n : Nat) : Lib.atoi (Lib.decDigits n) = some (n : Int) := by
  have h1 := decFrom_digits n
  have h2 := digits_all n
  have h3 := digits_ne n
  generalize Lib.decDigits n = l at *
  cases l with
  | nil => exact absurd rfl h3
  | cons b r =>
    have hb := h2 b (by simp)
    have e45 : (b == 45) = false := by
      rw [beq_eq_false_iff_ne]
      intro e
      rw [e] at hb
      exact absurd hb.1 (by decide)
    have e43 : (b == 43) = false := by
      rw [beq_eq_false_iff_ne]
      intro e
      rw [e] at hb
      exact absurd hb.1 (by decide)
    simp only [Lib.atoi, e45, e43, Lib.decNat, List.isEmpty_cons, h1]
    rfl
theorem digits_len : ∀ (k n : Nat), n < 10 ^ (k + 1) → (Lib.decDigits n).length ≤ k + 1
  | 0, n, h => by rw [dig_small (by simpa using h)]; simp
  | k + 1, n, h => by
    by_cases h10 : n < 10
    · rw [dig_small h10]; simp
    · have := digits_len k (n / 10) (by rw [Nat.pow_succ] at h; omega)
      rw [dig_step h10, List.length_append]
      simp only [List.length_singleton]
      omega
theorem numeral_nat (n : Nat) : numeral (n : Int) = ⟨(Lib.decDigits n).toArray⟩ := by
  unfold numeral Lib.itoa
  rw [if_neg (by omega)]
  rfl
theorem numeral_list (n : Nat) : (numeral (n : Int)).data.toList = Lib.decDigits n := by rw [numeral_nat]
theorem numeral_inj {n m : Nat} (h : numeral (n : Int) = numeral (m : Int)) : n = m := by
  have h1 := atoi_digits n
  have h2 := atoi_digits m
  rw [← numeral_list, h, numeral_list, h2] at h1
  have := Option.some.inj h1
  omega

/-- the number up to a thousand millions that s spells -/
noncomputable def parseU (s : ByteArray) : Option Nat := @dite _ (∃ n : Nat, n ≤ 1000000000 ∧ numeral (n : Int) = s) (Classical.propDecidable _) (fun h => some h.choose) (fun _ => none)
theorem parseU_yes {s : ByteArray} {n : Nat} (h : n ≤ 1000000000) (e : numeral (n : Int) = s) : parseU s = some n := by
  have hex : ∃ n : Nat, n ≤ 1000000000 ∧ numeral (n : Int) = s := ⟨n, h, e⟩
  unfold parseU
  rw [dif_pos hex]
  congr 1
  exact numeral_inj (hex.choose_spec.2.trans e.symm)
theorem parseU_no {s : ByteArray} (h : ∀ n : Nat, n ≤ 1000000000 → numeral (n : Int) ≠ s) : parseU s = none := by
  unfold parseU
  rw [dif_neg (fun ⟨n, h1, h2⟩ => h n h1 h2)]
def optV : Option Nat → Value
  | some n => .tuple #[.int .i64 n, .bool true]
  | none => .tuple #[.int .i64 0, .bool false]

def errOk (w : World) : Prop := ∃ tp p, w.var? Tryd.prog "strconv.ErrSyntax" = some #[.iface tp p]
theorem gErr : Tryd.prog.globalNamed "strconv.ErrSyntax" = some 0 := by kernel_rfl
theorem errOk.keep {w w' : World} (h : errOk w) (hb : Below w.heap.size w w') : errOk w' := by
  obtain ⟨tp, p, h⟩ := h
  exact ⟨tp, p, Go.Joins.var_stays gErr h hb (Nat.le_refl _)⟩
set_option maxRecDepth 20000 in
theorem implParseUint_c (w : World) (s : ByteArray) (hs : s.size ≤ maxLen) (ht : tabOk w) (he : errOk w) : Calls Tryd.prog 23 #[.string s] w (Ret w (optV (parseU s))) := by
  unfold maxLen at hs
  have HT := Lib.hid ht; clear ht
  have HE := Lib.hid he; clear he
  by_cases hlen : 10 < s.size
  · have hno : parseU s = none := parseU_no fun n hn e => by
      have h1 := digits_len 9 n (by omega)
      have h2 : s.size = (Lib.decDigits n).length := by rw [← e, numeral_nat]; simp [ByteArray.size]
      omega
    rw [hno]
    clear hno
    go_enter Tryd.func23, Tryd.ntmps23
    go_wp2
    refine bodyPost_ret (v := .tuple #[.int .i64 0, .bool false]) (by simp [results, Tryd.results23, go_sem]) rfl ⟨rfl, Below.refl _ _⟩
  · cases ha : Lib.atoi s.data.toList with
    | none =>
      have hno : parseU s = none := parseU_no fun n hn e => by
        rw [← e, numeral_list, atoi_digits] at ha
        cases ha
      rw [hno]
      clear hno
      have HA := Lib.hid ha; clear ha
      go_enter Tryd.func23, Tryd.ntmps23
      go_wp2_with (go_at_call 37; obtain ⟨tp, p, hv⟩ := HE.out; refine (Sh.strconv_Atoi_err_var s (by omega) HA.out tp p w hv).mono ?_; clear hv; rintro e1 w1 ⟨N, rfl, hN, _, hb⟩; have HB := Lib.hid hb; clear hb)
      refine bodyPost_ret (v := .tuple #[.int .i64 0, .bool false]) (by simp [results, Tryd.results23, go_sem]) rfl ⟨rfl, HB.out⟩
    | some v =>
      have hun : ∀ n : Nat, numeral (n : Int) = s → v = (n : Int) := fun n e => by
        rw [← e, numeral_list, atoi_digits] at ha
        exact (Option.some.inj ha).symm
      have HUN := Lib.hid hun; clear hun
      have HA := Lib.hid ha; clear ha
      cases hr : inR v 0 1000000000
      · have hno : parseU s = none := parseU_no fun n hn e => by
          have h1 := HUN.out n e
          rw [h1, inR_true (by omega) (by omega)] at hr
          cases hr
        rw [hno]
        clear hno
        have HR := Lib.hid hr; clear hr
        go_enter Tryd.func23, Tryd.ntmps23
        go_wp2_with (first | (go_at_call 37; refine (Sh.strconv_Atoi s _ (by omega) HA.out w).mono ?_; rintro e1 w1 ⟨rfl, t1, hw1⟩; have hG1 : Below w.heap.size w w1 := (by rw [hw1]; exact Go.Joins.below_bytesWorld _ _ _ _ (Nat.le_refl _)); clear hw1; have hz1 := hG1.size) | (go_at_call 21; refine call_ret (w := w) (within_b _ v 0 1000000000 false HR.out) (by go_grown) ?_; intro g2 hG2 hb2 hz3 hz4; clear hb2 hz4))
        refine bodyPost_ret (v := .tuple #[.int .i64 0, .bool false]) (by simp [results, Tryd.results23, go_sem]) rfl ⟨rfl, (by go_grown)⟩
      · have hrn : ∃ n : Nat, v = (n : Int) ∧ n ≤ 1000000000 := by
          unfold inR at hr
          simp only [Bool.and_eq_true, decide_eq_true_eq] at hr
          exact ⟨v.toNat, by omega, by omega⟩
        obtain ⟨n, rfl, hn⟩ := hrn
        have HR := Lib.hid hr; clear hr
        have hni : I64 (n : Int) := by unfold I64; omega
        have HNI := Lib.hid hni; clear hni
        by_cases he : numeral (n : Int) = s
        · rw [parseU_yes hn he]
          have HEQ := Lib.hid he; clear he
          go_enter Tryd.func23, Tryd.ntmps23
          go_wp2_with (first | (go_at_call 37; refine (Sh.strconv_Atoi s _ (by omega) HA.out w).mono ?_; rintro e1 w1 ⟨rfl, t1, hw1⟩; have hG1 : Below w.heap.size w w1 := (by rw [hw1]; exact Go.Joins.below_bytesWorld _ _ _ _ (Nat.le_refl _)); clear hw1; have hz1 := hG1.size) | (go_at_call 21; refine call_ret (w := w) (within_b _ n 0 1000000000 true HR.out) (by go_grown) ?_; intro g2 hG2 hb2 hz3 hz4; clear hb2 hz4) | (go_at_call 22; have hcon := (fun w1 h => implFormatInt_c w1 n HNI.out h); rw [HEQ.out] at hcon; refine call_ret (w := w) (hcon _ (HT.out.keep (by go_grown))) (by go_grown) ?_; clear hcon; intro g3 hG3 hb3 hz5 hz6; clear hb3 hz6))
          refine bodyPost_ret (v := .tuple #[.int .i64 n, .bool true]) (by simp [results, Tryd.results23, go_sem]) rfl ⟨rfl, (by go_grown)⟩
        · have hno : parseU s = none := parseU_no fun m hm e => by
            have h1 := HUN.out m e
            have h2 : n = m := by omega
            exact he (h2 ▸ e)
          rw [hno]
          clear hno
          generalize hu : numeral (n : Int) = u at *
          have HU := Lib.hid hu; clear hu
          have hne : (u.toList == s.toList) = false := by rw [eqb_str]; exact eqb_ne he
          go_enter Tryd.func23, Tryd.ntmps23
          go_wp2_with (first | (go_at_call 37; refine (Sh.strconv_Atoi s _ (by omega) HA.out w).mono ?_; rintro e1 w1 ⟨rfl, t1, hw1⟩; have hG1 : Below w.heap.size w w1 := (by rw [hw1]; exact Go.Joins.below_bytesWorld _ _ _ _ (Nat.le_refl _)); clear hw1; have hz1 := hG1.size) | (go_at_call 21; refine call_ret (w := w) (within_b _ n 0 1000000000 true HR.out) (by go_grown) ?_; intro g2 hG2 hb2 hz3 hz4; clear hb2 hz4) | (go_at_call 22; have hcon := (fun w1 h => implFormatInt_c w1 n HNI.out h); rw [HU.out] at hcon; refine call_ret (w := w) (hcon _ (HT.out.keep (by go_grown))) (by go_grown) ?_; clear hcon; intro g3 hG3 hb3 hz5 hz6; clear hb3 hz6))
          refine bodyPost_ret (v := .tuple #[.int .i64 0, .bool false]) (by simp [results, Tryd.results23, go_sem]) rfl ⟨rfl, (by go_grown)⟩
end Go.Proofs.YtjkanhbnialmmaaDoor
