/- Strings of letters as small numbers: both sides. -/
import Derived.Test.YtjkanhbnialmmaaDoorFd
namespace Go.Proofs.YtjkanhbnialmmaaDoor
open Go.RowKit
open GoD (rd own)
theorem parseU_some {s : ByteArray} {n : Nat} (h : parseU s = some n) : n ≤ 1000000000 ∧ numeral (n : Int) = s := by
  by_cases hex : ∃ n : Nat, n ≤ 1000000000 ∧ numeral (n : Int) = s
  · unfold parseU at h
    rw [dif_pos hex] at h
    have := hex.choose_spec
    rw [Option.some.inj h] at this
    exact this
  · unfold parseU at h
    rw [dif_neg hex] at h
    cases h
/-- the bytes of s, the first k of them moved back by 49 -/
def unsh (s : ByteArray) (k : Nat) : ByteArray := ⟨s.data.mapIdx (fun i x => if i < k then x - 49 else x)⟩
theorem unsh_size (s : ByteArray) (k : Nat) : (unsh s k).size = s.size := Array.size_mapIdx
theorem unsh_at (s : ByteArray) (k i : Nat) (h : i < (unsh s k).size) : (unsh s k)[i] = if i < k then s[i]'(by rw [unsh_size] at h; exact h) - 49 else s[i]'(by rw [unsh_size] at h; exact h) := by
  have h1 : i < (s.data.mapIdx (fun i x => if i < k then x - 49 else x)).size := h
  exact (Array.getElem_mapIdx h1)
theorem unsh_zero (s : ByteArray) : unsh s 0 = s := by
  unfold unsh
  congr 1
  apply Array.ext
  · simp
  · intro i h1 h2; simp
theorem bytes_ext {s t : ByteArray} (h : s.size = t.size) (h2 : ∀ i (h1 : i < s.size) (h3 : i < t.size), s[i] = t[i]) : s = t := by
  apply ByteArray.ext
  apply Array.ext
  · exact h
  · intro i h1 h3
    exact h2 i h1 h3
theorem unsh_shift (t : ByteArray) : unsh (shift t t.size) (shift t t.size).size = t := by
  refine bytes_ext (by rw [unsh_size, shift_size]) fun i h1 h3 => ?_
  rw [unsh_at, if_pos (by rw [shift_size]; exact h3), shift_at, if_pos h3, UInt8.add_sub_cancel]
theorem shift_unsh (s : ByteArray) : shift (unsh s s.size) (unsh s s.size).size = s := by
  refine bytes_ext (by rw [shift_size, unsh_size]) fun i h1 h3 => ?_
  rw [shift_at, if_pos (by rw [unsh_size]; exact h3), unsh_at, if_pos h3, UInt8.sub_add_cancel]
theorem encode_nat {n : Nat} (h : n ≤ 999) : encodeInt (n : Int) = shift (numeral n) (numeral n).size := encode_yes (inR_true (by omega) (by omega))
theorem encode_iff {n : Nat} (h : n ≤ 999) {s : ByteArray} : encodeInt (n : Int) = s ↔ numeral (n : Int) = unsh s s.size := by
  rw [encode_nat h]
  constructor
  · intro e
    rw [← e, unsh_shift]
  · intro e
    rw [e, shift_unsh]
theorem encode_bytes {n : Nat} (h : n ≤ 999) {s : ByteArray} (e : encodeInt (n : Int) = s) (i : Nat) (hi : i < s.size) : 97 ≤ s[i].toNat ∧ s[i].toNat ≤ 106 := by
  rw [encode_nat h] at e
  subst e
  have hi' : i < (numeral (n : Int)).size := by rw [shift_size] at hi; exact hi
  rw [shift_at, if_pos hi']
  have hd := digits_all n ((numeral (n : Int))[i]) (by
    rw [← numeral_list]
    exact List.mem_iff_getElem.2 ⟨i, by rw [Array.length_toList]; exact hi', rfl⟩)
  have h49 : (49 : UInt8).toNat = 49 := rfl
  rw [UInt8.toNat_add, h49]
  omega
theorem encode_len {n : Nat} (h : n ≤ 999) : (encodeInt (n : Int)).size ≤ 3 := by
  rw [encode_nat h, shift_size, numeral_nat]
  have := digits_len 2 n (by omega)
  simpa [ByteArray.size] using this
/-- the number up to 999 that s stands for -/
noncomputable def decD (s : ByteArray) : Option Nat := @dite _ (∃ n : Nat, n ≤ 999 ∧ encodeInt (n : Int) = s) (Classical.propDecidable _) (fun h => some h.choose) (fun _ => none)
theorem decD_yes {s : ByteArray} {n : Nat} (h : n ≤ 999) (e : encodeInt (n : Int) = s) : decD s = some n := by
  have hex : ∃ n : Nat, n ≤ 999 ∧ encodeInt (n : Int) = s := ⟨n, h, e⟩
  unfold decD
  rw [dif_pos hex]
  congr 1
  have h1 := (encode_iff hex.choose_spec.1).1 hex.choose_spec.2
  have h2 := (encode_iff h).1 e
  exact numeral_inj (h1.trans h2.symm)
theorem decD_no {s : ByteArray} (h : ∀ n : Nat, n ≤ 999 → encodeInt (n : Int) ≠ s) : decD s = none := by
  unfold decD
  rw [dif_neg (fun ⟨n, h1, h2⟩ => h n h1 h2)]
theorem minus49 (x : UInt8) : ((x - 49).toNat : Int) = IntKind.u8.wrap ((x.toNat : Int) - 49) := by
  have h49 : (49 : UInt8).toNat = 49 := rfl
  have hx := UInt8.toNat_lt x
  rw [IntKind.wrap_u8, UInt8.toNat_sub, h49]
  omega
theorem bytes_unset {w : World} {g : Nat} {s : ByteArray} {k : Nat} (h : Lib.Bytes w g 0 (unsh s k)) (hk : k < s.size) (v : Int) (hv : v = IntKind.u8.wrap ((s[k].toNat : Int) - 49)) : Lib.Bytes (w.setCell ⟨g, k, none⟩ (.int .u8 v)) g 0 (unsh s (k + 1)) := by
  intro i hi
  rw [unsh_at]
  have hi' : i < s.size := by rw [unsh_size] at hi; exact hi
  have h0 := h i (by rw [unsh_size]; exact hi')
  rw [unsh_at] at h0
  rw [Nat.zero_add] at h0 ⊢
  by_cases e : i = k
  · subst e
    rw [World.cell?_setCell_same _ _ _ h0, if_pos (Nat.lt_succ_self _), minus49, hv]
  · rw [World.cell?_setCell_other _ _ _ _ (fun h1 : (⟨g, k, none⟩ : Addr) = ⟨g, i, none⟩ => e (by injection h1 with _ h2 _; exact h2.symm)), h0]
    congr 3
    by_cases hlt : i < k
    · rw [if_pos hlt, if_pos (by omega)]
    · rw [if_neg hlt, if_neg (by omega)]
theorem bytes_start0 (w : World) (s : ByteArray) : Lib.Bytes (Lib.bytesWorld w 5 s) w.heap.size 0 (unsh s 0) := by
  have h := bytes_start w s
  rw [shift_zero] at h
  rw [unsh_zero]
  exact h
set_option maxRecDepth 20000 in
set_option maxHeartbeats 1000000 in
theorem specDecode_c (w : World) (s : ByteArray) (hs : s.size ≤ maxLen) : Calls Tryd.prog 9 #[.string s] w (Ret w (optV (decD s))) := by
  unfold maxLen at hs
  have hY : ∀ n : Nat, n ≤ 999 → encodeInt (n : Int) = s → decD s = some n := fun n h e => decD_yes h e
  have hN : (∀ n : Nat, n ≤ 999 → encodeInt (n : Int) ≠ s) → decD s = none := decD_no
  generalize decD s = r at *
  have HY := Lib.hid hY; clear hY
  have HNO := Lib.hid hN; clear hN
  by_cases hl : s.size ≤ 3
  · have hl3 : (s.size : Int) ≤ 3 := by omega
    go_enter Tryd.func9, Tryd.ntmps9
    go_wp2
    go_loopw [4] (fun i wr => ∃ k : Nat, k ≤ 1000 ∧ i = .int .i64 k ∧ Below w.heap.size w wr ∧ Hid (∀ j : Nat, j < k → encodeInt (j : Int) ≠ s)) (fun i _ => 1000 - (intOf i).toNat)
    case atStart => exact ⟨0, by omega, rfl, Below.refl _ _, Lib.hid (fun j hj => absurd hj (Nat.not_lt_zero _))⟩
    case round =>
      obtain ⟨k, hk, rfl, hB, hno⟩ := hrel
      by_cases hk9 : k ≤ 999
      · have hki : I64 (k : Int) := by unfold I64; omega
        have HK := Lib.hid hki; clear hki
        have hk9i : (k : Int) ≤ 999 := by omega
        by_cases he : encodeInt (k : Int) = s
        · obtain rfl : r = some k := HY.out k hk9 he
          have HEQ := Lib.hid he; clear he
          go_wp2_with (first | (go_at_call 7; have hcon := (fun w1 => specEncode_c w1 (k : Int) HK.out); rw [HEQ.out] at hcon; refine call_ret (w := wr) (hcon _) (by go_grown) ?_; clear hcon; intro g1 hG1 hb hz1 hz2; clear hb hz2))
          refine bodyPost_ret (v := .tuple #[.int .i64 k, .bool true]) (by simp [results, Tryd.results9, go_sem]) rfl ⟨rfl, below_via hB hG1⟩
        · generalize hu : encodeInt (k : Int) = u at *
          have HU := Lib.hid hu; clear hu
          have hne : (u.toList == s.toList) = false := by rw [eqb_str]; exact eqb_ne he
          have HNE := Lib.hid he; clear he
          go_wp2_with (first | (go_at_call 7; have hcon := (fun w1 => specEncode_c w1 (k : Int) HK.out); rw [HU.out] at hcon; refine call_ret (w := wr) (hcon _) (by go_grown) ?_; clear hcon; intro g1 hG1 hb hz1 hz2; clear hb hz2))
          go_roundw
          case rel => exact ⟨k + 1, by omega, by go_num, below_via hB hG1, Lib.hid (fun j hj => by
            by_cases e : j = k
            · subst e
              rw [HU.out]
              exact HNE.out
            · exact hno.out j (by omega))⟩
          case measure => simp [intOf]; omega
      · obtain rfl : k = 1000 := by omega
        obtain rfl : r = none := HNO.out (fun n hn => hno.out n (by omega))
        go_wp2
        refine bodyPost_ret (v := .tuple #[.int .i64 0, .bool false]) (by simp [results, Tryd.results9, go_sem]) rfl ⟨rfl, hB⟩
  · obtain rfl : r = none := HNO.out (fun n hn e => by have := encode_len hn; rw [e] at this; omega)
    have hl3 : ¬ ((s.size : Int) ≤ 3) := by omega
    go_enter Tryd.func9, Tryd.ntmps9
    go_wp2
    go_loopw [4] (fun i wr => i = .int .i64 0 ∧ Below w.heap.size w wr) (fun i _ => 0)
    case atStart => exact ⟨rfl, Below.refl _ _⟩
    case round =>
      obtain ⟨rfl, hB⟩ := hrel
      go_wp2
      refine bodyPost_ret (v := .tuple #[.int .i64 0, .bool false]) (by simp [results, Tryd.results9, go_sem]) rfl ⟨rfl, hB⟩
set_option maxRecDepth 20000 in
set_option maxHeartbeats 2000000 in
theorem implDecode_c (w : World) (s : ByteArray) (hs : s.size ≤ maxLen) (ht : tabOk w) (he : errOk w) : Calls Tryd.prog 10 #[.string s] w (Ret w (optV (decD s))) := by
  have HS := Lib.hid hs
  unfold maxLen at hs
  have HT := Lib.hid ht; clear ht
  have HE := Lib.hid he; clear he
  have hY : ∀ n : Nat, n ≤ 999 → encodeInt (n : Int) = s → decD s = some n := fun n h e => decD_yes h e
  have hN : (∀ n : Nat, n ≤ 999 → encodeInt (n : Int) ≠ s) → decD s = none := decD_no
  generalize decD s = r at *
  have HY := Lib.hid hY; clear hY
  have HNO := Lib.hid hN; clear hN
  have hconv : ∀ w, (convert 9 36 (.string s)).run Tryd.prog w = .ok (.slice (some ⟨w.heap.size, 0, none⟩) s.size (grownCap w s.size 0 5)) (Lib.bytesWorld w 5 s) := fun w => Lib.run_convert_string_bytes w 9 36 5 s Tryd.underlying9 Tryd.underlying36 Tryd.underlying5
  go_enter Tryd.func10, Tryd.ntmps10
  go_wp2
  clear hconv
  have hB3 := (Lib.hid (Go.Joins.below_bytesWorld w.heap.size w 5 s (Nat.le_refl _)))
  have hs3 := Lib.bytesWorld_size w 5 s
  have HST := Lib.hid (bytes_start0 w s)
  have HFZ := Lib.hid (frozen_start w 5 s)
  generalize hcap : grownCap w s.size 0 5 = cap
  clear hcap
  generalize hw3 : Lib.bytesWorld w 5 s = w3 at *
  clear hw3
  go_loopw [12] (fun i wr => ∃ k : Nat, k ≤ s.size ∧ i = .int .i64 k ∧ Below w.heap.size w wr ∧ w.heap.size < wr.heap.size ∧ Hid (Lib.Bytes wr w.heap.size 0 (unsh s k)) ∧ Hid (∀ j, j < s.size → wr.frozen? ⟨w.heap.size, j, none⟩ = false)) (fun i _ => s.size - (intOf i).toNat)
  case atStart => exact ⟨0, Nat.zero_le _, rfl, hB3.out, by omega, HST, HFZ⟩
  case round =>
    clear hB3 HST HFZ hs3
    obtain ⟨k, hk, rfl, hB, hlt, hby, hfz⟩ := hrel
    by_cases hkl : k < s.size
    · have hc := hby.out k (by rw [unsh_size]; exact hkl)
      rw [unsh_at, if_neg (Nat.lt_irrefl _), Nat.zero_add] at hc
      have hf := hfz.out k hkl
      have hx : ∃ x, s[k] = x := ⟨_, rfl⟩
      obtain ⟨x, hx⟩ := hx
      rw [hx] at hc
      have HX := Lib.hid hx; clear hx
      by_cases h97 : (x.toNat : Int) < 97
      · obtain rfl : r = none := HNO.out (fun n hn e => by have := encode_bytes hn e k hkl; rw [HX.out] at this; omega)
        go_wp2
        refine bodyPost_ret (v := .tuple #[.int .i64 0, .bool false]) (by simp [results, Tryd.results10, go_sem]) rfl ⟨rfl, hB⟩
      by_cases h106 : 106 < (x.toNat : Int)
      · obtain rfl : r = none := HNO.out (fun n hn e => by have := encode_bytes hn e k hkl; rw [HX.out] at this; omega)
        go_wp2
        refine bodyPost_ret (v := .tuple #[.int .i64 0, .bool false]) (by simp [results, Tryd.results10, go_sem]) rfl ⟨rfl, hB⟩
      go_wp2
      go_roundw
      case rel => exact ⟨k + 1, by omega, by go_num, below_set hB (Nat.le_refl _), by rw [World.size_setCell]; exact hlt, Lib.hid (bytes_unset hby.out hkl _ (by first | (rw [HX.out, IntKind.wrap_u8]; done) | (rw [HX.out, IntKind.wrap_u8]; omega))), Lib.hid (fun j hj => by rw [World.frozen?_setCell]; exact hfz.out j hj)⟩
      case measure => simp [intOf]; omega
    · obtain rfl : k = s.size := by omega
      have hcv := Lib.run_convert_whole (P := Tryd.prog) wr 36 5 9 Tryd.underlying36 Tryd.underlying5 Tryd.underlying9 w.heap.size 0 (unsh s s.size) hby.out
      rw [unsh_size] at hcv
      have hts : (unsh s s.size).size ≤ maxLen := by rw [unsh_size]; exact HS.out
      have HTS := Lib.hid hts; clear hts
      have HU := Lib.hid (rfl : unsh s s.size = unsh s s.size)
      generalize ht : unsh s s.size = t at hcv HTS
      have HTT := Lib.hid ht; clear ht HU hby
      cases hp : parseU t with
      | none =>
        obtain rfl : r = none := HNO.out (fun n hn e => by have h1 := (encode_iff hn).1 e; rw [HTT.out] at h1; rw [parseU_yes (by omega) h1] at hp; cases hp)
        have HP := Lib.hid hp; clear hp
        have ho : optV none = .tuple #[.int .i64 0, .bool false] := rfl
        go_wp2_with (first | (go_at_call 23; have hcon := (fun w1 h1 h2 => implParseUint_c w1 t HTS.out h1 h2); rw [HP.out, ho] at hcon; refine call_ret (w := w) (hcon _ (HT.out.keep (by go_grown)) (HE.out.keep (by go_grown))) (by go_grown) ?_; clear hcon; intro g1 hG1 hb hz1 hz2; clear hb hz2))
        refine bodyPost_ret (v := .tuple #[.int .i64 0, .bool false]) (by simp [results, Tryd.results10, go_sem]) rfl ⟨rfl, (by go_grown)⟩
      | some n =>
        have ho : optV (some n) = .tuple #[.int .i64 n, .bool true] := rfl
        have hps := parseU_some hp
        have HP := Lib.hid hp; clear hp
        by_cases h9 : n ≤ 999
        · obtain rfl : r = some n := HY.out n h9 ((encode_iff h9).2 (hps.2.trans HTT.out.symm))
          have h9i : ¬ (999 < (n : Int)) := by omega
          go_wp2_with (first | (go_at_call 23; have hcon := (fun w1 h1 h2 => implParseUint_c w1 t HTS.out h1 h2); rw [HP.out, ho] at hcon; refine call_ret (w := w) (hcon _ (HT.out.keep (by go_grown)) (HE.out.keep (by go_grown))) (by go_grown) ?_; clear hcon; intro g1 hG1 hb hz1 hz2; clear hb hz2))
          refine bodyPost_ret (v := .tuple #[.int .i64 n, .bool true]) (by simp [results, Tryd.results10, go_sem]) rfl ⟨rfl, (by go_grown)⟩
        · obtain rfl : r = none := HNO.out (fun m hm e => by have h1 := (encode_iff hm).1 e; rw [HTT.out, ← hps.2] at h1; have := numeral_inj h1; omega)
          have h9i : 999 < (n : Int) := by omega
          go_wp2_with (first | (go_at_call 23; have hcon := (fun w1 h1 h2 => implParseUint_c w1 t HTS.out h1 h2); rw [HP.out, ho] at hcon; refine call_ret (w := w) (hcon _ (HT.out.keep (by go_grown)) (HE.out.keep (by go_grown))) (by go_grown) ?_; clear hcon; intro g1 hG1 hb hz1 hz2; clear hb hz2))
          refine bodyPost_ret (v := .tuple #[.int .i64 0, .bool false]) (by simp [results, Tryd.results10, go_sem]) rfl ⟨rfl, (by go_grown)⟩
end Go.Proofs.YtjkanhbnialmmaaDoor
