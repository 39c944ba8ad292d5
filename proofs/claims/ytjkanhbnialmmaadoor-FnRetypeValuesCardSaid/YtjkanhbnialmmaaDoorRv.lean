/- The walk of the law on retyped values. -/
import Derived.Test.YtjkanhbnialmmaaDoorDp
import Derived.Test.YtjkanhbnialmmaaDoorBy
import Derived.Test.YtjkanhbnialmmaaDoorFe
import Derived.Outline
namespace Go.Proofs.YtjkanhbnialmmaaDoor
open Go.RowKit
open GoD (rd own)
theorem cells_map (w : World) (l : List Int) (t : TypeId) : ∀ j x, l[j]? = some x → (w.alloc (.cells (l.map (Value.int .i64)).toArray t)).cell? ⟨w.heap.size, j, none⟩ = some (.int .i64 x) := by
  intro j x h
  simp only [World.cell?, heap_alloc_new]
  simp [h]
theorem cells_mapS (w : World) (l : List ByteArray) (t : TypeId) : ∀ j x, l[j]? = some x → (w.alloc (.cells (l.map Value.string).toArray t)).cell? ⟨w.heap.size, j, none⟩ = some (.string x) := by
  intro j x h
  simp only [World.cell?, heap_alloc_new]
  simp [h]
theorem Cur.alloc {w0 w : World} {v : Value} {n g : Nat} (h : Cur w0 v n g w) (o : Obj) : Cur w0 v n g (w.alloc o) := by
  obtain ⟨hB, hg, hlt, hfz, i, y, h1, h2, c0, c1, c2⟩ := h
  exact ⟨hB.alloc (by have := hB.size; omega) _, hg, by rw [World.size_alloc]; omega, fun k => by rw [World.frozen?_alloc_old _ _ _ (show g ≠ w.heap.size by omega)]; exact hfz k, i, y, h1, h2, Lib.cell?_alloc_some _ c0, Lib.cell?_alloc_some _ c1, Lib.cell?_alloc_some _ c2⟩
theorem ints_i64 : ∀ x : Int, x ∈ [0, 7, 10, 123, 999, 1000, -1, 9223372036854775807] → I64 x := by
  intro x hx
  simp only [List.mem_cons, List.not_mem_nil, or_false] at hx
  unfold I64
  omega
set_option maxRecDepth 20000 in
theorem drawEncode_c (w : World) (v : Value) (n : Nat) (hcd : Code w v n) : Calls Tryd.prog 17 #[v] w fun e w' => ∃ x : Int, e = .returned (.int .i64 x) ∧ I64 x ∧ Below w.heap.size w w' := by
  have HCD := Lib.hid hcd; clear hcd
  go_enter Tryd.func17, Tryd.ntmps17
  go_wp2_with (first
    | (go_at_call 31; refine (new_c w v n HCD.out).mono ?_; rintro e1 w1 ⟨g, rfl, hc⟩; have HC := Lib.hid hc; clear hc)
    | (go_at_call 30; refine (pickInt_c w _ v n g [0, 7, 10, 123, 999, 1000, -1, 9223372036854775807] w1.heap.size 8 HCD.out (Cur.alloc HC.out _) (by decide) (by decide) (by simp) (by have := HC.out.2.2.1; omega) (cells_map w1 _ _)).mono ?_; rintro e2 w2 ⟨x, hx, rfl, hc2, hg2⟩; have HC2 := Lib.hid hc2; clear hc2 hg2; have HX := Lib.hid hx; clear hx))
  go_ret
  exact ⟨_, rfl, ints_i64 _ HX.out, HC2.out.1⟩

theorem strs_len : ∀ x : ByteArray, x ∈ [(⟨#[]⟩ : ByteArray), ⟨#[97]⟩, ⟨#[97, 98]⟩, ⟨#[97, 97]⟩, ⟨#[98, 97, 100]⟩, ⟨#[106, 106, 106]⟩, ⟨#[107]⟩, ⟨#[98, 97, 97, 97]⟩, ⟨#[66]⟩] → x.size ≤ maxLen := by
  intro x hx
  unfold maxLen
  simp only [List.mem_cons, List.not_mem_nil, or_false] at hx
  rcases hx with rfl | rfl | rfl | rfl | rfl | rfl | rfl | rfl | rfl <;> decide
theorem encode_small (n : Int) : (encodeInt n).size ≤ maxLen := by
  unfold encodeInt maxLen
  split
  · rename_i h
    have := numeral_size h
    rw [shift_size]
    omega
  · exact Nat.zero_le _
set_option maxRecDepth 20000 in
theorem drawDecode_c (w : World) (v : Value) (n : Nat) (hcd : Code w v n) : Calls Tryd.prog 18 #[v] w fun e w' => ∃ s : ByteArray, e = .returned (.string s) ∧ s.size ≤ maxLen ∧ Below w.heap.size w w' := by
  have HCD := Lib.hid hcd; clear hcd
  have HE := Lib.hid encode_small
  go_enter Tryd.func18, Tryd.ntmps18
  go_wp2_with (first
    | (go_at_call 31; refine (new_c w v n HCD.out).mono ?_; rintro e1 w1 ⟨g, rfl, hc⟩; have HC := Lib.hid hc; clear hc)
    | (go_at_call 32; refine (once_c w w1 v n g 2 HCD.out HC.out (by decide)).mono ?_; rintro e2 w2 ⟨b, rfl, hc, _⟩; have HC2 := Lib.hid hc; clear hc)
    | (go_at_call 33; refine (below_c w w2 v n g 1000 HCD.out HC2.out (by decide)).mono ?_; rintro e3 w3 ⟨x, rfl, hx0, hx1, hc, _⟩; have hxi : I64 x := (by have := hx1 (by decide); unfold I64; omega); have HXI := Lib.hid hxi; clear hxi hx0 hx1; have HC3 := Lib.hid hc; clear hc)
    | (go_at_call 7; have hcon := specEncode_c w3 x HXI.out; generalize hu : encodeInt x = u at hcon; have HU := Lib.hid hu; clear hu; refine hcon.mono ?_; clear hcon; rintro e4 w4 ⟨rfl, hb⟩; have HB := Lib.hid hb; clear hb)
    | (go_at_call 34; refine (pickStr_c w _ v n g [⟨#[]⟩, ⟨#[97]⟩, ⟨#[97, 98]⟩, ⟨#[97, 97]⟩, ⟨#[98, 97, 100]⟩, ⟨#[106, 106, 106]⟩, ⟨#[107]⟩, ⟨#[98, 97, 97, 97]⟩, ⟨#[66]⟩] w2.heap.size 9 HCD.out (Cur.alloc HC2.out _) (by decide) (by decide) (by simp) (by have := HC2.out.2.2.1; omega) (cells_mapS w2 _ _)).mono ?_; rintro e5 w5 ⟨x, hx, rfl, hc, _⟩; have HC5 := Lib.hid hc; clear hc; have HX := Lib.hid hx; clear hx))
  all_goals go_ret
  all_goals first
    | exact ⟨_, rfl, strs_len _ HX.out, HC5.out.1⟩
    | exact ⟨_, rfl, by rw [← HU.out]; exact HE.out x, below_via HC3.out.1 HB.out⟩
theorem encode305 : encodeInt 305 = ⟨#[100, 97, 102]⟩ := by
  have h := encode_nat (n := 305) (by decide)
  have hd : Lib.decDigits 305 = [51, 48, 53] := by
    rw [dig_step (by decide), dig_step (by decide), dig_small (by decide)]
    rfl
  rw [show ((305 : Nat) : Int) = 305 from rfl] at h
  rw [h, show numeral (305 : Int) = ⟨#[51, 48, 53]⟩ from (numeral_nat 305).trans (by rw [hd])]
  rfl
theorem dec_encode {k : Nat} (h : k ≤ 999) : decD (encodeInt (k : Int)) = some k := decD_yes h rfl
theorem dec_empty : decD ⟨#[]⟩ = none := decD_no fun n hn e => by
  rw [encode_nat hn, numeral_nat] at e
  have h1 := congrArg ByteArray.size e
  rw [shift_size] at h1
  have h2 : (Lib.decDigits n).length = 0 := by simpa [ByteArray.size] using h1
  exact digits_ne n (List.eq_nil_of_length_eq_zero h2)
theorem decD_enc {s : ByteArray} {n : Nat} (h : decD s = some n) : n ≤ 999 ∧ encodeInt (n : Int) = s := by
  by_cases hex : ∃ n : Nat, n ≤ 999 ∧ encodeInt (n : Int) = s
  · unfold decD at h
    rw [dif_pos hex] at h
    have := hex.choose_spec
    rw [Option.some.inj h] at this
    exact this
  · unfold decD at h
    rw [dif_neg hex] at h
    cases h
theorem code_of {w : World} {oa : Option Addr} {cap : Nat} {a : List UInt8} (h : rd w [.slice oa a.length cap] a) (hn : a.length ≤ 1048576) : Code w (.slice oa a.length cap) a.length := by
  obtain ⟨oa', cap', e, hl, hm, hel⟩ := h
  obtain ⟨rfl, rfl⟩ : oa = oa' ∧ cap = cap' := by simpa using e
  refine ⟨hn, oa, cap, rfl, fun j hj => ?_⟩
  obtain ⟨b, off, ce, rfl, hcl, hcc, hr⟩ := hel j _ (List.getElem?_eq_getElem hj)
  have hr' : ce = [.int .u8 ((a[j]).toNat : Int)] := hr
  have h1 := hcc 0 (.int .u8 ((a[j]).toNat : Int)) (by rw [hr']; rfl)
  have h2 := UInt8.toNat_lt a[j]
  refine ⟨b, off, ((a[j]).toNat : Int), rfl, ?_, by omega, by omega⟩
  simpa [show GoD.n UInt8 = 1 from rfl] using h1
theorem Code.keep {w w' : World} {v : Value} {n : Nat} (h : Code w v n) (hb : Below w.heap.size w w') : Code w' v n := by
  obtain ⟨h1, oa, cap, rfl, hel⟩ := h
  refine ⟨h1, oa, cap, rfl, fun j hj => ?_⟩
  obtain ⟨b, off, x, rfl, hc, h2, h3⟩ := hel j hj
  exact ⟨b, off, x, rfl, (hb.cell (World.block_lt_of_cell? w _ hc)).trans hc, h2, h3⟩
theorem specDecode_b (w : World) (s : ByteArray) (r : Option Nat) (hs : s.size ≤ maxLen) (h : decD s = r) : Calls Tryd.prog 9 #[.string s] w (Ret w (optV r)) := h ▸ specDecode_c w s hs
theorem implDecode_b (w : World) (s : ByteArray) (r : Option Nat) (hs : s.size ≤ maxLen) (h : decD s = r) (ht : tabOk w) (he : errOk w) : Calls Tryd.prog 10 #[.string s] w (Ret w (optV r)) := h ▸ implDecode_c w s hs ht he
theorem specEncode_b (w : World) (n : Int) (u : ByteArray) (hn : I64 n) (h : encodeInt n = u) : Calls Tryd.prog 7 #[.int .i64 n] w (Ret w (.string u)) := h ▸ specEncode_c w n hn
theorem implEncode_b (w : World) (n : Int) (u : ByteArray) (hn : I64 n) (h : encodeInt n = u) (ht : tabOk w) : Calls Tryd.prog 8 #[.int .i64 n] w (Ret w (.string u)) := h ▸ implEncode_c w n hn ht
set_option maxRecDepth 20000 in
set_option maxHeartbeats 4000000 in
theorem lawRetype (w : World) (v : Value) (a : List UInt8) (h : rd w [v] a) (ht : tabOk w) (he : errOk w) : Calls Tryd.prog 6 #[v] w (Ret w (.bool true)) := by
  have HT := Lib.hid ht; clear ht
  have HE := Lib.hid he; clear he
  have h305 : I64 305 := ⟨by decide, by decide⟩
  have H305 := Lib.hid h305; clear h305
  obtain ⟨oa, cap, rfl⟩ := slice_of_rd h
  have hln := len_of_rd h
  by_cases hbig : 1048576 < a.length
  · clear h
    have hbi : 1048576 < (a.length : Int) := by omega
    go_enter Tryd.func6, Tryd.ntmps6
    go_wp2_with (first | (go_at_call 16; go_in))
    go_ret
    exact ⟨rfl, by go_grown⟩
  · have hcd := code_of h (by omega)
    have HCD := Lib.hid hcd; clear hcd h
    have hbi : ¬ (1048576 < (a.length : Int)) := by omega
    go_enter Tryd.func6, Tryd.ntmps6
    go_wp2_with (first | (go_at_call 16; go_in) | (go_at_call 17; refine (drawEncode_c _ _ _ (HCD.out.keep (by go_grown))).mono ?_; rintro e1 w1 ⟨n, rfl, hn, hb⟩; have hw1 : Below w.heap.size w w1 := below_via (by go_grown) hb; have hs1 := hw1.size; have HN := Lib.hid hn; clear hn hb) | (go_at_call 8; have hcon := (fun w9 h => implEncode_c w9 n HN.out h); generalize hu : encodeInt n = u at hcon; have HU := Lib.hid hu; clear hu; refine call_ret (w := w) (hcon _ (HT.out.keep (by go_grown))) (by go_grown) ?_; clear hcon; intro y2 hy2 hb hz2a hz2b; clear hb hz2b) | (go_at_call 18; refine (drawDecode_c _ _ _ (HCD.out.keep (by go_grown))).mono ?_; rintro e3 w3 ⟨t, rfl, ht, hb⟩; have hw3 : Below w.heap.size w w3 := below_via (by go_grown) hb; have hs3 := hw3.size; have HTS := Lib.hid ht; clear ht hb))
    have hus : u.size ≤ maxLen := by rw [← HU.out]; exact encode_small n
    have HUS := Lib.hid hus; clear hus
    by_cases hr : 0 ≤ n ∧ n ≤ 999
    · obtain ⟨k, rfl⟩ : ∃ k : Nat, n = (k : Int) := ⟨n.toNat, by omega⟩
      have hk9 : (k : Int) ≤ 999 := hr.2
      have hk0 : 0 ≤ (k : Int) := hr.1
      have hd2 : decD u = some k := by rw [← HU.out]; exact dec_encode (by omega)
      have HD2 := Lib.hid hd2; clear hd2 hr
      have ho2 : optV (some k) = .tuple #[.int .i64 k, .bool true] := rfl
      have tok1 : True := trivial
      have tok2 : True := trivial
      cases hd1 : decD t with
      | none =>
        have ho1 : optV none = .tuple #[.int .i64 0, .bool false] := rfl
        have HD1 := Lib.hid hd1; clear hd1
        go_wp2_with (first | (go_at_call 10; have tkn := tok1; clear tok1 tkn; have hcon := (fun w9 h1 h2 => implDecode_b w9 t none HTS.out HD1.out h1 h2); rw [ho1] at hcon; refine call_ret (w := w) (hcon _ (HT.out.keep (by go_grown)) (HE.out.keep (by go_grown))) (by go_grown) ?_; clear hcon; intro y4 hy4 hb hz4a hz4b; clear hb hz4b) | (go_at_call 10; have hcon := (fun w9 h1 h2 => implDecode_b w9 u (some k) HUS.out HD2.out h1 h2); rw [ho2] at hcon; refine call_ret (w := w) (hcon _ (HT.out.keep (by go_grown)) (HE.out.keep (by go_grown))) (by go_grown) ?_; clear hcon; intro y5 hy5 hb hz5a hz5b; clear hb hz5b) | (go_at_call 9; have hcon := (fun w9 => specDecode_b w9 t none HTS.out HD1.out); rw [ho1] at hcon; refine call_ret (w := w) (hcon _) (by go_grown) ?_; clear hcon; intro y6 hy6 hb hz6a hz6b; clear hb hz6b) | (go_at_call 7; refine call_ret (w := w) (specEncode_b _ _ u HN.out HU.out) (by go_grown) ?_; intro y7 hy7 hb hz7a hz7b; clear hb hz7b) | (go_at_call 8; refine call_ret (w := w) (implEncode_b _ 305 _ H305.out encode305 (HT.out.keep (by go_grown))) (by go_grown) ?_; intro y8 hy8 hb hz8a hz8b; clear hb hz8b))
        all_goals go_ret
        all_goals first | exact ⟨rfl, by go_grown⟩ | exact ⟨(show Ending.returned (.bool (!decide (n ≤ 999))) = _ from by rw [show decide (n ≤ 999) = false from decide_eq_false (by omega)]; rfl), by go_grown⟩
      | some m =>
        have ho1 : optV (some m) = .tuple #[.int .i64 m, .bool true] := rfl
        have hme := decD_enc hd1
        have HD1 := Lib.hid hd1; clear hd1
        have hmi : I64 (m : Int) := by unfold I64; omega
        have HMI := Lib.hid hmi; clear hmi
        have HMT := Lib.hid hme.2; clear hme
        go_wp2_with (first | (go_at_call 10; have tkn := tok1; clear tok1 tkn; have hcon := (fun w9 h1 h2 => implDecode_b w9 t (some m) HTS.out HD1.out h1 h2); rw [ho1] at hcon; refine call_ret (w := w) (hcon _ (HT.out.keep (by go_grown)) (HE.out.keep (by go_grown))) (by go_grown) ?_; clear hcon; intro y4 hy4 hb hz4a hz4b; clear hb hz4b) | (go_at_call 10; have hcon := (fun w9 h1 h2 => implDecode_b w9 u (some k) HUS.out HD2.out h1 h2); rw [ho2] at hcon; refine call_ret (w := w) (hcon _ (HT.out.keep (by go_grown)) (HE.out.keep (by go_grown))) (by go_grown) ?_; clear hcon; intro y5 hy5 hb hz5a hz5b; clear hb hz5b) | (go_at_call 9; have hcon := (fun w9 => specDecode_b w9 t (some m) HTS.out HD1.out); rw [ho1] at hcon; refine call_ret (w := w) (hcon _) (by go_grown) ?_; clear hcon; intro y6 hy6 hb hz6a hz6b; clear hb hz6b) | (go_at_call 7; refine call_ret (w := w) (specEncode_b _ _ u HN.out HU.out) (by go_grown) ?_; intro y7 hy7 hb hz7a hz7b; clear hb hz7b) | (go_at_call 8; have tkn := tok2; clear tok2 tkn; refine call_ret (w := w) (implEncode_b _ (m : Int) t HMI.out HMT.out (HT.out.keep (by go_grown))) (by go_grown) ?_; intro y9 hy9 hb hz9a hz9b; clear hb hz9b) | (go_at_call 8; refine call_ret (w := w) (implEncode_b _ 305 _ H305.out encode305 (HT.out.keep (by go_grown))) (by go_grown) ?_; intro y8 hy8 hb hz8a hz8b; clear hb hz8b))
        all_goals go_ret
        all_goals first | exact ⟨rfl, by go_grown⟩ | exact ⟨(show Ending.returned (.bool (!decide (n ≤ 999))) = _ from by rw [show decide (n ≤ 999) = false from decide_eq_false (by omega)]; rfl), by go_grown⟩
    · have hd2 : decD u = none := by
        rw [← HU.out, encode_no (by unfold inR; simp only [Bool.and_eq_false_iff, decide_eq_false_iff_not]; omega)]
        exact dec_empty
      have HD2 := Lib.hid hd2; clear hd2
      have ho2 : optV none = .tuple #[.int .i64 0, .bool false] := rfl
      by_cases hn0 : 0 ≤ n
      · have hn9 : ¬ n ≤ 999 := by omega
        clear hr
        have tok1 : True := trivial
        have tok2 : True := trivial
        cases hd1 : decD t with
        | none =>
          have ho1 : optV none = .tuple #[.int .i64 0, .bool false] := rfl
          have HD1 := Lib.hid hd1; clear hd1
          go_wp2_with (first | (go_at_call 10; have tkn := tok1; clear tok1 tkn; have hcon := (fun w9 h1 h2 => implDecode_b w9 t none HTS.out HD1.out h1 h2); rw [ho1] at hcon; refine call_ret (w := w) (hcon _ (HT.out.keep (by go_grown)) (HE.out.keep (by go_grown))) (by go_grown) ?_; clear hcon; intro y4 hy4 hb hz4a hz4b; clear hb hz4b) | (go_at_call 10; have hcon := (fun w9 h1 h2 => implDecode_b w9 u none HUS.out HD2.out h1 h2); rw [ho2] at hcon; refine call_ret (w := w) (hcon _ (HT.out.keep (by go_grown)) (HE.out.keep (by go_grown))) (by go_grown) ?_; clear hcon; intro y5 hy5 hb hz5a hz5b; clear hb hz5b) | (go_at_call 9; have hcon := (fun w9 => specDecode_b w9 t none HTS.out HD1.out); rw [ho1] at hcon; refine call_ret (w := w) (hcon _) (by go_grown) ?_; clear hcon; intro y6 hy6 hb hz6a hz6b; clear hb hz6b) | (go_at_call 7; refine call_ret (w := w) (specEncode_b _ _ u HN.out HU.out) (by go_grown) ?_; intro y7 hy7 hb hz7a hz7b; clear hb hz7b) | (go_at_call 8; refine call_ret (w := w) (implEncode_b _ 305 _ H305.out encode305 (HT.out.keep (by go_grown))) (by go_grown) ?_; intro y8 hy8 hb hz8a hz8b; clear hb hz8b))
          all_goals go_ret
          all_goals first | exact ⟨rfl, by go_grown⟩ | exact ⟨(show Ending.returned (.bool (!decide (n ≤ 999))) = _ from by rw [show decide (n ≤ 999) = false from decide_eq_false (by omega)]; rfl), by go_grown⟩
        | some m =>
          have ho1 : optV (some m) = .tuple #[.int .i64 m, .bool true] := rfl
          have hme := decD_enc hd1
          have HD1 := Lib.hid hd1; clear hd1
          have hmi : I64 (m : Int) := by unfold I64; omega
          have HMI := Lib.hid hmi; clear hmi
          have HMT := Lib.hid hme.2; clear hme
          go_wp2_with (first | (go_at_call 10; have tkn := tok1; clear tok1 tkn; have hcon := (fun w9 h1 h2 => implDecode_b w9 t (some m) HTS.out HD1.out h1 h2); rw [ho1] at hcon; refine call_ret (w := w) (hcon _ (HT.out.keep (by go_grown)) (HE.out.keep (by go_grown))) (by go_grown) ?_; clear hcon; intro y4 hy4 hb hz4a hz4b; clear hb hz4b) | (go_at_call 10; have hcon := (fun w9 h1 h2 => implDecode_b w9 u none HUS.out HD2.out h1 h2); rw [ho2] at hcon; refine call_ret (w := w) (hcon _ (HT.out.keep (by go_grown)) (HE.out.keep (by go_grown))) (by go_grown) ?_; clear hcon; intro y5 hy5 hb hz5a hz5b; clear hb hz5b) | (go_at_call 9; have hcon := (fun w9 => specDecode_b w9 t (some m) HTS.out HD1.out); rw [ho1] at hcon; refine call_ret (w := w) (hcon _) (by go_grown) ?_; clear hcon; intro y6 hy6 hb hz6a hz6b; clear hb hz6b) | (go_at_call 7; refine call_ret (w := w) (specEncode_b _ _ u HN.out HU.out) (by go_grown) ?_; intro y7 hy7 hb hz7a hz7b; clear hb hz7b) | (go_at_call 8; have tkn := tok2; clear tok2 tkn; refine call_ret (w := w) (implEncode_b _ (m : Int) t HMI.out HMT.out (HT.out.keep (by go_grown))) (by go_grown) ?_; intro y9 hy9 hb hz9a hz9b; clear hb hz9b) | (go_at_call 8; refine call_ret (w := w) (implEncode_b _ 305 _ H305.out encode305 (HT.out.keep (by go_grown))) (by go_grown) ?_; intro y8 hy8 hb hz8a hz8b; clear hb hz8b))
          all_goals go_ret
          all_goals first | exact ⟨rfl, by go_grown⟩ | exact ⟨(show Ending.returned (.bool (!decide (n ≤ 999))) = _ from by rw [show decide (n ≤ 999) = false from decide_eq_false (by omega)]; rfl), by go_grown⟩
      · clear hr
        have tok1 : True := trivial
        have tok2 : True := trivial
        cases hd1 : decD t with
        | none =>
          have ho1 : optV none = .tuple #[.int .i64 0, .bool false] := rfl
          have HD1 := Lib.hid hd1; clear hd1
          go_wp2_with (first | (go_at_call 10; have tkn := tok1; clear tok1 tkn; have hcon := (fun w9 h1 h2 => implDecode_b w9 t none HTS.out HD1.out h1 h2); rw [ho1] at hcon; refine call_ret (w := w) (hcon _ (HT.out.keep (by go_grown)) (HE.out.keep (by go_grown))) (by go_grown) ?_; clear hcon; intro y4 hy4 hb hz4a hz4b; clear hb hz4b) | (go_at_call 10; have hcon := (fun w9 h1 h2 => implDecode_b w9 u none HUS.out HD2.out h1 h2); rw [ho2] at hcon; refine call_ret (w := w) (hcon _ (HT.out.keep (by go_grown)) (HE.out.keep (by go_grown))) (by go_grown) ?_; clear hcon; intro y5 hy5 hb hz5a hz5b; clear hb hz5b) | (go_at_call 9; have hcon := (fun w9 => specDecode_b w9 t none HTS.out HD1.out); rw [ho1] at hcon; refine call_ret (w := w) (hcon _) (by go_grown) ?_; clear hcon; intro y6 hy6 hb hz6a hz6b; clear hb hz6b) | (go_at_call 7; refine call_ret (w := w) (specEncode_b _ _ u HN.out HU.out) (by go_grown) ?_; intro y7 hy7 hb hz7a hz7b; clear hb hz7b) | (go_at_call 8; refine call_ret (w := w) (implEncode_b _ 305 _ H305.out encode305 (HT.out.keep (by go_grown))) (by go_grown) ?_; intro y8 hy8 hb hz8a hz8b; clear hb hz8b))
          all_goals go_ret
          all_goals first | exact ⟨rfl, by go_grown⟩ | exact ⟨(show Ending.returned (.bool (!decide (n ≤ 999))) = _ from by rw [show decide (n ≤ 999) = false from decide_eq_false (by omega)]; rfl), by go_grown⟩
        | some m =>
          have ho1 : optV (some m) = .tuple #[.int .i64 m, .bool true] := rfl
          have hme := decD_enc hd1
          have HD1 := Lib.hid hd1; clear hd1
          have hmi : I64 (m : Int) := by unfold I64; omega
          have HMI := Lib.hid hmi; clear hmi
          have HMT := Lib.hid hme.2; clear hme
          go_wp2_with (first | (go_at_call 10; have tkn := tok1; clear tok1 tkn; have hcon := (fun w9 h1 h2 => implDecode_b w9 t (some m) HTS.out HD1.out h1 h2); rw [ho1] at hcon; refine call_ret (w := w) (hcon _ (HT.out.keep (by go_grown)) (HE.out.keep (by go_grown))) (by go_grown) ?_; clear hcon; intro y4 hy4 hb hz4a hz4b; clear hb hz4b) | (go_at_call 10; have hcon := (fun w9 h1 h2 => implDecode_b w9 u none HUS.out HD2.out h1 h2); rw [ho2] at hcon; refine call_ret (w := w) (hcon _ (HT.out.keep (by go_grown)) (HE.out.keep (by go_grown))) (by go_grown) ?_; clear hcon; intro y5 hy5 hb hz5a hz5b; clear hb hz5b) | (go_at_call 9; have hcon := (fun w9 => specDecode_b w9 t (some m) HTS.out HD1.out); rw [ho1] at hcon; refine call_ret (w := w) (hcon _) (by go_grown) ?_; clear hcon; intro y6 hy6 hb hz6a hz6b; clear hb hz6b) | (go_at_call 7; refine call_ret (w := w) (specEncode_b _ _ u HN.out HU.out) (by go_grown) ?_; intro y7 hy7 hb hz7a hz7b; clear hb hz7b) | (go_at_call 8; have tkn := tok2; clear tok2 tkn; refine call_ret (w := w) (implEncode_b _ (m : Int) t HMI.out HMT.out (HT.out.keep (by go_grown))) (by go_grown) ?_; intro y9 hy9 hb hz9a hz9b; clear hb hz9b) | (go_at_call 8; refine call_ret (w := w) (implEncode_b _ 305 _ H305.out encode305 (HT.out.keep (by go_grown))) (by go_grown) ?_; intro y8 hy8 hb hz8a hz8b; clear hb hz8b))
          all_goals go_ret
          all_goals first | exact ⟨rfl, by go_grown⟩ | exact ⟨(show Ending.returned (.bool (!decide (n ≤ 999))) = _ from by rw [show decide (n ≤ 999) = false from decide_eq_false (by omega)]; rfl), by go_grown⟩
end Go.Proofs.YtjkanhbnialmmaaDoor
