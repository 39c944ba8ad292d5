/- A value turned to another kind: both sides. -/
import Derived.Test.YtjkanhbnialmmaaDoorFe
import Derived.Test.YtjkanhbnialmmaaDoorVv
namespace Go.Proofs.YtjkanhbnialmmaaDoor
open Go.RowKit
open GoD (rd own)
def valOf (v : ValueD) : Value := .agg #[.int .i64 v.1, .int .i64 v.2.1, .string v.2.2]
def zeroV : ValueD := (0, 0, ⟨#[]⟩)
noncomputable def convV (v : ValueD) (k : Int) : ValueD × Bool :=
  if okVal v = false ∨ v.1 = 0 ∨ inR k 1 2 = false then (zeroV, false)
  else if v.1 = k then (v, true)
  else if k = 2 then ((2, 0, encodeInt v.2.1), true)
  else match decD v.2.2 with
    | some n => ((1, (n : Int), ⟨#[]⟩), true)
    | none => (zeroV, false)
def resV (p : ValueD × Bool) : Value := .tuple #[valOf p.1, .bool p.2]
theorem specStringValue_c (w : World) (s : ByteArray) : Calls Tryd.prog 25 #[.string s] w (Ret w (.agg #[.int .i64 2, .int .i64 0, .string s])) := by
  go_enter Tryd.func25, Tryd.ntmps25
  go_wp2
  refine bodyPost_ret (v := .agg #[.int .i64 2, .int .i64 0, .string s]) (by simp [results, Tryd.results25, go_sem]) rfl ⟨rfl, by go_grown⟩
theorem specIntValue_c (w : World) (n : Int) : Calls Tryd.prog 26 #[.int .i64 n] w (Ret w (.agg #[.int .i64 1, .int .i64 n, .string ⟨#[]⟩])) := by
  go_enter Tryd.func26, Tryd.ntmps26
  go_wp2
  refine bodyPost_ret (v := .agg #[.int .i64 1, .int .i64 n, .string ⟨#[]⟩]) (by simp [results, Tryd.results26, go_sem]) rfl ⟨rfl, by go_grown⟩
theorem implStringValue_c (w : World) (s : ByteArray) : Calls Tryd.prog 28 #[.string s] w (Ret w (.agg #[.int .i64 2, .int .i64 0, .string s])) := by
  go_enter Tryd.func28, Tryd.ntmps28
  go_wp2
  refine bodyPost_ret (v := .agg #[.int .i64 2, .int .i64 0, .string s]) (by simp [results, Tryd.results28, go_sem]) rfl ⟨rfl, by go_grown⟩
theorem implIntValue_c (w : World) (n : Int) : Calls Tryd.prog 29 #[.int .i64 n] w (Ret w (.agg #[.int .i64 1, .int .i64 n, .string ⟨#[]⟩])) := by
  go_enter Tryd.func29, Tryd.ntmps29
  go_wp2
  refine bodyPost_ret (v := .agg #[.int .i64 1, .int .i64 n, .string ⟨#[]⟩]) (by simp [results, Tryd.results29, go_sem]) rfl ⟨rfl, by go_grown⟩
set_option maxRecDepth 20000 in
set_option maxHeartbeats 2000000 in
theorem specConvert_c (w : World) (a1 a2 : Int) (a3 : ByteArray) (k : Int) (h1 : I64 a1) (h2 : I64 a2) (h3 : a3.size ≤ maxLen) (hk : I64 k) : Calls Tryd.prog 12 #[valOf (a1, a2, a3), .int .i64 k] w (Ret w (resV (convV (a1, a2, a3) k))) := by
  have HS := Lib.hid h3
  unfold maxLen at h3
  have H2 := Lib.hid h2; clear h2
  have hv0 : valOf (a1, a2, a3) = .agg #[.int .i64 a1, .int .i64 a2, .string a3] := rfl
  rw [hv0]; clear hv0 h1 hk
  cases hv : okVal (a1, a2, a3)
  · have hcv : convV (a1, a2, a3) k = (zeroV, false) := by
      unfold convV
      rw [if_pos (Or.inl hv)]
    rw [hcv]
    clear hcv
    have HV := Lib.hid hv; clear hv
    go_enter Tryd.func12, Tryd.ntmps12
    go_wp2_with (first | (go_at_call 24; refine call_ret (w := w) (specIsValidValue_b _ a1 a2 a3 false HS.out HV.out) (by go_grown) ?_; intro g1 hG1 hb hz1 hy1; (try simp only [World.size_alloc, World.size_setCell, World.size_drew] at hy1); have q1a := fun o => bcell hb w.heap.size o (by first | go_size | omega); have q1b := fun o => bcell hb (w.heap.size + 1) o (by first | go_size | omega); have q1f := fun o => bfroz hb (w.heap.size + 1) o (by first | go_size | omega); clear hb))
    refine bodyPost_ret (v := .tuple #[.agg #[.int .i64 0, .int .i64 0, .string ⟨#[]⟩], .bool false]) (by simp [results, Tryd.results12, go_sem, q1b]) rfl ⟨rfl, by repeat (first | (with_reducible assumption) | (refine below_set ?_ (by omega)))⟩
  by_cases h0 : a1 = 0
  · subst h0
    have hcv : convV (0, a2, a3) k = (zeroV, false) := by
      unfold convV
      rw [if_pos (Or.inr (Or.inl rfl))]
    rw [hcv]
    clear hcv
    have HV := Lib.hid hv; clear hv
    go_enter Tryd.func12, Tryd.ntmps12
    go_wp2_with (first | (go_at_call 24; refine call_ret (w := w) (specIsValidValue_b _ 0 a2 a3 true HS.out HV.out) (by go_grown) ?_; intro g1 hG1 hb hz1 hy1; (try simp only [World.size_alloc, World.size_setCell, World.size_drew] at hy1); have q1a := fun o => bcell hb w.heap.size o (by first | go_size | omega); have q1b := fun o => bcell hb (w.heap.size + 1) o (by first | go_size | omega); have q1f := fun o => bfroz hb (w.heap.size + 1) o (by first | go_size | omega); clear hb))
    refine bodyPost_ret (v := .tuple #[.agg #[.int .i64 0, .int .i64 0, .string ⟨#[]⟩], .bool false]) (by simp [results, Tryd.results12, go_sem, q1b]) rfl ⟨rfl, by repeat (first | (with_reducible assumption) | (refine below_set ?_ (by omega)))⟩
  cases hk : inR k 1 2
  · have hcv : convV (a1, a2, a3) k = (zeroV, false) := by
      unfold convV
      rw [if_pos (Or.inr (Or.inr hk))]
    rw [hcv]
    clear hcv
    have HV := Lib.hid hv; clear hv
    have HK := Lib.hid hk; clear hk
    go_enter Tryd.func12, Tryd.ntmps12
    go_wp2_with (first | (go_at_call 24; refine call_ret (w := w) (specIsValidValue_b _ a1 a2 a3 true HS.out HV.out) (by go_grown) ?_; intro g1 hG1 hb hz1 hy1; (try simp only [World.size_alloc, World.size_setCell, World.size_drew] at hy1); have q1a := fun o => bcell hb w.heap.size o (by first | go_size | omega); have q1b := fun o => bcell hb (w.heap.size + 1) o (by first | go_size | omega); have q1f := fun o => bfroz hb (w.heap.size + 1) o (by first | go_size | omega); clear hb) | (go_at_call 19; refine call_ret (w := w) (l01In_b _ k 1 2 false HK.out) (by go_grown) ?_; intro g2 hG2 hb hz2 hy2; (try simp only [World.size_alloc, World.size_setCell, World.size_drew] at hy2); have q2a := fun o => bcell hb w.heap.size o (by first | go_size | omega); have q2b := fun o => bcell hb (w.heap.size + 1) o (by first | go_size | omega); have q2f := fun o => bfroz hb (w.heap.size + 1) o (by first | go_size | omega); clear hb))
    refine bodyPost_ret (v := .tuple #[.agg #[.int .i64 0, .int .i64 0, .string ⟨#[]⟩], .bool false]) (by simp [results, Tryd.results12, go_sem, q1b, q2b]) rfl ⟨rfl, by repeat (first | (with_reducible assumption) | (refine below_set ?_ (by omega)))⟩
  have hnot : ¬ (okVal (a1, a2, a3) = false ∨ a1 = 0 ∨ inR k 1 2 = false) := by rw [hv, hk]; simp [h0]
  have hk12 : k = 1 ∨ k = 2 := by unfold inR at hk; simp only [Bool.and_eq_true, decide_eq_true_eq] at hk; omega
  have HV := Lib.hid hv; clear hv
  have HK := Lib.hid hk; clear hk
  have HN := Lib.hid hnot; clear hnot
  by_cases he1 : a1 = k
  · subst he1
    have hcv : convV (a1, a2, a3) a1 = ((a1, a2, a3), true) := by
      unfold convV
      rw [if_neg HN.out, if_pos rfl]
    rw [hcv]
    clear hcv
    rcases hk12 with rfl | rfl
    all_goals (go_enter Tryd.func12, Tryd.ntmps12)
    all_goals go_wp2_with (first | (go_at_call 24; refine call_ret (w := w) (specIsValidValue_b _ _ a2 a3 true HS.out HV.out) (by go_grown) ?_; intro g1 hG1 hb hz1 hy1; (try simp only [World.size_alloc, World.size_setCell, World.size_drew] at hy1); have q1a := fun o => bcell hb w.heap.size o (by first | go_size | omega); have q1b := fun o => bcell hb (w.heap.size + 1) o (by first | go_size | omega); have q1f := fun o => bfroz hb (w.heap.size + 1) o (by first | go_size | omega); clear hb) | (go_at_call 19; refine call_ret (w := w) (l01In_b _ _ 1 2 true HK.out) (by go_grown) ?_; intro g2 hG2 hb hz2 hy2; (try simp only [World.size_alloc, World.size_setCell, World.size_drew] at hy2); have q2a := fun o => bcell hb w.heap.size o (by first | go_size | omega); have q2b := fun o => bcell hb (w.heap.size + 1) o (by first | go_size | omega); have q2f := fun o => bfroz hb (w.heap.size + 1) o (by first | go_size | omega); clear hb))
    · refine bodyPost_ret (v := .tuple #[.agg #[.int .i64 1, .int .i64 a2, .string a3], .bool true]) (by simp [results, Tryd.results12, go_sem, q1b, q2b]) rfl ⟨rfl, by repeat (first | (with_reducible assumption) | (refine below_set ?_ (by omega)))⟩
    · refine bodyPost_ret (v := .tuple #[.agg #[.int .i64 2, .int .i64 a2, .string a3], .bool true]) (by simp [results, Tryd.results12, go_sem, q1b, q2b]) rfl ⟨rfl, by repeat (first | (with_reducible assumption) | (refine below_set ?_ (by omega)))⟩
  by_cases hk2 : k = 2
  · subst hk2
    have hcv : convV (a1, a2, a3) 2 = ((2, 0, encodeInt a2), true) := by
      unfold convV
      rw [if_neg HN.out, if_neg he1, if_pos rfl]
    rw [hcv]
    clear hcv hk12
    generalize hu : encodeInt a2 = u
    have HE2 := Lib.hid hu; clear hu
    go_enter Tryd.func12, Tryd.ntmps12
    go_wp2_with (first | (go_at_call 24; refine call_ret (w := w) (specIsValidValue_b _ a1 a2 a3 true HS.out HV.out) (by go_grown) ?_; intro g1 hG1 hb hz1 hy1; (try simp only [World.size_alloc, World.size_setCell, World.size_drew] at hy1); have q1a := fun o => bcell hb w.heap.size o (by first | go_size | omega); have q1b := fun o => bcell hb (w.heap.size + 1) o (by first | go_size | omega); have q1f := fun o => bfroz hb (w.heap.size + 1) o (by first | go_size | omega); clear hb) | (go_at_call 19; refine call_ret (w := w) (l01In_b _ 2 1 2 true HK.out) (by go_grown) ?_; intro g2 hG2 hb hz2 hy2; (try simp only [World.size_alloc, World.size_setCell, World.size_drew] at hy2); have q2a := fun o => bcell hb w.heap.size o (by first | go_size | omega); have q2b := fun o => bcell hb (w.heap.size + 1) o (by first | go_size | omega); have q2f := fun o => bfroz hb (w.heap.size + 1) o (by first | go_size | omega); clear hb) | (go_at_call 7; have hcon := (fun w1 => specEncode_c w1 a2 H2.out); rw [HE2.out] at hcon; refine call_ret (w := w) (hcon _) (by go_grown) ?_; clear hcon; intro g3 hG3 hb hz3 hy3; (try simp only [World.size_alloc, World.size_setCell, World.size_drew] at hy3); have q3a := fun o => bcell hb w.heap.size o (by first | go_size | omega); have q3b := fun o => bcell hb (w.heap.size + 1) o (by first | go_size | omega); have q3f := fun o => bfroz hb (w.heap.size + 1) o (by first | go_size | omega); clear hb) | (go_at_call 25; refine call_ret (w := w) (specStringValue_c _ u) (by go_grown) ?_; intro g4 hG4 hb hz4 hy4; (try simp only [World.size_alloc, World.size_setCell, World.size_drew] at hy4); have q4a := fun o => bcell hb w.heap.size o (by first | go_size | omega); have q4b := fun o => bcell hb (w.heap.size + 1) o (by first | go_size | omega); have q4f := fun o => bfroz hb (w.heap.size + 1) o (by first | go_size | omega); clear hb))
    refine bodyPost_ret (v := .tuple #[.agg #[.int .i64 2, .int .i64 0, .string u], .bool true]) (by simp [results, Tryd.results12, go_sem, q1b, q2b, q3b, q4b]) rfl ⟨rfl, by repeat (first | (with_reducible assumption) | (refine below_set ?_ (by omega)))⟩
  obtain rfl : k = 1 := by omega
  clear hk12
  cases hd : decD a3 with
  | none =>
    have hcv : convV (a1, a2, a3) 1 = (zeroV, false) := by
      unfold convV
      rw [if_neg HN.out, if_neg he1, if_neg (by decide), hd]
    rw [hcv]
    clear hcv
    have ho : optV none = .tuple #[.int .i64 0, .bool false] := rfl
    have HD := Lib.hid hd; clear hd
    go_enter Tryd.func12, Tryd.ntmps12
    go_wp2_with (first | (go_at_call 24; refine call_ret (w := w) (specIsValidValue_b _ a1 a2 a3 true HS.out HV.out) (by go_grown) ?_; intro g1 hG1 hb hz1 hy1; (try simp only [World.size_alloc, World.size_setCell, World.size_drew] at hy1); have q1a := fun o => bcell hb w.heap.size o (by first | go_size | omega); have q1b := fun o => bcell hb (w.heap.size + 1) o (by first | go_size | omega); have q1f := fun o => bfroz hb (w.heap.size + 1) o (by first | go_size | omega); clear hb) | (go_at_call 19; refine call_ret (w := w) (l01In_b _ 1 1 2 true HK.out) (by go_grown) ?_; intro g2 hG2 hb hz2 hy2; (try simp only [World.size_alloc, World.size_setCell, World.size_drew] at hy2); have q2a := fun o => bcell hb w.heap.size o (by first | go_size | omega); have q2b := fun o => bcell hb (w.heap.size + 1) o (by first | go_size | omega); have q2f := fun o => bfroz hb (w.heap.size + 1) o (by first | go_size | omega); clear hb) | (go_at_call 9; have hcon := (fun w1 => specDecode_c w1 a3 HS.out); rw [HD.out, ho] at hcon; refine call_ret (w := w) (hcon _) (by go_grown) ?_; clear hcon; intro g5 hG5 hb hz5 hy5; (try simp only [World.size_alloc, World.size_setCell, World.size_drew] at hy5); have q5a := fun o => bcell hb w.heap.size o (by first | go_size | omega); have q5b := fun o => bcell hb (w.heap.size + 1) o (by first | go_size | omega); have q5f := fun o => bfroz hb (w.heap.size + 1) o (by first | go_size | omega); clear hb))
    refine bodyPost_ret (v := .tuple #[.agg #[.int .i64 0, .int .i64 0, .string ⟨#[]⟩], .bool false]) (by simp [results, Tryd.results12, go_sem, q1b, q2b, q5b]) rfl ⟨rfl, by repeat (first | (with_reducible assumption) | (refine below_set ?_ (by omega)))⟩
  | some n =>
    have hcv : convV (a1, a2, a3) 1 = ((1, (n : Int), ⟨#[]⟩), true) := by
      unfold convV
      rw [if_neg HN.out, if_neg he1, if_neg (by decide), hd]
    rw [hcv]
    clear hcv
    have ho : optV (some n) = .tuple #[.int .i64 n, .bool true] := rfl
    have HD := Lib.hid hd; clear hd
    go_enter Tryd.func12, Tryd.ntmps12
    go_wp2_with (first | (go_at_call 24; refine call_ret (w := w) (specIsValidValue_b _ a1 a2 a3 true HS.out HV.out) (by go_grown) ?_; intro g1 hG1 hb hz1 hy1; (try simp only [World.size_alloc, World.size_setCell, World.size_drew] at hy1); have q1a := fun o => bcell hb w.heap.size o (by first | go_size | omega); have q1b := fun o => bcell hb (w.heap.size + 1) o (by first | go_size | omega); have q1f := fun o => bfroz hb (w.heap.size + 1) o (by first | go_size | omega); clear hb) | (go_at_call 19; refine call_ret (w := w) (l01In_b _ 1 1 2 true HK.out) (by go_grown) ?_; intro g2 hG2 hb hz2 hy2; (try simp only [World.size_alloc, World.size_setCell, World.size_drew] at hy2); have q2a := fun o => bcell hb w.heap.size o (by first | go_size | omega); have q2b := fun o => bcell hb (w.heap.size + 1) o (by first | go_size | omega); have q2f := fun o => bfroz hb (w.heap.size + 1) o (by first | go_size | omega); clear hb) | (go_at_call 9; have hcon := (fun w1 => specDecode_c w1 a3 HS.out); rw [HD.out, ho] at hcon; refine call_ret (w := w) (hcon _) (by go_grown) ?_; clear hcon; intro g5 hG5 hb hz5 hy5; (try simp only [World.size_alloc, World.size_setCell, World.size_drew] at hy5); have q5a := fun o => bcell hb w.heap.size o (by first | go_size | omega); have q5b := fun o => bcell hb (w.heap.size + 1) o (by first | go_size | omega); have q5f := fun o => bfroz hb (w.heap.size + 1) o (by first | go_size | omega); clear hb) | (go_at_call 26; refine call_ret (w := w) (specIntValue_c _ (n : Int)) (by go_grown) ?_; intro g6 hG6 hb hz6 hy6; (try simp only [World.size_alloc, World.size_setCell, World.size_drew] at hy6); have q6a := fun o => bcell hb w.heap.size o (by first | go_size | omega); have q6b := fun o => bcell hb (w.heap.size + 1) o (by first | go_size | omega); have q6f := fun o => bfroz hb (w.heap.size + 1) o (by first | go_size | omega); clear hb))
    refine bodyPost_ret (v := .tuple #[.agg #[.int .i64 1, .int .i64 n, .string ⟨#[]⟩], .bool true]) (by simp [results, Tryd.results12, go_sem, q1b, q2b, q5b, q6b]) rfl ⟨rfl, by repeat (first | (with_reducible assumption) | (refine below_set ?_ (by omega)))⟩
set_option maxRecDepth 20000 in
set_option maxHeartbeats 2000000 in
theorem implConvert_c (w : World) (a1 a2 : Int) (a3 : ByteArray) (k : Int) (h1 : I64 a1) (h2 : I64 a2) (h3 : a3.size ≤ maxLen) (hk : I64 k) (ht : tabOk w) (he : errOk w) : Calls Tryd.prog 14 #[valOf (a1, a2, a3), .int .i64 k] w (Ret w (resV (convV (a1, a2, a3) k))) := by
  have HS := Lib.hid h3
  unfold maxLen at h3
  have H2 := Lib.hid h2; clear h2
  have hv0 : valOf (a1, a2, a3) = .agg #[.int .i64 a1, .int .i64 a2, .string a3] := rfl
  rw [hv0]; clear hv0 h1 hk
  have HT := Lib.hid ht; clear ht
  have HER := Lib.hid he; clear he
  cases hv : okVal (a1, a2, a3)
  · have hcv : convV (a1, a2, a3) k = (zeroV, false) := by
      unfold convV
      rw [if_pos (Or.inl hv)]
    rw [hcv]
    clear hcv
    have HV := Lib.hid hv; clear hv
    go_enter Tryd.func14, Tryd.ntmps14
    go_wp2_with (first | (go_at_call 27; refine call_ret (w := w) (implIsValidValue_b _ a1 a2 a3 false HS.out HV.out) (by go_grown) ?_; intro g1 hG1 hb hz1 hy1; (try simp only [World.size_alloc, World.size_setCell, World.size_drew] at hy1); have q1a := fun o => bcell hb w.heap.size o (by first | go_size | omega); have q1b := fun o => bcell hb (w.heap.size + 1) o (by first | go_size | omega); have q1f := fun o => bfroz hb (w.heap.size + 1) o (by first | go_size | omega); clear hb))
    refine bodyPost_ret (v := .tuple #[.agg #[.int .i64 0, .int .i64 0, .string ⟨#[]⟩], .bool false]) (by simp [results, Tryd.results14, go_sem, q1b]) rfl ⟨rfl, by repeat (first | (with_reducible assumption) | (refine below_set ?_ (by omega)))⟩
  by_cases h0 : a1 = 0
  · subst h0
    have hcv : convV (0, a2, a3) k = (zeroV, false) := by
      unfold convV
      rw [if_pos (Or.inr (Or.inl rfl))]
    rw [hcv]
    clear hcv
    have HV := Lib.hid hv; clear hv
    go_enter Tryd.func14, Tryd.ntmps14
    go_wp2_with (first | (go_at_call 27; refine call_ret (w := w) (implIsValidValue_b _ 0 a2 a3 true HS.out HV.out) (by go_grown) ?_; intro g1 hG1 hb hz1 hy1; (try simp only [World.size_alloc, World.size_setCell, World.size_drew] at hy1); have q1a := fun o => bcell hb w.heap.size o (by first | go_size | omega); have q1b := fun o => bcell hb (w.heap.size + 1) o (by first | go_size | omega); have q1f := fun o => bfroz hb (w.heap.size + 1) o (by first | go_size | omega); clear hb))
    refine bodyPost_ret (v := .tuple #[.agg #[.int .i64 0, .int .i64 0, .string ⟨#[]⟩], .bool false]) (by simp [results, Tryd.results14, go_sem, q1b]) rfl ⟨rfl, by repeat (first | (with_reducible assumption) | (refine below_set ?_ (by omega)))⟩
  cases hk : inR k 1 2
  · have hcv : convV (a1, a2, a3) k = (zeroV, false) := by
      unfold convV
      rw [if_pos (Or.inr (Or.inr hk))]
    rw [hcv]
    clear hcv
    have hk1 : (k != (1 : Int)) = true := by rw [bne_iff_ne]; intro e; rw [e] at hk; cases hk
    have hk2 : (k != (2 : Int)) = true := by rw [bne_iff_ne]; intro e; rw [e] at hk; cases hk
    have h0b : (a1 == (0 : Int)) = false := beq_eq_false_iff_ne.2 h0
    have HV := Lib.hid hv; clear hv
    have HK := Lib.hid hk; clear hk
    go_enter Tryd.func14, Tryd.ntmps14
    go_wp2_with (first | (go_at_call 27; refine call_ret (w := w) (implIsValidValue_b _ a1 a2 a3 true HS.out HV.out) (by go_grown) ?_; intro g1 hG1 hb hz1 hy1; (try simp only [World.size_alloc, World.size_setCell, World.size_drew] at hy1); have q1a := fun o => bcell hb w.heap.size o (by first | go_size | omega); have q1b := fun o => bcell hb (w.heap.size + 1) o (by first | go_size | omega); have q1f := fun o => bfroz hb (w.heap.size + 1) o (by first | go_size | omega); clear hb))
    refine bodyPost_ret (v := .tuple #[.agg #[.int .i64 0, .int .i64 0, .string ⟨#[]⟩], .bool false]) (by simp [results, Tryd.results14, go_sem, q1b]) rfl ⟨rfl, by repeat (first | (with_reducible assumption) | (refine below_set ?_ (by omega)))⟩
  have hnot : ¬ (okVal (a1, a2, a3) = false ∨ a1 = 0 ∨ inR k 1 2 = false) := by rw [hv, hk]; simp [h0]
  have hk12 : k = 1 ∨ k = 2 := by unfold inR at hk; simp only [Bool.and_eq_true, decide_eq_true_eq] at hk; omega
  have HV := Lib.hid hv; clear hv
  have HK := Lib.hid hk; clear hk
  have HN := Lib.hid hnot; clear hnot
  by_cases he1 : a1 = k
  · subst he1
    have hcv : convV (a1, a2, a3) a1 = ((a1, a2, a3), true) := by
      unfold convV
      rw [if_neg HN.out, if_pos rfl]
    rw [hcv]
    clear hcv
    rcases hk12 with rfl | rfl
    all_goals (go_enter Tryd.func14, Tryd.ntmps14)
    all_goals go_wp2_with (first | (go_at_call 27; refine call_ret (w := w) (implIsValidValue_b _ _ a2 a3 true HS.out HV.out) (by go_grown) ?_; intro g1 hG1 hb hz1 hy1; (try simp only [World.size_alloc, World.size_setCell, World.size_drew] at hy1); have q1a := fun o => bcell hb w.heap.size o (by first | go_size | omega); have q1b := fun o => bcell hb (w.heap.size + 1) o (by first | go_size | omega); have q1f := fun o => bfroz hb (w.heap.size + 1) o (by first | go_size | omega); clear hb))
    · refine bodyPost_ret (v := .tuple #[.agg #[.int .i64 1, .int .i64 a2, .string a3], .bool true]) (by simp [results, Tryd.results14, go_sem, q1b]) rfl ⟨rfl, by repeat (first | (with_reducible assumption) | (refine below_set ?_ (by omega)))⟩
    · refine bodyPost_ret (v := .tuple #[.agg #[.int .i64 2, .int .i64 a2, .string a3], .bool true]) (by simp [results, Tryd.results14, go_sem, q1b]) rfl ⟨rfl, by repeat (first | (with_reducible assumption) | (refine below_set ?_ (by omega)))⟩
  by_cases hk2 : k = 2
  · subst hk2
    have hcv : convV (a1, a2, a3) 2 = ((2, 0, encodeInt a2), true) := by
      unfold convV
      rw [if_neg HN.out, if_neg he1, if_pos rfl]
    rw [hcv]
    clear hcv hk12
    generalize hu : encodeInt a2 = u
    have HE2 := Lib.hid hu; clear hu
    go_enter Tryd.func14, Tryd.ntmps14
    go_wp2_with (first | (go_at_call 27; refine call_ret (w := w) (implIsValidValue_b _ a1 a2 a3 true HS.out HV.out) (by go_grown) ?_; intro g1 hG1 hb hz1 hy1; (try simp only [World.size_alloc, World.size_setCell, World.size_drew] at hy1); have q1a := fun o => bcell hb w.heap.size o (by first | go_size | omega); have q1b := fun o => bcell hb (w.heap.size + 1) o (by first | go_size | omega); have q1f := fun o => bfroz hb (w.heap.size + 1) o (by first | go_size | omega); clear hb) | (go_at_call 8; have hcon := (fun w1 h => implEncode_c w1 a2 H2.out h); rw [HE2.out] at hcon; refine call_ret (w := w) (hcon _ (HT.out.keep (by go_grown))) (by go_grown) ?_; clear hcon; intro g3 hG3 hb hz3 hy3; (try simp only [World.size_alloc, World.size_setCell, World.size_drew] at hy3); have q3a := fun o => bcell hb w.heap.size o (by first | go_size | omega); have q3b := fun o => bcell hb (w.heap.size + 1) o (by first | go_size | omega); have q3f := fun o => bfroz hb (w.heap.size + 1) o (by first | go_size | omega); clear hb) | (go_at_call 28; refine call_ret (w := w) (implStringValue_c _ u) (by go_grown) ?_; intro g4 hG4 hb hz4 hy4; (try simp only [World.size_alloc, World.size_setCell, World.size_drew] at hy4); have q4a := fun o => bcell hb w.heap.size o (by first | go_size | omega); have q4b := fun o => bcell hb (w.heap.size + 1) o (by first | go_size | omega); have q4f := fun o => bfroz hb (w.heap.size + 1) o (by first | go_size | omega); clear hb))
    refine bodyPost_ret (v := .tuple #[.agg #[.int .i64 2, .int .i64 0, .string u], .bool true]) (by simp [results, Tryd.results14, go_sem, q1b, q3b, q4b]) rfl ⟨rfl, by repeat (first | (with_reducible assumption) | (refine below_set ?_ (by omega)))⟩
  obtain rfl : k = 1 := by omega
  clear hk12
  cases hd : decD a3 with
  | none =>
    have hcv : convV (a1, a2, a3) 1 = (zeroV, false) := by
      unfold convV
      rw [if_neg HN.out, if_neg he1, if_neg (by decide), hd]
    rw [hcv]
    clear hcv
    have ho : optV none = .tuple #[.int .i64 0, .bool false] := rfl
    have HD := Lib.hid hd; clear hd
    go_enter Tryd.func14, Tryd.ntmps14
    go_wp2_with (first | (go_at_call 27; refine call_ret (w := w) (implIsValidValue_b _ a1 a2 a3 true HS.out HV.out) (by go_grown) ?_; intro g1 hG1 hb hz1 hy1; (try simp only [World.size_alloc, World.size_setCell, World.size_drew] at hy1); have q1a := fun o => bcell hb w.heap.size o (by first | go_size | omega); have q1b := fun o => bcell hb (w.heap.size + 1) o (by first | go_size | omega); have q1f := fun o => bfroz hb (w.heap.size + 1) o (by first | go_size | omega); clear hb) | (go_at_call 10; have hcon := (fun w1 h h2 => implDecode_c w1 a3 HS.out h h2); rw [HD.out, ho] at hcon; refine call_ret (w := w) (hcon _ (HT.out.keep (by go_grown)) (HER.out.keep (by go_grown))) (by go_grown) ?_; clear hcon; intro g5 hG5 hb hz5 hy5; (try simp only [World.size_alloc, World.size_setCell, World.size_drew] at hy5); have q5a := fun o => bcell hb w.heap.size o (by first | go_size | omega); have q5b := fun o => bcell hb (w.heap.size + 1) o (by first | go_size | omega); have q5f := fun o => bfroz hb (w.heap.size + 1) o (by first | go_size | omega); clear hb))
    refine bodyPost_ret (v := .tuple #[.agg #[.int .i64 0, .int .i64 0, .string ⟨#[]⟩], .bool false]) (by simp [results, Tryd.results14, go_sem, q1b, q5b]) rfl ⟨rfl, by repeat (first | (with_reducible assumption) | (refine below_set ?_ (by omega)))⟩
  | some n =>
    have hcv : convV (a1, a2, a3) 1 = ((1, (n : Int), ⟨#[]⟩), true) := by
      unfold convV
      rw [if_neg HN.out, if_neg he1, if_neg (by decide), hd]
    rw [hcv]
    clear hcv
    have ho : optV (some n) = .tuple #[.int .i64 n, .bool true] := rfl
    have HD := Lib.hid hd; clear hd
    go_enter Tryd.func14, Tryd.ntmps14
    go_wp2_with (first | (go_at_call 27; refine call_ret (w := w) (implIsValidValue_b _ a1 a2 a3 true HS.out HV.out) (by go_grown) ?_; intro g1 hG1 hb hz1 hy1; (try simp only [World.size_alloc, World.size_setCell, World.size_drew] at hy1); have q1a := fun o => bcell hb w.heap.size o (by first | go_size | omega); have q1b := fun o => bcell hb (w.heap.size + 1) o (by first | go_size | omega); have q1f := fun o => bfroz hb (w.heap.size + 1) o (by first | go_size | omega); clear hb) | (go_at_call 10; have hcon := (fun w1 h h2 => implDecode_c w1 a3 HS.out h h2); rw [HD.out, ho] at hcon; refine call_ret (w := w) (hcon _ (HT.out.keep (by go_grown)) (HER.out.keep (by go_grown))) (by go_grown) ?_; clear hcon; intro g5 hG5 hb hz5 hy5; (try simp only [World.size_alloc, World.size_setCell, World.size_drew] at hy5); have q5a := fun o => bcell hb w.heap.size o (by first | go_size | omega); have q5b := fun o => bcell hb (w.heap.size + 1) o (by first | go_size | omega); have q5f := fun o => bfroz hb (w.heap.size + 1) o (by first | go_size | omega); clear hb) | (go_at_call 29; refine call_ret (w := w) (implIntValue_c _ (n : Int)) (by go_grown) ?_; intro g6 hG6 hb hz6 hy6; (try simp only [World.size_alloc, World.size_setCell, World.size_drew] at hy6); have q6a := fun o => bcell hb w.heap.size o (by first | go_size | omega); have q6b := fun o => bcell hb (w.heap.size + 1) o (by first | go_size | omega); have q6f := fun o => bfroz hb (w.heap.size + 1) o (by first | go_size | omega); clear hb))
    refine bodyPost_ret (v := .tuple #[.agg #[.int .i64 1, .int .i64 n, .string ⟨#[]⟩], .bool true]) (by simp [results, Tryd.results14, go_sem, q1b, q5b, q6b]) rfl ⟨rfl, by repeat (first | (with_reducible assumption) | (refine below_set ?_ (by omega)))⟩
end Go.Proofs.YtjkanhbnialmmaaDoor
