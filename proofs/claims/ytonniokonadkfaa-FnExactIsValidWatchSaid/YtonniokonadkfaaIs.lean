/- What the laws' own package of specifications does with slices of integers: ContainsID, l07PutId, ApplyDiffToIDs. -/
import Derived.Test.YtonniokonadkfaaIr
import Derived.Test.YtonniokonadkfaaRp
import Derived.Test.YtonniokonadkfaaTy
import Derived.Test.YtonniokonadkfaaProg
import Derived.Outline
import Derived.Lib.SliceRun
namespace Go.Proofs.Ytonniokonadkfaa
open Go.RowKit
open GoD (rd own)

theorem int_at {w : World} {b off : Nat} {l : List Int} (hc : ∀ j, j < l.length → w.cell? ⟨b, off + j, none⟩ = some (.int .i64 (l.getD j 0))) {k : Nat} {x : Int} (hk : l[k]? = some x) : w.cell? ⟨b, off + k, none⟩ = some (.int .i64 x) := by
  have h := hc k (List.getElem?_eq_some_iff.1 hk).1
  rw [List.getD_eq_getElem?_getD, hk] at h
  exact h

theorem containsID_c (w : World) (v : Value) (l : List Int) (x : Int) (ha : rd w [v] l) : Calls Try.prog 35 #[v, .int .i64 x] w (Ret w (.bool (l.contains x))) := by
  obtain ⟨oa, cap, rfl⟩ := slice_of_rd ha
  have hn := len_of_rd ha
  have hcs := rd_ints ha
  clear ha
  have hres : ∀ k, k ≤ l.length → (l.take k).contains x = false → ∀ y, l[k]? = some y → (l.take (k + 1)).contains x = decide (y = x) := fun k hk h y hy => by
    rw [List.take_add_one, hy, List.contains_append, h]
    simp [eq_comm]
  have hin : ∀ k, (l.take k).contains x = true → l.contains x = true := fun k h => by
    rw [List.contains_iff_mem] at h ⊢
    exact List.mem_of_mem_take h
  generalize hr : l.contains x = r
  have HR := Lib.hid hr; clear hr
  go_enter Try.func35, Try.ntmps35
  go_wp2
  go_loop [5] (fun i => ∃ k : Nat, k ≤ l.length ∧ i = .int .i64 k ∧ (l.take k).contains x = false) (fun i => l.length - (intOf i).toNat)
  case atStart => exact ⟨0, Nat.zero_le _, rfl, by simp⟩
  case round =>
    obtain ⟨k, hk, rfl, hno⟩ := hrel
    by_cases hkl : k < l.length
    · have hx := List.getElem?_eq_getElem hkl
      generalize l[k] = y at hx
      rcases hcs with rfl | ⟨b, off, rfl, hc⟩
      · simp at hkl
      have hcell := int_at hc hx
      have hnext := hres k hk hno y hx
      have HN := Lib.hid hnext; clear hnext
      clear hc hres
      by_cases hyx : y = x
      · subst hyx
        obtain rfl : r = true := HR.out ▸ hin (k + 1) (by rw [HN.out]; simp)
        clear hin hno hx
        go_wp2
        go_ret
        exact ⟨rfl, by go_grown⟩
      · clear hin
        go_wp2
        go_roundw
        case rel => exact ⟨k + 1, by omega, by go_num, by rw [HN.out]; simp [hyx]⟩
        case measure => simp [intOf]; omega
    · obtain rfl : k = l.length := by omega
      rw [List.take_length] at hno
      obtain rfl : r = false := HR.out ▸ hno
      clear hno
      go_wp2
      go_ret
      exact ⟨rfl, by go_grown⟩

theorem rd_dropI {w : World} {b off cap : Nat} {l : List Int} (h : rd w [.slice (some ⟨b, off, none⟩) l.length cap] l) {k : Nat} (hk : k ≤ l.length) : rd w [.slice (some ⟨b, off + k, none⟩) (l.length - k) (cap - k)] (l.drop k) := by
  have := rd_drop h hk
  rw [show k * GoD.n Int = k from Nat.mul_one k] at this
  exact this
theorem placeOf_eq {l : List Int} {n : Int} {k : Nat} (hk : k ≤ l.length) (h1 : ∀ j y, j < k → l[j]? = some y → y < n) (h2 : ∀ y, l[k]? = some y → ¬ y < n) : placeOf l n = k := by
  induction l generalizing k with
  | nil =>
    simp at hk
    subst hk
    rfl
  | cons a l ih =>
    cases k with
    | zero =>
      have := h2 a (by simp)
      simp [placeOf, List.takeWhile_cons, this]
    | succ k =>
      have ha := h1 0 a (by omega) (by simp)
      have := ih (k := k) (by simpa using hk) (fun j y hj hy => h1 (j + 1) y (by omega) (by simpa using hy)) (fun y hy => h2 y (by simpa using hy))
      simp only [placeOf, List.takeWhile_cons, ha, decide_true, if_true, List.length_cons]
      unfold placeOf at this
      rw [this]

set_option maxHeartbeats 1000000 in
theorem putId_c (w : World) (v : Value) (l : List Int) (x : Int) (ha : rd w [v] l) (hx : I64 x) (hsz : l.length ≤ 536870912) : Calls Try.prog 40 #[v, .int .i64 x] w (RetRS w (putId l x)) := by
  obtain ⟨oa, cap, rfl⟩ := slice_of_rd ha
  have hn := len_of_rd ha
  obtain ⟨hcap, hmax⟩ := rd_cap ha
  unfold maxLen at hmax
  have hcs := rd_ints ha
  have HA := Lib.hid ha; clear ha
  have HX := Lib.hid hx; clear hx
  have HP := Lib.hid (putId_eq x l)
  generalize putId l x = r at HP ⊢
  go_enter Try.func40, Try.ntmps40
  go_wp2
  go_loop [5] (fun i => ∃ k : Nat, k ≤ l.length ∧ i = .int .i64 k ∧ Hid (∀ j y, j < k → l[j]? = some y → y < x)) (fun i => l.length - (intOf i).toNat)
  case atStart => exact ⟨0, Nat.zero_le _, rfl, Lib.hid (fun j y hj => absurd hj (Nat.not_lt_zero _))⟩
  case round =>
    obtain ⟨k, hk, rfl, hlow⟩ := hrel
    by_cases hkl : k < l.length
    · have hxk := List.getElem?_eq_getElem hkl
      generalize l[k] = y at hxk
      have hcell : ∃ b off, oa = some ⟨b, off, none⟩ ∧ w.cell? ⟨b, off + k, none⟩ = some (.int .i64 y) := by
        rcases hcs with rfl | ⟨b, off, rfl, hc⟩
        · simp at hkl
        · exact ⟨b, off, rfl, int_at hc hxk⟩
      obtain ⟨b, off, rfl, hcell⟩ := hcell
      clear hcs
      have HXK := Lib.hid hxk; clear hxk
      by_cases hyx : y < x
      · go_wp2
        go_roundw
        case rel => exact ⟨k + 1, by omega, by go_num, Lib.hid (fun j z hj hz => by
          by_cases e : j = k
          · subst e
            rw [HXK.out] at hz
            obtain rfl := Option.some.inj hz
            exact hyx
          · exact hlow.out j z (by omega) hz)⟩
        case measure => simp [intOf]; omega
      · have hp := placeOf_eq (by omega) hlow.out (fun z hz => by rw [HXK.out] at hz; obtain rfl := Option.some.inj hz; exact hyx)
        by_cases hye : y = x
        · subst hye
          have hr : r = l := by rw [HP.out, hp, HXK.out, if_pos rfl]
          subst hr
          go_wp2
          go_ret
          exact ⟨_, rfl, by go_grown, HA.out⟩
        · have hr : r = l.take k ++ [x] ++ l.drop k := by rw [HP.out, hp, HXK.out, if_neg (by simpa using hye)]
          have HR := Lib.hid hr; clear hr hp
          go_wp2_with (first
            | (at_builtin; have gu := HI2.out; clear gu; refine wpList_appInts _ _ 22 3 w.heap.size (l2 := l.drop k) HI2.out (rd_below (rd_dropI (k := k) HA.out (by omega)) (by go_grown)) (by (try simp only [List.length_append, List.length_take, List.length_drop, List.length_singleton]); omega) (by go_size) rfl rfl Try.underlying22 (by kernel_rfl) rfl rfl ?_; intro v3 w3 h3 c0 _; have c3 : Below w.heap.size w w3 := (show Below w.heap.size w _ by go_grown).trans c0; clear c0; have hs3 := c3.size; obtain ⟨o3, p3, rfl⟩ := h3.slice; rw [show (l.take k ++ [x] ++ l.drop k).length = l.length + 1 by rw [List.length_append, List.length_append, List.length_take, List.length_drop, List.length_singleton]; omega] at h3; have HI3 := Lib.hid h3; clear h3)
            | (at_builtin; have gu := HI1.out; clear gu; refine wpList_appInts _ _ 22 3 w.heap.size (l2 := [x]) (HI1.out.keep (by go_grown)) (rd_one (by simp [go_sem]) (by omega) (by unfold maxLen; omega) HX.out) (by (try simp only [List.length_append, List.length_take, List.length_drop, List.length_singleton]); omega) (by go_size) rfl rfl Try.underlying22 (by kernel_rfl) rfl rfl ?_; intro v2 w2 h2 c0 _; have c2 : Below w.heap.size w w2 := (show Below w.heap.size w _ by go_grown).trans c0; clear c0; have hs2 := c2.size; obtain ⟨o2, p2, rfl⟩ := h2.slice; rw [show (l.take k ++ [x]).length = k + 1 by rw [List.length_append, List.length_take, List.length_singleton]; omega] at h2; have HI2 := Lib.hid h2; clear h2 HI1)
            | (at_builtin; refine wpList_appInts _ _ 22 3 w.heap.size (l := []) (l2 := l.take k) (IRow.fresh w (Nat.le_refl _)) (rd_below (rd_take HA.out (by omega)) (by go_grown)) (by (try simp only [List.length_nil, List.length_take]); omega) (by go_size) rfl rfl Try.underlying22 (by kernel_rfl) rfl rfl ?_; intro v1 w1 h1 c0 _; have c1 : Below w.heap.size w w1 := (show Below w.heap.size w _ by go_grown).trans c0; clear c0; have hs1 := c1.size; rw [List.nil_append] at h1; obtain ⟨o1, p1, rfl⟩ := h1.slice; rw [show (l.take k).length = k by rw [List.length_take]; omega] at h1; have HI1 := Lib.hid h1; clear h1))
          go_ret
          refine ⟨_, rfl, c3, ?_⟩
          show rd w3 [.slice o3 (k + (l.length - k + 1)) p3] r
          rw [HR.out, show k + (l.length - k + 1) = l.length + 1 by omega]
          exact HI3.out.rd
    · obtain rfl : k = l.length := by omega
      have hp := placeOf_eq (Nat.le_refl _) hlow.out (fun z hz => by simp at hz)
      have hr : r = l ++ [x] ++ [] := by rw [HP.out, hp, if_neg (by simp), List.take_length, List.drop_length]
      have HR := Lib.hid hr; clear hr hp
      clear hcs
      go_wp2_with (first
        | (at_builtin; have gu := HI2.out; clear gu; refine wpList_appInts _ _ 22 3 w.heap.size (l2 := []) HI2.out (rd_none (by unfold maxLen; omega)) (by (try simp only [List.length_append, List.length_singleton, List.length_nil]); omega) (by go_size) rfl rfl Try.underlying22 (by kernel_rfl) rfl rfl ?_; intro v3 w3 h3 c0 _; have c3 : Below w.heap.size w w3 := (show Below w.heap.size w _ by go_grown).trans c0; clear c0; have hs3 := c3.size; obtain ⟨o3, p3, rfl⟩ := h3.slice; rw [show (l ++ [x] ++ ([] : List Int)).length = l.length + 1 by simp] at h3; have HI3 := Lib.hid h3; clear h3)
        | (at_builtin; have gu := HI1.out; clear gu; refine wpList_appInts _ _ 22 3 w.heap.size (l2 := [x]) (HI1.out.keep (by go_grown)) (rd_one (by simp [go_sem]) (by omega) (by unfold maxLen; omega) HX.out) (by (try simp only [List.length_append, List.length_singleton, List.length_nil]); omega) (by go_size) rfl rfl Try.underlying22 (by kernel_rfl) rfl rfl ?_; intro v2 w2 h2 c0 _; have c2 : Below w.heap.size w w2 := (show Below w.heap.size w _ by go_grown).trans c0; clear c0; have hs2 := c2.size; obtain ⟨o2, p2, rfl⟩ := h2.slice; rw [show (l ++ [x]).length = l.length + 1 by simp] at h2; have HI2 := Lib.hid h2; clear h2 HI1)
        | (at_builtin; refine wpList_appInts _ _ 22 3 w.heap.size (l := []) (l2 := l) (IRow.fresh w (Nat.le_refl _)) (rd_below HA.out (by go_grown)) (by (try simp only [List.length_nil]); omega) (by go_size) rfl rfl Try.underlying22 (by kernel_rfl) rfl rfl ?_; intro v1 w1 h1 c0 _; have c1 : Below w.heap.size w w1 := (show Below w.heap.size w _ by go_grown).trans c0; clear c0; have hs1 := c1.size; rw [List.nil_append] at h1; obtain ⟨o1, p1, rfl⟩ := h1.slice; have HI1 := Lib.hid h1; clear h1))
      all_goals go_ret
      all_goals exact ⟨.slice o3 (l.length + 1) p3, rfl, c3, by rw [HR.out]; exact HI3.out.rd⟩
end Go.Proofs.Ytonniokonadkfaa
