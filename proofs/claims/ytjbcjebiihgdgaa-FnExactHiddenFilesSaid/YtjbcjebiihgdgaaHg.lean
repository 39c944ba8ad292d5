/- The hidden files. -/
import Derived.Test.YtjbcjebiihgdgaaHf
import Derived.Outline
namespace Go.Proofs.Ytjbcjebiihgdgaa
open Go.RowKit
open GoD (rd own)
def hiddenL (l : List FileD) (u : Int) : List Int := (l.filter (fun f => !canRead f u)).map (fun f => f.1)
def hidden (s : StoreD) (u : Int) : List Int := hiddenL s.2.1 u
theorem hiddenL_step {l : List FileD} {k : Nat} {x : FileD} (h : l[k]? = some x) (u : Int) : hiddenL (l.take (k + 1)) u = hiddenL (l.take k) u ++ (if canRead x u then [] else [x.1]) := by
  unfold hiddenL
  rw [List.take_add_one, h]
  cases hc : canRead x u <;> simp [hc]
set_option maxHeartbeats 1000000 in
theorem specHiddenFiles_c (w : World) (ca : List Value) (a : StoreD) (ha : rd w ca a) (u : Int) (hu : I64 u) (hsz : GoD.size a ≤ 1048576) : Calls Try.prog 37 #[.agg ca.toArray, .int .i64 u] w (RetS w (hidden a u)) := by
  obtain ⟨a1, a2, a3⟩ := a
  obtain ⟨ac1, at1, rfl, ar1, ac2, at2, rfl, ar2, ar3⟩ := ha
  obtain ⟨ax1_0, rfl⟩ := len1 (show _ = 1 from GoD.rd_len ar1)
  obtain ⟨ax2_0, rfl⟩ := len1 (show _ = 1 from GoD.rd_len ar2)
  obtain ⟨rfl, ar3⟩ := ar3
  dsimp only [List.cons_append, List.nil_append] at *
  obtain ⟨s1oa, s1cp, rfl⟩ := slice_of_rd ar1
  clear ar1
  have hsz : (GoD.size a1 + (GoD.size a2 + GoD.size a3)) ≤ 1048576 := hsz
  obtain ⟨Poa, Pcap, Pe, Phl, Phm, Phel⟩ := ar2
  obtain rfl : ax2_0 = _ := by simpa using Pe
  clear Pe
  have PE := Lib.hid Phel; clear Phel
  have hn : a2.length ≤ 1048576 := by have := size_list_len a2; omega
  have AR3 := Lib.hid ar3; clear ar3
  have HU := Lib.hid hu; clear hu
  obtain ⟨w0, hw0⟩ : ∃ w0, w0 = w.alloc (.cells #[.slice s1oa a1.length s1cp, .slice Poa a2.length Pcap, .int .i64 a3] 33) := ⟨_, rfl⟩
  have hB0 : Below w.heap.size w w0 := by rw [hw0]; go_grown
  have hs0 : w0.heap.size = w.heap.size + 1 := by rw [hw0]; simp
  have z0 : w0.cell? ⟨w.heap.size, 0, none⟩ = some (.slice s1oa a1.length s1cp) := by rw [hw0]; simp [go_sem]
  have z1 : w0.cell? ⟨w.heap.size, 1, none⟩ = some (.slice Poa a2.length Pcap) := by rw [hw0]; simp [go_sem]
  have z2 : w0.cell? ⟨w.heap.size, 2, none⟩ = some (.int .i64 a3) := by rw [hw0]; simp [go_sem]
  have HW := Lib.hid hw0; clear hw0
  have hh : hidden (a1, a2, a3) u = hiddenL a2 u := rfl
  rw [hh]; clear hh
  go_enter Try.func37, Try.ntmps37
  go_wp2
  go_loopw [5, 6] (fun out i wr => ∃ k : Nat, ∃ L, k ≤ a2.length ∧ i = .int .i64 k ∧ Below w0.heap.size w0 wr ∧ Hid (App 3 w0 wr L out (hiddenL (a2.take k) u))) (fun _ i _ => a2.length - (intOf i).toNat)
  case atStart => exact ⟨0, [w.heap.size + 1], Nat.zero_le _, rfl, by rw [HW.out]; go_grown, Lib.hid (App.fresh (by simp) (by omega))⟩
  case round =>
    obtain ⟨k, L, hk, rfl, hB, hA⟩ := hrel
    have hBw := hB0.trans (hB.mono (by omega))
    have hlt : w.heap.size < wr.heap.size := by have := hB.size; omega
    obtain ⟨ooa, ocp, rfl⟩ := hA.out.slice
    have hlen : (hiddenL (a2.take k) u).length ≤ k := by unfold hiddenL; have h1 := List.length_filter_le (fun f => !canRead f u) (a2.take k); have h2 := List.length_take_le k a2; simp only [List.length_map]; omega
    have y0 : wr.cell? ⟨w.heap.size, 0, none⟩ = some (.slice s1oa a1.length s1cp) := (bcell hB w.heap.size 0 (by omega)).trans z0
    have y1 : wr.cell? ⟨w.heap.size, 1, none⟩ = some (.slice Poa a2.length Pcap) := (bcell hB w.heap.size 1 (by omega)).trans z1
    have y2 : wr.cell? ⟨w.heap.size, 2, none⟩ = some (.int .i64 a3) := (bcell hB w.heap.size 2 (by omega)).trans z2
    by_cases hkl : k < a2.length
    · have hxx := List.getElem?_eq_getElem hkl
      obtain ⟨xb, xo, xce, rfl, xhcl, xhcc, xhxr⟩ := PE.out k _ hxx
      have HXx := Lib.hid hxx; clear hxx
      generalize a2[k] = x at *
      obtain ⟨xv0, xv1, xv2, xv3, xv4, rfl⟩ := len5 (show _ = 5 from xhcl)
      have RXx := Lib.hid xhxr
      have hcsx := cells_File xhxr; clear xhxr
      obtain ⟨xsoa1, xscp1, hcsx⟩ := hcsx
      simp only [List.cons.injEq, and_true] at hcsx
      obtain ⟨rfl, rfl, rfl, rfl, rfl⟩ := hcsx
      have xc0 : wr.cell? ⟨xb, xo + k * 5, none⟩ = some (.int .i64 x.1) := (hBw.cell (World.block_lt_of_cell? w _ (xhcc 0 _ rfl))).trans (xhcc 0 _ rfl)
      have xc1 : wr.cell? ⟨xb, xo + k * 5 + 1, none⟩ = some (.int .i64 x.2.1) := (hBw.cell (World.block_lt_of_cell? w _ (xhcc 1 _ rfl))).trans (xhcc 1 _ rfl)
      have xc2 : wr.cell? ⟨xb, xo + k * 5 + 2, none⟩ = some (.bool x.2.2.1) := (hBw.cell (World.block_lt_of_cell? w _ (xhcc 2 _ rfl))).trans (xhcc 2 _ rfl)
      have xc3 : wr.cell? ⟨xb, xo + k * 5 + 3, none⟩ = some (.int .i64 x.2.2.2.1) := (hBw.cell (World.block_lt_of_cell? w _ (xhcc 3 _ rfl))).trans (xhcc 3 _ rfl)
      have xc4 : wr.cell? ⟨xb, xo + k * 5 + 4, none⟩ = some (.slice xsoa1 x.2.2.2.2.length xscp1) := (hBw.cell (World.block_lt_of_cell? w _ (xhcc 4 _ rfl))).trans (xhcc 4 _ rfl)
      have xlt : xb < wr.heap.size := World.block_lt_of_cell? wr _ xc0
      clear xhcc xhcl
      have hx1 : I64 x.1 := (by obtain ⟨c1, c2, _, hr, _⟩ := RXx.out; exact hr.2)
      have hx1 := Lib.hid hx1
      have hxt : hiddenL (a2.take (k + 1)) u = hiddenL (a2.take k) u ++ (if canRead x u then [] else [x.1]) := hiddenL_step HXx.out u
      have HT := Lib.hid hxt; clear hxt
      generalize hiddenL (a2.take k) u = lk at *
      cases hc : canRead x u
      · go_wp2_with (first | (go_at_call 69; refine call_ret (w := wr) (specCanRead_c _ _ x (rd_below RXx.out (below_via hBw (by go_grown))) u) (by go_grown) ?_; intro w1 hB1 hb hz1 hz2; have ka := fun o => bcell hb (w.heap.size) o (by go_size); have kb := fun o => bcell hb (xb) o (by go_size); have HB1 := Lib.hid hb; clear hb) | (at_builtin; refine wpList_App (w0 := w0) (L := L) (La := []) (v := .slice ooa lk.length ocp) (l := lk) (y := x.1) _ _ 29 3 ⟨w1.heap.size, 0, none⟩ 1 (news := [.int .i64 x.1]) (App.keep (App.keep (App.keep hA.out (by go_grown)) HB1.out) (by go_grown)) (own_i _ hx1.out) (by simp) (by simp) (below_via (below_via (below_via hB (by go_grown)) HB1.out) (by go_grown)) rfl rfl Try.underlying29 (by kernel_rfl) (by decide) rfl rfl (cell_one_new _ _ _) (by simp [Value.oneCell']) (by omega) ?_; intro v2 w2 L2 hA2 hB2 hz3 hL2 hfr; obtain ⟨oo2, oc2, rfl⟩ := hA2.slice; have HA2 := Lib.hid hA2; clear hA2 hfr; have HL2 := Lib.hid hL2; clear hL2))
        go_roundw
        case rel => exact ⟨k + 1, L2, by omega, by go_num, by go_grown, by rw [HT.out, hc]; have h := HA2.out; simp only [List.length_append, List.length_singleton] at h; exact Lib.hid h⟩
        case measure => simp [intOf]; omega
      · go_wp2_with (first | (go_at_call 69; refine call_ret (w := wr) (specCanRead_c _ _ x (rd_below RXx.out (below_via hBw (by go_grown))) u) (by go_grown) ?_; intro w1 hB1 hb hz1 hz2; have ka := fun o => bcell hb (w.heap.size) o (by go_size); have kb := fun o => bcell hb (xb) o (by go_size); have HB1 := Lib.hid hb; clear hb))
        go_roundw
        case rel => exact ⟨k + 1, L, by omega, by go_num, (below_via (below_via (below_via hB (by go_grown)) HB1.out) (by go_grown)), by rw [HT.out, hc]; simp only [if_true, List.append_nil]; exact Lib.hid (App.keep (App.keep (App.keep hA.out (by go_grown)) HB1.out) (by go_grown))⟩
        case measure => simp [intOf]; omega
    · obtain rfl : k = a2.length := by omega
      go_wp2
      go_ret
      exact ⟨.slice ooa (hiddenL (a2.take a2.length) u).length ocp, L, rfl, hBw, by have h := hA.out.done; simp only [List.take_length] at h ⊢; exact h, fun b hb => by have := hA.out.ge b hb; omega⟩
set_option maxHeartbeats 1000000 in
theorem implHiddenFiles_c (w : World) (ca : List Value) (a : StoreD) (ha : rd w ca a) (u : Int) (hu : I64 u) (hsz : GoD.size a ≤ 1048576) : Calls Try.prog 39 #[.agg ca.toArray, .int .i64 u] w (RetS w (hidden a u)) := by
  obtain ⟨a1, a2, a3⟩ := a
  obtain ⟨ac1, at1, rfl, ar1, ac2, at2, rfl, ar2, ar3⟩ := ha
  obtain ⟨ax1_0, rfl⟩ := len1 (show _ = 1 from GoD.rd_len ar1)
  obtain ⟨ax2_0, rfl⟩ := len1 (show _ = 1 from GoD.rd_len ar2)
  obtain ⟨rfl, ar3⟩ := ar3
  dsimp only [List.cons_append, List.nil_append] at *
  obtain ⟨s1oa, s1cp, rfl⟩ := slice_of_rd ar1
  clear ar1
  have hsz : (GoD.size a1 + (GoD.size a2 + GoD.size a3)) ≤ 1048576 := hsz
  obtain ⟨Poa, Pcap, Pe, Phl, Phm, Phel⟩ := ar2
  obtain rfl : ax2_0 = _ := by simpa using Pe
  clear Pe
  have PE := Lib.hid Phel; clear Phel
  have hn : a2.length ≤ 1048576 := by have := size_list_len a2; omega
  have AR3 := Lib.hid ar3; clear ar3
  have HU := Lib.hid hu; clear hu
  obtain ⟨w0, hw0⟩ : ∃ w0, w0 = w.alloc (.cells #[.slice s1oa a1.length s1cp, .slice Poa a2.length Pcap, .int .i64 a3] 33) := ⟨_, rfl⟩
  have hB0 : Below w.heap.size w w0 := by rw [hw0]; go_grown
  have hs0 : w0.heap.size = w.heap.size + 1 := by rw [hw0]; simp
  have z0 : w0.cell? ⟨w.heap.size, 0, none⟩ = some (.slice s1oa a1.length s1cp) := by rw [hw0]; simp [go_sem]
  have z1 : w0.cell? ⟨w.heap.size, 1, none⟩ = some (.slice Poa a2.length Pcap) := by rw [hw0]; simp [go_sem]
  have z2 : w0.cell? ⟨w.heap.size, 2, none⟩ = some (.int .i64 a3) := by rw [hw0]; simp [go_sem]
  have HW := Lib.hid hw0; clear hw0
  have hh : hidden (a1, a2, a3) u = hiddenL a2 u := rfl
  rw [hh]; clear hh
  go_enter Try.func39, Try.ntmps39
  go_wp2
  go_loopw [5, 12] (fun out i wr => ∃ k : Nat, ∃ L, k ≤ a2.length ∧ i = .int .i64 k ∧ Below w0.heap.size w0 wr ∧ Hid (App 3 w0 wr L out (hiddenL (a2.take k) u))) (fun _ i _ => a2.length - (intOf i).toNat)
  case atStart => exact ⟨0, [w.heap.size + 1], Nat.zero_le _, rfl, by rw [HW.out]; go_grown, Lib.hid (App.fresh (by simp) (by omega))⟩
  case round =>
    obtain ⟨k, L, hk, rfl, hB, hA⟩ := hrel
    have hBw := hB0.trans (hB.mono (by omega))
    have hlt : w.heap.size < wr.heap.size := by have := hB.size; omega
    obtain ⟨ooa, ocp, rfl⟩ := hA.out.slice
    have hlen : (hiddenL (a2.take k) u).length ≤ k := by unfold hiddenL; have h1 := List.length_filter_le (fun f => !canRead f u) (a2.take k); have h2 := List.length_take_le k a2; simp only [List.length_map]; omega
    have y0 : wr.cell? ⟨w.heap.size, 0, none⟩ = some (.slice s1oa a1.length s1cp) := (bcell hB w.heap.size 0 (by omega)).trans z0
    have y1 : wr.cell? ⟨w.heap.size, 1, none⟩ = some (.slice Poa a2.length Pcap) := (bcell hB w.heap.size 1 (by omega)).trans z1
    have y2 : wr.cell? ⟨w.heap.size, 2, none⟩ = some (.int .i64 a3) := (bcell hB w.heap.size 2 (by omega)).trans z2
    by_cases hkl : k < a2.length
    · have hxx := List.getElem?_eq_getElem hkl
      obtain ⟨xb, xo, xce, rfl, xhcl, xhcc, xhxr⟩ := PE.out k _ hxx
      have HXx := Lib.hid hxx; clear hxx
      generalize a2[k] = x at *
      obtain ⟨xv0, xv1, xv2, xv3, xv4, rfl⟩ := len5 (show _ = 5 from xhcl)
      have RXx := Lib.hid xhxr
      have hcsx := cells_File xhxr; clear xhxr
      obtain ⟨xsoa1, xscp1, hcsx⟩ := hcsx
      simp only [List.cons.injEq, and_true] at hcsx
      obtain ⟨rfl, rfl, rfl, rfl, rfl⟩ := hcsx
      have xc0 : wr.cell? ⟨xb, xo + k * 5, none⟩ = some (.int .i64 x.1) := (hBw.cell (World.block_lt_of_cell? w _ (xhcc 0 _ rfl))).trans (xhcc 0 _ rfl)
      have xc1 : wr.cell? ⟨xb, xo + k * 5 + 1, none⟩ = some (.int .i64 x.2.1) := (hBw.cell (World.block_lt_of_cell? w _ (xhcc 1 _ rfl))).trans (xhcc 1 _ rfl)
      have xc2 : wr.cell? ⟨xb, xo + k * 5 + 2, none⟩ = some (.bool x.2.2.1) := (hBw.cell (World.block_lt_of_cell? w _ (xhcc 2 _ rfl))).trans (xhcc 2 _ rfl)
      have xc3 : wr.cell? ⟨xb, xo + k * 5 + 3, none⟩ = some (.int .i64 x.2.2.2.1) := (hBw.cell (World.block_lt_of_cell? w _ (xhcc 3 _ rfl))).trans (xhcc 3 _ rfl)
      have xc4 : wr.cell? ⟨xb, xo + k * 5 + 4, none⟩ = some (.slice xsoa1 x.2.2.2.2.length xscp1) := (hBw.cell (World.block_lt_of_cell? w _ (xhcc 4 _ rfl))).trans (xhcc 4 _ rfl)
      have xlt : xb < wr.heap.size := World.block_lt_of_cell? wr _ xc0
      clear xhcc xhcl
      have hx1 : I64 x.1 := (by obtain ⟨c1, c2, _, hr, _⟩ := RXx.out; exact hr.2)
      have hx1 := Lib.hid hx1
      have hxt : hiddenL (a2.take (k + 1)) u = hiddenL (a2.take k) u ++ (if canRead x u then [] else [x.1]) := hiddenL_step HXx.out u
      have HT := Lib.hid hxt; clear hxt
      generalize hiddenL (a2.take k) u = lk at *
      cases hc : canRead x u
      · go_wp2_with (first | (go_at_call 72; refine call_ret (w := wr) (implCanRead_c _ _ x (rd_below RXx.out (below_via hBw (by go_grown))) u) (by go_grown) ?_; intro w1 hB1 hb hz1 hz2; have ka := fun o => bcell hb (w.heap.size) o (by go_size); have kb := fun o => bcell hb (xb) o (by go_size); have kc := fun o => bcell hb (wr.heap.size) o (by go_size); have HB1 := Lib.hid hb; clear hb) | (at_builtin; refine wpList_App (w0 := w0) (L := L) (La := []) (v := .slice ooa lk.length ocp) (l := lk) (y := x.1) _ _ 29 3 ⟨w1.heap.size, 0, none⟩ 1 (news := [.int .i64 x.1]) (App.keep (App.keep (App.keep hA.out (by go_grown)) HB1.out) (by go_grown)) (own_i _ hx1.out) (by simp) (by simp) (below_via (below_via (below_via hB (by go_grown)) HB1.out) (by go_grown)) rfl rfl Try.underlying29 (by kernel_rfl) (by decide) rfl rfl (cell_one_new _ _ _) (by simp [Value.oneCell']) (by omega) ?_; intro v2 w2 L2 hA2 hB2 hz3 hL2 hfr; obtain ⟨oo2, oc2, rfl⟩ := hA2.slice; have HA2 := Lib.hid hA2; clear hA2 hfr; have HL2 := Lib.hid hL2; clear hL2))
        go_roundw
        case rel => exact ⟨k + 1, L2, by omega, by go_num, by go_grown, by rw [HT.out, hc]; have h := HA2.out; simp only [List.length_append, List.length_singleton] at h; exact Lib.hid h⟩
        case measure => simp [intOf]; omega
      · go_wp2_with (first | (go_at_call 72; refine call_ret (w := wr) (implCanRead_c _ _ x (rd_below RXx.out (below_via hBw (by go_grown))) u) (by go_grown) ?_; intro w1 hB1 hb hz1 hz2; have ka := fun o => bcell hb (w.heap.size) o (by go_size); have kb := fun o => bcell hb (xb) o (by go_size); have kc := fun o => bcell hb (wr.heap.size) o (by go_size); have HB1 := Lib.hid hb; clear hb))
        go_roundw
        case rel => exact ⟨k + 1, L, by omega, by go_num, (below_via (below_via (below_via hB (by go_grown)) HB1.out) (by go_grown)), by rw [HT.out, hc]; simp only [if_true, List.append_nil]; exact Lib.hid (App.keep (App.keep (App.keep hA.out (by go_grown)) HB1.out) (by go_grown))⟩
        case measure => simp [intOf]; omega
    · obtain rfl : k = a2.length := by omega
      go_wp2
      go_ret
      exact ⟨.slice ooa (hiddenL (a2.take a2.length) u).length ocp, L, rfl, hBw, by have h := hA.out.done; simp only [List.take_length] at h ⊢; exact h, fun b hb => by have := hA.out.ge b hb; omega⟩
theorem specHiddenFiles_r (w : World) (ca : List Value) (a : StoreD) (ha : rd w ca a) (u : Int) (hu : I64 u) (hsz : GoD.size a ≤ 1048576) : Calls Try.prog 37 #[.agg ca.toArray, .int .i64 u] w (RetRS w (hidden a u)) := (specHiddenFiles_c w ca a ha u hu hsz).mono fun _ _ h => h.rd
theorem hidden_size (a : StoreD) (u : Int) : GoD.size (hidden a u) ≤ GoD.size a := by
  rw [size_plain (fun _ => rfl)]
  obtain ⟨a1, a2, a3⟩ := a
  have h1 := List.length_filter_le (fun f => !canRead f u) a2
  have h2 := size_list_len a2
  have h3 : GoD.size (a1, a2, a3) = GoD.size a1 + (GoD.size a2 + GoD.size a3) := rfl
  have h4 : (hidden (a1, a2, a3) u).length = (a2.filter (fun f => !canRead f u)).length := by simp [hidden, hiddenL]
  omega
end Go.Proofs.Ytjbcjebiihgdgaa
