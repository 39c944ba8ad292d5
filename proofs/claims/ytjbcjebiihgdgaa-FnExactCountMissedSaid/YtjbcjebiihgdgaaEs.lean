/- The events behind a version. -/
import Derived.Test.YtjbcjebiihgdgaaLe
namespace Go.Proofs.Ytjbcjebiihgdgaa
open Go.RowKit
open GoD (rd own)
def since (l : List EventD) (u : Int) : List EventD := l.filter (fun e => decide (u < e.1))
theorem since_step {l : List EventD} {k : Nat} {x : EventD} (h : l[k]? = some x) (u : Int) : since (l.take (k + 1)) u = since (l.take k) u ++ (if u < x.1 then [x] else []) := by
  unfold since
  rw [List.take_add_one, h]
  by_cases hc : u < x.1 <;> simp [hc]
theorem since_len (l : List EventD) (k : Nat) (u : Int) : (since (l.take k) u).length ≤ k := by
  unfold since
  have h1 := List.length_filter_le (fun e : EventD => decide (u < e.1)) (l.take k)
  have h2 := List.length_take_le k l
  omega
theorem since_size (l : List EventD) (u : Int) : GoD.size (since l u) ≤ GoD.size l := by
  rw [size_list, size_list]
  unfold since
  induction l with
  | nil => simp
  | cons a l ih =>
    by_cases hc : u < a.1 <;> simp [hc] <;> omega
set_option maxHeartbeats 4000000 in
theorem specEventsSince_c (w : World) (ca : List Value) (a : WatchD) (ha : rd w ca a) (u : Int) (hu : I64 u) (hsz : GoD.size a ≤ 1048576) : Calls Try.prog 25 #[.agg ca.toArray, .int .i64 u] w (RetS w (since a.2.2.2 u)) := by
  obtain ⟨a1, a2, a3, a4⟩ := a
  obtain ⟨ac1, at1, rfl, ar1, ac2, at2, rfl, ar2, ac3, at3, rfl, ar3, ar4⟩ := ha
  obtain ⟨rfl, ar1⟩ := ar1
  obtain ⟨rfl, ar2⟩ := ar2
  obtain ⟨ax3_0, rfl⟩ := len1 (show _ = 1 from GoD.rd_len ar3)
  obtain ⟨ax4_0, rfl⟩ := len1 (show _ = 1 from GoD.rd_len ar4)
  dsimp only [List.cons_append, List.nil_append] at *
  obtain ⟨s3oa, s3cp, rfl⟩ := slice_of_rd ar3
  clear ar3
  replace hsz : (GoD.size a1 + (GoD.size a2 + (GoD.size a3 + GoD.size a4))) ≤ 1048576 := hsz
  have hsz4 : GoD.size a4 ≤ 1048576 := by omega
  clear hsz
  obtain ⟨Poa, Pcap, Pe, Phl, Phm, Phel⟩ := ar4
  obtain rfl : ax4_0 = _ := by simpa using Pe
  clear Pe
  have PE := Lib.hid Phel; clear Phel
  have hn : a4.length ≤ 1048576 := by have := size_list_len a4; omega
  clear ar1 ar2
  have HU := Lib.hid hu; clear hu
  obtain ⟨w0, hw0⟩ : ∃ w0, w0 = w.alloc (.cells #[.int .i64 a1, .string a2, .slice s3oa a3.length s3cp, .slice Poa a4.length Pcap] 49) := ⟨_, rfl⟩
  have hB0 : Below w.heap.size w w0 := by rw [hw0]; go_grown
  have hs0 : w0.heap.size = w.heap.size + 1 := by rw [hw0]; simp
  have z0 : w0.cell? ⟨w.heap.size, 0, none⟩ = some (.int .i64 a1) := by rw [hw0]; simp [go_sem]
  have z1 : w0.cell? ⟨w.heap.size, 1, none⟩ = some (.string a2) := by rw [hw0]; simp [go_sem]
  have z2 : w0.cell? ⟨w.heap.size, 2, none⟩ = some (.slice s3oa a3.length s3cp) := by rw [hw0]; simp [go_sem]
  have z3 : w0.cell? ⟨w.heap.size, 3, none⟩ = some (.slice Poa a4.length Pcap) := by rw [hw0]; simp [go_sem]
  have HW := Lib.hid hw0; clear hw0
  go_enter Try.func25, Try.ntmps25
  go_wp2
  go_loopw [5, 6] (fun out i wr => ∃ k : Nat, k ≤ a4.length ∧ i = .int .i64 k ∧ Below w0.heap.size w0 wr ∧ Hid (AppR 94 w0 wr out (since (a4.take k) u))) (fun _ i _ => a4.length - (intOf i).toNat)
  case atStart => exact ⟨0, Nat.zero_le _, rfl, by rw [HW.out]; go_grown, Lib.hid (AppR.fresh (by simp) (by omega))⟩
  case round =>
    obtain ⟨k, hk, rfl, hB, hA⟩ := hrel
    have hBw := hB0.trans (hB.mono (by omega))
    have hlt : w.heap.size < wr.heap.size := by have := hB.size; omega
    obtain ⟨ooa, ocp, rfl⟩ := hA.out.slice
    have hlen : (since (a4.take k) u).length ≤ k := since_len a4 k u
    have y0 : wr.cell? ⟨w.heap.size, 0, none⟩ = some (.int .i64 a1) := (bcell hB w.heap.size 0 (by omega)).trans z0
    have y1 : wr.cell? ⟨w.heap.size, 1, none⟩ = some (.string a2) := (bcell hB w.heap.size 1 (by omega)).trans z1
    have y2 : wr.cell? ⟨w.heap.size, 2, none⟩ = some (.slice s3oa a3.length s3cp) := (bcell hB w.heap.size 2 (by omega)).trans z2
    have y3 : wr.cell? ⟨w.heap.size, 3, none⟩ = some (.slice Poa a4.length Pcap) := (bcell hB w.heap.size 3 (by omega)).trans z3
    by_cases hkl : k < a4.length
    · have hxx := List.getElem?_eq_getElem hkl
      obtain ⟨xb, xo, xce, rfl, xhcl, xhcc, xhxr⟩ := PE.out k _ hxx
      have HXx := Lib.hid hxx; clear hxx
      generalize a4[k] = x at *
      obtain ⟨xv0, xv1, xv2, rfl⟩ := len3 (show _ = 3 from xhcl)
      have RXx := Lib.hid xhxr
      have hcsx := cells_Event xhxr; clear xhxr
      obtain ⟨xsoa1, xscp1, xsoa2, xscp2, hcsx⟩ := hcsx
      simp only [List.cons.injEq, and_true] at hcsx
      obtain ⟨rfl, rfl, rfl⟩ := hcsx
      have xc0 : wr.cell? ⟨xb, xo + k * 3, none⟩ = some (.int .i64 x.1) := (hBw.cell (World.block_lt_of_cell? w _ (xhcc 0 _ rfl))).trans (xhcc 0 _ rfl)
      have xc1 : wr.cell? ⟨xb, xo + k * 3 + 1, none⟩ = some (.slice xsoa1 x.2.1.length xscp1) := (hBw.cell (World.block_lt_of_cell? w _ (xhcc 1 _ rfl))).trans (xhcc 1 _ rfl)
      have xc2 : wr.cell? ⟨xb, xo + k * 3 + 2, none⟩ = some (.slice xsoa2 x.2.2.length xscp2) := (hBw.cell (World.block_lt_of_cell? w _ (xhcc 2 _ rfl))).trans (xhcc 2 _ rfl)
      have xlt : xb < wr.heap.size := World.block_lt_of_cell? wr _ xc0
      clear xhcc xhcl
      have hxs : GoD.size x ≤ 1048576 := Nat.le_trans (size_list_get HXx.out) hsz4
      have hxt := since_step HXx.out u
      have HT := Lib.hid hxt; clear hxt
      generalize since (a4.take k) u = lk at *
      by_cases hc : u < x.1
      · go_wp2_with (at_builtin; refine wpList_AppR (w0 := w0) (v := .slice ooa lk.length ocp) (l := lk) (y := x) _ _ 47 94 ⟨wr.heap.size, 0, none⟩ 1 (news := [.int .i64 x.1, .slice xsoa1 x.2.1.length xscp1, .slice xsoa2 x.2.2.length xscp2]) (AppR.keep hA.out (by go_grown)) (rd_below RXx.out hB0) (below_via hB (by go_grown)) rfl rfl Try.underlying47 (by kernel_rfl) (by decide) rfl rfl (cells_new _ [.int .i64 x.1, .slice xsoa1 x.2.1.length xscp1, .slice xsoa2 x.2.2.length xscp2] _) (by simp [Value.oneCell']) (by omega) ?_; intro v2 w2 hA2 hB2 hz3; obtain ⟨oo2, oc2, rfl⟩ := hA2.slice; have HA2 := Lib.hid hA2; clear hA2)
        go_roundw
        case rel => exact ⟨k + 1, by omega, by go_num, by go_grown, by rw [HT.out, if_pos hc]; have h := HA2.out; simp only [List.length_append, List.length_singleton] at h; exact Lib.hid h⟩
        case measure => simp [intOf]; omega
      · go_wp2
        go_roundw
        case rel => exact ⟨k + 1, by omega, by go_num, below_via hB (by go_grown), by rw [HT.out, if_neg hc, List.append_nil]; exact Lib.hid (AppR.keep hA.out (by go_grown))⟩
        case measure => simp [intOf]; omega
    · obtain rfl : k = a4.length := by omega
      have hr := hA.out.done hB
      have htl : a4.take a4.length = a4 := List.take_length
      rw [htl] at hr hlen
      rw [htl]
      rw [htl] at hA
      have HR := Lib.hid hr; clear hr
      go_wp2_with (go_at_call 60; refine call_retS (w := w) (l29Events_c _ _ (since a4 u) (rd_below HR.out (by go_grown)) (Nat.le_trans (since_size a4 u) hsz4)) (below_via hBw (by go_grown)) ?_; intro w3 v3 L3 hB3 hb hz3 hz4 ho3 hL3)
      go_ret
      exact ⟨_, L3, rfl, hB3, ho3, fun b hb' => by have h := hL3 b hb'; have h2 := hBw.size; omega⟩
set_option maxHeartbeats 4000000 in
theorem implEventsSince_c (w : World) (ca : List Value) (a : WatchD) (ha : rd w ca a) (u : Int) (hu : I64 u) (hsz : GoD.size a ≤ 1048576) : Calls Try.prog 26 #[.agg ca.toArray, .int .i64 u] w (RetS w (since a.2.2.2 u)) := by
  obtain ⟨a1, a2, a3, a4⟩ := a
  obtain ⟨ac1, at1, rfl, ar1, ac2, at2, rfl, ar2, ac3, at3, rfl, ar3, ar4⟩ := ha
  obtain ⟨rfl, ar1⟩ := ar1
  obtain ⟨rfl, ar2⟩ := ar2
  obtain ⟨ax3_0, rfl⟩ := len1 (show _ = 1 from GoD.rd_len ar3)
  obtain ⟨ax4_0, rfl⟩ := len1 (show _ = 1 from GoD.rd_len ar4)
  dsimp only [List.cons_append, List.nil_append] at *
  obtain ⟨s3oa, s3cp, rfl⟩ := slice_of_rd ar3
  clear ar3
  replace hsz : (GoD.size a1 + (GoD.size a2 + (GoD.size a3 + GoD.size a4))) ≤ 1048576 := hsz
  have hsz4 : GoD.size a4 ≤ 1048576 := by omega
  clear hsz
  obtain ⟨Poa, Pcap, Pe, Phl, Phm, Phel⟩ := ar4
  obtain rfl : ax4_0 = _ := by simpa using Pe
  clear Pe
  have PE := Lib.hid Phel; clear Phel
  have hn : a4.length ≤ 1048576 := by have := size_list_len a4; omega
  clear ar1 ar2
  have HU := Lib.hid hu; clear hu
  obtain ⟨w0, hw0⟩ : ∃ w0, w0 = w.alloc (.cells #[.int .i64 a1, .string a2, .slice s3oa a3.length s3cp, .slice Poa a4.length Pcap] 49) := ⟨_, rfl⟩
  have hB0 : Below w.heap.size w w0 := by rw [hw0]; go_grown
  have hs0 : w0.heap.size = w.heap.size + 1 := by rw [hw0]; simp
  have z0 : w0.cell? ⟨w.heap.size, 0, none⟩ = some (.int .i64 a1) := by rw [hw0]; simp [go_sem]
  have z1 : w0.cell? ⟨w.heap.size, 1, none⟩ = some (.string a2) := by rw [hw0]; simp [go_sem]
  have z2 : w0.cell? ⟨w.heap.size, 2, none⟩ = some (.slice s3oa a3.length s3cp) := by rw [hw0]; simp [go_sem]
  have z3 : w0.cell? ⟨w.heap.size, 3, none⟩ = some (.slice Poa a4.length Pcap) := by rw [hw0]; simp [go_sem]
  have HW := Lib.hid hw0; clear hw0
  go_enter Try.func26, Try.ntmps26
  go_wp2
  go_loopw [5, 12] (fun out i wr => ∃ k : Nat, ∃ L, k ≤ a4.length ∧ i = .int .i64 k ∧ Below w0.heap.size w0 wr ∧ Hid (App 94 w0 wr L out (since (a4.take k) u))) (fun _ i _ => a4.length - (intOf i).toNat)
  case atStart => exact ⟨0, [w.heap.size + 1], Nat.zero_le _, rfl, by rw [HW.out]; go_grown, Lib.hid (App.fresh (by simp) (by omega))⟩
  case round =>
    obtain ⟨k, L, hk, rfl, hB, hA⟩ := hrel
    have hBw := hB0.trans (hB.mono (by omega))
    have hlt : w.heap.size < wr.heap.size := by have := hB.size; omega
    obtain ⟨ooa, ocp, rfl⟩ := hA.out.slice
    have hlen : (since (a4.take k) u).length ≤ k := since_len a4 k u
    have y0 : wr.cell? ⟨w.heap.size, 0, none⟩ = some (.int .i64 a1) := (bcell hB w.heap.size 0 (by omega)).trans z0
    have y1 : wr.cell? ⟨w.heap.size, 1, none⟩ = some (.string a2) := (bcell hB w.heap.size 1 (by omega)).trans z1
    have y2 : wr.cell? ⟨w.heap.size, 2, none⟩ = some (.slice s3oa a3.length s3cp) := (bcell hB w.heap.size 2 (by omega)).trans z2
    have y3 : wr.cell? ⟨w.heap.size, 3, none⟩ = some (.slice Poa a4.length Pcap) := (bcell hB w.heap.size 3 (by omega)).trans z3
    by_cases hkl : k < a4.length
    · have hxx := List.getElem?_eq_getElem hkl
      obtain ⟨xb, xo, xce, rfl, xhcl, xhcc, xhxr⟩ := PE.out k _ hxx
      have HXx := Lib.hid hxx; clear hxx
      generalize a4[k] = x at *
      obtain ⟨xv0, xv1, xv2, rfl⟩ := len3 (show _ = 3 from xhcl)
      have RXx := Lib.hid xhxr
      have hcsx := cells_Event xhxr; clear xhxr
      obtain ⟨xsoa1, xscp1, xsoa2, xscp2, hcsx⟩ := hcsx
      simp only [List.cons.injEq, and_true] at hcsx
      obtain ⟨rfl, rfl, rfl⟩ := hcsx
      have xc0 : wr.cell? ⟨xb, xo + k * 3, none⟩ = some (.int .i64 x.1) := (hBw.cell (World.block_lt_of_cell? w _ (xhcc 0 _ rfl))).trans (xhcc 0 _ rfl)
      have xc1 : wr.cell? ⟨xb, xo + k * 3 + 1, none⟩ = some (.slice xsoa1 x.2.1.length xscp1) := (hBw.cell (World.block_lt_of_cell? w _ (xhcc 1 _ rfl))).trans (xhcc 1 _ rfl)
      have xc2 : wr.cell? ⟨xb, xo + k * 3 + 2, none⟩ = some (.slice xsoa2 x.2.2.length xscp2) := (hBw.cell (World.block_lt_of_cell? w _ (xhcc 2 _ rfl))).trans (xhcc 2 _ rfl)
      have xlt : xb < wr.heap.size := World.block_lt_of_cell? wr _ xc0
      clear xhcc xhcl
      have hxs : GoD.size x ≤ 1048576 := Nat.le_trans (size_list_get HXx.out) hsz4
      have hxt := since_step HXx.out u
      have HT := Lib.hid hxt; clear hxt
      generalize since (a4.take k) u = lk at *
      by_cases hc : u < x.1
      · go_wp2_with (first | (go_at_call 61; refine call_retA (w := wr) (copyEvent_c _ _ x (rd_below RXx.out (below_via hBw (by go_grown))) hxs) (by go_grown) ?_; intro w1 cs1 L1 hB1 hb hz1 hz2 ho1 hL1; obtain ⟨eoa1, ecp1, eoa2, ecp2, rfl⟩ := cells_Event (GoD.own_rd ho1); have ka := fun o => bcell hb (w.heap.size) o (by go_size); have kb := fun o => bcell hb (xb) o (by go_size); have HO1 := Lib.hid ho1; clear ho1; have HL1 := Lib.hid hL1; clear hL1; have HB1 := Lib.hid hb; clear hb) | (at_builtin; refine wpList_App (w0 := w0) (L := L) (La := L1) (v := .slice ooa lk.length ocp) (l := lk) (y := x) _ _ 47 94 ⟨w1.heap.size, 0, none⟩ 1 (news := [.int .i64 x.1, .slice eoa1 x.2.1.length ecp1, .slice eoa2 x.2.2.length ecp2]) (App.keep (App.keep (App.keep hA.out (by go_grown)) HB1.out) (by go_grown)) (own_alloc HO1.out) (fun b hb hm => by have h1 := hA.out.lt b hb; have h2 := HL1.out b hm; simp only [World.size_alloc, World.size_setCell, World.size_drew] at h2; omega) (fun b hm => by have h2 := HL1.out b hm; have h3 := hB.size; simp only [World.size_alloc, World.size_setCell, World.size_drew] at h2; omega) (below_via (below_via (below_via hB (by go_grown)) HB1.out) (by go_grown)) rfl rfl Try.underlying47 (by kernel_rfl) (by decide) rfl rfl (cells_new _ [.int .i64 x.1, .slice eoa1 x.2.1.length ecp1, .slice eoa2 x.2.2.length ecp2] _) (by simp [Value.oneCell']) (by omega) ?_; intro v2 w2 L2 hA2 hB2 hz3 hL2 hfr; obtain ⟨oo2, oc2, rfl⟩ := hA2.slice; have HA2 := Lib.hid hA2; clear hA2 hfr hL2))
        go_roundw
        case rel => exact ⟨k + 1, L2, by omega, by go_num, by go_grown, by rw [HT.out, if_pos hc]; have h := HA2.out; simp only [List.length_append, List.length_singleton] at h; exact Lib.hid h⟩
        case measure => simp [intOf]; omega
      · go_wp2
        go_roundw
        case rel => exact ⟨k + 1, L, by omega, by go_num, below_via hB (by go_grown), by rw [HT.out, if_neg hc, List.append_nil]; exact Lib.hid (App.keep hA.out (by go_grown))⟩
        case measure => simp [intOf]; omega
    · obtain rfl : k = a4.length := by omega
      go_wp2
      go_ret
      exact ⟨.slice ooa (since (a4.take a4.length) u).length ocp, L, rfl, hBw, by have h := hA.out.done; simp only [List.take_length] at h ⊢; exact h, fun b hb => by have := hA.out.ge b hb; omega⟩
end Go.Proofs.Ytjbcjebiihgdgaa
