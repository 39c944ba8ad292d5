/- What the laws' own package of specifications does with slices of integers: ApplyDiffToIDs. -/
import Derived.Test.YtonniokonadkfaaIs
namespace Go.Proofs.Ytonniokonadkfaa
open Go.RowKit
open GoD (rd own)
theorem containsID_b (w : World) (v : Value) (l : List Int) (x : Int) (r : Bool) (ha : rd w [v] l) (hr : l.contains x = r) : Calls Try.prog 35 #[v, .int .i64 x] w (Ret w (.bool r)) := hr ▸ containsID_c w v l x ha
set_option maxHeartbeats 4000000 in
theorem applyDiff_c (w : World) (vi va vr : Value) (nm : ByteArray) (ids added removed : List Int) (hi : rd w [vi] ids) (ha : rd w [va] added) (hr : rd w [vr] removed) (hsz : ids.length + added.length ≤ 268435456) : Calls Try.prog 28 #[vi, .agg #[.string nm, va, vr]] w (RetS w (replay1 ids added removed)) := by
  have hrep : replay1 ids added removed = putAll (putAll [] (less ids removed)) added := rfl
  generalize replay1 ids added removed = res at *
  have HRES := Lib.hid hrep; clear hrep
  have hii := rd_i64 hi
  have hai := rd_i64 ha
  have HII := Lib.hid hii; clear hii
  have HAI := Lib.hid hai; clear hai
  obtain ⟨ioa, icap, rfl⟩ := slice_of_rd hi
  obtain ⟨aoa, acap, rfl⟩ := slice_of_rd ha
  have hics := rd_ints hi
  have hacs := rd_ints ha
  have HI := Lib.hid hi; clear hi
  have HA := Lib.hid ha; clear ha
  have HR := Lib.hid hr; clear hr
  obtain ⟨w0, hw0⟩ : ∃ w0, w0 = w.alloc (.cells #[.string nm, .slice aoa added.length acap, vr] 53) := ⟨_, rfl⟩
  have hB0 : Below w.heap.size w w0 := by rw [hw0]; go_grown
  have hs0 : w0.heap.size = w.heap.size + 1 := by rw [hw0]; simp
  have z0 : w0.cell? ⟨w.heap.size, 0, none⟩ = some (.string nm) := by rw [hw0]; simp [go_sem]
  have z1 : w0.cell? ⟨w.heap.size, 1, none⟩ = some (.slice aoa added.length acap) := by rw [hw0]; simp [go_sem]
  have z2 : w0.cell? ⟨w.heap.size, 2, none⟩ = some (vr) := by rw [hw0]; simp [go_sem]
  have HW := Lib.hid hw0; clear hw0
  go_enter Try.func28, Try.ntmps28
  go_wp2
  go_loopw [5, 6] (fun out i wr => ∃ k : Nat, k ≤ ids.length ∧ i = .int .i64 k ∧ Below w0.heap.size w0 wr ∧ Hid (rd wr [out] (putAll [] (less (ids.take k) removed)))) (fun _ i _ => ids.length - (intOf i).toNat)
  case atStart => exact ⟨0, Nat.zero_le _, rfl, by rw [HW.out]; go_grown, Lib.hid (show rd _ _ ([] : List Int) from rd_none (by unfold maxLen; omega))⟩
  case round =>
    obtain ⟨k, hk, rfl, hB, hO⟩ := hrel
    have hBw := hB0.trans (hB.mono (by omega))
    have hlt : w.heap.size < wr.heap.size := by have := hB.size; omega
    obtain ⟨ooa, ocp, rfl⟩ := slice_of_rd hO.out
    have hlen : (putAll [] (less (ids.take k) removed)).length ≤ k := by have h1 := len_putAll (less (ids.take k) removed) []; have h2 := less_len (ids.take k) removed; have h3 := List.length_take_le k ids; simp only [List.length_nil] at h1; omega
    have y0 : wr.cell? ⟨w.heap.size, 0, none⟩ = some (.string nm) := (bcell hB w.heap.size 0 (by omega)).trans z0
    have y1 : wr.cell? ⟨w.heap.size, 1, none⟩ = some (.slice aoa added.length acap) := (bcell hB w.heap.size 1 (by omega)).trans z1
    have y2 : wr.cell? ⟨w.heap.size, 2, none⟩ = some (vr) := (bcell hB w.heap.size 2 (by omega)).trans z2
    by_cases hkl : k < ids.length
    · have hx := List.getElem?_eq_getElem hkl
      generalize ids[k] = x at hx
      have hxi : I64 x := HII.out x (List.mem_of_getElem? hx)
      have HXI := Lib.hid hxi; clear hxi
      obtain ⟨b, off, rfl, hcell⟩ : ∃ b off, ioa = some ⟨b, off, none⟩ ∧ w.cell? ⟨b, off + k, none⟩ = some (.int .i64 x) := by
        rcases hics with rfl | ⟨b, off, rfl, hc⟩
        · simp at hkl
        · exact ⟨b, off, rfl, int_at hc hx⟩
      have hblt : b < w.heap.size := World.block_lt_of_cell? w _ hcell
      have xc : wr.cell? ⟨b, off + k, none⟩ = some (.int .i64 x) := (hBw.cell hblt).trans hcell
      have hbl : b < wr.heap.size := by have := hBw.size; omega
      clear hcell hblt
      have hstep := less_step (removed := removed) hx
      have HS := Lib.hid hstep; clear hstep hx
      generalize less (ids.take k) removed = lk at *
      generalize hpl : putAll [] lk = pk at *
      have HP := Lib.hid hpl; clear hpl
      cases hc : removed.contains x
      · have HC := Lib.hid hc; clear hc
        go_wp2_with (first | ((with_reducible refine wp_region_pl [.look 0, .look 1, .look 2, .look 3, .look 4, .look 5, .step 6, .free 7] (by kernel_rfl) (by kernel_rfl) ?_); refine wpMix_look rfl rfl (fun _ _ _ _ h => h) (fun K hK hcell => ?_); have g0 := hcell (w.heap.size) (by go_size); have g1 := hcell (b) (by go_size); clear hcell; go_simp; refine hK _ ?_; clear hK K g0 g1; refine wpMix_look rfl rfl (fun _ _ _ _ h => h) (fun K hK hcell => ?_); have g0 := hcell (w.heap.size) (by go_size); have g1 := hcell (b) (by go_size); clear hcell; go_simp; refine hK _ ?_; clear hK K g0 g1; refine wpMix_look rfl rfl (fun _ _ _ _ h => h) (fun K hK hcell => ?_); have g0 := hcell (w.heap.size) (by go_size); have g1 := hcell (b) (by go_size); clear hcell; go_simp; refine hK _ ?_; clear hK K g0 g1; refine wpMix_look rfl rfl (fun _ _ _ _ h => h) (fun K hK hcell => ?_); have g0 := hcell (w.heap.size) (by go_size); have g1 := hcell (b) (by go_size); clear hcell; go_simp; refine hK _ ?_; clear hK K g0 g1; refine wpMix_look rfl rfl (fun _ _ _ _ h => h) (fun K hK hcell => ?_); have g0 := hcell (w.heap.size) (by go_size); have g1 := hcell (b) (by go_size); clear hcell; go_simp; refine hK _ ?_; clear hK K g0 g1; refine wpMix_look rfl rfl (fun _ _ _ _ h => h) (fun K hK hcell => ?_); have g0 := hcell (w.heap.size) (by go_size); have g1 := hcell (b) (by go_size); clear hcell; go_simp; refine hK _ ?_; clear hK K g0 g1; refine wpMix_call rfl (fun K hK => ?_); go_simp; go_at_call 35; refine call_ret (w := wr) (containsID_b _ _ removed x false (rd_below HR.out (below_via hBw (by go_grown))) HC.out) (by go_grown) ?_; intro w1 hB1 hb hz1 hz2; have c1 := fun o => bcell hb b o (by go_size); have HB1 := Lib.hid hb; clear hb; refine hK _ _ HB1.out ?_; clear hK K; refine wpMix_free rfl (fun K hK => ?_); go_simp; refine hK _ _ ?_; clear hK K; refine wpMix_nil ?_) | (go_at_call 40; refine call_rdS (w := wr) (putId_c _ _ pk x (rd_below hO.out (by go_grown)) HXI.out (by omega)) (by go_grown) ?_; intro w2 v2 hB2 hb2 hz3 hz4 hr2; have HO2 := Lib.hid hr2; clear hr2; have HB2 := Lib.hid hB2; clear hb2))
        go_roundw
        case rel => exact ⟨k + 1, by omega, by go_num, below_via hB HB2.out, by rw [HS.out, if_neg (by rw [HC.out]; exact Bool.false_ne_true), putAll_snoc, HP.out]; exact HO2⟩
        case measure => simp [intOf]; omega
      · have HC := Lib.hid hc; clear hc
        go_wp2_with (first | ((with_reducible refine wp_region_pl [.look 0, .look 1, .look 2, .look 3, .look 4, .look 5, .step 6, .free 7] (by kernel_rfl) (by kernel_rfl) ?_); refine wpMix_look rfl rfl (fun _ _ _ _ h => h) (fun K hK hcell => ?_); have g0 := hcell (w.heap.size) (by go_size); have g1 := hcell (b) (by go_size); clear hcell; go_simp; refine hK _ ?_; clear hK K g0 g1; refine wpMix_look rfl rfl (fun _ _ _ _ h => h) (fun K hK hcell => ?_); have g0 := hcell (w.heap.size) (by go_size); have g1 := hcell (b) (by go_size); clear hcell; go_simp; refine hK _ ?_; clear hK K g0 g1; refine wpMix_look rfl rfl (fun _ _ _ _ h => h) (fun K hK hcell => ?_); have g0 := hcell (w.heap.size) (by go_size); have g1 := hcell (b) (by go_size); clear hcell; go_simp; refine hK _ ?_; clear hK K g0 g1; refine wpMix_look rfl rfl (fun _ _ _ _ h => h) (fun K hK hcell => ?_); have g0 := hcell (w.heap.size) (by go_size); have g1 := hcell (b) (by go_size); clear hcell; go_simp; refine hK _ ?_; clear hK K g0 g1; refine wpMix_look rfl rfl (fun _ _ _ _ h => h) (fun K hK hcell => ?_); have g0 := hcell (w.heap.size) (by go_size); have g1 := hcell (b) (by go_size); clear hcell; go_simp; refine hK _ ?_; clear hK K g0 g1; refine wpMix_look rfl rfl (fun _ _ _ _ h => h) (fun K hK hcell => ?_); have g0 := hcell (w.heap.size) (by go_size); have g1 := hcell (b) (by go_size); clear hcell; go_simp; refine hK _ ?_; clear hK K g0 g1; refine wpMix_call rfl (fun K hK => ?_); go_simp; go_at_call 35; refine call_ret (w := wr) (containsID_b _ _ removed x true (rd_below HR.out (below_via hBw (by go_grown))) HC.out) (by go_grown) ?_; intro w1 hB1 hb hz1 hz2; have c1 := fun o => bcell hb b o (by go_size); have HB1 := Lib.hid hb; clear hb; refine hK _ _ HB1.out ?_; clear hK K; refine wpMix_free rfl (fun K hK => ?_); go_simp; refine hK _ _ ?_; clear hK K; refine wpMix_nil ?_))
        go_roundw
        case rel => exact ⟨k + 1, by omega, by go_num, below_via hB (by go_grown), by rw [HS.out, if_pos HC.out, List.append_nil, HP.out]; exact Lib.hid (rd_below hO.out (by go_grown))⟩
        case measure => simp [intOf]; omega
    · obtain rfl : k = ids.length := by omega
      rw [List.take_length] at hO hlen
      rw [List.take_length]
      generalize hpl : putAll [] (less ids removed) = pk at *
      have HP := Lib.hid hpl; clear hpl hk hkl
      go_wp2
      go_loopw [5, 7] (fun out i w9 => ∃ k : Nat, k ≤ added.length ∧ i = .int .i64 k ∧ Below w0.heap.size w0 w9 ∧ Hid (rd w9 [out] (putAll pk (added.take k)))) (fun _ i _ => added.length - (intOf i).toNat)
      case atStart => exact ⟨0, Nat.zero_le _, rfl, by go_grown, Lib.hid (show rd _ _ pk from rd_below hO.out (by go_grown))⟩
      case round =>
        clear hO hB hBw hlt y0 y1 y2
        obtain ⟨k, hk, rfl, hB, hO⟩ := hrel
        have hBw := hB0.trans (hB.mono (by omega))
        have hlt : w.heap.size < wr.heap.size := by have := hB.size; omega
        obtain ⟨o2a, o2p, rfl⟩ := slice_of_rd hO.out
        have hlen2 : (putAll pk (added.take k)).length ≤ ids.length + k := by have h1 := len_putAll (added.take k) pk; have h3 := List.length_take_le k added; omega
        have y0 : wr.cell? ⟨w.heap.size, 0, none⟩ = some (.string nm) := (bcell hB w.heap.size 0 (by omega)).trans z0
        have y1 : wr.cell? ⟨w.heap.size, 1, none⟩ = some (.slice aoa added.length acap) := (bcell hB w.heap.size 1 (by omega)).trans z1
        have y2 : wr.cell? ⟨w.heap.size, 2, none⟩ = some (vr) := (bcell hB w.heap.size 2 (by omega)).trans z2
        by_cases hkl : k < added.length
        · have hx := List.getElem?_eq_getElem hkl
          generalize added[k] = x at hx
          have hxi : I64 x := HAI.out x (List.mem_of_getElem? hx)
          have HXI := Lib.hid hxi; clear hxi
          obtain ⟨b, off, rfl, hcell⟩ : ∃ b off, aoa = some ⟨b, off, none⟩ ∧ w.cell? ⟨b, off + k, none⟩ = some (.int .i64 x) := by
            rcases hacs with rfl | ⟨b, off, rfl, hc⟩
            · simp at hkl
            · exact ⟨b, off, rfl, int_at hc hx⟩
          have hblt : b < w.heap.size := World.block_lt_of_cell? w _ hcell
          have xc : wr.cell? ⟨b, off + k, none⟩ = some (.int .i64 x) := (hBw.cell hblt).trans hcell
          have hbl : b < wr.heap.size := by have := hBw.size; omega
          clear hcell hblt
          have hstep : putAll pk (added.take (k + 1)) = putId (putAll pk (added.take k)) x := by
            rw [List.take_add_one, hx]
            exact putAll_snoc _ _ _
          have HS := Lib.hid hstep; clear hstep hx
          generalize putAll pk (added.take k) = qk at *
          go_wp2_with (first | (go_at_call 40; refine call_rdS (w := wr) (putId_c _ _ qk x (rd_below hO.out (by go_grown)) HXI.out (by omega)) (by go_grown) ?_; intro w2 v2 hB2 hb2 hz3 hz4 hr2; have HO2 := Lib.hid hr2; clear hr2; have HB2 := Lib.hid hB2; clear hb2))
          go_roundw
          case rel => exact ⟨k + 1, by omega, by go_num, below_via hB HB2.out, by rw [HS.out]; exact HO2⟩
          case measure => simp [intOf]; omega
        · obtain rfl : k = added.length := by omega
          rw [List.take_length] at hO hlen2
          have hres : res = putAll pk added := HRES.out
          subst hres
          rw [List.take_length]
          generalize putAll pk added = qk at *
          go_wp2_with (first | (at_builtin; refine wpList_appInts _ _ 22 3 w.heap.size (l := []) (l2 := qk) (IRow.fresh wr (by omega)) (rd_below hO.out (by go_grown)) (by (try simp only [List.length_nil]); omega) (by go_size) rfl rfl Try.underlying22 (by kernel_rfl) rfl rfl ?_; intro v3 w3 h3 c3 _; rw [List.nil_append] at h3; have HI3 := Lib.hid h3; clear h3))
          go_ret
          obtain ⟨L, ho, hL, _⟩ := HI3.out.own
          exact ⟨v3, L, rfl, (show Below w.heap.size w _ by go_grown).trans c3, ho, fun b hb => (hL b hb).1⟩
end Go.Proofs.Ytonniokonadkfaa
