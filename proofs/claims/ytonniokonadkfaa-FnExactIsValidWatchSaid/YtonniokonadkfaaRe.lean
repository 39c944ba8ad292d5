/- impl.replayed; ReplayEvents on both sides. -/
import Derived.Test.YtonniokonadkfaaWo
import Derived.Test.YtonniokonadkfaaIt
import Derived.Test.YtonniokonadkfaaRd
namespace Go.Proofs.Ytonniokonadkfaa
open Go.RowKit
open GoD (rd own)

set_option maxHeartbeats 1000000 in
theorem replayed_c (w : World) (vi va vr : Value) (ids added removed : List Int) (hi : rd w [vi] ids) (ha : rd w [va] added) (hr : rd w [vr] removed) (hsz : ids.length + added.length ≤ 268435456) :
    Calls Try.prog 31 #[vi, va, vr] w fun e' w' => ∃ v', e' = .returned v' ∧ IRow 3 w.heap.size w' v' (replay1 ids added removed) ∧ Below w.heap.size w w' := by
  have HRES := Lib.hid (replay1_eq ids added removed)
  generalize replay1 ids added removed = res at *
  have HI := Lib.hid hi; clear hi
  have HA := Lib.hid ha; clear ha
  have HR := Lib.hid hr; clear hr
  have hl := less_len ids removed
  go_enter Try.func31, Try.ntmps31
  go_wp2_with (first
    | (go_at_call 39; refine (without_c _ _ _ ids removed (rd_below HI.out (by go_grown)) (rd_below HR.out (by go_grown)) (by omega)).mono ?_; rintro e1 w1 ⟨v1, rfl, h1, c1⟩; generalize less ids removed = l1 at *; have hs1 := c1.size; have H1 := Lib.hid h1; clear h1; have C1 := Lib.hid c1; clear c1)
    | (at_builtin; refine wpList_appInts _ _ 22 3 w.heap.size (l := l1) (l2 := added) H1.out (rd_below HA.out C1.out) (by omega) (by omega) rfl rfl Try.underlying22 (by kernel_rfl) rfl rfl ?_; intro v2 w2 h2 c2 hs2; have C2 := Lib.hid (C1.out.trans c2); clear c2; have hl2 : (l1 ++ added).length ≤ 1073741824 := (by rw [List.length_append]; omega); generalize l1 ++ added = l2 at *; have H2 := Lib.hid h2; clear h2)
    | (go_at_call 41; refine (sortI_c (e := 3) (B := w.heap.size) w2 v2 l2 H2.out hl2).mono ?_; rintro e3 w3 ⟨rfl, h3, c3⟩; have C3 := Lib.hid (C2.out.trans (H2.out.below c3 (by omega))); have hs3 := c3.size; clear c3; have hl3 : (l2.mergeSort fun x y => decide (x ≤ y)).length ≤ 1073741824 := (by rw [List.length_mergeSort]; exact hl2); generalize (l2.mergeSort fun x y => decide (x ≤ y)) = l3 at *; have H3 := Lib.hid h3; clear h3)
    | (go_at_call 42; refine (compactI_c (e := 3) (B := w.heap.size) w3 v2 l3 H3.out hl3).mono ?_; rintro e4 w4 ⟨v4, rfl, h4, c4⟩; have C4 := Lib.hid (C3.out.trans (H3.out.below c4 (by omega))); clear c4; have H4 := Lib.hid h4; clear h4))
  go_ret
  refine ⟨v4, rfl, ?_, C4.out⟩
  rw [← HRES.out]
  exact H4.out

/-- a list behind some events -/
def replayAll (ids : List Int) (l : List EventD) : List Int := l.foldl (fun o e => replay1 o e.2.1 e.2.2) ids
def addN (l : List EventD) : Nat := (l.map (fun e => e.2.1.length)).sum
theorem replayAll_step {ids : List Int} {l : List EventD} {k : Nat} {x : EventD} (h : l[k]? = some x) : replayAll ids (l.take (k + 1)) = replay1 (replayAll ids (l.take k)) x.2.1 x.2.2 := by
  unfold replayAll
  rw [List.take_add_one, h]
  simp
theorem addN_step {l : List EventD} {k : Nat} {x : EventD} (h : l[k]? = some x) : addN (l.take (k + 1)) = addN (l.take k) + x.2.1.length := by
  unfold addN
  rw [List.take_add_one, h]
  simp
theorem addN_take (l : List EventD) (k : Nat) : addN (l.take k) ≤ addN l := by
  unfold addN
  have h : (l.map (fun e : EventD => e.2.1.length)).sum = ((l.take k).map (fun e : EventD => e.2.1.length)).sum + ((l.drop k).map (fun e : EventD => e.2.1.length)).sum := by
    rw [← List.sum_append_nat, ← List.map_append, List.take_append_drop]
  omega
theorem addN_le (l : List EventD) : addN l ≤ GoD.size l := by
  rw [size_list]
  unfold addN
  induction l with
  | nil => simp
  | cons a l ih =>
    obtain ⟨a1, a2, a3⟩ := a
    have h1 := size_list_len a2
    have h3 : GoD.size (a1, a2, a3) = GoD.size a1 + (GoD.size a2 + GoD.size a3) := rfl
    simp only [List.map_cons, List.sum_cons, List.length_cons]
    omega
theorem replayAll_len : ∀ (l : List EventD) (ids : List Int), (replayAll ids l).length ≤ ids.length + addN l
  | [], ids => by simp [replayAll]
  | x :: l, ids => by
    have h := replayAll_len l (replay1 ids x.2.1 x.2.2)
    have h2 := replay1_len ids x.2.1 x.2.2
    have h3 : addN (x :: l) = x.2.1.length + addN l := by simp [addN]
    have h4 : replayAll ids (x :: l) = replayAll (replay1 ids x.2.1 x.2.2) l := rfl
    rw [h4, h3]
    omega
theorem rd_event {w : World} {n : Value} {v1 v2 : Value} {x : EventD} (h : rd w [n, v1, v2] x) : I64 x.1 ∧ rd w [v1] x.2.1 ∧ rd w [v2] x.2.2 := by
  obtain ⟨c1, c2, e1, h1, c3, c4, e2, h2, h3⟩ := h
  obtain ⟨n1, rfl⟩ := len1 (show c1.length = 1 from GoD.rd_len h1)
  obtain ⟨n2, rfl⟩ := len1 (show c3.length = 1 from GoD.rd_len h2)
  obtain ⟨n3, rfl⟩ := len1 (show c4.length = 1 from GoD.rd_len h3)
  subst e2
  simp only [List.singleton_append, List.cons.injEq, and_true] at e1
  obtain ⟨rfl, rfl, rfl⟩ := e1
  exact ⟨h1.2, h2, h3⟩
set_option maxHeartbeats 4000000 in
theorem specReplayEvents_c (w : World) (vi vl : Value) (ids : List Int) (l : List EventD) (hi : rd w [vi] ids) (hl : rd w [vl] l) (hsz : ids.length + addN l ≤ 268435456) (hsl : l.length ≤ 1073741824) : Calls Try.prog 8 #[vi, vl] w (RetRS w (replayAll ids l)) := by
  obtain ⟨Poa, Pcap, Pe, Phl, Phm, Phel⟩ := hl
  obtain rfl : vl = _ := by simpa using Pe
  clear Pe
  have PE := Lib.hid Phel; clear Phel
  have HI := Lib.hid hi; clear hi
  have hln : l.length ≤ 9223372036854775807 := by omega
  go_enter Try.func8, Try.ntmps8
  go_wp2_with (first | (at_builtin; refine wpList_appInts _ _ 22 3 w.heap.size (l := []) (l2 := ids) (IRow.fresh w (Nat.le_refl _)) (rd_below HI.out (by go_grown)) (by (try simp only [List.length_nil]); omega) (by go_size) rfl rfl Try.underlying22 (by kernel_rfl) rfl rfl ?_; intro v1 w1 h1 c1 _; rw [List.nil_append] at h1; have C1 := Lib.hid ((show Below w.heap.size w _ by go_grown).trans c1); have hs1 := C1.out.size; clear c1; have H1 := Lib.hid h1.rd; clear h1))
  go_loopw [5, 6] (fun out i wr => ∃ k : Nat, k ≤ l.length ∧ i = .int .i64 k ∧ Below w.heap.size w wr ∧ Hid (rd wr [out] (replayAll ids (l.take k)))) (fun _ i _ => l.length - (intOf i).toNat)
  case atStart => exact ⟨0, Nat.zero_le _, rfl, C1.out, Lib.hid (by simp only [List.take_zero]; exact H1.out)⟩
  case round =>
    clear H1
    obtain ⟨k, hk, rfl, hB, hO⟩ := hrel
    have hsz2 := hB.size
    obtain ⟨ooa, ocp, rfl⟩ := slice_of_rd hO.out
    have hlen : (replayAll ids (l.take k)).length ≤ ids.length + addN (l.take k) := replayAll_len _ _
    have hle := addN_take l k
    by_cases hkl : k < l.length
    · have hxx := List.getElem?_eq_getElem hkl
      obtain ⟨xb, xo, xce, rfl, xhcl, xhcc, xhxr⟩ := PE.out k _ hxx
      have HXx := Lib.hid hxx; clear hxx
      generalize l[k] = x at *
      obtain ⟨xv0, xv1, xv2, rfl⟩ := len3 (show _ = 3 from xhcl)
      have RXx := Lib.hid xhxr
      have hcsx := cells_Event xhxr; clear xhxr
      obtain ⟨xsoa1, xscp1, xsoa2, xscp2, hcsx⟩ := hcsx
      simp only [List.cons.injEq, and_true] at hcsx
      obtain ⟨rfl, rfl, rfl⟩ := hcsx
      have xc0 : wr.cell? ⟨xb, xo + k * 3, none⟩ = some (.int .i64 x.1) := (hB.cell (World.block_lt_of_cell? w _ (xhcc 0 _ rfl))).trans (xhcc 0 _ rfl)
      have xc1 : wr.cell? ⟨xb, xo + k * 3 + 1, none⟩ = some (.slice xsoa1 x.2.1.length xscp1) := (hB.cell (World.block_lt_of_cell? w _ (xhcc 1 _ rfl))).trans (xhcc 1 _ rfl)
      have xc2 : wr.cell? ⟨xb, xo + k * 3 + 2, none⟩ = some (.slice xsoa2 x.2.2.length xscp2) := (hB.cell (World.block_lt_of_cell? w _ (xhcc 2 _ rfl))).trans (xhcc 2 _ rfl)
      have xlt : xb < wr.heap.size := World.block_lt_of_cell? wr _ xc0
      clear xhcc xhcl
      have hle2 := addN_take l (k + 1)
      rw [addN_step HXx.out] at hle2
      have HS := Lib.hid (replayAll_step (ids := ids) HXx.out)
      generalize replayAll ids (l.take k) = lk at *
      obtain ⟨_, hr1, hr2⟩ := rd_event RXx.out
      have HR1 := Lib.hid hr1; clear hr1
      have HR2 := Lib.hid hr2; clear hr2
      go_wp2_with (first | ((with_reducible refine wp_region_pl [.look 0, .look 1, .look 2, .look 3, .look 4, .look 5, .look 6, .look 7, .look 8, .look 9, .look 10, .look 11, .step 12, .free 13] (by kernel_rfl) (by kernel_rfl) ?_); refine wpMix_look rfl rfl (fun _ _ _ _ h => h) (fun K hK hcell => ?_); have g0 := hcell (xb) (by go_size); clear hcell; go_simp; refine hK _ ?_; clear hK K g0; refine wpMix_look rfl rfl (fun _ _ _ _ h => h) (fun K hK hcell => ?_); have g0 := hcell (xb) (by go_size); clear hcell; go_simp; refine hK _ ?_; clear hK K g0; refine wpMix_look rfl rfl (fun _ _ _ _ h => h) (fun K hK hcell => ?_); have g0 := hcell (xb) (by go_size); clear hcell; go_simp; refine hK _ ?_; clear hK K g0; refine wpMix_look rfl rfl (fun _ _ _ _ h => h) (fun K hK hcell => ?_); have g0 := hcell (xb) (by go_size); clear hcell; go_simp; refine hK _ ?_; clear hK K g0; refine wpMix_look rfl rfl (fun _ _ _ _ h => h) (fun K hK hcell => ?_); have g0 := hcell (xb) (by go_size); clear hcell; go_simp; refine hK _ ?_; clear hK K g0; refine wpMix_look rfl rfl (fun _ _ _ _ h => h) (fun K hK hcell => ?_); have g0 := hcell (xb) (by go_size); clear hcell; go_simp; refine hK _ ?_; clear hK K g0; refine wpMix_look rfl rfl (fun _ _ _ _ h => h) (fun K hK hcell => ?_); have g0 := hcell (xb) (by go_size); clear hcell; go_simp; refine hK _ ?_; clear hK K g0; refine wpMix_look rfl rfl (fun _ _ _ _ h => h) (fun K hK hcell => ?_); have g0 := hcell (xb) (by go_size); clear hcell; go_simp; refine hK _ ?_; clear hK K g0; refine wpMix_look rfl rfl (fun _ _ _ _ h => h) (fun K hK hcell => ?_); have g0 := hcell (xb) (by go_size); clear hcell; go_simp; refine hK _ ?_; clear hK K g0; refine wpMix_look rfl rfl (fun _ _ _ _ h => h) (fun K hK hcell => ?_); have g0 := hcell (xb) (by go_size); clear hcell; go_simp; refine hK _ ?_; clear hK K g0; refine wpMix_look rfl rfl (fun _ _ _ _ h => h) (fun K hK hcell => ?_); have g0 := hcell (xb) (by go_size); clear hcell; go_simp; refine hK _ ?_; clear hK K g0; refine wpMix_look rfl rfl (fun _ _ _ _ h => h) (fun K hK hcell => ?_); have g0 := hcell (xb) (by go_size); clear hcell; go_simp; refine hK _ ?_; clear hK K g0; refine wpMix_call rfl (fun K hK => ?_); go_simp; go_at_call 28; refine call_retS (w := wr) (applyDiff_c _ _ _ _ _ lk x.2.1 x.2.2 (rd_below hO.out (by go_grown)) (rd_below HR1.out (below_via hB (by go_grown))) (rd_below HR2.out (below_via hB (by go_grown))) (by omega)) (by go_grown) ?_; intro w2 v2 L2 hB2 hb hz1 hz2 ho2 hL2; have HO2 := Lib.hid (GoD.own_rd ho2); clear ho2 hL2; have HB2 := Lib.hid hB2; have HB2' := Lib.hid hb; clear hb; refine hK _ _ HB2'.out ?_; clear hK K; refine wpMix_free rfl (fun K hK => ?_); go_simp; refine hK _ _ ?_; clear hK K; refine wpMix_nil ?_))
      go_roundw
      case rel => exact ⟨k + 1, by omega, by go_num, below_via hB (by go_grown), by rw [HS.out]; exact HO2⟩
      case measure => simp [intOf]; omega
    · obtain rfl : k = l.length := by omega
      rw [List.take_length] at hO
      rw [List.take_length]
      go_wp2
      go_ret
      exact ⟨_, rfl, hB, hO.out⟩
set_option maxHeartbeats 4000000 in
theorem implReplayEvents_c (w : World) (vi vl : Value) (ids : List Int) (l : List EventD) (hi : rd w [vi] ids) (hl : rd w [vl] l) (hsz : ids.length + addN l ≤ 268435456) (hsl : l.length ≤ 1073741824) : Calls Try.prog 11 #[vi, vl] w (RetS w (replayAll ids l)) := by
  obtain ⟨Poa, Pcap, Pe, Phl, Phm, Phel⟩ := hl
  obtain rfl : vl = _ := by simpa using Pe
  clear Pe
  have PE := Lib.hid Phel; clear Phel
  have HI := Lib.hid hi; clear hi
  have hln : l.length ≤ 9223372036854775807 := by omega
  go_enter Try.func11, Try.ntmps11
  go_wp2_with (first | (go_at_call 30; refine (cloneI_c _ _ ids (rd_below HI.out (by go_grown)) (by omega)).mono ?_; rintro e1 w1 ⟨v1, rfl, h1, c1⟩; have C1 := Lib.hid c1; have hs1 := c1.size; clear c1; have H1 := Lib.hid h1; clear h1))
  go_loopw [5, 12] (fun out i wr => ∃ k : Nat, k ≤ l.length ∧ i = .int .i64 k ∧ Below w.heap.size w wr ∧ Hid (IRow 3 w.heap.size wr out (replayAll ids (l.take k)))) (fun _ i _ => l.length - (intOf i).toNat)
  case atStart => exact ⟨0, Nat.zero_le _, rfl, C1.out, Lib.hid (by simp only [List.take_zero]; exact H1.out)⟩
  case round =>
    clear H1
    obtain ⟨k, hk, rfl, hB, hO⟩ := hrel
    have hsz2 := hB.size
    obtain ⟨ooa, ocp, rfl⟩ := hO.out.slice
    have hlen : (replayAll ids (l.take k)).length ≤ ids.length + addN (l.take k) := replayAll_len _ _
    have hle := addN_take l k
    by_cases hkl : k < l.length
    · have hxx := List.getElem?_eq_getElem hkl
      obtain ⟨xb, xo, xce, rfl, xhcl, xhcc, xhxr⟩ := PE.out k _ hxx
      have HXx := Lib.hid hxx; clear hxx
      generalize l[k] = x at *
      obtain ⟨xv0, xv1, xv2, rfl⟩ := len3 (show _ = 3 from xhcl)
      have RXx := Lib.hid xhxr
      have hcsx := cells_Event xhxr; clear xhxr
      obtain ⟨xsoa1, xscp1, xsoa2, xscp2, hcsx⟩ := hcsx
      simp only [List.cons.injEq, and_true] at hcsx
      obtain ⟨rfl, rfl, rfl⟩ := hcsx
      have xc0 : wr.cell? ⟨xb, xo + k * 3, none⟩ = some (.int .i64 x.1) := (hB.cell (World.block_lt_of_cell? w _ (xhcc 0 _ rfl))).trans (xhcc 0 _ rfl)
      have xc1 : wr.cell? ⟨xb, xo + k * 3 + 1, none⟩ = some (.slice xsoa1 x.2.1.length xscp1) := (hB.cell (World.block_lt_of_cell? w _ (xhcc 1 _ rfl))).trans (xhcc 1 _ rfl)
      have xc2 : wr.cell? ⟨xb, xo + k * 3 + 2, none⟩ = some (.slice xsoa2 x.2.2.length xscp2) := (hB.cell (World.block_lt_of_cell? w _ (xhcc 2 _ rfl))).trans (xhcc 2 _ rfl)
      have xlt : xb < wr.heap.size := World.block_lt_of_cell? wr _ xc0
      clear xhcc xhcl
      have hle2 := addN_take l (k + 1)
      rw [addN_step HXx.out] at hle2
      have HS := Lib.hid (replayAll_step (ids := ids) HXx.out)
      generalize replayAll ids (l.take k) = lk at *
      obtain ⟨_, hr1, hr2⟩ := rd_event RXx.out
      have HR1 := Lib.hid hr1; clear hr1
      have HR2 := Lib.hid hr2; clear hr2
      go_wp2_with (first | (go_at_call 31; refine (replayed_c _ _ _ _ lk x.2.1 x.2.2 (rd_below hO.out.rd (by go_grown)) (rd_below HR1.out (below_via hB (by go_grown))) (rd_below HR2.out (below_via hB (by go_grown))) (by omega)).mono ?_; rintro e2 w2 ⟨v2, rfl, h2, c2⟩; have HB2 := Lib.hid (Below.trans (show Below wr.heap.size wr _ by go_grown) (c2.mono (by go_size))); have HO2 := Lib.hid (h2.mono (B' := w.heap.size) (by go_size)); clear h2 c2))
      go_roundw
      case rel => exact ⟨k + 1, by omega, by go_num, below_via hB HB2.out, by rw [HS.out]; exact HO2⟩
      case measure => simp [intOf]; omega
    · obtain rfl : k = l.length := by omega
      rw [List.take_length] at hO
      rw [List.take_length]
      go_wp2
      go_ret
      obtain ⟨L, ho, hL, _⟩ := hO.out.own
      exact ⟨_, L, rfl, hB, ho, fun b hb => (hL b hb).1⟩
end Go.Proofs.Ytonniokonadkfaa
