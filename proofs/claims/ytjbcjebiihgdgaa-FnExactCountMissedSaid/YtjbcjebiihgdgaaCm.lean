/- How many changes are missed. -/
import Derived.Test.YtjbcjebiihgdgaaEs
namespace Go.Proofs.Ytjbcjebiihgdgaa
open Go.RowKit
open GoD (rd own)
def missN (l : List EventD) : Nat := (l.map (fun e => e.2.1.length + e.2.2.length)).sum
def missed (a : WatchD) (u : Int) : Int := (missN (since a.2.2.2 u) : Nat)
theorem missN_step {l : List EventD} {k : Nat} {x : EventD} (h : l[k]? = some x) : missN (l.take (k + 1)) = missN (l.take k) + x.2.1.length + x.2.2.length := by
  unfold missN
  rw [List.take_add_one, h]
  simp only [Option.toList_some, List.map_append, List.map_cons, List.map_nil, List.sum_append, List.sum_cons, List.sum_nil]
  omega
theorem missN_le (l : List EventD) : missN l ≤ GoD.size l := by
  rw [size_list]
  unfold missN
  induction l with
  | nil => simp
  | cons a l ih =>
    obtain ⟨a1, a2, a3⟩ := a
    have h1 := size_list_len a2
    have h2 := size_list_len a3
    have h3 : GoD.size (a1, a2, a3) = GoD.size a1 + (GoD.size a2 + GoD.size a3) := rfl
    simp only [List.map_cons, List.sum_cons, List.length_cons]
    omega
theorem wrap_i {n : Int} (h0 : -9223372036854775808 ≤ n) (h1 : n ≤ 9223372036854775807) : IntKind.i64.wrap n = n := by rw [IntKind.wrap_i64]; omega
theorem missN_take (l : List EventD) (k : Nat) : missN (l.take k) ≤ missN l := by
  unfold missN
  have h : ((l.map (fun e : EventD => e.2.1.length + e.2.2.length))).sum = (((l.take k).map (fun e : EventD => e.2.1.length + e.2.2.length))).sum + (((l.drop k).map (fun e : EventD => e.2.1.length + e.2.2.length))).sum := by
    rw [← List.sum_append_nat, ← List.map_append, List.take_append_drop]
  omega
set_option maxHeartbeats 4000000 in
theorem specCountMissed_c (w : World) (ca : List Value) (a : WatchD) (ha : rd w ca a) (u : Int) (hu : I64 u) (hsz : GoD.size a ≤ 1048576) : Calls Try.prog 21 #[.agg ca.toArray, .int .i64 u] w (Ret w (.int .i64 (missed a u))) := by
  have hz4 : GoD.size (since a.2.2.2 u) ≤ 1048576 := Nat.le_trans (since_size _ u) (by obtain ⟨a1, a2, a3, a4⟩ := a; have h2 : GoD.size (a1, a2, a3, a4) = GoD.size a1 + (GoD.size a2 + (GoD.size a3 + GoD.size a4)) := rfl; dsimp only; omega)
  have HA := Lib.hid ha
  have hm : missed a u = ((missN (since a.2.2.2 u) : Nat) : Int) := rfl
  rw [hm]; clear hm
  obtain ⟨a1, a2, a3, a4⟩ := a
  obtain ⟨ac1, at1, rfl, ar1, ac2, at2, rfl, ar2, ac3, at3, rfl, ar3, ar4⟩ := ha
  obtain ⟨rfl, ar1⟩ := ar1
  obtain ⟨rfl, ar2⟩ := ar2
  obtain ⟨ax3_0, rfl⟩ := len1 (show _ = 1 from GoD.rd_len ar3)
  obtain ⟨ax4_0, rfl⟩ := len1 (show _ = 1 from GoD.rd_len ar4)
  dsimp only [List.cons_append, List.nil_append] at *
  obtain ⟨s3oa, s3cp, rfl⟩ := slice_of_rd ar3
  obtain ⟨s4oa, s4cp, rfl⟩ := slice_of_rd ar4
  clear ar1 ar2 ar3 ar4
  have HZ := Lib.hid hsz; clear hsz
  have HU := Lib.hid hu; clear hu
  generalize hl : since a4 u = l at *
  have HL := Lib.hid hl; clear hl
  have hn : l.length ≤ 1048576 := by have := size_list_len l; omega
  go_enter Try.func21, Try.ntmps21
  go_wp2_with (go_at_call 25; refine call_retS (w := w) (specEventsSince_c _ _ (a1, a2, a3, a4) (rd_below HA.out (by go_grown)) u HU.out HZ.out) (by go_grown) ?_; intro w1 v1 L1 hB1 hb hz1 hz2 ho1 hL1; obtain ⟨oa1, cp1, rfl⟩ := slice_of_own ho1; have hr1 := GoD.own_rd ho1; clear ho1 hL1; rw [show since (a1, a2, a3, a4).2.2.2 u = l from HL.out] at hr1; rw [show since (a1, a2, a3, a4).2.2.2 u = l from HL.out]; have HR := Lib.hid hr1; clear hr1; have HB1 := Lib.hid hb; clear hb)
  obtain ⟨Poa, Pcap, Pe, Phl, Phm, Phel⟩ := HR.out
  obtain ⟨rfl, rfl⟩ : oa1 = Poa ∧ cp1 = Pcap := by simpa using Pe
  clear Pe
  have PE := Lib.hid Phel; clear Phel
  have htot : missN l ≤ 1048576 := Nat.le_trans (missN_le l) hz4
  go_loopw [5, 7] (fun n i wr => ∃ k : Nat, k ≤ l.length ∧ i = .int .i64 k ∧ n = .int .i64 ((missN (l.take k) : Nat) : Int) ∧ Below w1.heap.size w1 wr) (fun _ i _ => l.length - (intOf i).toNat)
  case atStart => exact ⟨0, Nat.zero_le _, rfl, rfl, by go_grown⟩
  case round =>
    obtain ⟨k, hk, rfl, rfl, hB⟩ := hrel
    have hsz2 := hB.size
    have hck := Nat.le_trans (missN_take l k) htot
    have hck1 := Nat.le_trans (missN_take l (k + 1)) htot
    by_cases hkl : k < l.length
    · have hxx := List.getElem?_eq_getElem hkl
      obtain ⟨xb, xo, xce, rfl, xhcl, xhcc, xhxr⟩ := PE.out k _ hxx
      have HXx := Lib.hid hxx; clear hxx
      generalize l[k] = x at *
      obtain ⟨xv0, xv1, xv2, rfl⟩ := len3 (show _ = 3 from xhcl)
      have RXx := Lib.hid xhxr
      have hcsx := cells_Event xhxr; clear xhxr
      obtain ⟨xsoa1, xscp1, xsoa2, xscp2, hcsx⟩ := hcsx
      simp only [List.cons.injEq, and_true] at hcsx
      obtain ⟨rfl, rfl, rfl⟩ := hcsx
      have xc0 : wr.cell? ⟨xb, xo + k * 3, none⟩ = some (.int .i64 x.1) := (hB.cell (World.block_lt_of_cell? w1 _ (xhcc 0 _ rfl))).trans (xhcc 0 _ rfl)
      have xc1 : wr.cell? ⟨xb, xo + k * 3 + 1, none⟩ = some (.slice xsoa1 x.2.1.length xscp1) := (hB.cell (World.block_lt_of_cell? w1 _ (xhcc 1 _ rfl))).trans (xhcc 1 _ rfl)
      have xc2 : wr.cell? ⟨xb, xo + k * 3 + 2, none⟩ = some (.slice xsoa2 x.2.2.length xscp2) := (hB.cell (World.block_lt_of_cell? w1 _ (xhcc 2 _ rfl))).trans (xhcc 2 _ rfl)
      have xlt : xb < wr.heap.size := World.block_lt_of_cell? wr _ xc0
      clear xhcc xhcl
      have HT := Lib.hid (missN_step HXx.out)
      rw [HT.out] at hck1
      generalize missN (l.take k) = c at *
      go_wp2_with ((with_reducible refine wp_region_pl [.look 0, .look 1, .look 2, .look 3, .look 4, .look 5, .look 6, .look 7, .look 8, .look 9, .look 10, .look 11, .look 12, .look 13, .look 14, .free 15] (by kernel_rfl) (by kernel_rfl) ?_); refine wpMix_look rfl rfl (fun _ _ _ _ h => h) (fun K hK hcell => ?_); have g0 := hcell xb (by go_size); clear hcell; go_simp; refine hK _ ?_; clear hK K g0; refine wpMix_look rfl rfl (fun _ _ _ _ h => h) (fun K hK hcell => ?_); have g0 := hcell xb (by go_size); clear hcell; go_simp; refine hK _ ?_; clear hK K g0; refine wpMix_look rfl rfl (fun _ _ _ _ h => h) (fun K hK hcell => ?_); have g0 := hcell xb (by go_size); clear hcell; go_simp; refine hK _ ?_; clear hK K g0; refine wpMix_look rfl rfl (fun _ _ _ _ h => h) (fun K hK hcell => ?_); have g0 := hcell xb (by go_size); clear hcell; go_simp; refine hK _ ?_; clear hK K g0; refine wpMix_look rfl rfl (fun _ _ _ _ h => h) (fun K hK hcell => ?_); have g0 := hcell xb (by go_size); clear hcell; go_simp; refine hK _ ?_; clear hK K g0; refine wpMix_look rfl rfl (fun _ _ _ _ h => h) (fun K hK hcell => ?_); have g0 := hcell xb (by go_size); clear hcell; go_simp; refine hK _ ?_; clear hK K g0; refine wpMix_look rfl rfl (fun _ _ _ _ h => h) (fun K hK hcell => ?_); have g0 := hcell xb (by go_size); clear hcell; go_simp; refine hK _ ?_; clear hK K g0; refine wpMix_look rfl rfl (fun _ _ _ _ h => h) (fun K hK hcell => ?_); have g0 := hcell xb (by go_size); clear hcell; go_simp; refine hK _ ?_; clear hK K g0; refine wpMix_look rfl rfl (fun _ _ _ _ h => h) (fun K hK hcell => ?_); have g0 := hcell xb (by go_size); clear hcell; go_simp; refine hK _ ?_; clear hK K g0; refine wpMix_look rfl rfl (fun _ _ _ _ h => h) (fun K hK hcell => ?_); have g0 := hcell xb (by go_size); clear hcell; go_simp; refine hK _ ?_; clear hK K g0; refine wpMix_look rfl rfl (fun _ _ _ _ h => h) (fun K hK hcell => ?_); have g0 := hcell xb (by go_size); clear hcell; go_simp; refine hK _ ?_; clear hK K g0; refine wpMix_look rfl rfl (fun _ _ _ _ h => h) (fun K hK hcell => ?_); have g0 := hcell xb (by go_size); clear hcell; go_simp; refine hK _ ?_; clear hK K g0; refine wpMix_look rfl rfl (fun _ _ _ _ h => h) (fun K hK hcell => ?_); have g0 := hcell xb (by go_size); clear hcell; go_simp; refine hK _ ?_; clear hK K g0; refine wpMix_look rfl rfl (fun _ _ _ _ h => h) (fun K hK hcell => ?_); have g0 := hcell xb (by go_size); clear hcell; go_simp; refine hK _ ?_; clear hK K g0; refine wpMix_look rfl rfl (fun _ _ _ _ h => h) (fun K hK hcell => ?_); have g0 := hcell xb (by go_size); clear hcell; go_simp; refine hK _ ?_; clear hK K g0; refine wpMix_free rfl (fun K hK => ?_); go_simp; refine hK _ _ ?_; clear hK K; refine wpMix_nil ?_)
      go_roundw
      case rel => exact ⟨k + 1, by omega, by go_num, by rw [HT.out]; first | (rw [wrap_i (n := (c : Int) + (x.2.1.length : Int)) (by omega) (by omega), wrap_i (by omega) (by omega)]; first | rfl | go_num) | go_num | rfl, by go_grown⟩
      case measure => simp [intOf]; omega
    · obtain rfl : k = l.length := by omega
      go_wp2
      go_ret
      exact ⟨by simp only [List.take_length]; rfl, below_via hB1 hB⟩
set_option maxHeartbeats 4000000 in
theorem implCountMissed_c (w : World) (ca : List Value) (a : WatchD) (ha : rd w ca a) (u : Int) (hu : I64 u) (hsz : GoD.size a ≤ 1048576) : Calls Try.prog 23 #[.agg ca.toArray, .int .i64 u] w (Ret w (.int .i64 (missed a u))) := by
  have hz4 : GoD.size (since a.2.2.2 u) ≤ 1048576 := Nat.le_trans (since_size _ u) (by obtain ⟨a1, a2, a3, a4⟩ := a; have h2 : GoD.size (a1, a2, a3, a4) = GoD.size a1 + (GoD.size a2 + (GoD.size a3 + GoD.size a4)) := rfl; dsimp only; omega)
  have HA := Lib.hid ha
  have hm : missed a u = ((missN (since a.2.2.2 u) : Nat) : Int) := rfl
  rw [hm]; clear hm
  obtain ⟨a1, a2, a3, a4⟩ := a
  obtain ⟨ac1, at1, rfl, ar1, ac2, at2, rfl, ar2, ac3, at3, rfl, ar3, ar4⟩ := ha
  obtain ⟨rfl, ar1⟩ := ar1
  obtain ⟨rfl, ar2⟩ := ar2
  obtain ⟨ax3_0, rfl⟩ := len1 (show _ = 1 from GoD.rd_len ar3)
  obtain ⟨ax4_0, rfl⟩ := len1 (show _ = 1 from GoD.rd_len ar4)
  dsimp only [List.cons_append, List.nil_append] at *
  obtain ⟨s3oa, s3cp, rfl⟩ := slice_of_rd ar3
  obtain ⟨s4oa, s4cp, rfl⟩ := slice_of_rd ar4
  clear ar1 ar2 ar3 ar4
  have HZ := Lib.hid hsz; clear hsz
  have HU := Lib.hid hu; clear hu
  generalize hl : since a4 u = l at *
  have HL := Lib.hid hl; clear hl
  have hn : l.length ≤ 1048576 := by have := size_list_len l; omega
  go_enter Try.func23, Try.ntmps23
  go_wp2_with (go_at_call 26; refine call_retS (w := w) (implEventsSince_c _ _ (a1, a2, a3, a4) (rd_below HA.out (by go_grown)) u HU.out HZ.out) (by go_grown) ?_; intro w1 v1 L1 hB1 hb hz1 hz2 ho1 hL1; obtain ⟨oa1, cp1, rfl⟩ := slice_of_own ho1; have hr1 := GoD.own_rd ho1; clear ho1 hL1; rw [show since (a1, a2, a3, a4).2.2.2 u = l from HL.out] at hr1; rw [show since (a1, a2, a3, a4).2.2.2 u = l from HL.out]; have HR := Lib.hid hr1; clear hr1; have HB1 := Lib.hid hb; clear hb)
  obtain ⟨Poa, Pcap, Pe, Phl, Phm, Phel⟩ := HR.out
  obtain ⟨rfl, rfl⟩ : oa1 = Poa ∧ cp1 = Pcap := by simpa using Pe
  clear Pe
  have PE := Lib.hid Phel; clear Phel
  have htot : missN l ≤ 1048576 := Nat.le_trans (missN_le l) hz4
  go_loopw [5, 12] (fun n i wr => ∃ k : Nat, k ≤ l.length ∧ i = .int .i64 k ∧ n = .int .i64 ((missN (l.take k) : Nat) : Int) ∧ Below w1.heap.size w1 wr) (fun _ i _ => l.length - (intOf i).toNat)
  case atStart => exact ⟨0, Nat.zero_le _, rfl, rfl, by go_grown⟩
  case round =>
    obtain ⟨k, hk, rfl, rfl, hB⟩ := hrel
    have hsz2 := hB.size
    have hck := Nat.le_trans (missN_take l k) htot
    have hck1 := Nat.le_trans (missN_take l (k + 1)) htot
    by_cases hkl : k < l.length
    · have hxx := List.getElem?_eq_getElem hkl
      obtain ⟨xb, xo, xce, rfl, xhcl, xhcc, xhxr⟩ := PE.out k _ hxx
      have HXx := Lib.hid hxx; clear hxx
      generalize l[k] = x at *
      obtain ⟨xv0, xv1, xv2, rfl⟩ := len3 (show _ = 3 from xhcl)
      have RXx := Lib.hid xhxr
      have hcsx := cells_Event xhxr; clear xhxr
      obtain ⟨xsoa1, xscp1, xsoa2, xscp2, hcsx⟩ := hcsx
      simp only [List.cons.injEq, and_true] at hcsx
      obtain ⟨rfl, rfl, rfl⟩ := hcsx
      have xc0 : wr.cell? ⟨xb, xo + k * 3, none⟩ = some (.int .i64 x.1) := (hB.cell (World.block_lt_of_cell? w1 _ (xhcc 0 _ rfl))).trans (xhcc 0 _ rfl)
      have xc1 : wr.cell? ⟨xb, xo + k * 3 + 1, none⟩ = some (.slice xsoa1 x.2.1.length xscp1) := (hB.cell (World.block_lt_of_cell? w1 _ (xhcc 1 _ rfl))).trans (xhcc 1 _ rfl)
      have xc2 : wr.cell? ⟨xb, xo + k * 3 + 2, none⟩ = some (.slice xsoa2 x.2.2.length xscp2) := (hB.cell (World.block_lt_of_cell? w1 _ (xhcc 2 _ rfl))).trans (xhcc 2 _ rfl)
      have xlt : xb < wr.heap.size := World.block_lt_of_cell? wr _ xc0
      clear xhcc xhcl
      have HT := Lib.hid (missN_step HXx.out)
      rw [HT.out] at hck1
      generalize missN (l.take k) = c at *
      go_wp2
      go_roundw
      case rel => exact ⟨k + 1, by omega, by go_num, by rw [HT.out]; first | (rw [wrap_i (n := (c : Int) + (x.2.1.length : Int)) (by omega) (by omega), wrap_i (by omega) (by omega)]; first | rfl | go_num) | go_num | rfl, by go_grown⟩
      case measure => simp [intOf]; omega
    · obtain rfl : k = l.length := by omega
      go_wp2
      go_ret
      exact ⟨by simp only [List.take_length]; rfl, below_via hB1 hB⟩
end Go.Proofs.Ytjbcjebiihgdgaa
