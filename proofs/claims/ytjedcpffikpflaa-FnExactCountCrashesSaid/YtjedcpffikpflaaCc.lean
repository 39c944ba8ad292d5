/- How many actions are crashes. -/
import Derived.Test.YtjedcpffikpflaaTy
import Derived.Test.YtjedcpffikpflaaProg
import Derived.Outline
namespace Go.Proofs.Ytjedcpffikpflaa
open Go.RowKit
open GoD (rd own)
def crashN (l : List ActionD) : Nat := (l.filter (fun a => a.1 == (2 : Int))).length
def crashes (l : List ActionD) : Int := (crashN l : Nat)
theorem crashN_step {l : List ActionD} {k : Nat} {x : ActionD} (h : l[k]? = some x) : crashN (l.take (k + 1)) = crashN (l.take k) + (if x.1 == (2 : Int) then 1 else 0) := by
  unfold crashN
  rw [List.take_add_one, h]
  cases hc : x.1 == (2 : Int) <;> simp [hc]
theorem crashN_le (l : List ActionD) (k : Nat) : crashN (l.take k) ≤ k := by
  unfold crashN
  have h1 := List.length_filter_le (fun a : ActionD => a.1 == (2 : Int)) (l.take k)
  have h2 := List.length_take_le k l
  omega
set_option maxHeartbeats 1000000 in
theorem specCountCrashes_c (w : World) (v : Value) (l : List ActionD) (ha : rd w [v] l) (hsz : GoD.size l ≤ 1048576) : Calls Try.prog 13 #[v] w (Ret w (.int .i64 (crashes l))) := by
  obtain ⟨Poa, Pcap, Pe, Phl, Phm, Phel⟩ := ha
  obtain rfl : v = _ := by simpa using Pe
  clear Pe
  have PE := Lib.hid Phel; clear Phel
  have hn : l.length ≤ 1048576 := by have := size_list_len l; omega
  have hc : crashes l = ((crashN l : Nat) : Int) := rfl
  rw [hc]; clear hc
  go_enter Try.func13, Try.ntmps13
  go_wp2
  go_loopw [3, 4] (fun n i wr => ∃ k : Nat, k ≤ l.length ∧ i = .int .i64 k ∧ n = .int .i64 ((crashN (l.take k) : Nat) : Int) ∧ Below w.heap.size w wr) (fun _ i _ => l.length - (intOf i).toNat)
  case atStart => exact ⟨0, Nat.zero_le _, rfl, rfl, by go_grown⟩
  case round =>
    obtain ⟨k, hk, rfl, rfl, hB⟩ := hrel
    have hsz2 := hB.size
    have hck := crashN_le l k
    by_cases hkl : k < l.length
    · have hxx := List.getElem?_eq_getElem hkl
      obtain ⟨xb, xo, xce, rfl, xhcl, xhcc, xhxr⟩ := PE.out k _ hxx
      have HXx := Lib.hid hxx; clear hxx
      generalize l[k] = x at *
      obtain ⟨xv0, xv1, xv2, xv3, xv4, rfl⟩ := len5 (show _ = 5 from xhcl)
      have RXx := Lib.hid xhxr
      have hcsx := cells_Action xhxr; clear xhxr
      obtain ⟨xsoa1, xscp1, hcsx⟩ := hcsx
      simp only [List.cons.injEq, and_true] at hcsx
      obtain ⟨rfl, rfl, rfl, rfl, rfl⟩ := hcsx
      have xc0 : wr.cell? ⟨xb, xo + k * 5, none⟩ = some (.int .i64 x.1) := (hB.cell (World.block_lt_of_cell? w _ (xhcc 0 _ rfl))).trans (xhcc 0 _ rfl)
      have xc1 : wr.cell? ⟨xb, xo + k * 5 + 1, none⟩ = some (.int .i64 x.2.1) := (hB.cell (World.block_lt_of_cell? w _ (xhcc 1 _ rfl))).trans (xhcc 1 _ rfl)
      have xc2 : wr.cell? ⟨xb, xo + k * 5 + 2, none⟩ = some (.slice xsoa1 x.2.2.1.length xscp1) := (hB.cell (World.block_lt_of_cell? w _ (xhcc 2 _ rfl))).trans (xhcc 2 _ rfl)
      have xc3 : wr.cell? ⟨xb, xo + k * 5 + 3, none⟩ = some (.string x.2.2.2.1) := (hB.cell (World.block_lt_of_cell? w _ (xhcc 3 _ rfl))).trans (xhcc 3 _ rfl)
      have xc4 : wr.cell? ⟨xb, xo + k * 5 + 4, none⟩ = some (.int .i64 x.2.2.2.2) := (hB.cell (World.block_lt_of_cell? w _ (xhcc 4 _ rfl))).trans (xhcc 4 _ rfl)
      have xlt : xb < wr.heap.size := World.block_lt_of_cell? wr _ xc0
      clear xhcc xhcl
      have HT := Lib.hid (crashN_step HXx.out)
      generalize crashN (l.take k) = c at *
      cases hc : x.1 == (2 : Int)
      · go_wp2
        go_roundw
        case rel => exact ⟨k + 1, by omega, by go_num, by rw [HT.out, hc]; first | rfl | go_num, by go_grown⟩
        case measure => simp [intOf]; omega
      · go_wp2
        go_roundw
        case rel => exact ⟨k + 1, by omega, by go_num, by rw [HT.out, hc]; first | rfl | go_num, by go_grown⟩
        case measure => simp [intOf]; omega
    · obtain rfl : k = l.length := by omega
      go_wp2
      go_ret
      exact ⟨by simp only [List.take_length]; rfl, hB⟩
set_option maxHeartbeats 1000000 in
theorem implCountCrashes_c (w : World) (v : Value) (l : List ActionD) (ha : rd w [v] l) (hsz : GoD.size l ≤ 1048576) : Calls Try.prog 15 #[v] w (Ret w (.int .i64 (crashes l))) := by
  obtain ⟨Poa, Pcap, Pe, Phl, Phm, Phel⟩ := ha
  obtain rfl : v = _ := by simpa using Pe
  clear Pe
  have PE := Lib.hid Phel; clear Phel
  have hn : l.length ≤ 1048576 := by have := size_list_len l; omega
  have hc : crashes l = ((crashN l : Nat) : Int) := rfl
  rw [hc]; clear hc
  go_enter Try.func15, Try.ntmps15
  go_wp2
  go_loopw [3, 8] (fun n i wr => ∃ k : Nat, k ≤ l.length ∧ i = .int .i64 k ∧ n = .int .i64 ((crashN (l.take k) : Nat) : Int) ∧ Below w.heap.size w wr) (fun _ i _ => l.length - (intOf i).toNat)
  case atStart => exact ⟨0, Nat.zero_le _, rfl, rfl, by go_grown⟩
  case round =>
    obtain ⟨k, hk, rfl, rfl, hB⟩ := hrel
    have hsz2 := hB.size
    have hck := crashN_le l k
    by_cases hkl : k < l.length
    · have hxx := List.getElem?_eq_getElem hkl
      obtain ⟨xb, xo, xce, rfl, xhcl, xhcc, xhxr⟩ := PE.out k _ hxx
      have HXx := Lib.hid hxx; clear hxx
      generalize l[k] = x at *
      obtain ⟨xv0, xv1, xv2, xv3, xv4, rfl⟩ := len5 (show _ = 5 from xhcl)
      have RXx := Lib.hid xhxr
      have hcsx := cells_Action xhxr; clear xhxr
      obtain ⟨xsoa1, xscp1, hcsx⟩ := hcsx
      simp only [List.cons.injEq, and_true] at hcsx
      obtain ⟨rfl, rfl, rfl, rfl, rfl⟩ := hcsx
      have xc0 : wr.cell? ⟨xb, xo + k * 5, none⟩ = some (.int .i64 x.1) := (hB.cell (World.block_lt_of_cell? w _ (xhcc 0 _ rfl))).trans (xhcc 0 _ rfl)
      have xc1 : wr.cell? ⟨xb, xo + k * 5 + 1, none⟩ = some (.int .i64 x.2.1) := (hB.cell (World.block_lt_of_cell? w _ (xhcc 1 _ rfl))).trans (xhcc 1 _ rfl)
      have xc2 : wr.cell? ⟨xb, xo + k * 5 + 2, none⟩ = some (.slice xsoa1 x.2.2.1.length xscp1) := (hB.cell (World.block_lt_of_cell? w _ (xhcc 2 _ rfl))).trans (xhcc 2 _ rfl)
      have xc3 : wr.cell? ⟨xb, xo + k * 5 + 3, none⟩ = some (.string x.2.2.2.1) := (hB.cell (World.block_lt_of_cell? w _ (xhcc 3 _ rfl))).trans (xhcc 3 _ rfl)
      have xc4 : wr.cell? ⟨xb, xo + k * 5 + 4, none⟩ = some (.int .i64 x.2.2.2.2) := (hB.cell (World.block_lt_of_cell? w _ (xhcc 4 _ rfl))).trans (xhcc 4 _ rfl)
      have xlt : xb < wr.heap.size := World.block_lt_of_cell? wr _ xc0
      clear xhcc xhcl
      have HT := Lib.hid (crashN_step HXx.out)
      generalize crashN (l.take k) = c at *
      cases hc : x.1 == (2 : Int)
      · go_wp2
        go_roundw
        case rel => exact ⟨k + 1, by omega, by go_num, by rw [HT.out, hc]; first | rfl | go_num, by go_grown⟩
        case measure => simp [intOf]; omega
      · go_wp2
        go_roundw
        case rel => exact ⟨k + 1, by omega, by go_num, by rw [HT.out, hc]; first | rfl | go_num, by go_grown⟩
        case measure => simp [intOf]; omega
    · obtain rfl : k = l.length := by omega
      go_wp2
      go_ret
      exact ⟨by simp only [List.take_length]; rfl, hB⟩
end Go.Proofs.Ytjedcpffikpflaa
