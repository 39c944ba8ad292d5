/- Draws: the cursor over a row of bytes. -/
import Derived.Test.YtjkanhbnialmmaaDoorMk
import Derived.Test.YtjkanhbnialmmaaDoorReg
import Derived.Test.YtjkanhbnialmmaaDoorProg
import Derived.Outline
import Derived.Laws.Bits
namespace Go.Proofs.YtjkanhbnialmmaaDoor
open Go.RowKit
open GoD (rd own)

/-- v is a slice of n bytes that w holds -/
def Code (w : World) (v : Value) (n : Nat) : Prop := n ≤ 1048576 ∧ ∃ oa cap, v = .slice oa n cap ∧ ∀ j, j < n → ∃ b off x, oa = some ⟨b, off, none⟩ ∧ w.cell? ⟨b, off + j, none⟩ = some (.int .u8 x) ∧ 0 ≤ x ∧ x ≤ 255
/-- block g is a cursor over v -/
def Cur (w0 : World) (v : Value) (n g : Nat) (w : World) : Prop :=
  Below w0.heap.size w0 w ∧ w0.heap.size ≤ g ∧ g < w.heap.size ∧ (∀ o, w.frozen? ⟨g, o, none⟩ = false) ∧ ∃ i h : Int, 0 ≤ i ∧ i ≤ n ∧ w.cell? ⟨g, 0, none⟩ = some v ∧ w.cell? ⟨g, 1, none⟩ = some (.int .i64 i) ∧ w.cell? ⟨g, 2, none⟩ = some (.int .i64 h)

theorem i64_and255 (n : Int) : bits .and .i64 n 255 = n % 256 := by
  have h255 : (BitVec.ofInt 64 255).toNat = 2 ^ 8 - 1 := by decide
  have key : (BitVec.ofInt 64 n &&& BitVec.ofInt 64 255).toNat = (n % ((2 ^ 64 : Nat) : Int)).toNat % 2 ^ 8 := by
    rw [BitVec.toNat_and, BitVec.toNat_ofInt, h255, Nat.and_two_pow_sub_one_eq_mod]
  show IntKind.i64.wrap ((BitVec.ofInt 64 n &&& BitVec.ofInt 64 255).toNat : Nat) = n % 256
  rw [key, IntKind.wrap_i64]
  omega
theorem and255_lo (n : Int) : 0 ≤ bits .and .i64 n 255 := by rw [i64_and255]; omega
theorem and255_hi (n : Int) : bits .and .i64 n 255 ≤ 255 := by rw [i64_and255]; omega
theorem below_cell {B : Nat} {w w' : World} {g k : Nat} {v : Value} (h : Below B w w') (hg : B ≤ g) : Below B w (w'.setCell ⟨g, k, none⟩ v) :=
  ⟨h.os, h.tape, h.output, by rw [World.size_setCell]; exact h.size, fun j hj => by
    rw [← h.block j hj]
    unfold World.setCell
    simp only [Array.getElem?_modify]
    rw [if_neg (by omega)]⟩
theorem Chg.set {L : List Nat} {w w' : World} {g k : Nat} {v : Value} (h : Chg L w w') (hg : g ∈ L) : Chg L w (w'.setCell ⟨g, k, none⟩ v) :=
  ⟨h.os, h.tape, h.output, by rw [World.size_setCell]; exact h.size, fun j hj hn => by
    rw [← h.block j hj hn]
    unfold World.setCell
    simp only [Array.getElem?_modify]
    rw [if_neg (show ¬ g = j from fun e => hn (e ▸ hg))]⟩
theorem Chg.drew {L : List Nat} {w w' : World} (h : Chg L w w') : Chg L w w'.drew := ⟨h.os, h.tape, h.output, h.size, h.block⟩
theorem Cur.drew {w0 w : World} {v : Value} {n g : Nat} (h : Cur w0 v n g w) : Cur w0 v n g w.drew := ⟨h.1.drew, h.2⟩
theorem Cur.seth {w0 w : World} {v : Value} {n g : Nat} (h : Cur w0 v n g w) (x : Int) : Cur w0 v n g (w.setCell ⟨g, 2, none⟩ (.int .i64 x)) := by
  obtain ⟨hB, hg, hlt, hfz, i, y, h1, h2, c0, c1, c2⟩ := h
  exact ⟨below_cell hB hg, hg, by rw [World.size_setCell]; exact hlt, fun o => by rw [World.frozen?_setCell]; exact hfz o, i, x, h1, h2,
    by rw [World.cell?_setCell_other _ _ _ _ (fun e : (⟨g, 2, none⟩ : Addr) = ⟨g, 0, none⟩ => by injection e with _ e2 _; exact absurd e2 (by decide))]; exact c0,
    by rw [World.cell?_setCell_other _ _ _ _ (fun e : (⟨g, 2, none⟩ : Addr) = ⟨g, 1, none⟩ => by injection e with _ e2 _; exact absurd e2 (by decide))]; exact c1,
    World.cell?_setCell_same _ _ _ c2⟩
theorem Cur.seti {w0 w : World} {v : Value} {n g : Nat} (h : Cur w0 v n g w) (x : Int) (hx0 : 0 ≤ x) (hxn : x ≤ n) : Cur w0 v n g (w.setCell ⟨g, 1, none⟩ (.int .i64 x)) := by
  obtain ⟨hB, hg, hlt, hfz, i, y, h1, h2, c0, c1, c2⟩ := h
  exact ⟨below_cell hB hg, hg, by rw [World.size_setCell]; exact hlt, fun o => by rw [World.frozen?_setCell]; exact hfz o, x, y, hx0, hxn,
    by rw [World.cell?_setCell_other _ _ _ _ (fun e : (⟨g, 1, none⟩ : Addr) = ⟨g, 0, none⟩ => by injection e with _ e2 _; exact absurd e2 (by decide))]; exact c0,
    World.cell?_setCell_same _ _ _ c1,
    by rw [World.cell?_setCell_other _ _ _ _ (fun e : (⟨g, 1, none⟩ : Addr) = ⟨g, 2, none⟩ => by injection e with _ e2 _; exact absurd e2 (by decide))]; exact c2⟩
set_option maxRecDepth 20000 in
set_option maxHeartbeats 2000000 in
theorem byte_c (w0 w : World) (v : Value) (n g : Nat) (hcd : Code w0 v n) (hC : Cur w0 v n g w) : Calls Tryd.prog 40 #[.pointer (some ⟨g, 0, none⟩)] w fun e w' => ∃ x : Int, e = .returned (.int .i64 x) ∧ 0 ≤ x ∧ x ≤ 255 ∧ Cur w0 v n g w' ∧ Chg [g] w w' := by
  have HC := Lib.hid hC
  obtain ⟨hB, hg, hlt, hfz, i, h, hi0, hin, c0, c1, c2⟩ := hC
  obtain ⟨hn, oa, cap, rfl, hel⟩ := hcd
  obtain ⟨k, rfl⟩ : ∃ k : Nat, i = (k : Int) := ⟨i.toNat, by omega⟩
  have hn9 : n ≤ 9223372036854775807 := by omega
  by_cases hk : k < n
  · obtain ⟨b, off, x, rfl, hc, hx0, hx1⟩ := hel k hk
    have hbl : b < w0.heap.size := World.block_lt_of_cell? w0 _ hc
    have hbw : b < w.heap.size := by have := hB.size; omega
    have xc : w.cell? ⟨b, off + k, none⟩ = some (.int .u8 x) := (hB.cell hbl).trans hc
    have hbg : ¬ b = g := by omega
    clear hel hc
    go_enter Tryd.func40, Tryd.ntmps40
    go_wp2_with (first | ((with_reducible refine wp_region_pl [.look 0, .look 1, .look 2, .look 3, .look 4, .look 5, .look 6, .look 7, .look 8, .look 9, .look 10, .look 11, .look 12, .look 13, .free 14] (by kernel_rfl) (by kernel_rfl) ?_); refine wpMix_look rfl rfl (fun _ _ _ _ h => h) (fun K hK hcell => ?_); have g0 := hcell (g) (by first | go_size | omega); have g1 := hcell (b) (by first | go_size | omega); clear hcell; go_simp; refine hK _ ?_; clear hK K g0 g1; refine wpMix_look rfl rfl (fun _ _ _ _ h => h) (fun K hK hcell => ?_); have g0 := hcell (g) (by first | go_size | omega); have g1 := hcell (b) (by first | go_size | omega); clear hcell; go_simp; refine hK _ ?_; clear hK K g0 g1; refine wpMix_look rfl rfl (fun _ _ _ _ h => h) (fun K hK hcell => ?_); have g0 := hcell (g) (by first | go_size | omega); have g1 := hcell (b) (by first | go_size | omega); clear hcell; go_simp; refine hK _ ?_; clear hK K g0 g1; refine wpMix_look rfl rfl (fun _ _ _ _ h => h) (fun K hK hcell => ?_); have g0 := hcell (g) (by first | go_size | omega); have g1 := hcell (b) (by first | go_size | omega); clear hcell; go_simp; refine hK _ ?_; clear hK K g0 g1; refine wpMix_look rfl rfl (fun _ _ _ _ h => h) (fun K hK hcell => ?_); have g0 := hcell (g) (by first | go_size | omega); have g1 := hcell (b) (by first | go_size | omega); clear hcell; go_simp; refine hK _ ?_; clear hK K g0 g1; refine wpMix_look rfl rfl (fun _ _ _ _ h => h) (fun K hK hcell => ?_); have g0 := hcell (g) (by first | go_size | omega); have g1 := hcell (b) (by first | go_size | omega); clear hcell; go_simp; refine hK _ ?_; clear hK K g0 g1; refine wpMix_look rfl rfl (fun _ _ _ _ h => h) (fun K hK hcell => ?_); have g0 := hcell (g) (by first | go_size | omega); have g1 := hcell (b) (by first | go_size | omega); clear hcell; go_simp; refine hK _ ?_; clear hK K g0 g1; refine wpMix_look rfl rfl (fun _ _ _ _ h => h) (fun K hK hcell => ?_); have g0 := hcell (g) (by first | go_size | omega); have g1 := hcell (b) (by first | go_size | omega); clear hcell; go_simp; refine hK _ ?_; clear hK K g0 g1; refine wpMix_look rfl rfl (fun _ _ _ _ h => h) (fun K hK hcell => ?_); have g0 := hcell (g) (by first | go_size | omega); have g1 := hcell (b) (by first | go_size | omega); clear hcell; go_simp; refine hK _ ?_; clear hK K g0 g1; refine wpMix_look rfl rfl (fun _ _ _ _ h => h) (fun K hK hcell => ?_); have g0 := hcell (g) (by first | go_size | omega); have g1 := hcell (b) (by first | go_size | omega); clear hcell; go_simp; refine hK _ ?_; clear hK K g0 g1; refine wpMix_look rfl rfl (fun _ _ _ _ h => h) (fun K hK hcell => ?_); have g0 := hcell (g) (by first | go_size | omega); have g1 := hcell (b) (by first | go_size | omega); clear hcell; go_simp; refine hK _ ?_; clear hK K g0 g1; refine wpMix_look rfl rfl (fun _ _ _ _ h => h) (fun K hK hcell => ?_); have g0 := hcell (g) (by first | go_size | omega); have g1 := hcell (b) (by first | go_size | omega); clear hcell; go_simp; refine hK _ ?_; clear hK K g0 g1; refine wpMix_look rfl rfl (fun _ _ _ _ h => h) (fun K hK hcell => ?_); have g0 := hcell (g) (by first | go_size | omega); have g1 := hcell (b) (by first | go_size | omega); clear hcell; go_simp; refine hK _ ?_; clear hK K g0 g1; refine wpMix_look rfl rfl (fun _ _ _ _ h => h) (fun K hK hcell => ?_); have g0 := hcell (g) (by first | go_size | omega); have g1 := hcell (b) (by first | go_size | omega); clear hcell; go_simp; refine hK _ ?_; clear hK K g0 g1; refine wpMix_free rfl (fun K hK => ?_); go_simp; refine hK _ _ ?_; clear hK K; refine wpMix_nil ?_) | ((with_reducible refine wp_region_pl [.look 0, .look 1, .look 2, .look 3, .look 4, .look 5, .look 6, .look 7, .look 8, .look 9, .look 10, .look 11, .free 12] (by kernel_rfl) (by kernel_rfl) ?_); refine wpMix_look rfl rfl (fun _ _ _ _ h => h) (fun K hK hcell => ?_); have g0 := hcell (g) (by first | go_size | omega); clear hcell; go_simp; refine hK _ ?_; clear hK K g0; refine wpMix_look rfl rfl (fun _ _ _ _ h => h) (fun K hK hcell => ?_); have g0 := hcell (g) (by first | go_size | omega); clear hcell; go_simp; refine hK _ ?_; clear hK K g0; refine wpMix_look rfl rfl (fun _ _ _ _ h => h) (fun K hK hcell => ?_); have g0 := hcell (g) (by first | go_size | omega); clear hcell; go_simp; refine hK _ ?_; clear hK K g0; refine wpMix_look rfl rfl (fun _ _ _ _ h => h) (fun K hK hcell => ?_); have g0 := hcell (g) (by first | go_size | omega); clear hcell; go_simp; refine hK _ ?_; clear hK K g0; refine wpMix_look rfl rfl (fun _ _ _ _ h => h) (fun K hK hcell => ?_); have g0 := hcell (g) (by first | go_size | omega); clear hcell; go_simp; refine hK _ ?_; clear hK K g0; refine wpMix_look rfl rfl (fun _ _ _ _ h => h) (fun K hK hcell => ?_); have g0 := hcell (g) (by first | go_size | omega); clear hcell; go_simp; refine hK _ ?_; clear hK K g0; refine wpMix_look rfl rfl (fun _ _ _ _ h => h) (fun K hK hcell => ?_); have g0 := hcell (g) (by first | go_size | omega); clear hcell; go_simp; refine hK _ ?_; clear hK K g0; refine wpMix_look rfl rfl (fun _ _ _ _ h => h) (fun K hK hcell => ?_); have g0 := hcell (g) (by first | go_size | omega); clear hcell; go_simp; refine hK _ ?_; clear hK K g0; refine wpMix_look rfl rfl (fun _ _ _ _ h => h) (fun K hK hcell => ?_); have g0 := hcell (g) (by first | go_size | omega); clear hcell; go_simp; refine hK _ ?_; clear hK K g0; refine wpMix_look rfl rfl (fun _ _ _ _ h => h) (fun K hK hcell => ?_); have g0 := hcell (g) (by first | go_size | omega); clear hcell; go_simp; refine hK _ ?_; clear hK K g0; refine wpMix_look rfl rfl (fun _ _ _ _ h => h) (fun K hK hcell => ?_); have g0 := hcell (g) (by first | go_size | omega); clear hcell; go_simp; refine hK _ ?_; clear hK K g0; refine wpMix_look rfl rfl (fun _ _ _ _ h => h) (fun K hK hcell => ?_); have g0 := hcell (g) (by first | go_size | omega); clear hcell; go_simp; refine hK _ ?_; clear hK K g0; refine wpMix_free rfl (fun K hK => ?_); go_simp; refine hK _ _ ?_; clear hK K; refine wpMix_nil ?_) | ((with_reducible refine wp_region_pl [.look 0, .look 1, .look 2, .look 3, .look 4, .look 5, .look 6, .look 7, .look 8, .look 9] (by kernel_rfl) (by kernel_rfl) ?_); refine wpMix_look rfl rfl (fun _ _ _ _ h => h) (fun K hK hcell => ?_); have g0 := hcell (g) (by first | go_size | omega); clear hcell; go_simp; refine hK _ ?_; clear hK K g0; refine wpMix_look rfl rfl (fun _ _ _ _ h => h) (fun K hK hcell => ?_); have g0 := hcell (g) (by first | go_size | omega); clear hcell; go_simp; refine hK _ ?_; clear hK K g0; refine wpMix_look rfl rfl (fun _ _ _ _ h => h) (fun K hK hcell => ?_); have g0 := hcell (g) (by first | go_size | omega); clear hcell; go_simp; refine hK _ ?_; clear hK K g0; refine wpMix_look rfl rfl (fun _ _ _ _ h => h) (fun K hK hcell => ?_); have g0 := hcell (g) (by first | go_size | omega); clear hcell; go_simp; refine hK _ ?_; clear hK K g0; refine wpMix_look rfl rfl (fun _ _ _ _ h => h) (fun K hK hcell => ?_); have g0 := hcell (g) (by first | go_size | omega); clear hcell; go_simp; refine hK _ ?_; clear hK K g0; refine wpMix_look rfl rfl (fun _ _ _ _ h => h) (fun K hK hcell => ?_); have g0 := hcell (g) (by first | go_size | omega); clear hcell; go_simp; refine hK _ ?_; clear hK K g0; refine wpMix_look rfl rfl (fun _ _ _ _ h => h) (fun K hK hcell => ?_); have g0 := hcell (g) (by first | go_size | omega); clear hcell; go_simp; refine hK _ ?_; clear hK K g0; refine wpMix_look rfl rfl (fun _ _ _ _ h => h) (fun K hK hcell => ?_); have g0 := hcell (g) (by first | go_size | omega); clear hcell; go_simp; refine hK _ ?_; clear hK K g0; refine wpMix_look rfl rfl (fun _ _ _ _ h => h) (fun K hK hcell => ?_); have g0 := hcell (g) (by first | go_size | omega); clear hcell; go_simp; refine hK _ ?_; clear hK K g0; refine wpMix_look rfl rfl (fun _ _ _ _ h => h) (fun K hK hcell => ?_); have g0 := hcell (g) (by first | go_size | omega); clear hcell; go_simp; refine hK _ ?_; clear hK K g0; refine wpMix_nil ?_))
    go_ret
    exact ⟨_, rfl, and255_lo _, and255_hi _, by repeat (first | (refine Cur.drew ?_) | exact (Cur.seti (Cur.seth HC.out _) _ (by omega) (by omega))), by repeat (first | (refine Chg.drew ?_) | exact Chg.set (Chg.set (Chg.refl _ _) (by simp)) (by simp))⟩
  · clear hel
    obtain rfl : k = n := by omega
    go_enter Tryd.func40, Tryd.ntmps40
    go_wp2_with (first | ((with_reducible refine wp_region_pl [.look 0, .look 1, .look 2, .look 3, .look 4, .look 5, .look 6, .look 7, .look 8, .look 9, .look 10, .look 11, .free 12] (by kernel_rfl) (by kernel_rfl) ?_); refine wpMix_look rfl rfl (fun _ _ _ _ h => h) (fun K hK hcell => ?_); have g0 := hcell (g) (by first | go_size | omega); clear hcell; go_simp; refine hK _ ?_; clear hK K g0; refine wpMix_look rfl rfl (fun _ _ _ _ h => h) (fun K hK hcell => ?_); have g0 := hcell (g) (by first | go_size | omega); clear hcell; go_simp; refine hK _ ?_; clear hK K g0; refine wpMix_look rfl rfl (fun _ _ _ _ h => h) (fun K hK hcell => ?_); have g0 := hcell (g) (by first | go_size | omega); clear hcell; go_simp; refine hK _ ?_; clear hK K g0; refine wpMix_look rfl rfl (fun _ _ _ _ h => h) (fun K hK hcell => ?_); have g0 := hcell (g) (by first | go_size | omega); clear hcell; go_simp; refine hK _ ?_; clear hK K g0; refine wpMix_look rfl rfl (fun _ _ _ _ h => h) (fun K hK hcell => ?_); have g0 := hcell (g) (by first | go_size | omega); clear hcell; go_simp; refine hK _ ?_; clear hK K g0; refine wpMix_look rfl rfl (fun _ _ _ _ h => h) (fun K hK hcell => ?_); have g0 := hcell (g) (by first | go_size | omega); clear hcell; go_simp; refine hK _ ?_; clear hK K g0; refine wpMix_look rfl rfl (fun _ _ _ _ h => h) (fun K hK hcell => ?_); have g0 := hcell (g) (by first | go_size | omega); clear hcell; go_simp; refine hK _ ?_; clear hK K g0; refine wpMix_look rfl rfl (fun _ _ _ _ h => h) (fun K hK hcell => ?_); have g0 := hcell (g) (by first | go_size | omega); clear hcell; go_simp; refine hK _ ?_; clear hK K g0; refine wpMix_look rfl rfl (fun _ _ _ _ h => h) (fun K hK hcell => ?_); have g0 := hcell (g) (by first | go_size | omega); clear hcell; go_simp; refine hK _ ?_; clear hK K g0; refine wpMix_look rfl rfl (fun _ _ _ _ h => h) (fun K hK hcell => ?_); have g0 := hcell (g) (by first | go_size | omega); clear hcell; go_simp; refine hK _ ?_; clear hK K g0; refine wpMix_look rfl rfl (fun _ _ _ _ h => h) (fun K hK hcell => ?_); have g0 := hcell (g) (by first | go_size | omega); clear hcell; go_simp; refine hK _ ?_; clear hK K g0; refine wpMix_look rfl rfl (fun _ _ _ _ h => h) (fun K hK hcell => ?_); have g0 := hcell (g) (by first | go_size | omega); clear hcell; go_simp; refine hK _ ?_; clear hK K g0; refine wpMix_free rfl (fun K hK => ?_); go_simp; refine hK _ _ ?_; clear hK K; refine wpMix_nil ?_) | ((with_reducible refine wp_region_pl [.look 0, .look 1, .look 2, .look 3, .look 4, .look 5, .look 6, .look 7, .look 8, .look 9] (by kernel_rfl) (by kernel_rfl) ?_); refine wpMix_look rfl rfl (fun _ _ _ _ h => h) (fun K hK hcell => ?_); have g0 := hcell (g) (by first | go_size | omega); clear hcell; go_simp; refine hK _ ?_; clear hK K g0; refine wpMix_look rfl rfl (fun _ _ _ _ h => h) (fun K hK hcell => ?_); have g0 := hcell (g) (by first | go_size | omega); clear hcell; go_simp; refine hK _ ?_; clear hK K g0; refine wpMix_look rfl rfl (fun _ _ _ _ h => h) (fun K hK hcell => ?_); have g0 := hcell (g) (by first | go_size | omega); clear hcell; go_simp; refine hK _ ?_; clear hK K g0; refine wpMix_look rfl rfl (fun _ _ _ _ h => h) (fun K hK hcell => ?_); have g0 := hcell (g) (by first | go_size | omega); clear hcell; go_simp; refine hK _ ?_; clear hK K g0; refine wpMix_look rfl rfl (fun _ _ _ _ h => h) (fun K hK hcell => ?_); have g0 := hcell (g) (by first | go_size | omega); clear hcell; go_simp; refine hK _ ?_; clear hK K g0; refine wpMix_look rfl rfl (fun _ _ _ _ h => h) (fun K hK hcell => ?_); have g0 := hcell (g) (by first | go_size | omega); clear hcell; go_simp; refine hK _ ?_; clear hK K g0; refine wpMix_look rfl rfl (fun _ _ _ _ h => h) (fun K hK hcell => ?_); have g0 := hcell (g) (by first | go_size | omega); clear hcell; go_simp; refine hK _ ?_; clear hK K g0; refine wpMix_look rfl rfl (fun _ _ _ _ h => h) (fun K hK hcell => ?_); have g0 := hcell (g) (by first | go_size | omega); clear hcell; go_simp; refine hK _ ?_; clear hK K g0; refine wpMix_look rfl rfl (fun _ _ _ _ h => h) (fun K hK hcell => ?_); have g0 := hcell (g) (by first | go_size | omega); clear hcell; go_simp; refine hK _ ?_; clear hK K g0; refine wpMix_look rfl rfl (fun _ _ _ _ h => h) (fun K hK hcell => ?_); have g0 := hcell (g) (by first | go_size | omega); clear hcell; go_simp; refine hK _ ?_; clear hK K g0; refine wpMix_nil ?_))
    go_ret
    exact ⟨_, rfl, and255_lo _, and255_hi _, by repeat (first | (refine Cur.drew ?_) | exact (Cur.seth HC.out _)), by repeat (first | (refine Chg.drew ?_) | exact Chg.set (Chg.refl _ _) (by simp))⟩
set_option maxRecDepth 20000 in
theorem new_c (w : World) (v : Value) (n : Nat) (hcd : Code w v n) : Calls Tryd.prog 31 #[v] w fun e w' => ∃ g, e = .returned (.pointer (some ⟨g, 0, none⟩)) ∧ Cur w v n g w' := by
  obtain ⟨hn, oa, cap, rfl, hel⟩ := hcd
  have hn9 : n ≤ 9223372036854775807 := by omega
  go_enter Tryd.func31, Tryd.ntmps31
  go_wp2
  go_loop [3, 4] (fun h i => ∃ (k : Nat) (hh : Int), k ≤ n ∧ i = .int .i64 k ∧ h = .int .i64 hh) (fun _ i => n - (intOf i).toNat)
  case atStart => exact ⟨0, _, Nat.zero_le _, rfl, rfl⟩
  case round =>
    obtain ⟨k, hh, hk, rfl, rfl⟩ := hrel
    have fin : ∀ x : Int, Cur w (.slice oa n cap) n w.heap.size (w.alloc (.cells #[.slice oa n cap, .int .i64 0, .int .i64 x] 58)) := fun x =>
      ⟨by go_grown, Nat.le_refl _, by simp, fun o => by simp [go_sem], 0, x, Int.le_refl _, by omega, by simp [go_sem], by simp [go_sem], by simp [go_sem]⟩
    have FIN := Lib.hid fin; clear fin
    by_cases hkl : k < n
    · by_cases h4 : (k : Int) < 4000
      · obtain ⟨b, off, x, rfl, hc, hx0, hx1⟩ := hel k hkl
        clear hel
        go_wp2
        go_round
        case rel => exact ⟨k + 1, _, by omega, by go_num, rfl⟩
        case measure => simp [intOf]; omega
      · clear hel
        go_wp2
        go_ret
        exact ⟨_, rfl, FIN.out _⟩
    · obtain rfl : k = n := by omega
      clear hel
      go_wp2
      go_ret
      exact ⟨_, rfl, FIN.out _⟩
set_option maxRecDepth 20000 in
theorem below_c (w0 w : World) (v : Value) (n g : Nat) (m : Int) (hcd : Code w0 v n) (hC : Cur w0 v n g w) (hm : m ≤ 1000000000) : Calls Tryd.prog 33 #[.pointer (some ⟨g, 0, none⟩), .int .i64 m] w fun e w' => ∃ x : Int, e = .returned (.int .i64 x) ∧ 0 ≤ x ∧ (0 < m → x < m) ∧ Cur w0 v n g w' ∧ Chg [g] w w' := by
  have HCD := Lib.hid hcd; clear hcd
  have HCU0 := Lib.hid hC; clear hC
  have HG0 := Lib.hid (Chg.refl [g] w)
  by_cases h0 : m ≤ 0
  · go_enter Tryd.func33, Tryd.ntmps33
    go_wp2
    go_ret
    exact ⟨0, rfl, Int.le_refl _, fun h => by omega, HCU0.out, HG0.out⟩
  by_cases h1 : m ≤ 256
  · go_enter Tryd.func33, Tryd.ntmps33
    go_wp2_with (first | (go_at_call 40; have gu := HCU0.out; clear gu; refine (byte_c w0 w v n g HCD.out HCU0.out).mono ?_; rintro e1 w1 ⟨x1, rfl, hx1a, hx1b, hc, hg1⟩; have HCU1 := Lib.hid hc; clear hc HCU0; have HG1 := Lib.hid (Chg.trans HG0.out hg1); clear hg1 HG0))
    go_ret
    exact ⟨_, rfl, by first | exact Int.emod_nonneg _ (by omega) | (rw [Int.tmod_eq_emod_of_nonneg (by omega)]; exact Int.emod_nonneg _ (by omega)), fun _ => by first | exact Int.emod_lt_of_pos _ (by omega) | (rw [Int.tmod_eq_emod_of_nonneg (by omega)]; exact Int.emod_lt_of_pos _ (by omega)), HCU1.out, HG1.out⟩
  go_enter Tryd.func33, Tryd.ntmps33
  go_wp2_with (first | (go_at_call 40; have gu := HCU3.out; clear gu; refine (byte_c w0 w3 v n g HCD.out HCU3.out).mono ?_; rintro e4 w4 ⟨x4, rfl, hx4a, hx4b, hc, hg4⟩; have HCU4 := Lib.hid hc; clear hc HCU3; have HG4 := Lib.hid (Chg.trans HG3.out hg4); clear hg4 HG3) | (go_at_call 40; have gu := HCU2.out; clear gu; refine (byte_c w0 w2 v n g HCD.out HCU2.out).mono ?_; rintro e3 w3 ⟨x3, rfl, hx3a, hx3b, hc, hg3⟩; have HCU3 := Lib.hid hc; clear hc HCU2; have HG3 := Lib.hid (Chg.trans HG2.out hg3); clear hg3 HG2) | (go_at_call 40; have gu := HCU1.out; clear gu; refine (byte_c w0 w1 v n g HCD.out HCU1.out).mono ?_; rintro e2 w2 ⟨x2, rfl, hx2a, hx2b, hc, hg2⟩; have HCU2 := Lib.hid hc; clear hc HCU1; have HG2 := Lib.hid (Chg.trans HG1.out hg2); clear hg2 HG1) | (go_at_call 40; have gu := HCU0.out; clear gu; refine (byte_c w0 w v n g HCD.out HCU0.out).mono ?_; rintro e1 w1 ⟨x1, rfl, hx1a, hx1b, hc, hg1⟩; have HCU1 := Lib.hid hc; clear hc HCU0; have HG1 := Lib.hid (Chg.trans HG0.out hg1); clear hg1 HG0))
  go_ret
  exact ⟨_, rfl, by first | exact Int.emod_nonneg _ (by omega) | (rw [Int.tmod_eq_emod_of_nonneg (by omega)]; exact Int.emod_nonneg _ (by omega)), fun _ => by first | exact Int.emod_lt_of_pos _ (by omega) | (rw [Int.tmod_eq_emod_of_nonneg (by omega)]; exact Int.emod_lt_of_pos _ (by omega)), HCU4.out, HG4.out⟩
end Go.Proofs.YtjkanhbnialmmaaDoor
