/- Texts of this proof, put together by a program: Drn, Drb, Drc, Dre, LNe, Nel, MNe. -/
import Derived.Test.YtcnkkobgogmakaaGreatP6
import Derived.KernelRfl
import Derived.Outline
set_option linter.unusedVariables false
set_option linter.unusedSimpArgs false
namespace Go.Proofs.YtcnkkobgogmakaaGreat
open Go.RowKit
theorem four_names (k : Nat) : (nth ([⟨#[100, 97]⟩, ⟨#[100, 98]⟩, ⟨#[100, 99]⟩, ⟨#[100, 100]⟩] : List ByteArray) k).size ≤ 2 := by
  match k with
  | 0 | 1 | 2 | 3 => exact Nat.le_refl 2
  | n + 4 => exact Nat.zero_le 2
theorem l11_names (code : List UInt8) (ci : Nat) (ch : Int) : ∀ a, a ∈ (J9 code ci ch).1 → a.1.size ≤ 2 := by
  unfold J9
  obtain ⟨t, ht⟩ := whlD_brk (f := Y8 code) (fun s r => by
    unfold Y8 lt
    generalize Qg code s.2.2.1 s.2.2.2 4 = x
    simp only
    generalize decide (s.2.1 < 1 + x.1) = c
    cases c <;> simp) 5 ([], 0, ci, ch)
  have := whlD_inv (f := Y8 code) (I := fun s => ∀ a, a ∈ s.1 → a.1.size ≤ 2) (J := fun t => ∀ a, a ∈ t.1 → a.1.size ≤ 2) (fun s s' hi h => by
    unfold Y8 lt at h
    generalize Qg code s.2.2.1 s.2.2.2 4 = x at h
    simp only at h
    revert h
    generalize decide (s.2.1 < 1 + x.1) = c
    intro h
    cases c with
    | true =>
      simp only [cond_true] at h
      have h := Rd.next.inj h
      rw [← h]
      intro a ha
      rcases List.mem_append.1 ha with ha | ha
      · exact hi a ha
      · rw [List.mem_singleton.1 ha]; exact four_names _
    | false => simp at h) (fun s t hi h => by
    unfold Y8 lt at h
    generalize Qg code s.2.2.1 s.2.2.2 4 = x at h
    simp only at h
    revert h
    generalize decide (s.2.1 < 1 + x.1) = c
    intro h
    cases c with
    | true => simp at h
    | false =>
      simp only [cond_false] at h
      have h := Rd.brk.inj h
      rw [← h]
      exact hi) (n := 5) (s := ([], 0, ci, ch)) (t := t) (by intro a ha; simp at ha) (specl11Dirs_w code ci ch) ht
  rw [ht]
  exact this
theorem l13_names (code : List UInt8) (ci : Nat) (ch : Int) (k : Nat) : (nth (Jg code ci ch).1 k).1.size ≤ 2 := by
  have key : ∀ a, a ∈ (Jg code ci ch).1 → a.1.size ≤ 2 := by
    unfold Jg lt
    have h11 := l11_names code ci ch
    generalize J9 code ci ch = x at h11
    obtain ⟨t, ht⟩ := whlD_brk (f := Z2) (fun s r => by
      unfold Z2
      generalize (decide ((s.length : Int) > (0 : Int)) && (!(Jj s))) = c
      cases c <;> simp) (List.length x.1 + 1) x.1
    have hj := whlD_inv (f := Z2) (I := fun s => ∀ a, a ∈ s → a.1.size ≤ 2) (J := fun t => ∀ a, a ∈ t → a.1.size ≤ 2) (fun s s' hi h => by
      unfold Z2 at h
      revert h
      generalize (decide ((s.length : Int) > (0 : Int)) && (!(Jj s))) = c
      intro h
      cases c with
      | true =>
        simp only [cond_true] at h
        have h := Rd.next.inj h
        rw [← h]
        exact fun a ha => hi a (List.mem_of_mem_take ha)
      | false => simp at h) (fun s t hi h => by
      unfold Z2 at h
      revert h
      generalize (decide ((s.length : Int) > (0 : Int)) && (!(Jj s))) = c
      intro h
      cases c with
      | true => simp at h
      | false =>
        simp only [cond_false] at h
        have h := Rd.brk.inj h
        rw [← h]; exact hi) (n := List.length x.1 + 1) (s := x.1) (t := t) h11 (specl13Dirs_w code x.1) ht
    simp only [ht, Out.on]
    cases ((t.length : Int) == 0) with
    | true =>
      intro a ha
      obtain rfl := List.mem_singleton.1 ha
      exact Nat.le_refl 2
    | false => exact hj
  by_cases hk : k < (Jg code ci ch).1.length
  · exact key _ (List.mem_of_getElem? (Ur hk))
  · have : nth (Jg code ci ch).1 k = default := by simp [nth, List.getD, List.getElem?_eq_none (Nat.le_of_not_lt hk)]
    rw [this]; exact Nat.zero_le 2
def W29 (i : Int) (w : Zf) : Prop := (i = 1 ∧ GoD.size w ≤ 100) ∨ (i = 2 ∧ GoD.size w ≤ 213) ∨ (i = 3 ∧ GoD.size w ≤ 439) ∨ (i = 4 ∧ GoD.size w ≤ 891) ∨ (i = 5 ∧ GoD.size w ≤ 1795)
theorem w29_small {i : Int} {w : Zf} (h : W29 i w) : GoD.size w ≤ 1795 := by unfold W29 at h; omega
theorem w29_pos {i : Int} {w : Zf} (h : W29 i w) : 1 ≤ i := by unfold W29 at h; omega
theorem notify_sizeS (w : Zf) (v : Int) (s : Q2) (d : List Yq) (hp : GoD.size w ≤ 536870912) : GoD.size (Y0 w v s d) ≤ 2 * GoD.size w + 13 := by rw [notify_eq w v s d hp]; exact notify_size w v s d
theorem w29_next {i : Int} {w : Zf} {v : Int} {s : Q2} {d : List Yq} (h : W29 i w) (hi : i ≤ 4) : W29 (i + 1) (Y0 w v s d) := by
  have h1 := w29_small h
  have h2 := notify_sizeS w v s d (by omega)
  unfold W29 at h ⊢
  omega
theorem w29_start {s : Q2} {d : List Yq} {u : Int} {n : ByteArray} (h : n.size ≤ 2) : W29 1 (Z4 s d u n) := by
  refine .inl ⟨rfl, ?_⟩
  rw [Wn]
  have h1 := listDir_shortS s d u n
  have h2 : GoD.size (Z4 s d u n).2.2.2 = 0 := rfl
  rw [h2]
  show n.size + (List.length (X3 s d u n) + 0) ≤ 100
  omega
theorem ids14_len (code : List UInt8) (ci : Nat) (ch : Int) : (Kx code ci ch).1.length ≤ 7 := by
  unfold Kx
  obtain ⟨s', h1, h2⟩ := forN_inv (f := specl14Ids_f0 code) (e := specl14Ids_e0) (I := fun k s => s.1.length ≤ k) (fun k s hi => by
    unfold specl14Ids_f0 lt
    generalize Yk code s.2.1 s.2.2 2 = x
    dsimp only
    cases x.1 with
    | true => exact ⟨(s.1 ++ [((k + 1 : Nat) : Int)], x.2.1, x.2.2), rfl, by simp; omega⟩
    | false => exact ⟨(s.1, x.2.1, x.2.2), rfl, Nat.le_succ_of_le hi⟩) 7 0 ([], ci, ch) (Nat.zero_le _)
  have h1 : Vw (specl14Ids_f0 code) specl14Ids_e0 (Int.toNat ((8 : Int) - 1)) 0 ([], ci, ch) = _ := h1
  rw [h1]
  exact h2
/-! ### a watch that is looked through -/
theorem valid_room {w : Zf} {k : Nat} {a : Zr} {s : List Int} (hx : w.2.2.2[k]? = some a) (hs : List.length s ≤ List.length w.2.2.1 + GoD.size (List.take k w.2.2.2)) (hp : GoD.size w ≤ 268435456) : List.length s + GoD.size [a] ≤ 536870912 := by
  have h1 := size_take1 hx
  have h2 := size_take_le w.2.2.2 (k + 1)
  have h3 := Wn w
  rw [size_one]
  omega
theorem valid_step {w : Zf} {k : Nat} {a : Zr} {s : List Int} (hx : w.2.2.2[k]? = some a) (hs : List.length s ≤ List.length w.2.2.1 + GoD.size (List.take k w.2.2.2)) : List.length (Kr s [a]) ≤ List.length w.2.2.1 + GoD.size (List.take (k + 1) w.2.2.2) := by
  rw [replay_eq]
  show (Zt s a.2.1 a.2.2).length ≤ _
  have h1 := replayed_len s a.2.1 a.2.2
  have h2 := size_take1 hx
  have h3 := event_size a
  omega
open GoE (enc wide)
def Jh (code : (List UInt8)) (x2 : (List Yq) × Nat × Int) (s0 : Int × Zf × Nat × Int) : Rd (Zf × Nat × Int) (Int × Zf × Nat × Int) (Zf × Nat × Int) := (lt (α := Int × Nat × Int) (Qg code s0.2.2.1 s0.2.2.2 4) (fun x8 => (bif decide (s0.1 < (2 + x8.1)) then (lt (α := Q2 × Nat × Int) (Y6 code x8.2.1 x8.2.2) (fun x10 => (.next ((s0.1 + 1), (Y0 s0.2.1 s0.1 x10.1 x2.1), x10.2.1, x10.2.2)))) else (.brk (s0.2.1, x8.2.1, x8.2.2)))))
def Jp (code : (List UInt8)) (ci : Nat) (ch : Int) : Zf × Nat × Int := (lt (α := Q2 × Nat × Int) (Y6 code ci ch) (fun x1 => (lt (α := (List Yq) × Nat × Int) (Jg code x1.2.1 x1.2.2) (fun x2 => (lt (α := Int × Nat × Int) (Qg code x2.2.1 x2.2.2 3) (fun x3 => (lt (α := Int × Nat × Int) (Qg code x3.2.1 x3.2.2 (x2.1.length : Int)) (fun x4 => (Out.on (whlD (Jh code x2) 5 (1, (Z4 x1.1 x2.1 x3.1 ((nth x2.1 (Int.toNat x4.1)).1)), x4.2.1, x4.2.2)) (fun y0 => (lt (α := Int × Nat × Int) (Qg code y0.2.1 y0.2.2 10) (fun x11 => (bif (x11.1 == (0 : Int)) then (lt (α := (List Int) × Nat × Int) (Kx code x11.2.1 x11.2.2) (fun x13 => ((y0.1.1, y0.1.2.1, x13.1, y0.1.2.2.2), x13.2.1, x13.2.2))) else (bif (x11.1 == (1 : Int)) then (lt (α := Int × Nat × Int) (specl06User code x11.2.1 x11.2.2) (fun x16 => ((x16.1, y0.1.2.1, y0.1.2.2.1, y0.1.2.2.2), x16.2.1, x16.2.2))) else (bif (x11.1 == (2 : Int)) then (lt (α := Int × Nat × Int) (Qg code x11.2.1 x11.2.2 8) (fun x19 => (lt (α := (List Int) × Nat × Int) (Kx code x19.2.1 x19.2.2) (fun x20 => (lt (α := (List Int) × Nat × Int) (Kx code x20.2.1 x20.2.2) (fun x21 => ((y0.1.1, y0.1.2.1, y0.1.2.2.1, y0.1.2.2.2 ++ [(x19.1, x20.1, x21.1)]), x21.2.1, x21.2.2))))))) else (y0.1, x11.2.1, x11.2.2))))))))))))))))
theorem specl29Watch_w (code : List UInt8) (x2 : List Yq × Nat × Int) (w : Zf) (ci : Nat) (ch : Int) : (whl (Jh code x2) 5 (1, w, ci, ch)).isSome = true :=
  whl_up (fun s => s.1) 5 (fun s s' h0 h => by
    unfold Jh lt at h
    have hb := Qt code s.2.2.1 s.2.2.2 4
    generalize Qg code s.2.2.1 s.2.2.2 4 = x at h hb
    by_cases hc : s.1 < 2 + x.1
    · simp only [decide_eq_true hc, cond_true] at h
      have h := Rd.next.inj h
      rw [← h]
      exact ⟨by omega, rfl⟩
    · simp only [decide_eq_false hc, cond_false] at h
      cases h) 4 _ (by show (0 : Int) ≤ 1; decide) (by show (5 : Int) ≤ 1 + 4; decide)
theorem specl29Watch_a (code : (List UInt8)) (ci : Nat) (ch : Int) : AGive Tryz.prog 61 [.h code, .i ((ci : Nat) : Int), .i ch] [] (.a [.i ((((Jp code ci ch)).1).1), .s ((((Jp code ci ch)).1).2.1), .o 0 ((((Jp code ci ch)).1).2.2.1), .o 1 ((((Jp code ci ch)).1).2.2.2)]) [.h code, .i ((((Jp code ci ch)).2.1 : Nat) : Int), .i (((Jp code ci ch)).2.2)] := by
 refine Jx (tt := tt) Qa Tryz.func61 (fn := Tryz.f61) rfl (by unfold FnOk; kernel_rfl) (Nat.le_of_ble_eq_true rfl) (Nat.le_of_ble_eq_true rfl) rfl rfl fun w0 F0 hG => ?_
 refine sn Qa [0, 2] [2, 60000] (p0) ?_
 obtain ⟨x1, hx1⟩ : ∃ z : Q2 × Nat × Int, Y6 code ci ch = z := ⟨_, rfl⟩
 refine tn Qa [0, 2, 3] [2, 3, 60000] (po 1 (.give none (.a [.o 0 x1.1.1, .q 1 x1.1.2.1, .i x1.1.2.2]) [.h code, .i ((x1.2.1 : Nat) : Int), .i x1.2.2]) (px (Q0 (hx1 ▸ specl05Store_a code ci ch)) p0)) ?_
 obtain ⟨x2, hx2⟩ : ∃ z : (List Yq) × Nat × Int, Jg code x1.2.1 x1.2.2 = z := ⟨_, rfl⟩
 have hbx2 := hx2 ▸ l13_ne code x1.2.1 x1.2.2
 have hnx2 := l13_names code x1.2.1 x1.2.2
 rw [hx2] at hnx2
 refine tu Qa [(2, .p 2 0), (3, .p 3 0), (4, .h x2.1)] [] [(2, [.i 0, .s ⟨#[]⟩, .e 1, .e 3]), (3, [.o 512 x1.1.1, .q 513 x1.1.2.1, .i x1.1.2.2]), (60000, [.h code, .i ((x2.2.1 : Nat) : Int), .i x2.2.2])] [60000] (po 1 (.give none (.h x2.1) [.h code, .i ((x2.2.1 : Nat) : Int), .i x2.2.2]) (px (Q0 (hx2 ▸ specl13Dirs_a code x1.2.1 x1.2.2)) p0)) ?_
 obtain ⟨x3, hx3⟩ : ∃ z : Int × Nat × Int, Qg code x2.2.1 x2.2.2 3 = z := ⟨_, rfl⟩
 have hbx3 := hx3 ▸ Qt code x2.2.1 x2.2.2 3
 obtain ⟨x4, hx4⟩ : ∃ z : Int × Nat × Int, Qg code x3.2.1 x3.2.2 (x2.1.length : Int) = z := ⟨_, rfl⟩
 have hbx4 := hx4 ▸ Qt code x3.2.1 x3.2.2 (x2.1.length : Int)
 refine wT 4 0 .sh x2.1 (fun hw6 hl7 => ?_)
 have hx5 := ng x2.1 (Int.toNat x4.1)
 refine sN Qa Yr [0, 2, 4, 5] [2, 5, 60000] (po 3 (.give none (.i x3.1) [.h code, .i ((x3.2.1 : Nat) : Int), .i x3.2.2]) (px (Q0 (hx3 ▸ Q3 code x2.2.1 x2.2.2 3)) (pl 7 x2.1 (po 8 (.give none (.i x4.1) [.h code, .i ((x4.2.1 : Nat) : Int), .i x4.2.2]) (px (Q0 (hx4 ▸ Q3 code x3.2.1 x3.2.2 (x2.1.length : Int))) (pg 9 x4.1 hx5 (pc 12 (specNewWatch_a x1.1 x2.1 x3.1 ((nth x2.1 (Int.toNat x4.1)).1)) p0))))))) ?_
 refine Qd ?_
 refine tn Qa [0, 2, 4, 5, 6] [2, 5, 60000] (p0) ?_
 refine mz [(5, .p 5 0), (6, .i 1)] [3] [(5, [.i ((Z4 x1.1 x2.1 x3.1 ((nth x2.1 (Int.toNat x4.1)).1)).1), .s ((Z4 x1.1 x2.1 x3.1 ((nth x2.1 (Int.toNat x4.1)).1)).2.1), .o 1472 ((Z4 x1.1 x2.1 x3.1 ((nth x2.1 (Int.toNat x4.1)).1)).2.2.1), .o 1473 ((Z4 x1.1 x2.1 x3.1 ((nth x2.1 (Int.toNat x4.1)).1)).2.2.2)]), (60000, [.h code, .i ((x4.2.1 : Nat) : Int), .i x4.2.2])] [3, 60000] ?_
 refine blw (fun (s0 : Int × Zf × Nat × Int) => [(6, .i s0.1)]) [6] (fun s0 => [(5, [.i s0.2.1.1, .s s0.2.1.2.1, .o 147211 s0.2.1.2.2.1, .o 147212 s0.2.1.2.2.2]), (60000, [.h code, .i ((s0.2.2.1 : Nat) : Int), .i s0.2.2.2])]) [5, 60000] (fun (y0 : Zf × Nat × Int) => []) [4, 6] (fun y0 => [(5, [.i y0.1.1, .s y0.1.2.1, .o 147361 y0.1.2.2.1, .o 147362 y0.1.2.2.2]), (60000, [.h code, .i ((y0.2.1 : Nat) : Int), .i y0.2.2])]) [5, 60000] (fun (k0 : Nat) (s0 : Int × Zf × Nat × Int) => whl (Jh code x2) k0 s0 = some (whlD (Jh code x2) 5 (1, (Z4 x1.1 x2.1 x3.1 ((nth x2.1 (Int.toNat x4.1)).1)), x4.2.1, x4.2.2)) ∧ W29 s0.1 s0.2.1) (fun (y0 : Zf × Nat × Int) => (whlD (Jh code x2) 5 (1, (Z4 x1.1 x2.1 x3.1 ((nth x2.1 (Int.toNat x4.1)).1)), x4.2.1, x4.2.2)) = .brk y0 ∧ List.length y0.1.2.2.2 ≤ 1795) 5 (1, (Z4 x1.1 x2.1 x3.1 ((nth x2.1 (Int.toNat x4.1)).1)), x4.2.1, x4.2.2) (Xx [(1472, 147211), (1473, 147212)] (by kernel_rfl)) ⟨whl_some (specl29Watch_w code x2 _ _ _), (by exact w29_start (hnx2 _))⟩ (fun _ h => whl_zero h.1) (fun k0 s0 hI0 => ?_) (fun y0 hD0 => ?_)
 ·
  have hA0_0 := hI0.2
  have hws := w29_small hA0_0
  have hwp := w29_pos hA0_0
  have hse := sz_events s0.2.1
  refine Qd ?_
  obtain ⟨x8, hx8⟩ : ∃ z : Int × Nat × Int, Qg code s0.2.2.1 s0.2.2.2 4 = z := ⟨_, rfl⟩
  have hbx8 := hx8 ▸ Qt code s0.2.2.1 s0.2.2.2 4
  refine sn Qa [0, 2, 4, 5, 6, 28] [2, 5, 60000] (po 2 (.give none (.i x8.1) [.h code, .i ((x8.2.1 : Nat) : Int), .i x8.2.2]) (px (Q0 (hx8 ▸ Q3 code s0.2.2.1 s0.2.2.2 4)) (pe 3 (Zq (IntWalk.i64_in (2 + x8.1) (by omega))) p0))) ?_
  refine ck (decide (s0.1 < (2 + x8.1))) (fun h9 => ?_) (fun h9 => ?_)
  ·
   have h9d := of_decide_eq_true h9
   refine Qf ?_
   refine Qd ?_
   refine Qr ?_
   obtain ⟨x10, hx10⟩ : ∃ z : Q2 × Nat × Int, Y6 code x8.2.1 x8.2.2 = z := ⟨_, rfl⟩
   refine qN Qa Yr [0, 2, 4, 5, 6] [2, 5, 60000] (po 3 (.give none (.a [.o 0 x10.1.1, .q 1 x10.1.2.1, .i x10.1.2.2]) [.h code, .i ((x10.2.1 : Nat) : Int), .i x10.2.2]) (px (Q0 (hx10 ▸ specl05Store_a code x8.2.1 x8.2.2)) (pc 5 (specNotify_a s0.2.1 s0.1 x10.1 x2.1 (by omega)) p0))) ?_
   refine qu Qa [(6, .i (s0.1 + 1))] [6] [(5, [.i ((Y0 s0.2.1 s0.1 x10.1 x2.1).1), .s ((Y0 s0.2.1 s0.1 x10.1 x2.1).2.1), .o 2304 ((Y0 s0.2.1 s0.1 x10.1 x2.1).2.2.1), .o 2305 ((Y0 s0.2.1 s0.1 x10.1 x2.1).2.2.2)]), (60000, [.h code, .i ((x10.2.1 : Nat) : Int), .i x10.2.2])] [5, 60000] (pe 1 (Zq (IntWalk.i64_in (s0.1 + 1) (by omega))) p0) ?_
   exact Exists.intro ((s0.1 + 1), (Y0 s0.2.1 s0.1 x10.1 x2.1), x10.2.1, x10.2.2) (And.intro (Xx [(2304, 147211), (2305, 147212)] (by kernel_rfl)) ⟨wn hI0.1 (Yh hx8 (Q4 h9 (Yh hx10 (rfl)))), (by exact w29_next hA0_0 (by omega))⟩)
  ·
   have h9d := of_decide_eq_false h9
   refine Qz ?_
   exact Exists.intro (s0.2.1, x8.2.1, x8.2.2) (And.intro (Xx [(147211, 147361), (147212, 147362)] (by kernel_rfl)) ⟨wb hI0.1 (Yh hx8 (Qk h9 (rfl))), by first | omega | (simp only [List.length_set]; omega)⟩)
 ·
  have hD0_0 := hD0.2
  refine Qd ?_
  obtain ⟨x11, hx11⟩ : ∃ z : Int × Nat × Int, Qg code y0.2.1 y0.2.2 10 = z := ⟨_, rfl⟩
  have hbx11 := hx11 ▸ Qt code y0.2.1 y0.2.2 10
  refine sn Qa [0, 2, 5, 38] [2, 5, 60000] (po 1 (.give none (.i x11.1) [.h code, .i ((x11.2.1 : Nat) : Int), .i x11.2.2]) (px (Q0 (hx11 ▸ Q3 code y0.2.1 y0.2.2 10)) p0)) ?_
  refine Qr ?_
  refine tn Qa [0, 2, 5, 38, 39] [2, 5, 60000] (p0) ?_
  refine ck (x11.1 == (0 : Int)) (fun h12 => ?_) (fun h12 => ?_)
  ·
   obtain ⟨x13, hx13⟩ : ∃ z : (List Int) × Nat × Int, Kx code x11.2.1 x11.2.2 = z := ⟨_, rfl⟩
   refine qu Qa [] [] [(5, [.i y0.1.1, .s y0.1.2.1, .o 2688 x13.1, .o 147362 y0.1.2.2.2]), (60000, [.h code, .i ((x13.2.1 : Nat) : Int), .i x13.2.2])] [5, 60000] (po 1 (.give none (.o 0 x13.1) [.h code, .i ((x13.2.1 : Nat) : Int), .i x13.2.2]) (px (Q0 (hx13 ▸ specl14Ids_a code x11.2.1 x11.2.2)) p0)) ?_
   refine sn Qa [0, 2] [2, 60000] (p0) ?_
   refine Qe ?_
   have hE14 : Jp code ci ch = ((y0.1.1, y0.1.2.1, x13.1, y0.1.2.2.2), x13.2.1, x13.2.2) := Yh hx1 (Yh hx2 (Yh hx3 (Yh hx4 (V2 hD0.1 (Yh hx11 (Q4 h12 (Yh hx13 (rfl))))))))
   exact Uk [] (congrArg (fun z => (.a [.i z.1.1, .s z.1.2.1, .o 0 z.1.2.2.1, .o 1 z.1.2.2.2] : AV)) hE14.symm) (congrArg (fun z => ([.h code, .i ((z.2.1 : Nat) : Int), .i z.2.2] : List C)) hE14.symm)
  ·
   have h12d := X2 h12
   refine tu Qa [(38, .i x11.1), (44, .b (x11.1 == (1 : Int)))] [] [(60000, [.h code, .i ((x11.2.1 : Nat) : Int), .i x11.2.2])] [60000] (p0) ?_
   refine ck (x11.1 == (1 : Int)) (fun h15 => ?_) (fun h15 => ?_)
   ·
    obtain ⟨x16, hx16⟩ : ∃ z : Int × Nat × Int, specl06User code x11.2.1 x11.2.2 = z := ⟨_, rfl⟩
    refine rn Qa [0, 2, 5] [2, 5, 60000] (po 1 (.give none (.i x16.1) [.h code, .i ((x16.2.1 : Nat) : Int), .i x16.2.2]) (px (Q0 (hx16 ▸ specl06User_a code x11.2.1 x11.2.2)) p0)) ?_
    refine tn Qa [0, 2] [2, 60000] (p0) ?_
    refine Qe ?_
    have hE17 : Jp code ci ch = ((x16.1, y0.1.2.1, y0.1.2.2.1, y0.1.2.2.2), x16.2.1, x16.2.2) := Yh hx1 (Yh hx2 (Yh hx3 (Yh hx4 (V2 hD0.1 (Yh hx11 (Qk h12 (Q4 h15 (Yh hx16 (rfl)))))))))
    exact Uk [] (congrArg (fun z => (.a [.i z.1.1, .s z.1.2.1, .o 0 z.1.2.2.1, .o 1 z.1.2.2.2] : AV)) hE17.symm) (congrArg (fun z => ([.h code, .i ((z.2.1 : Nat) : Int), .i z.2.2] : List C)) hE17.symm)
   ·
    have h15d := X2 h15
    refine sn Qa [0, 2, 5, 49] [2, 5, 60000] (p0) ?_
    refine ck (x11.1 == (2 : Int)) (fun h18 => ?_) (fun h18 => ?_)
    ·
     have h18d := eq_of_beq h18
     obtain ⟨x19, hx19⟩ : ∃ z : Int × Nat × Int, Qg code x11.2.1 x11.2.2 8 = z := ⟨_, rfl⟩
     have hbx19 := hx19 ▸ Qt code x11.2.1 x11.2.2 8
     obtain ⟨x20, hx20⟩ : ∃ z : (List Int) × Nat × Int, Kx code x19.2.1 x19.2.2 = z := ⟨_, rfl⟩
     obtain ⟨x21, hx21⟩ : ∃ z : (List Int) × Nat × Int, Kx code x20.2.1 x20.2.2 = z := ⟨_, rfl⟩
     refine wB 5 3 (.own true 147362) y0.1.2.2.2 (fun hw22 hl23 => ?_)
     refine qU Qa Yr [] [38, 44] [(5, [.i y0.1.1, .s y0.1.2.1, .o 147361 y0.1.2.2.1, .slc (.own true 3904) 3 ((eL y0.1.2.2.2) ++ [[.i x19.1, .h x20.1, .h x21.1]])]), (60000, [.h code, .i ((x21.2.1 : Nat) : Int), .i x21.2.2])] [5, 60000] (po 3 (.give none (.i x19.1) [.h code, .i ((x19.2.1 : Nat) : Int), .i x19.2.2]) (px (Q0 (hx19 ▸ Q3 code x11.2.1 x11.2.2 8)) (po 5 (.give none (.o 0 x20.1) [.h code, .i ((x20.2.1 : Nat) : Int), .i x20.2.2]) (px (Q0 (hx20 ▸ specl14Ids_a code x19.2.1 x19.2.2)) (po 7 (.give none (.o 0 x21.1) [.h code, .i ((x21.2.1 : Nat) : Int), .i x21.2.2]) (px (Q0 (hx21 ▸ specl14Ids_a code x20.2.1 x20.2.2)) (pa y0.1.2.2.2 [(x19.1, x20.1, x21.1)] p0))))))) ?_
     refine eqn [] [] [(5, [.i y0.1.1, .s y0.1.2.1, .o 147361 y0.1.2.2.1, .o 3904 (y0.1.2.2.2 ++ [(x19.1, x20.1, x21.1)])])] [5] (by rw [show ((eL y0.1.2.2.2) ++ [[.i x19.1, .h x20.1, .h x21.1]]) = (eL (y0.1.2.2.2 ++ [(x19.1, x20.1, x21.1)])) from Kc (rfl) (rfl)]; first | done | kernel_rfl) ?_
     refine sn Qa [0, 2] [2, 60000] (p0) ?_
     refine Qe ?_
     have hE24 : Jp code ci ch = ((y0.1.1, y0.1.2.1, y0.1.2.2.1, y0.1.2.2.2 ++ [(x19.1, x20.1, x21.1)]), x21.2.1, x21.2.2) := Yh hx1 (Yh hx2 (Yh hx3 (Yh hx4 (V2 hD0.1 (Yh hx11 (Qk h12 (Qk h15 (Q4 h18 (Yh hx19 (Yh hx20 (Yh hx21 (rfl))))))))))))
     exact Uk [] (congrArg (fun z => (.a [.i z.1.1, .s z.1.2.1, .o 0 z.1.2.2.1, .o 1 z.1.2.2.2] : AV)) hE24.symm) (congrArg (fun z => ([.h code, .i ((z.2.1 : Nat) : Int), .i z.2.2] : List C)) hE24.symm)
    ·
     refine Qf ?_
     refine tn Qa [0, 2] [2, 60000] (p0) ?_
     refine Qe ?_
     have hE25 : Jp code ci ch = (y0.1, x11.2.1, x11.2.2) := Yh hx1 (Yh hx2 (Yh hx3 (Yh hx4 (V2 hD0.1 (Yh hx11 (Qk h12 (Qk h15 (Qk h18 (rfl)))))))))
     exact Uk [] (congrArg (fun z => (.a [.i z.1.1, .s z.1.2.1, .o 0 z.1.2.2.1, .o 1 z.1.2.2.2] : AV)) hE25.symm) (congrArg (fun z => ([.h code, .i ((z.2.1 : Nat) : Int), .i z.2.2] : List C)) hE25.symm)
def specl17Rise_f0 (a_ : (List Int)) (k0 : Nat) (_ : Unit) : Rd (Bool) (Unit) (Unit) := (bif decide ((nth a_ (Int.toNat (((k0 + 1 : Nat) : Int) - 1))) ≥ (nth a_ (k0 + 1))) then (.ret false) else (.next ()))
def specl17Rise_e0 (_ : Nat) (_ : Unit) : Unit := ()
def Kb (a_ : (List Int)) : Bool := (Out.on (Vw (specl17Rise_f0 a_) specl17Rise_e0 (a_.length - 1) 0 ()) (fun _ => true))
theorem Wy (a_ : (List Int)) : ACalls Tryz.prog 63 [.h a_] (.b (Kb a_)) := by
 refine en Qa Tryz.func63 fun w0 F0 hG => ?_
 refine sn Qa [0, 2] [] (p0) ?_
 refine Qd ?_
 refine tn Qa [0, 2, 3] [] (p0) ?_
 refine mz [(2, .b false), (3, .i 1)] [] [] [] ?_
 refine wT 0 0 .sh a_ (fun hw1 hl2 => ?_)
 refine blN0 (specl17Rise_f0 a_) specl17Rise_e0 (a_.length - 1) () (fun k0 _ => [(3, .i ((k0 + 1 : Nat) : Int))]) [3] (fun _ => []) [0, 3] (Qc (by kernel_rfl)) (fun k0 s0 hk0 hI0 => ?_) (fun k0 s0 hk0 hI0 => ?_) (fun y0 hD0 => ?_)
 ·
  refine Qd ?_
  refine sn Qa [0, 2, 3, 7] [] (pl 2 a_ (pe 3 (Qs (decide_eq_true (p := ((k0 + 1 : Nat) : Int) < (a_.length : Int)) (by omega))) p0)) ?_
  refine ckT ?_
  refine Qf ?_
  refine Qd ?_
  refine Qr ?_
  have hx3 := ng a_ (Int.toNat (((k0 + 1 : Nat) : Int) - 1))
  have hx4 := ng a_ (k0 + 1)
  refine tN Qa Yr [0, 2, 3, 19] [] (pe 2 (Zq (IntWalk.i64_in (((k0 + 1 : Nat) : Int) - 1) (by omega))) (pg 3 (((k0 + 1 : Nat) : Int) - 1) hx3 (pg 7 ((k0 + 1 : Nat) : Int) hx4 p0))) ?_
  refine ck (decide ((nth a_ (Int.toNat (((k0 + 1 : Nat) : Int) - 1))) ≥ (nth a_ (k0 + 1)))) (fun h5 => ?_) (fun h5 => ?_)
  ·
   refine tu Qa [] [] [] [] (p0) ?_
   refine Qe ?_
   have hr6 : (Vw (specl17Rise_f0 a_) specl17Rise_e0 (a_.length - 1) 0 ()) = .ret false := forN_ret hk0 (Q4 h5 (rfl)) hI0
   exact pb [] (on_r hr6)
  ·
   have h5d := of_decide_eq_false h5
   refine Qf ?_
   refine qu Qa [(3, .i ((k0 + 2 : Nat) : Int))] [3] [] [] (pe 1 (show .i (IntKind.i64.wrap (((k0 + 1 : Nat) : Int) + 1)) = .i ((k0 + 2 : Nat) : Int) from Zq ((IntWalk.i64_in _ (by omega)).trans (by omega))) p0) ?_
   exact Exists.intro _ (And.intro (Qc (by kernel_rfl)) (Kf hk0 (Qk h5 (rfl)) hI0))
 ·
  refine Qd ?_
  refine sn Qa [0, 2, 3, 7] [] (pl 2 a_ (pe 3 (Qs (decide_eq_false (p := ((k0 + 1 : Nat) : Int) < (a_.length : Int)) (by omega))) p0)) ?_
  refine ckF ?_
  refine Qz ?_
  exact Exists.intro _ (And.intro (Qc (by kernel_rfl)) (forN_end hk0 (rfl) hI0))
 ·
  refine sn Qa [2] [] (p0) ?_
  refine Qe ?_
  exact pb [] (V2 hD0 (rfl))
def specIsValidWatch_f1 (s0 : (List Int)) (_ : Nat) (a1 : Int) (_ : Unit) : Rd (Rd (Bool) ((List Int)) (Unit)) (Unit) (Unit) := (bif (Yv s0 a1) then (.ret (.ret false)) else (.next ()))
def specIsValidWatch_e1 (_ : Nat) (_ : Unit) : Unit := ()
def specIsValidWatch_f2 (s0 : (List Int)) (_ : Nat) (a2 : Int) (_ : Unit) : Rd (Rd (Bool) ((List Int)) (Unit)) (Unit) (Unit) := (bif (!(Yv s0 a2)) then (.ret (.ret false)) else (.next ()))
def specIsValidWatch_e2 (_ : Nat) (_ : Unit) : Unit := ()
def We (w : Zf) (k0 : Nat) (a0 : Zr) (s0 : (List Int)) : Rd (Bool) ((List Int)) (Unit) := (bif ((IntKind.i64.wrap ((a0.2.1.length : Int) + (a0.2.2.length : Int)) == (0 : Int)) || ((!(Kb a0.2.1)) || ((!(Kb a0.2.2)) || (decide (((k0 : Nat) : Int) > (0 : Int)) && decide ((nth w.2.2.2 (Int.toNat (((k0 : Nat) : Int) - 1))).1 ≥ a0.1))))) then (.ret false) else (Out.on (Xp (specIsValidWatch_f1 s0) specIsValidWatch_e1 a0.2.1 0 ()) (fun _ => (Out.on (Xp (specIsValidWatch_f2 s0) specIsValidWatch_e2 a0.2.2 0 ()) (fun _ => (.next (Kr s0 [a0])))))))
def Wf (_ : Nat) (_ : (List Int)) : Unit := ()
def Vm (w : Zf) : Bool := (Out.on (Xp (We w) Wf w.2.2.2 0 w.2.2.1) (fun _ => ((Q1 w.1 0 2) && (Kb w.2.2.1))))
theorem specIsValidWatch_a (w : Zf) (hp : GoD.size w ≤ 268435456) : ACalls Tryz.prog 22 [.a [.i w.1, .s w.2.1, .h w.2.2.1, .h w.2.2.2]] (.b (Vm w)) := by
 refine en Qa Tryz.func22 fun w0 F0 hG => ?_
 refine sn Qa [1, 2] [1] (p0) ?_
 refine wB 1 2 .sh w.2.2.1 (fun hw1 hl2 => ?_)
 refine tn Qa [1, 2, 3] [1] (po 3 (.flat) (px (ob_len (n := (([] : List (List PV)).length + ((eL w.2.2.1) : List (List PV)).length)) (len_of (rfl) (X8 w.2.2.1) (by first | omega | (simp only [List.length_cons, List.length_nil]; omega) | (simp; omega) | simp))) (px (Wi (Vv w.2.2.1)) p0))) ?_
 refine Qd ?_
 refine tu Qa [(1, .p 1 0), (2, .b false), (3, .o 704 w.2.2.1), (4, .i 0)] [0] [(1, [.i w.1, .s w.2.1, .h w.2.2.1, .h w.2.2.2])] [] (p0) ?_
 refine wB 1 3 .sh w.2.2.2 (fun hw3 hl4 => ?_)
 refine blL1 (We w) Wf w.2.2.2 w.2.2.1 (fun k0 s0 => [(3, .o 147202 s0), (4, .i ((k0 : Nat) : Int))]) [3, 4] (fun _ => []) [3, 4] (fun k0 s0 => List.length s0 ≤ List.length w.2.2.1 + GoD.size (List.take k0 w.2.2.2)) (Xx [(704, 147202)] (by kernel_rfl)) (by simp) (fun k0 s0 hk0 hI0 => ?_) (fun k0 s0 hk0 hI0 => ?_) (fun y0 hD0 => ?_)
 ·
  have hA0_0 := hI0.2
  obtain ⟨a0, hx0⟩ := Xl (l := w.2.2.2) (i := k0) hk0
  refine Qd ?_
  refine sn Qa [1, 2, 3, 4, 16] [1] (pl 3 w.2.2.2 (pe 4 (Qs (decide_eq_true (p := ((k0 : Nat) : Int) < (w.2.2.2.length : Int)) (by omega))) p0)) ?_
  refine ckT ?_
  refine Qf ?_
  refine Qd ?_
  refine Qr ?_
  refine tn Qa [1, 2, 3, 4, 5] [1, 5] (pn 3 hx0 p0) ?_
  refine Qd ?_
  refine Qd ?_
  refine mz [(5, .p 5 0)] [] [(5, [.i a0.1, .h a0.2.1, .h a0.2.2])] [] ?_
  refine jn [(59, .b ((IntKind.i64.wrap ((a0.2.1.length : Int) + (a0.2.2.length : Int)) == (0 : Int)) || ((!(Kb a0.2.1)) || ((!(Kb a0.2.2)) || (decide (((k0 : Nat) : Int) > (0 : Int)) && decide ((nth w.2.2.2 (Int.toNat (((k0 : Nat) : Int) - 1))).1 ≥ a0.1))))))] [] [] [] (IntKind.i64.wrap ((a0.2.1.length : Int) + (a0.2.2.length : Int)) == (0 : Int)) (fun h5 => ?_) (fun h5 => ?_) ?_
  ·
   refine rU Qa Yr [(59, .b true)] [] [] [] (pl 2 a0.2.1 (pl 5 a0.2.2 (pt 7 h5 p0))) ?_
   exact ⟨rfl, Qc (by rw [h5]; first | done | kernel_rfl)⟩
  ·
   have h5d := X2 h5
   refine Xd (!(Kb a0.2.1)) (fun h6 => ?_) (fun h6 => ?_)
   ·
    have h6n : (Kb a0.2.1) = false := bnot_t h6
    refine rU Qa Yr [(59, .b true)] [] [] [] (pl 2 a0.2.1 (pl 5 a0.2.2 (pf 7 h5 (pc 11 (cb h6n (Wy a0.2.1)) (pe 12 (show .b (!false) = .b true from rfl) p0))))) ?_
    exact ⟨rfl, Qc (by rw [h5, h6]; first | done | kernel_rfl)⟩
   ·
    have h6n : (Kb a0.2.1) = true := Kg h6
    refine Xd (!(Kb a0.2.2)) (fun h7 => ?_) (fun h7 => ?_)
    ·
     have h7n : (Kb a0.2.2) = false := bnot_t h7
     refine rU Qa Yr [(59, .b true)] [] [] [] (pl 2 a0.2.1 (pl 5 a0.2.2 (pf 7 h5 (pc 11 (cb h6n (Wy a0.2.1)) (pe 12 (show .b (!true) = .b false from rfl) (pc 17 (cb h7n (Wy a0.2.2)) (pe 18 (show .b (!false) = .b true from rfl) p0))))))) ?_
     exact ⟨rfl, Qc (by rw [h5, h6, h7]; first | done | kernel_rfl)⟩
    ·
     have h7n : (Kb a0.2.2) = true := Kg h7
     refine Xd (decide (((k0 : Nat) : Int) > (0 : Int))) (fun h8 => ?_) (fun h8 => ?_)
     ·
      have h8d := of_decide_eq_true h8
      have hx9 := ng w.2.2.2 (Int.toNat (((k0 : Nat) : Int) - 1))
      refine rN Qa Yr [1, 2, 3, 4, 5, 59] [1, 5] (pl 2 a0.2.1 (pl 5 a0.2.2 (pf 7 h5 (pc 11 (cb h6n (Wy a0.2.1)) (pe 12 (show .b (!true) = .b false from rfl) (pc 17 (cb h7n (Wy a0.2.2)) (pe 18 (show .b (!true) = .b false from rfl) (pt 22 h8 (pe 27 (Zq (IntWalk.i64_in (((k0 : Nat) : Int) - 1) (by omega))) (pg 28 (((k0 : Nat) : Int) - 1) hx9 p0)))))))))) ?_
      exact ⟨rfl, Qc (by rw [h5, h6, h7, h8]; first | done | kernel_rfl)⟩
     ·
      refine rU Qa Yr [(59, .b false)] [] [] [] (pl 2 a0.2.1 (pl 5 a0.2.2 (pf 7 h5 (pc 11 (cb h6n (Wy a0.2.1)) (pe 12 (show .b (!true) = .b false from rfl) (pc 17 (cb h7n (Wy a0.2.2)) (pe 18 (show .b (!true) = .b false from rfl) (pf 22 h8 p0)))))))) ?_
      exact ⟨rfl, Qc (by rw [h5, h6, h7, h8]; first | done | kernel_rfl)⟩
  refine ck ((IntKind.i64.wrap ((a0.2.1.length : Int) + (a0.2.2.length : Int)) == (0 : Int)) || ((!(Kb a0.2.1)) || ((!(Kb a0.2.2)) || (decide (((k0 : Nat) : Int) > (0 : Int)) && decide ((nth w.2.2.2 (Int.toNat (((k0 : Nat) : Int) - 1))).1 ≥ a0.1))))) (fun h10 => ?_) (fun h10 => ?_)
  ·
   refine su Qa [] [59] [] [] (p0) ?_
   refine Qe ?_
   have hr11 : (Xp (We w) Wf w.2.2.2 0 w.2.2.1) = .ret false := Zj hx0 (Q4 h10 (rfl)) hI0.1
   exact pb [] (on_r hr11)
  ·
   have h10l : ((IntKind.i64.wrap ((a0.2.1.length : Int) + (a0.2.2.length : Int)) == (0 : Int))) = false := or_l h10
   have h10ld := X2 h10l
   refine Qf ?_
   refine Qd ?_
   refine su Qa [(6, .i 0)] [59] [] [] (p0) ?_
   refine wB 5 1 .sh a0.2.1 (fun hw12 hl13 => ?_)
   refine blL0 (specIsValidWatch_f1 s0) specIsValidWatch_e1 a0.2.1 () (fun k1 _ => [(6, .i ((k1 : Nat) : Int))]) [6] (fun _ => []) [6] (Qc (by kernel_rfl)) (fun k1 s1 hk1 hI1 => ?_) (fun k1 s1 hk1 hI1 => ?_) (fun y1 hD1 => ?_)
   ·
    obtain ⟨a1, hx1⟩ := Xl (l := a0.2.1) (i := k1) hk1
    refine Qd ?_
    refine su Qa [(64, .b true)] [] [] [] (pl 3 a0.2.1 (pe 4 (Qs (decide_eq_true (p := ((k1 : Nat) : Int) < (a0.2.1.length : Int)) (by omega))) p0)) ?_
    refine ckT ?_
    refine Qf ?_
    refine Qd ?_
    refine Qr ?_
    refine sn Qa [1, 2, 3, 4, 5, 6, 73] [1, 5] (pn 4 hx1 (pc 6 (Vk s0 a1) p0)) ?_
    refine ck (Yv s0 a1) (fun h14 => ?_) (fun h14 => ?_)
    ·
     refine tu Qa [] [64] [] [] (p0) ?_
     refine Qe ?_
     have hr15 : (Xp (specIsValidWatch_f1 s0) specIsValidWatch_e1 a0.2.1 0 ()) = .ret (.ret false) := Zj hx1 (Q4 h14 (rfl)) hI1
     have hr16 : (Xp (We w) Wf w.2.2.2 0 w.2.2.1) = .ret false := Zj hx0 (Qk h10 (on_r hr15)) hI0.1
     exact pb [] (on_r hr16)
    ·
     refine Qf ?_
     refine qn Qa [1, 2, 3, 4, 5, 6] [1, 5] (pe 1 (Zq (Qu k1 (by omega))) p0) ?_
     exact Exists.intro _ (And.intro (Qc (by kernel_rfl)) (Qv hx1 (Qk h14 (rfl)) hI1))
   ·
    refine Qd ?_
    refine su Qa [(64, .b false)] [] [] [] (pl 3 a0.2.1 (pe 4 (Qs (decide_eq_false (p := ((k1 : Nat) : Int) < (a0.2.1.length : Int)) (by omega))) p0)) ?_
    refine ckF ?_
    refine Qz ?_
    exact Exists.intro _ (And.intro (Qc (by kernel_rfl)) (Xm hk1 (rfl) hI1))
   ·
    refine Qd ?_
    refine su Qa [(7, .i 0)] [] [] [] (p0) ?_
    refine wB 5 2 .sh a0.2.2 (fun hw17 hl18 => ?_)
    refine blL0 (specIsValidWatch_f2 s0) specIsValidWatch_e2 a0.2.2 () (fun k2 _ => [(7, .i ((k2 : Nat) : Int))]) [7] (fun _ => []) [7] (Qc (by kernel_rfl)) (fun k2 s2 hk2 hI2 => ?_) (fun k2 s2 hk2 hI2 => ?_) (fun y2 hD2 => ?_)
    ·
     obtain ⟨a2, hx2⟩ := Xl (l := a0.2.2) (i := k2) hk2
     refine Qd ?_
     refine su Qa [(78, .b true)] [] [] [] (pl 3 a0.2.2 (pe 4 (Qs (decide_eq_true (p := ((k2 : Nat) : Int) < (a0.2.2.length : Int)) (by omega))) p0)) ?_
     refine ckT ?_
     refine Qf ?_
     refine Qd ?_
     refine Qr ?_
     refine sn Qa [1, 2, 3, 4, 5, 7, 88] [1, 5] (pn 4 hx2 (pc 6 (Vk s0 a2) p0)) ?_
     refine ck (!(Yv s0 a2)) (fun h19 => ?_) (fun h19 => ?_)
     ·
      refine tu Qa [] [78] [] [] (p0) ?_
      refine Qe ?_
      have hr20 : (Xp (specIsValidWatch_f2 s0) specIsValidWatch_e2 a0.2.2 0 ()) = .ret (.ret false) := Zj hx2 (Q4 h19 (rfl)) hI2
      have hr21 : (Xp (We w) Wf w.2.2.2 0 w.2.2.1) = .ret false := Zj hx0 (Qk h10 (V2 hD1 (on_r hr20))) hI0.1
      exact pb [] (on_r hr21)
     ·
      refine Qf ?_
      refine qn Qa [1, 2, 3, 4, 5, 7] [1, 5] (pe 1 (Zq (Qu k2 (by omega))) p0) ?_
      exact Exists.intro _ (And.intro (Qc (by kernel_rfl)) (Qv hx2 (Qk h19 (rfl)) hI2))
    ·
     refine Qd ?_
     refine su Qa [(78, .b false)] [] [] [] (pl 3 a0.2.2 (pe 4 (Qs (decide_eq_false (p := ((k2 : Nat) : Int) < (a0.2.2.length : Int)) (by omega))) p0)) ?_
     refine ckF ?_
     refine Qz ?_
     exact Exists.intro _ (And.intro (Qc (by kernel_rfl)) (Xm hk2 (rfl) hI2))
    ·
     refine rn Qa [1, 2, 3, 4] [1] (pc 3 (specReplayEvents_a s0 [a0] (valid_room hx0 hA0_0 hp)) p0) ?_
     refine qn Qa [1, 2, 3, 4] [1] (pe 1 (Zq (Qu k0 (by omega))) p0) ?_
     exact Exists.intro (Kr s0 [a0]) (And.intro (Xx [(5888, 147202)] (by kernel_rfl)) ⟨Qv hx0 (Qk h10 (V2 hD1 (V2 hD2 (rfl)))) hI0.1, (by exact valid_step hx0 hA0_0)⟩)
 ·
  have hA0_0 := hI0.2
  refine Qd ?_
  refine sn Qa [1, 2, 3, 4, 16] [1] (pl 3 w.2.2.2 (pe 4 (Qs (decide_eq_false (p := ((k0 : Nat) : Int) < (w.2.2.2.length : Int)) (by omega))) p0)) ?_
  refine ckF ?_
  refine Qz ?_
  exact Exists.intro _ (And.intro (Qc (by kernel_rfl)) (Xm hk0 (rfl) hI0.1))
 ·
  refine Qd ?_
  refine jn [(2, .b ((Q1 w.1 0 2) && (Kb w.2.2.1)))] [1, 2] [] [1] (Q1 w.1 0 2) (fun h22 => ?_) (fun h22 => ?_) ?_
  ·
   have h22w := l01In_iff.1 h22
   refine rn Qa [2] [] (pc 2 (cb h22 (Ys w.1 0 2)) (pc 6 (Wy w.2.2.1) p0)) ?_
   exact ⟨rfl, Qc (by rw [h22]; first | done | kernel_rfl)⟩
  ·
   refine rn Qa [2] [] (pc 2 (cb h22 (Ys w.1 0 2)) p0) ?_
   exact ⟨rfl, Qc (by rw [h22]; first | done | kernel_rfl)⟩
  refine Qe ?_
  exact pb [] (V2 hD0 (rfl))
end Go.Proofs.YtcnkkobgogmakaaGreat
namespace Go.Proofs.YtcnkkobgogmakaaGreat
open Go.RowKit
theorem l29_size (code : List UInt8) (ci : Nat) (ch : Int) : GoD.size (Jp code ci ch).1 ≤ 1900 := by
  unfold Jp lt
  generalize Y6 code ci ch = x1
  have hn := l13_names code x1.2.1 x1.2.2
  dsimp only
  generalize Jg code x1.2.1 x1.2.2 = x2 at hn ⊢
  generalize Qg code x2.2.1 x2.2.2 3 = x3
  generalize Qg code x3.2.1 x3.2.2 _ = x4
  obtain ⟨t, ht⟩ := whlD_brk (f := Jh code x2) (fun s r => by
    unfold Jh lt
    generalize Qg code s.2.2.1 s.2.2.2 4 = x
    simp only
    generalize decide (s.1 < 2 + x.1) = c
    cases c <;> simp) 5 (1, (Z4 x1.1 x2.1 x3.1 ((nth x2.1 (Int.toNat x4.1)).1)), x4.2.1, x4.2.2)
  have hj : GoD.size t.1 ≤ 1795 := whlD_inv (f := Jh code x2) (I := fun s => W29 s.1 s.2.1) (J := fun t => GoD.size t.1 ≤ 1795) (fun s s' hi h => by
    unfold Jh lt at h
    have hb := Qt code s.2.2.1 s.2.2.2 4
    generalize Qg code s.2.2.1 s.2.2.2 4 = x at h hb
    by_cases hc : s.1 < 2 + x.1
    · simp only [decide_eq_true hc, cond_true] at h
      have h := Rd.next.inj h
      rw [← h]
      exact w29_next hi (by omega)
    · simp only [decide_eq_false hc, cond_false] at h
      cases h) (fun s t hi h => by
    unfold Jh lt at h
    generalize Qg code s.2.2.1 s.2.2.2 4 = x at h
    by_cases hc : s.1 < 2 + x.1
    · simp only [decide_eq_true hc, cond_true] at h
      cases h
    · simp only [decide_eq_false hc, cond_false] at h
      have h := Rd.brk.inj h
      rw [← h]
      exact w29_small hi) (w29_start (hn _)) (specl29Watch_w code x2 _ _ _) ht
  rw [ht]
  simp only [Out.on]
  have hs := Wn t.1
  generalize Qg code t.2.1 t.2.2 10 = x11
  cases (x11.1 == (0 : Int)) with
  | true =>
    simp only [cond_true]
    have h7 := ids14_len code x11.2.1 x11.2.2
    rw [Wn]
    show t.1.2.1.size + (List.length (Kx code x11.2.1 x11.2.2).1 + GoD.size t.1.2.2.2) ≤ 1900
    omega
  | false =>
    simp only [cond_false]
    cases (x11.1 == (1 : Int)) with
    | true =>
      simp only [cond_true]
      rw [Wn]
      show t.1.2.1.size + (List.length t.1.2.2.1 + GoD.size t.1.2.2.2) ≤ 1900
      omega
    | false =>
      simp only [cond_false]
      cases (x11.1 == (2 : Int)) with
      | true =>
        simp only [cond_true]
        generalize Qg code x11.2.1 x11.2.2 8 = x19
        have h7 := ids14_len code x19.2.1 x19.2.2
        generalize Kx code x19.2.1 x19.2.2 = x20 at h7
        have h8 := ids14_len code x20.2.1 x20.2.2
        generalize Kx code x20.2.1 x20.2.2 = x21 at h8
        rw [Wn]
        show t.1.2.1.size + (List.length t.1.2.2.1 + GoD.size (t.1.2.2.2 ++ [(x19.1, x20.1, x21.1)])) ≤ 1900
        rw [size_app, size_one]
        have h9 : GoD.size ((x19.1, x20.1, x21.1) : Zr) = 0 + (GoD.size x20.1 + GoD.size x21.1) := rfl
        rw [h9, ints_size, ints_size]
        omega
      | false => simp only [cond_false]; omega
open GoE (enc wide)
def Qb (code : (List UInt8)) : Zf × Int × Q2 × (List Yq) := (lt (α := Nat × Int) (specl01New code) (fun x1 => (lt (α := Zf × Nat × Int) (Jp code x1.1 x1.2) (fun x2 => (lt (α := Q2 × (List Yq) × Nat × Int) (W1 code x2.2.1 x2.2.2) (fun x3 => (lt (α := Int × Nat × Int) (Qg code x3.2.2.1 x3.2.2.2 9) (fun x4 => (x2.1, (1 + x4.1), x3.1, x3.2.1)))))))))
theorem drawNotify_size (code : List UInt8) : GoD.size (Qb code).1 ≤ 1900 := l29_size code _ _
theorem specDrawNotify_a (code : (List UInt8)) : ACalls Tryz.prog 28 [.h code] (.tup [(true, [.i ((((Qb code)).1).1), .s ((((Qb code)).1).2.1), .o 0 ((((Qb code)).1).2.2.1), .o 1 ((((Qb code)).1).2.2.2)]), (false, [.i (((Qb code)).2.1)]), (true, [.h ((((Qb code)).2.2.1).1), .q 2 ((((Qb code)).2.2.1).2.1), .i ((((Qb code)).2.2.1).2.2)]), (false, [.h (((Qb code)).2.2.2)])]) := by
 refine en Qa Tryz.func28 fun w0 F0 hG => ?_
 refine sn Qa [0, 2, 3, 4, 5] [2, 4] (p0) ?_
 obtain ⟨x1, hx1⟩ : ∃ z : Nat × Int, specl01New code = z := ⟨_, rfl⟩
 refine tn Qa [2, 3, 4, 5, 6] [2, 4, 11] (po 1 (.new [.h code, .i ((x1.1 : Nat) : Int), .i x1.2]) (px (ob_new (hx1 ▸ specl01New_a code)) p0)) ?_
 obtain ⟨x2, hx2⟩ : ∃ z : Zf × Nat × Int, Jp code x1.1 x1.2 = z := ⟨_, rfl⟩
 refine tu Qa [(2, .p 2 0), (3, .i 0), (4, .p 4 0), (5, .e 0), (6, .p 11 0), (7, .p 7 0)] [0] [(2, [.i 0, .s ⟨#[]⟩, .e 1, .e 3]), (4, [.e 2, .e 5, .i 0]), (7, [.i x2.1.1, .s x2.1.2.1, .o 832 x2.1.2.2.1, .o 833 x2.1.2.2.2]), (11, [.h code, .i ((x2.2.1 : Nat) : Int), .i x2.2.2])] [] (po 1 (.give none (.a [.i x2.1.1, .s x2.1.2.1, .o 0 x2.1.2.2.1, .o 1 x2.1.2.2.2]) [.h code, .i ((x2.2.1 : Nat) : Int), .i x2.2.2]) (px (Q0 (hx2 ▸ specl29Watch_a code x1.1 x1.2)) p0)) ?_
 obtain ⟨x3, hx3⟩ : ∃ z : Q2 × (List Yq) × Nat × Int, W1 code x2.2.1 x2.2.2 = z := ⟨_, rfl⟩
 refine sn Qa [2, 3, 4, 5, 6, 7, 8, 9] [2, 4, 7, 8, 11] (po 1 (.give none (.tup [(true, [.h x3.1.1, .q 0 x3.1.2.1, .i x3.1.2.2]), (false, [.h x3.2.1])]) [.h code, .i ((x3.2.2.1 : Nat) : Int), .i x3.2.2.2]) (px (Q0 (hx3 ▸ specl15Case_a code x2.2.1 x2.2.2)) p0)) ?_
 obtain ⟨x4, hx4⟩ : ∃ z : Int × Nat × Int, Qg code x3.2.2.1 x3.2.2.2 9 = z := ⟨_, rfl⟩
 have hbx4 := hx4 ▸ Qt code x3.2.2.1 x3.2.2.2 9
 refine tN Qa Yr [2, 3, 4, 5] [2, 4] (po 2 (.give none (.i x4.1) [.h code, .i ((x4.2.1 : Nat) : Int), .i x4.2.2]) (px (Q0 (hx4 ▸ Q3 code x3.2.2.1 x3.2.2.2 9)) (pe 3 (Zq (IntWalk.i64_in (1 + x4.1) (by omega))) p0))) ?_
 refine Qe ?_
 exact pz [] (show Qb code = _ from Yh hx1 (Yh hx2 (Yh hx3 (Yh hx4 (rfl))))) (fun z => .tup [(true, [.i z.1.1, .s z.1.2.1, .o 0 z.1.2.2.1, .o 1 z.1.2.2.2]), (false, [.i z.2.1]), (true, [.h z.2.2.1.1, .q 2 z.2.2.1.2.1, .i z.2.2.1.2.2]), (false, [.h z.2.2.2])])
open GoE (enc wide)
def lawsbig (code : (List UInt8)) : Bool := decide ((code.length : Int) > (1048576 : Int))
theorem lawsbig_a (code : (List UInt8)) : ACalls Tryz.prog 8 [.h code] (.b (lawsbig code)) := by
 refine en Qa Tryz.func8 fun w0 F0 hG => ?_
 refine sn Qa [0, 2] [] (p0) ?_
 refine tn Qa [2] [] (pl 1 code p0) ?_
 refine Qe ?_
 exact pb [] (show lawsbig code = decide ((code.length : Int) > (1048576 : Int)) from rfl)
def lawssameInts_f0 (b : (List Int)) (k0 : Nat) (a0 : Int) (_ : Unit) : Rd (Bool) (Unit) (Unit) := (bif (a0 != (nth b k0)) then (.ret false) else (.next ()))
def lawssameInts_e0 (_ : Nat) (_ : Unit) : Unit := ()
def Jq (a_ : (List Int)) (b : (List Int)) : Bool := (bif ((a_.length : Int) != (b.length : Int)) then false else (Out.on (Xp (lawssameInts_f0 b) lawssameInts_e0 a_ 0 ()) (fun _ => true)))
theorem lawssameInts_a (a_ : (List Int)) (b : (List Int)) : ACalls Tryz.prog 16 [.h a_, .h b] (.b (Jq a_ b)) := by
 refine en Qa Tryz.func16 fun w0 F0 hG => ?_
 refine sn Qa [0, 1, 4] [] (p0) ?_
 refine Qd ?_
 refine tn Qa [0, 1, 4, 10] [] (pl 1 a_ (pl 3 b p0)) ?_
 refine ck ((a_.length : Int) != (b.length : Int)) (fun h1 => ?_) (fun h1 => ?_)
 ·
  refine tu Qa [(4, .b false)] [] [] [] (p0) ?_
  refine Qe ?_
  exact pb [] (Q4 h1 (rfl))
 ·
  have h1d := W7 h1
  refine Qf ?_
  refine Qd ?_
  refine tu Qa [(4, .b false), (5, .i 0)] [] [] [] (p0) ?_
  refine wT 0 0 .sh a_ (fun hw2 hl3 => ?_)
  refine blL0 (lawssameInts_f0 b) lawssameInts_e0 a_ () (fun k0 _ => [(5, .i ((k0 : Nat) : Int))]) [5] (fun _ => []) [0, 1, 5] (Qc (by kernel_rfl)) (fun k0 s0 hk0 hI0 => ?_) (fun k0 s0 hk0 hI0 => ?_) (fun y0 hD0 => ?_)
  ·
   obtain ⟨a0, hx0⟩ := Xl (l := a_) (i := k0) hk0
   refine Qd ?_
   refine sn Qa [0, 1, 4, 5, 14] [] (pl 2 a_ (pe 3 (Qs (decide_eq_true (p := ((k0 : Nat) : Int) < (a_.length : Int)) (by omega))) p0)) ?_
   refine ckT ?_
   refine Qf ?_
   refine Qd ?_
   refine Qr ?_
   refine wT 1 0 .sh b (fun hw5 hl6 => ?_)
   have hx4 := ng b k0
   refine tN Qa Yr [0, 1, 4, 5, 25] [] (pn 2 hx0 (pn 6 hx4 p0)) ?_
   refine ck (a0 != (nth b k0)) (fun h7 => ?_) (fun h7 => ?_)
   ·
    refine tu Qa [] [] [] [] (p0) ?_
    refine Qe ?_
    have hr8 : (Xp (lawssameInts_f0 b) lawssameInts_e0 a_ 0 ()) = .ret false := Zj hx0 (Q4 h7 (rfl)) hI0
    exact pb [] (Qk h1 (on_r hr8))
   ·
    have h7d := W7 h7
    refine Qf ?_
    refine qu Qa [(5, .i ((k0 + 1 : Nat) : Int))] [5] [] [] (pe 1 (Zq (Qu k0 (by omega))) p0) ?_
    exact Exists.intro _ (And.intro (Qc (by kernel_rfl)) (Qv hx0 (Qk h7 (rfl)) hI0))
  ·
   refine Qd ?_
   refine sn Qa [0, 1, 4, 5, 14] [] (pl 2 a_ (pe 3 (Qs (decide_eq_false (p := ((k0 : Nat) : Int) < (a_.length : Int)) (by omega))) p0)) ?_
   refine ckF ?_
   refine Qz ?_
   exact Exists.intro _ (And.intro (Qc (by kernel_rfl)) (Xm hk0 (rfl) hI0))
  ·
   refine sn Qa [4] [] (p0) ?_
   refine Qe ?_
   exact pb [] (Qk h1 (V2 hD0 (rfl)))
def lawssameEvent (a_ : Zr) (b : Zr) : Bool := ((a_.1 == b.1) && ((Jq a_.2.1 b.2.1) && (Jq a_.2.2 b.2.2)))
theorem lawssameEvent_a (a_ : Zr) (b : Zr) : ACalls Tryz.prog 108 [.a [.i a_.1, .h a_.2.1, .h a_.2.2], .a [.i b.1, .h b.2.1, .h b.2.2]] (.b (lawssameEvent a_ b)) := by
 refine en Qa Tryz.func108 fun w0 F0 hG => ?_
 refine sn Qa [2, 3, 4] [2, 3] (p0) ?_
 refine Qd ?_
 refine mz [(2, .p 2 0), (3, .p 3 0), (4, .b false)] [0, 1] [(2, [.i a_.1, .h a_.2.1, .h a_.2.2]), (3, [.i b.1, .h b.2.1, .h b.2.2])] [] ?_
 refine jn [(4, .b ((a_.1 == b.1) && ((Jq a_.2.1 b.2.1) && (Jq a_.2.2 b.2.2))))] [2, 3, 4] [] [2, 3] (a_.1 == b.1) (fun h1 => ?_) (fun h1 => ?_) ?_
 ·
  refine Xd (Jq a_.2.1 b.2.1) (fun h2 => ?_) (fun h2 => ?_)
  ·
   refine rn Qa [4] [] (pt 4 h1 (pc 10 (cb h2 (lawssameInts_a a_.2.1 b.2.1)) (pc 17 (lawssameInts_a a_.2.2 b.2.2) p0))) ?_
   exact ⟨rfl, Qc (by rw [h1, h2]; first | done | kernel_rfl)⟩
  ·
   refine rn Qa [4] [] (pt 4 h1 (pc 10 (cb h2 (lawssameInts_a a_.2.1 b.2.1)) p0)) ?_
   exact ⟨rfl, Qc (by rw [h1, h2]; first | done | kernel_rfl)⟩
 ·
  refine rn Qa [4] [] (pf 4 h1 p0) ?_
  exact ⟨rfl, Qc (by rw [h1]; first | done | kernel_rfl)⟩
 refine Qe ?_
 exact pb [] (show lawssameEvent a_ b = ((a_.1 == b.1) && ((Jq a_.2.1 b.2.1) && (Jq a_.2.2 b.2.2))) from rfl)
def lawssameEvents_f0 (b : (List Zr)) (k0 : Nat) (a0 : Zr) (_ : Unit) : Rd (Bool) (Unit) (Unit) := (bif (!(lawssameEvent a0 (nth b k0))) then (.ret false) else (.next ()))
def lawssameEvents_e0 (_ : Nat) (_ : Unit) : Unit := ()
def Uq (a_ : (List Zr)) (b : (List Zr)) : Bool := (bif ((a_.length : Int) != (b.length : Int)) then false else (Out.on (Xp (lawssameEvents_f0 b) lawssameEvents_e0 a_ 0 ()) (fun _ => true)))
theorem lawssameEvents_a (a_ : (List Zr)) (b : (List Zr)) : ACalls Tryz.prog 67 [.h a_, .h b] (.b (Uq a_ b)) := by
 refine en Qa Tryz.func67 fun w0 F0 hG => ?_
 refine sn Qa [0, 1, 4] [] (p0) ?_
 refine Qd ?_
 refine tn Qa [0, 1, 4, 10] [] (pl 1 a_ (pl 3 b p0)) ?_
 refine ck ((a_.length : Int) != (b.length : Int)) (fun h1 => ?_) (fun h1 => ?_)
 ·
  refine tu Qa [(4, .b false)] [] [] [] (p0) ?_
  refine Qe ?_
  exact pb [] (Q4 h1 (rfl))
 ·
  have h1d := W7 h1
  refine Qf ?_
  refine Qd ?_
  refine tu Qa [(4, .b false), (5, .i 0)] [] [] [] (p0) ?_
  refine wT 0 0 .sh a_ (fun hw2 hl3 => ?_)
  refine blL0 (lawssameEvents_f0 b) lawssameEvents_e0 a_ () (fun k0 _ => [(5, .i ((k0 : Nat) : Int))]) [5] (fun _ => []) [0, 1, 5] (Qc (by kernel_rfl)) (fun k0 s0 hk0 hI0 => ?_) (fun k0 s0 hk0 hI0 => ?_) (fun y0 hD0 => ?_)
  ·
   obtain ⟨a0, hx0⟩ := Xl (l := a_) (i := k0) hk0
   refine Qd ?_
   refine sn Qa [0, 1, 4, 5, 14] [] (pl 2 a_ (pe 3 (Qs (decide_eq_true (p := ((k0 : Nat) : Int) < (a_.length : Int)) (by omega))) p0)) ?_
   refine ckT ?_
   refine Qf ?_
   refine Qd ?_
   refine Qr ?_
   refine wT 1 0 .sh b (fun hw5 hl6 => ?_)
   have hx4 := ng b k0
   refine tN Qa Yr [0, 1, 4, 5, 26] [] (pn 2 hx0 (pn 6 hx4 (pc 8 (lawssameEvent_a a0 (nth b k0)) p0))) ?_
   refine ck (!(lawssameEvent a0 (nth b k0))) (fun h7 => ?_) (fun h7 => ?_)
   ·
    refine tu Qa [] [] [] [] (p0) ?_
    refine Qe ?_
    have hr8 : (Xp (lawssameEvents_f0 b) lawssameEvents_e0 a_ 0 ()) = .ret false := Zj hx0 (Q4 h7 (rfl)) hI0
    exact pb [] (Qk h1 (on_r hr8))
   ·
    refine Qf ?_
    refine qu Qa [(5, .i ((k0 + 1 : Nat) : Int))] [5] [] [] (pe 1 (Zq (Qu k0 (by omega))) p0) ?_
    exact Exists.intro _ (And.intro (Qc (by kernel_rfl)) (Qv hx0 (Qk h7 (rfl)) hI0))
  ·
   refine Qd ?_
   refine sn Qa [0, 1, 4, 5, 14] [] (pl 2 a_ (pe 3 (Qs (decide_eq_false (p := ((k0 : Nat) : Int) < (a_.length : Int)) (by omega))) p0)) ?_
   refine ckF ?_
   refine Qz ?_
   exact Exists.intro _ (And.intro (Qc (by kernel_rfl)) (Xm hk0 (rfl) hI0))
  ·
   refine sn Qa [4] [] (p0) ?_
   refine Qe ?_
   exact pb [] (Qk h1 (V2 hD0 (rfl)))
def K6 (a_ : Zf) (b : Zf) : Bool := ((a_.1 == b.1) && ((a_.2.1.toList == b.2.1.toList) && ((Jq a_.2.2.1 b.2.2.1) && (Uq a_.2.2.2 b.2.2.2))))
theorem Ud (a_ : Zf) (b : Zf) : ACalls Tryz.prog 23 [.a [.i a_.1, .s a_.2.1, .h a_.2.2.1, .h a_.2.2.2], .a [.i b.1, .s b.2.1, .h b.2.2.1, .h b.2.2.2]] (.b (K6 a_ b)) := by
 refine en Qa Tryz.func23 fun w0 F0 hG => ?_
 refine sn Qa [2, 3, 4] [2, 3] (p0) ?_
 refine Qd ?_
 refine mz [(2, .p 2 0), (3, .p 3 0), (4, .b false)] [0, 1] [(2, [.i a_.1, .s a_.2.1, .h a_.2.2.1, .h a_.2.2.2]), (3, [.i b.1, .s b.2.1, .h b.2.2.1, .h b.2.2.2])] [] ?_
 refine jn [(4, .b ((a_.1 == b.1) && ((a_.2.1.toList == b.2.1.toList) && ((Jq a_.2.2.1 b.2.2.1) && (Uq a_.2.2.2 b.2.2.2)))))] [2, 3, 4] [] [2, 3] (a_.1 == b.1) (fun h1 => ?_) (fun h1 => ?_) ?_
 ·
  refine Xd (a_.2.1.toList == b.2.1.toList) (fun h2 => ?_) (fun h2 => ?_)
  ·
   refine Xd (Jq a_.2.2.1 b.2.2.1) (fun h3 => ?_) (fun h3 => ?_)
   ·
    refine rn Qa [4] [] (pt 4 h1 (pt 10 h2 (pc 17 (cb h3 (lawssameInts_a a_.2.2.1 b.2.2.1)) (pc 24 (lawssameEvents_a a_.2.2.2 b.2.2.2) p0)))) ?_
    exact ⟨rfl, Qc (by rw [h1, h2, h3]; first | done | kernel_rfl)⟩
   ·
    refine rn Qa [4] [] (pt 4 h1 (pt 10 h2 (pc 17 (cb h3 (lawssameInts_a a_.2.2.1 b.2.2.1)) p0))) ?_
    exact ⟨rfl, Qc (by rw [h1, h2, h3]; first | done | kernel_rfl)⟩
  ·
   refine rn Qa [4] [] (pt 4 h1 (pf 10 h2 p0)) ?_
   exact ⟨rfl, Qc (by rw [h1, h2]; first | done | kernel_rfl)⟩
 ·
  refine rn Qa [4] [] (pf 4 h1 p0) ?_
  exact ⟨rfl, Qc (by rw [h1]; first | done | kernel_rfl)⟩
 refine Qe ?_
 exact pb [] (show K6 a_ b = ((a_.1 == b.1) && ((a_.2.1.toList == b.2.1.toList) && ((Jq a_.2.2.1 b.2.2.1) && (Uq a_.2.2.2 b.2.2.2)))) from rfl)
def lawsFnNoEmptyEvents (code : (List UInt8)) : Bool := (bif (lawsbig code) then true else ((K6 (Qx (((Qb code)).1) (((Qb code)).2.1) (((Qb code)).2.2.1) (((Qb code)).2.2.2)) (Y0 (((Qb code)).1) (((Qb code)).2.1) (((Qb code)).2.2.1) (((Qb code)).2.2.2))) && (bif (!(Vm (((Qb code)).1))) then decide ((((Qx (Qx (((Qb code)).1) (((Qb code)).2.1) (((Qb code)).2.2.1) (((Qb code)).2.2.2)) (IntKind.i64.wrap (((Qb code)).2.1 + 1)) (((Qb code)).2.2.1) (((Qb code)).2.2.2)).2.2.2).length : Int) ≥ (((Qx (((Qb code)).1) (((Qb code)).2.1) (((Qb code)).2.2.1) (((Qb code)).2.2.2)).2.2.2).length : Int)) else ((K6 (Qx (Qx (((Qb code)).1) (((Qb code)).2.1) (((Qb code)).2.2.1) (((Qb code)).2.2.2)) (IntKind.i64.wrap (((Qb code)).2.1 + 1)) (((Qb code)).2.2.1) (((Qb code)).2.2.2)) (Qx (((Qb code)).1) (((Qb code)).2.1) (((Qb code)).2.2.1) (((Qb code)).2.2.2))) && decide ((((Qx (Qx (((Qb code)).1) (((Qb code)).2.1) (((Qb code)).2.2.1) (((Qb code)).2.2.2)) (IntKind.i64.wrap (((Qb code)).2.1 + 1)) (((Qb code)).2.2.1) (((Qb code)).2.2.2)).2.2.2).length : Int) ≥ (((Qx (((Qb code)).1) (((Qb code)).2.1) (((Qb code)).2.2.1) (((Qb code)).2.2.2)).2.2.2).length : Int))))))
theorem lawsFnNoEmptyEvents_a (code : (List UInt8)) : ACalls Tryz.prog 5 [.h code] (.b (lawsFnNoEmptyEvents code)) := by
 refine en Qa Tryz.func5 fun w0 F0 hG => ?_
 have hds := drawNotify_size code
 have hdt := notify_size (((Qb code)).1) (((Qb code)).2.1) (((Qb code)).2.2.1) (((Qb code)).2.2.2)
 refine sn Qa [0, 2] [] (p0) ?_
 refine Qd ?_
 refine tn Qa [0, 2, 11] [] (pc 1 (lawsbig_a code) p0) ?_
 refine ck (lawsbig code) (fun h1 => ?_) (fun h1 => ?_)
 ·
  refine tu Qa [(2, .b true)] [] [] [] (p0) ?_
  refine Qe ?_
  exact pb [] (Q4 h1 (rfl))
 ·
  refine Qf ?_
  refine tu Qa [(2, .b false), (3, .p 3 0), (4, .i (((Qb code)).2.1)), (5, .p 5 0), (6, .h (((Qb code)).2.2.2))] [0] [(3, [.i ((((Qb code)).1).1), .s ((((Qb code)).1).2.1), .o 896 ((((Qb code)).1).2.2.1), .o 897 ((((Qb code)).1).2.2.2)]), (5, [.h ((((Qb code)).2.2.1).1), .q 898 ((((Qb code)).2.2.1).2.1), .i ((((Qb code)).2.2.1).2.2)])] [] (pc 1 (specDrawNotify_a code) p0) ?_
  refine sn Qa [2, 3, 4, 5, 6, 7] [3, 5, 7] (pc 4 (implNotify_a (((Qb code)).1) (((Qb code)).2.1) (((Qb code)).2.2.1) (((Qb code)).2.2.2) (by omega)) p0) ?_
  refine tn Qa [2, 3, 4, 5, 6, 7, 8] [3, 5, 7, 8] (pc 5 (implNotify_a (Qx (((Qb code)).1) (((Qb code)).2.1) (((Qb code)).2.2.1) (((Qb code)).2.2.2)) (IntKind.i64.wrap (((Qb code)).2.1 + 1)) (((Qb code)).2.2.1) (((Qb code)).2.2.2) (by omega)) p0) ?_
  refine tu Qa [(7, .p 7 0), (8, .p 8 0), (9, .p 9 0)] [4, 5, 6] [(7, [.i ((Qx (((Qb code)).1) (((Qb code)).2.1) (((Qb code)).2.2.1) (((Qb code)).2.2.2)).1), .s ((Qx (((Qb code)).1) (((Qb code)).2.1) (((Qb code)).2.2.1) (((Qb code)).2.2.2)).2.1), .o 1472 ((Qx (((Qb code)).1) (((Qb code)).2.1) (((Qb code)).2.2.1) (((Qb code)).2.2.2)).2.2.1), .o 1473 ((Qx (((Qb code)).1) (((Qb code)).2.1) (((Qb code)).2.2.1) (((Qb code)).2.2.2)).2.2.2)]), (8, [.i ((Qx (Qx (((Qb code)).1) (((Qb code)).2.1) (((Qb code)).2.2.1) (((Qb code)).2.2.2)) (IntKind.i64.wrap (((Qb code)).2.1 + 1)) (((Qb code)).2.2.1) (((Qb code)).2.2.2)).1), .s ((Qx (Qx (((Qb code)).1) (((Qb code)).2.1) (((Qb code)).2.2.1) (((Qb code)).2.2.2)) (IntKind.i64.wrap (((Qb code)).2.1 + 1)) (((Qb code)).2.2.1) (((Qb code)).2.2.2)).2.1), .o 1856 ((Qx (Qx (((Qb code)).1) (((Qb code)).2.1) (((Qb code)).2.2.1) (((Qb code)).2.2.2)) (IntKind.i64.wrap (((Qb code)).2.1 + 1)) (((Qb code)).2.2.1) (((Qb code)).2.2.2)).2.2.1), .o 1857 ((Qx (Qx (((Qb code)).1) (((Qb code)).2.1) (((Qb code)).2.2.1) (((Qb code)).2.2.2)) (IntKind.i64.wrap (((Qb code)).2.1 + 1)) (((Qb code)).2.2.1) (((Qb code)).2.2.2)).2.2.2)]), (9, [.i ((Y0 (((Qb code)).1) (((Qb code)).2.1) (((Qb code)).2.2.1) (((Qb code)).2.2.2)).1), .s ((Y0 (((Qb code)).1) (((Qb code)).2.1) (((Qb code)).2.2.1) (((Qb code)).2.2.2)).2.1), .o 2176 ((Y0 (((Qb code)).1) (((Qb code)).2.1) (((Qb code)).2.2.1) (((Qb code)).2.2.2)).2.2.1), .o 2177 ((Y0 (((Qb code)).1) (((Qb code)).2.1) (((Qb code)).2.2.1) (((Qb code)).2.2.2)).2.2.2)])] [5] (pc 4 (specNotify_a (((Qb code)).1) (((Qb code)).2.1) (((Qb code)).2.2.1) (((Qb code)).2.2.2) (by omega)) p0) ?_
  refine Qd ?_
  refine jn [(2, .b ((K6 (Qx (((Qb code)).1) (((Qb code)).2.1) (((Qb code)).2.2.1) (((Qb code)).2.2.2)) (Y0 (((Qb code)).1) (((Qb code)).2.1) (((Qb code)).2.2.1) (((Qb code)).2.2.2))) && (bif (!(Vm (((Qb code)).1))) then decide ((((Qx (Qx (((Qb code)).1) (((Qb code)).2.1) (((Qb code)).2.2.1) (((Qb code)).2.2.2)) (IntKind.i64.wrap (((Qb code)).2.1 + 1)) (((Qb code)).2.2.1) (((Qb code)).2.2.2)).2.2.2).length : Int) ≥ (((Qx (((Qb code)).1) (((Qb code)).2.1) (((Qb code)).2.2.1) (((Qb code)).2.2.2)).2.2.2).length : Int)) else ((K6 (Qx (Qx (((Qb code)).1) (((Qb code)).2.1) (((Qb code)).2.2.1) (((Qb code)).2.2.2)) (IntKind.i64.wrap (((Qb code)).2.1 + 1)) (((Qb code)).2.2.1) (((Qb code)).2.2.2)) (Qx (((Qb code)).1) (((Qb code)).2.1) (((Qb code)).2.2.1) (((Qb code)).2.2.2))) && decide ((((Qx (Qx (((Qb code)).1) (((Qb code)).2.1) (((Qb code)).2.2.1) (((Qb code)).2.2.2)) (IntKind.i64.wrap (((Qb code)).2.1 + 1)) (((Qb code)).2.2.1) (((Qb code)).2.2.2)).2.2.2).length : Int) ≥ (((Qx (((Qb code)).1) (((Qb code)).2.1) (((Qb code)).2.2.1) (((Qb code)).2.2.2)).2.2.2).length : Int))))))] [2, 3, 7, 8, 9] [] [3, 7, 8, 9] (K6 (Qx (((Qb code)).1) (((Qb code)).2.1) (((Qb code)).2.2.1) (((Qb code)).2.2.2)) (Y0 (((Qb code)).1) (((Qb code)).2.1) (((Qb code)).2.2.1) (((Qb code)).2.2.2))) (fun h2 => ?_) (fun h2 => ?_) ?_
  ·
   refine Xd (!(Vm (((Qb code)).1))) (fun h3 => ?_) (fun h3 => ?_)
   ·
    have h3n : (Vm (((Qb code)).1)) = false := bnot_t h3
    refine rn Qa [2] [] (pc 2 (cb h2 (Ud (Qx (((Qb code)).1) (((Qb code)).2.1) (((Qb code)).2.2.1) (((Qb code)).2.2.2)) (Y0 (((Qb code)).1) (((Qb code)).2.1) (((Qb code)).2.2.1) (((Qb code)).2.2.2)))) (pc 5 (cb h3n (specIsValidWatch_a (((Qb code)).1) (by omega))) (pe 6 (show .b (!false) = .b true from rfl) (pl 16 ((Qx (Qx (((Qb code)).1) (((Qb code)).2.1) (((Qb code)).2.2.1) (((Qb code)).2.2.2)) (IntKind.i64.wrap (((Qb code)).2.1 + 1)) (((Qb code)).2.2.1) (((Qb code)).2.2.2)).2.2.2) (pl 19 ((Qx (((Qb code)).1) (((Qb code)).2.1) (((Qb code)).2.2.1) (((Qb code)).2.2.2)).2.2.2) p0))))) ?_
    exact ⟨rfl, Qc (by rw [h2, h3]; first | done | kernel_rfl)⟩
   ·
    have h3n : (Vm (((Qb code)).1)) = true := Kg h3
    refine Xd (K6 (Qx (Qx (((Qb code)).1) (((Qb code)).2.1) (((Qb code)).2.2.1) (((Qb code)).2.2.2)) (IntKind.i64.wrap (((Qb code)).2.1 + 1)) (((Qb code)).2.2.1) (((Qb code)).2.2.2)) (Qx (((Qb code)).1) (((Qb code)).2.1) (((Qb code)).2.2.1) (((Qb code)).2.2.2))) (fun h4 => ?_) (fun h4 => ?_)
    ·
     refine rn Qa [2] [] (pc 2 (cb h2 (Ud (Qx (((Qb code)).1) (((Qb code)).2.1) (((Qb code)).2.2.1) (((Qb code)).2.2.2)) (Y0 (((Qb code)).1) (((Qb code)).2.1) (((Qb code)).2.2.1) (((Qb code)).2.2.2)))) (pc 5 (cb h3n (specIsValidWatch_a (((Qb code)).1) (by omega))) (pe 6 (show .b (!true) = .b false from rfl) (pc 10 (cb h4 (Ud (Qx (Qx (((Qb code)).1) (((Qb code)).2.1) (((Qb code)).2.2.1) (((Qb code)).2.2.2)) (IntKind.i64.wrap (((Qb code)).2.1 + 1)) (((Qb code)).2.2.1) (((Qb code)).2.2.2)) (Qx (((Qb code)).1) (((Qb code)).2.1) (((Qb code)).2.2.1) (((Qb code)).2.2.2)))) (pl 16 ((Qx (Qx (((Qb code)).1) (((Qb code)).2.1) (((Qb code)).2.2.1) (((Qb code)).2.2.2)) (IntKind.i64.wrap (((Qb code)).2.1 + 1)) (((Qb code)).2.2.1) (((Qb code)).2.2.2)).2.2.2) (pl 19 ((Qx (((Qb code)).1) (((Qb code)).2.1) (((Qb code)).2.2.1) (((Qb code)).2.2.2)).2.2.2) p0)))))) ?_
     exact ⟨rfl, Qc (by rw [h2, h3, h4]; first | done | kernel_rfl)⟩
    ·
     refine rn Qa [2] [] (pc 2 (cb h2 (Ud (Qx (((Qb code)).1) (((Qb code)).2.1) (((Qb code)).2.2.1) (((Qb code)).2.2.2)) (Y0 (((Qb code)).1) (((Qb code)).2.1) (((Qb code)).2.2.1) (((Qb code)).2.2.2)))) (pc 5 (cb h3n (specIsValidWatch_a (((Qb code)).1) (by omega))) (pe 6 (show .b (!true) = .b false from rfl) (pc 10 (cb h4 (Ud (Qx (Qx (((Qb code)).1) (((Qb code)).2.1) (((Qb code)).2.2.1) (((Qb code)).2.2.2)) (IntKind.i64.wrap (((Qb code)).2.1 + 1)) (((Qb code)).2.2.1) (((Qb code)).2.2.2)) (Qx (((Qb code)).1) (((Qb code)).2.1) (((Qb code)).2.2.1) (((Qb code)).2.2.2)))) p0)))) ?_
     exact ⟨rfl, Qc (by rw [h2, h3, h4]; first | done | kernel_rfl)⟩
  ·
   refine rn Qa [2] [] (pc 2 (cb h2 (Ud (Qx (((Qb code)).1) (((Qb code)).2.1) (((Qb code)).2.2.1) (((Qb code)).2.2.2)) (Y0 (((Qb code)).1) (((Qb code)).2.1) (((Qb code)).2.2.1) (((Qb code)).2.2.2)))) p0) ?_
   exact ⟨rfl, Qc (by rw [h2]; first | done | kernel_rfl)⟩
  refine Qe ?_
  exact pb [] (Qk h1 (rfl))
end Go.Proofs.YtcnkkobgogmakaaGreat
namespace Go.Proofs.YtcnkkobgogmakaaGreat
open Go.RowKit
theorem replay_fold : ∀ (l : List Zr) (k : Nat) (s : List Int), Xp Ka Wd l k s = .brk (l.foldl (fun s a => Zt s a.2.1 a.2.2) s)
  | [], k, s => rfl
  | a :: l, k, s => by
    simp only [Xp, Ka, List.foldl_cons]
    exact replay_fold l (k + 1) _
theorem replay_is (s : List Int) (l : List Zr) : Z0 s l = l.foldl (fun s a => Zt s a.2.1 a.2.2) s := by
  unfold Z0
  rw [replay_fold]
  rfl
theorem replay_app (s : List Int) (l m : List Zr) : Z0 s (l ++ m) = Z0 (Z0 s l) m := by
  rw [replay_is, replay_is, replay_is, List.foldl_append]
theorem sameInts_self (l : List Int) : Jq l l = true := by
  unfold Jq
  rw [forL_of_all l 0 (fun i a hi => by
    unfold lawssameInts_f0
    rw [Nat.zero_add, nth_of hi]
    simp)]
  simp [Out.on]
theorem sameEvents_self (l : List Zr) : Uq l l = true := by
  unfold Uq
  rw [forL_of_all l 0 (fun i a hi => by
    unfold lawssameEvents_f0 lawssameEvent
    rw [Nat.zero_add, nth_of hi, sameInts_self, sameInts_self]
    simp)]
  simp [Out.on]
theorem sameWatch_self (w : Zf) : K6 w w = true := by
  unfold K6
  rw [sameInts_self, sameEvents_self]
  simp
theorem mem_replayed (ids a r : List Int) (x : Int) : x ∈ Zt ids a r ↔ x ∈ a ∨ (x ∈ ids ∧ x ∉ r) := by
  have h : Zt ids a r = replay1 ids a r := replay1_eq ids a r
  rw [h]
  unfold replay1
  rw [mem_putAll, mem_putAll]
  simp [less]
theorem less_nil {a b : List Int} (h : ∀ x, x ∈ a → x ∈ b) : less a b = [] := List.filter_eq_nil_iff.2 fun x hx => by simpa using h x hx
theorem mem_less {a b : List Int} {x : Int} : x ∈ less a b ↔ x ∈ a ∧ x ∉ b := by simp [less]
theorem notify_again (w : Zf) (v v' : Int) (s : Q2) (d : List Yq) (hp : GoD.size w ≤ 536870912) : Qx (Qx w v s d) v' s d = Qx w v s d := by
  have hl := listing_len w
  have hs := listDir_short s d w.1 w.2.1
  have h3 := less_len (Qy s d w.1 w.2.1) (Qj w)
  have h4 := less_len (Qj w) (Qy s d w.1 w.2.1)
  have key : ∀ z : Zf, less (Qy s d z.1 z.2.1) (Qj z) = [] → less (Qj z) (Qy s d z.1 z.2.1) = [] → Qx z v' s d = z := fun z e1 e2 => by
    unfold Qx
    rw [copyWatch_id]
    unfold Yf
    simp only [e1, e2]
    rfl
  have hn : Qx w v s d = bif decide ((less (Qy s d w.1 w.2.1) (Qj w)).length + (less (Qj w) (Qy s d w.1 w.2.1)).length > 0) then (w.1, w.2.1, w.2.2.1, w.2.2.2 ++ [(v, less (Qy s d w.1 w.2.1) (Qj w), less (Qj w) (Qy s d w.1 w.2.1))]) else w := by
    unfold Qx
    rw [copyWatch_id]
    unfold Yf
    simp only
    have hw : IntKind.i64.wrap (((less (Qy s d w.1 w.2.1) (Qj w)).length : Int) + ((less (Qj w) (Qy s d w.1 w.2.1)).length : Int)) = ((less (Qy s d w.1 w.2.1) (Qj w)).length : Int) + ((less (Qj w) (Qy s d w.1 w.2.1)).length : Int) := IntWalk.i64_in _ (by omega)
    rw [hw]
    have hc : decide (((less (Qy s d w.1 w.2.1) (Qj w)).length : Int) + ((less (Qj w) (Qy s d w.1 w.2.1)).length : Int) > (0 : Int)) = decide ((less (Qy s d w.1 w.2.1) (Qj w)).length + (less (Qj w) (Qy s d w.1 w.2.1)).length > 0) := by
      rw [Bool.eq_iff_iff]; simp only [decide_eq_true_eq]; omega
    rw [hc]
  by_cases h0 : (less (Qy s d w.1 w.2.1) (Qj w)).length + (less (Qj w) (Qy s d w.1 w.2.1)).length > 0
  · rw [decide_eq_true h0] at hn
    simp only [cond_true] at hn
    rw [hn]
    have hlist : Qj (w.1, w.2.1, w.2.2.1, w.2.2.2 ++ [(v, less (Qy s d w.1 w.2.1) (Qj w), less (Qj w) (Qy s d w.1 w.2.1))]) = Zt (Qj w) (less (Qy s d w.1 w.2.1) (Qj w)) (less (Qj w) (Qy s d w.1 w.2.1)) := by
      unfold Qj
      dsimp only
      rw [replay_app]
      rfl
    have hmem : ∀ x, x ∈ Zt (Qj w) (less (Qy s d w.1 w.2.1) (Qj w)) (less (Qj w) (Qy s d w.1 w.2.1)) ↔ x ∈ Qy s d w.1 w.2.1 := fun x => by
      rw [mem_replayed, mem_less, mem_less]
      constructor
      · rintro (⟨h1, _⟩ | ⟨h1, h2⟩)
        · exact h1
        · exact Decidable.byContradiction fun h3 => h2 ⟨h1, h3⟩
      · intro h1
        by_cases h2 : x ∈ Qj w
        · exact .inr ⟨h2, fun h3 => h3.2 h1⟩
        · exact .inl ⟨h1, h2⟩
    refine key _ ?_ ?_
    · rw [hlist]; exact less_nil fun x hx => (hmem x).2 hx
    · rw [hlist]; exact less_nil fun x hx => (hmem x).1 hx
  · rw [decide_eq_false h0] at hn
    simp only [cond_false] at hn
    rw [hn]
    exact key w (List.length_eq_zero_iff.1 (by omega)) (List.length_eq_zero_iff.1 (by omega))
theorem lawsFnNoEmptyEvents_true (code : List UInt8) : lawsFnNoEmptyEvents code = true := by
  unfold lawsFnNoEmptyEvents
  cases lawsbig code with
  | true => rfl
  | false =>
    simp only [cond_false]
    have hsz := drawNotify_size code
    generalize Qb code = z at hsz ⊢
    rw [notify_again z.1 z.2.1 _ z.2.2.1 z.2.2.2 (by omega), notify_eq z.1 z.2.1 z.2.2.1 z.2.2.2 (by omega), sameWatch_self]
    have hge : decide (((Qx z.1 z.2.1 z.2.2.1 z.2.2.2).2.2.2.length : Int) ≥ ((Qx z.1 z.2.1 z.2.2.1 z.2.2.2).2.2.2.length : Int)) = true := decide_eq_true (Int.le_refl _)
    rw [hge]
    cases Vm z.1 <;> rfl
end Go.Proofs.YtcnkkobgogmakaaGreat
namespace Go.Proofs.YtcnkkobgogmakaaGreat
open Go.RowKit
open GoD (rd own)
theorem bigNoEmptyEvents (w : World) (v : Value) (a : List UInt8) (h : rd w [v] a) (hbig : ¬ a.length ≤ 1048576) : Calls Tryz.prog 5 #[v] w (Ret w (.bool true)) := by
  obtain ⟨oa, cap, rfl⟩ := slice_of_rd h
  have hln := len_of_rd h
  clear h
  have hbi : 1048576 < (a.length : Int) := by omega
  go_enter Tryz.func5, Tryz.ntmps5
  go_wp2_with (first | (go_at_call 8; go_in))
  go_ret
  exact ⟨rfl, by go_grown⟩
theorem lawNoEmptyEvents (w : World) (v : Value) (a : List UInt8) (h : rd w [v] a) : Calls Tryz.prog 5 #[v] w (Ret w (.bool true)) := by
  by_cases hbig : a.length ≤ 1048576
  · haveI : Good Tryz.prog w := Good.none (by kernel_rfl) w
    have hc := (lawsFnNoEmptyEvents_a a).run (.cons (arg_sli h ⟨by omega, fun _ _ => trivial⟩) .nil)
    rw [lawsFnNoEmptyEvents_true] at hc
    exact hc.mono fun _ _ h => ret_bool h
  · exact bigNoEmptyEvents w v a h hbig
end Go.Proofs.YtcnkkobgogmakaaGreat
