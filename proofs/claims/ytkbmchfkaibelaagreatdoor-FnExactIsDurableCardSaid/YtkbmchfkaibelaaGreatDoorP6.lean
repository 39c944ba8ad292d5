/- Texts of this proof, put together by a program: Wsk, Wsl, Wsm, Wsm2, Wsn, Wp1, Wp2, Wp3, Wp4, Wp5, Wp6, Dua, Dub, Lw. -/
import Derived.Test.YtkbmchfkaibelaaGreatDoorP5
import Derived.KernelRfl
set_option linter.unusedVariables false
set_option linter.unusedSimpArgs false
namespace Go.Proofs.YtkbmchfkaibelaaGreatDoor
open Go.RowKit
open GoE (enc wide)
def Yd (bf : (List ByteArray)) (bn : (List Qw)) : ByteArray × (List ByteArray) × (List Qw) := (bif ((bf.length : Int) == (0 : Int)) then (⟨#[]⟩, bf, bn) else ((nth bf 0), List.drop 1 bf, bn))
theorem D8 (bf : List ByteArray) (bn : List Qw) : (Yd bf bn).2.1.length ≤ bf.length ∧ (Yd bf bn).2.2.length = bn.length ∧ (1 ≤ bf.length → (Yd bf bn).2.1.length + 1 = bf.length) ∧ ((Yd bf bn).1.size = 0 ∨ 1 ≤ bf.length) := by
 unfold Yd
 cases h : ((bf.length : Int) == (0 : Int)) with
 | true => have := eq_of_beq h; simp only [cond_true]; exact ⟨Nat.le_refl _, trivial, fun h1 => by omega, .inl rfl⟩
 | false => have := ne_of_beq_false h; simp only [cond_false, List.length_drop]; exact ⟨by omega, trivial, fun _ => by omega, .inr (by omega)⟩
theorem LS {k : Int} {w : ByteArray} {n : Nat} (h : ((Qo k).toList == w.toList) = true) (hn : w.size = 0 ∨ 1 ≤ n) : 1 ≤ n := by
 have h1 := H6 h
 have h2 := Qdj k
 rw [h1] at h2
 omega
theorem F5 (bf : (List ByteArray)) (bn : (List Qw)) : AGive Tryz.prog 235 [.h bf, .o 41 bn] [] (.s (((Yd bf bn)).1)) [.h (((Yd bf bn)).2.1), .o 41 (((Yd bf bn)).2.2)] := by
 refine XP (tt := tt) Qa Tryz.func235 (fn := Tryz.f235) rfl (by unfold Bu; kernel_rfl) (Nat.le_of_ble_eq_true rfl) (Nat.le_of_ble_eq_true rfl) rfl rfl fun w0 F0 hG => ?_
 refine sn Qa [0, 2] [60000] (p0) ?_
 refine Qc ?_
 refine tn Qa [0, 2, 9] [60000] (pl 4 bf p0) ?_
 refine ck ((bf.length : Int) == (0 : Int)) (fun h1 => ?_) (fun h1 => ?_)
 ·
  refine tu Qa [(2, .s ⟨#[]⟩)] [] [] [] (p0) ?_
  refine Qe ?_
  have hE2 : Yd bf bn = (⟨#[]⟩, bf, bn) := Xi h1 (rfl)
  exact BA [] (congrArg (fun z => (.s z.1 : AV)) hE2.symm) (congrArg (fun z => ([.h z.2.1, .o 41 z.2.2] : List C)) hE2.symm)
 have h1d := Yg h1
 refine Qf ?_
 refine wB 60000 0 .sh bf (fun hw4 hl5 => ?_)
 have hx3 := ng bf 0
 refine tu Qa [(2, .s ⟨#[]⟩), (3, .s (nth bf 0))] [] [] [] (pg 4 0 hx3 p0) ?_
 refine sn Qa [0, 2, 3] [60000] (pe 5 (My .sh 1 1 1 bf rfl) (px (Co (lo := 1) (hi := (((eL bf) : List (List PV)).length : Int)) (n := (List.length (eL bf))) (Mz (by omega) (by omega))) p0)) ?_
 refine tn Qa [0, 2] [60000] (p0) ?_
 refine Qe ?_
 have hE6 : Yd bf bn = ((nth bf 0), List.drop 1 bf, bn) := Qk h1 (rfl)
 exact BA [] (congrArg (fun z => (.s z.1 : AV)) hE6.symm) (congrArg (fun z => ([.h z.2.1, .o 41 z.2.2] : List C)) hE6.symm)
def D9 (x1 : ByteArray × (List ByteArray) × (List Qw)) (k0 : Nat) (s0 : Int) : Rd (Bool × (List ByteArray) × (List Qw)) (Int) (Int) := (bif ((Qo ((k0 + 1 : Nat) : Int)).toList == x1.1.toList) then (.next ((k0 + 1 : Nat) : Int)) else (.next s0))
def Ea (_ : Nat) (s0 : Int) : Int := s0
def Xc (n_ : Nat) (bf : (List ByteArray)) (bn : (List Qw)) : Bool × (List ByteArray) × (List Qw) := match n_ with
 | 0 => default
 | n_ + 1 => (lt (Yd bf bn) (fun x1 => (Out.on (Jn (D9 x1) Ea (Int.toNat (((9 : Int) + 1) - 1)) 0 0) (fun y0 => (lt (α := Bool) (bif (y0 == (2 : Int)) then (y0 == (2 : Int)) else (bif (y0 == (8 : Int)) then (y0 == (8 : Int)) else (y0 == (9 : Int)))) (fun x4 => (bif x4 then (lt (Yd x1.2.1 x1.2.2) (fun x8 => ((y0 != (0 : Int)), x8.2.1, x8.2.2 ++ [((y0, 0, 0, x8.1, (0, 0, ⟨#[]⟩)) : Qw)]))) else (bif (bif (y0 == (3 : Int)) then (y0 == (3 : Int)) else (y0 == (4 : Int))) then (lt (Yd x1.2.1 x1.2.2) (fun x14 => (lt (Yd x14.2.1 x14.2.2) (fun x15 => (((Qn x15.1)).2, x15.2.1, x15.2.2 ++ [((y0, 0, 0, x14.1, (((Qn x15.1)).1)) : Qw)]))))) else (bif (y0 == (5 : Int)) then (lt (Xc n_ x1.2.1 x1.2.2) (fun x20 => (x20.1, x20.2.1, x20.2.2 ++ [((y0, ((x20.2.2.length : Int) - 1), 0, ⟨#[]⟩, (0, 0, ⟨#[]⟩)) : Qw)]))) else (lt (α := Bool) (bif (y0 == (6 : Int)) then (y0 == (6 : Int)) else (y0 == (7 : Int))) (fun x24 => (bif x24 then (lt (Xc n_ x1.2.1 x1.2.2) (fun x27 => (bif x27.1 then (lt (Xc n_ x27.2.1 x27.2.2) (fun x31 => (x31.1, x31.2.1, x31.2.2 ++ [((y0, ((x27.2.2.length : Int) - 1), ((x31.2.2.length : Int) - 1), ⟨#[]⟩, (0, 0, ⟨#[]⟩)) : Qw)]))) else (false, x27.2.1, x27.2.2 ++ [((y0, ((x27.2.2.length : Int) - 1), ((x27.2.2.length : Int) - 1), ⟨#[]⟩, (0, 0, ⟨#[]⟩)) : Qw)])))) else ((y0 != (0 : Int)), x1.2.1, x1.2.2 ++ [((y0, 0, 0, ⟨#[]⟩, (0, 0, ⟨#[]⟩)) : Qw)])))))))))))))
theorem L4 : ∀ (n : Nat) (bf : List ByteArray) (bn : List Qw), (Xc n bf bn).2.1.length ≤ bf.length ∧ (Xc n bf bn).2.2.length + 2 * (Xc n bf bn).2.1.length ≤ bn.length + 2 * bf.length + 1
 | 0, bf, bn => ⟨Nat.zero_le _, Nat.zero_le _⟩
 | n + 1, bf, bn => by
  have h1 := D8 bf bn
  have ih := L4 n
  unfold Xc lt
  generalize Yd bf bn = x1 at h1 ⊢
  dsimp only
  rw [Fo (f := D9 x1) (e := Ea) (p := fun k => (Qo ((k + 1 : Nat) : Int)).toList == x1.1.toList) (fun _ _ => rfl) (fun _ _ => rfl)]
  simp only [Out.on]
  have hy : Fn (fun k => (Qo ((k + 1 : Nat) : Int)).toList == x1.1.toList) (Int.toNat (((9 : Int) + 1) - 1)) 0 0 ≠ 0 → 1 ≤ bf.length := fun h => by
   have := LR (w := x1.1) h
   omega
  generalize Fn (fun k => (Qo ((k + 1 : Nat) : Int)).toList == x1.1.toList) (Int.toNat (((9 : Int) + 1) - 1)) 0 0 = y0 at hy ⊢
  have h2 := D8 x1.2.1 x1.2.2
  cases (bif (y0 == (2 : Int)) then (y0 == (2 : Int)) else (bif (y0 == (8 : Int)) then (y0 == (8 : Int)) else (y0 == (9 : Int)))) with
  | true =>
   simp only [cond_true]
   generalize Yd x1.2.1 x1.2.2 = x8 at h2 ⊢
   simp only [List.length_append, List.length_cons, List.length_nil]
   omega
  | false =>
  simp only [cond_false]
  cases (bif (y0 == (3 : Int)) then (y0 == (3 : Int)) else (y0 == (4 : Int))) with
  | true =>
   simp only [cond_true]
   generalize Yd x1.2.1 x1.2.2 = x8 at h2 ⊢
   have h3 := D8 x8.2.1 x8.2.2
   generalize Yd x8.2.1 x8.2.2 = x9 at h3 ⊢
   simp only [List.length_append, List.length_cons, List.length_nil]
   omega
  | false =>
  simp only [cond_false]
  have h4 := ih x1.2.1 x1.2.2
  cases h5 : (y0 == (5 : Int)) with
  | true =>
   have := hy (by have := eq_of_beq h5; omega)
   simp only [cond_true]
   generalize Xc n x1.2.1 x1.2.2 = x8 at h4 ⊢
   simp only [List.length_append, List.length_cons, List.length_nil]
   omega
  | false =>
  simp only [cond_false]
  cases h6 : (bif (y0 == (6 : Int)) then (y0 == (6 : Int)) else (y0 == (7 : Int))) with
  | true =>
   have := hy (by intro e; rw [e] at h6; revert h6; decide)
   simp only [cond_true]
   generalize Xc n x1.2.1 x1.2.2 = x8 at h4 ⊢
   cases x8.1 with
   | true =>
    have h7 := ih x8.2.1 x8.2.2
    simp only [cond_true]
    generalize Xc n x8.2.1 x8.2.2 = x9 at h7 ⊢
    simp only [List.length_append, List.length_cons, List.length_nil]
    omega
   | false =>
    simp only [cond_false, List.length_append, List.length_cons, List.length_nil]
    omega
  | false =>
   simp only [cond_false, List.length_append, List.length_cons, List.length_nil]
   omega
theorem Nl : ∀ (n_ : Nat) (bf : (List ByteArray)) (bn : (List Qw)) (hf : List.length bf < n_) (hz : List.length bf ≤ 24) (hb : List.length bn + 2 * List.length bf ≤ 100), AGive Tryz.prog 213 [.h bf, .o 41 bn] [] (.b (((Xc n_ bf bn)).1)) [.h (((Xc n_ bf bn)).2.1), .o 41 (((Xc n_ bf bn)).2.2)] := by
 intro n_
 induction n_ with
 | zero => intro bf bn hf hz hb; exact (by omega : False).elim
 | succ n_ ih =>
  intro bf bn hf hz hb
  refine XP (tt := tt) Qa Tryz.func213 (fn := Tryz.f213) rfl (by unfold Bu; kernel_rfl) (Nat.le_of_ble_eq_true rfl) (Nat.le_of_ble_eq_true rfl) rfl rfl fun w0 F0 hG => ?_
  refine sn Qa [0, 2] [60000] (p0) ?_
  obtain ⟨x1, hx1⟩ := nm (Yd bf bn)
  have hnx1 := D8 bf bn
  rw [hx1] at hnx1
  refine tn Qa [0, 2, 3] [60000] (po 1 (.give none (.s x1.1) [.h x1.2.1, .o 41 x1.2.2]) (px (B3 (hx1 ▸ F5 bf bn)) p0)) ?_
  refine tu Qa [(2, .b false), (3, .s x1.1), (4, .p 4 0)] [] [(4, [.i 0, .i 0, .i 0, .s ⟨#[]⟩, .i 0, .i 0, .s ⟨#[]⟩]), (60000, [.h x1.2.1, .o 553 x1.2.2])] [60000] (p0) ?_
  refine Qc ?_
  refine su Qa [(5, .i 1)] [] [] [] (p0) ?_
  refine Qek (D9 x1) Ea (Int.toNat (((9 : Int) + 1) - 1)) 0 (fun k0 _ => [(5, .i ((k0 + 1 : Nat) : Int))]) [5] (fun _ s0 => [(4, [.i s0, .i 0, .i 0, .s ⟨#[]⟩, .i 0, .i 0, .s ⟨#[]⟩])]) [4] (fun _ => []) [3, 5] (fun y0 => [(4, [.i y0, .i 0, .i 0, .s ⟨#[]⟩, .i 0, .i 0, .s ⟨#[]⟩])]) [4] (fun _ s0 => (s0 = 0 ∨ 1 ≤ List.length bf)) (fun y0 => (y0 = 0 ∨ 1 ≤ List.length bf)) wf0 (by exact .inl rfl) (fun k0 s0 hk0 hI0 => ?_) (fun k0 s0 hk0 hI0 => ?_) (fun y0 hD0 => ?_)
  ·
   have hA0_0 := hI0.2
   refine Qc ?_
   refine su Qa [(11, .b true)] [] [] [] (pe 1 (Qz (decide_eq_true (p := ((k0 + 1 : Nat) : Int) ≤ (9 : Int)) (by omega))) p0) ?_
   refine ckT ?_
   refine Qf ?_
   refine Qc ?_
   refine Qy ?_
   have hk2 := LH ((k0 + 1 : Nat) : Int)
   refine sn Qa [0, 2, 3, 4, 5, 17] [4, 60000] (pc 1 (Fk ((k0 + 1 : Nat) : Int)) p0) ?_
   refine ck ((Qo ((k0 + 1 : Nat) : Int)).toList == x1.1.toList) (fun h3 => ?_) (fun h3 => ?_)
   ·
    refine qn Qa [0, 2, 3, 4, 5] [4, 60000] (p0) ?_
    refine qu Qa [(5, .i ((k0 + 2 : Nat) : Int))] [5, 11] [(4, [.i ((k0 + 1 : Nat) : Int), .i 0, .i 0, .s ⟨#[]⟩, .i 0, .i 0, .s ⟨#[]⟩])] [4] (pe 1 (show .i (IntKind.i64.wrap (((k0 + 1 : Nat) : Int) + 1)) = .i ((k0 + 2 : Nat) : Int) from Jr ((IntWalk.i64_in _ (by omega)).trans (by omega))) p0) ?_
    exact xw ((k0 + 1 : Nat) : Int) ⟨Zu hk0 (Xi h3 (rfl)) hI0.1, (by first | exact hA0_0 | exact .inr (LS (by assumption) hnx1.2.2.2))⟩
   refine Qf ?_
   refine qn Qa [0, 2, 3, 4, 5] [4, 60000] (pe 1 (show .i (IntKind.i64.wrap (((k0 + 1 : Nat) : Int) + 1)) = .i ((k0 + 2 : Nat) : Int) from Jr ((IntWalk.i64_in _ (by omega)).trans (by omega))) p0) ?_
   exact xw s0 ⟨Zu hk0 (Qk h3 (rfl)) hI0.1, (by first | exact hA0_0 | exact .inr (LS (by assumption) hnx1.2.2.2))⟩
  ·
   have hA0_0 := hI0.2
   refine Qc ?_
   refine su Qa [(11, .b false)] [] [] [] (pe 1 (Qz (decide_eq_false (p := ((k0 + 1 : Nat) : Int) ≤ (9 : Int)) (by omega))) p0) ?_
   refine ckF ?_
   refine Xs ?_
   exact xw s0 ⟨Up hk0 (rfl) hI0.1, by exact hA0_0⟩
  have hD0_0 := hD0.2
  refine sn Qa [0, 2, 4, 6] [4, 60000] (p0) ?_
  refine Qc ?_
  refine tn Qa [0, 2, 4, 6, 24] [4, 60000] (p0) ?_
  refine Qy ?_
  refine Qc ?_
  refine tu Qa [(6, .b (y0 != (0 : Int))), (24, .i y0), (25, .b (y0 == (2 : Int)))] [] [] [] (p0) ?_
  obtain ⟨x4, hx4⟩ := nm ((bif (y0 == (2 : Int)) then (y0 == (2 : Int)) else (bif (y0 == (8 : Int)) then (y0 == (8 : Int)) else (y0 == (9 : Int)))))
  refine jn [(25, .b x4)] [25] [] [] (y0 == (2 : Int)) (fun h5 => ?_) (fun h5 => ?_) ?_
  ·
   have h5d := eq_of_beq h5
   refine ckt h5 ?_
   refine Qf ?_
   obtain rfl : x4 = (y0 == (2 : Int)) := hx4.symm.trans (show (bif (y0 == (2 : Int)) then (y0 == (2 : Int)) else (bif (y0 == (8 : Int)) then (y0 == (8 : Int)) else (y0 == (9 : Int)))) = (y0 == (2 : Int)) from Xi h5 (rfl))
   exact ⟨rfl, Qd (by kernel_rfl)⟩
  ·
   have h5d := Yg h5
   refine ckf h5 ?_
   refine sn Qa [0, 2, 4, 6, 24, 25] [4, 60000] (p0) ?_
   refine ck (y0 == (8 : Int)) (fun h6 => ?_) (fun h6 => ?_)
   ·
    have h6d := eq_of_beq h6
    refine Qf ?_
    obtain rfl : x4 = (y0 == (8 : Int)) := hx4.symm.trans (show (bif (y0 == (2 : Int)) then (y0 == (2 : Int)) else (bif (y0 == (8 : Int)) then (y0 == (8 : Int)) else (y0 == (9 : Int)))) = (y0 == (8 : Int)) from Qk h5 (Xi h6 (rfl)))
    exact ⟨rfl, Qd (by kernel_rfl)⟩
   have h6d := Yg h6
   refine qn Qa [0, 2, 4, 6, 24, 25] [4, 60000] (p0) ?_
   obtain rfl : x4 = (y0 == (9 : Int)) := hx4.symm.trans (show (bif (y0 == (2 : Int)) then (y0 == (2 : Int)) else (bif (y0 == (8 : Int)) then (y0 == (8 : Int)) else (y0 == (9 : Int)))) = (y0 == (9 : Int)) from Qk h5 (Qk h6 (rfl)))
   exact ⟨rfl, Qd (by kernel_rfl)⟩
  refine ck x4 (fun h7 => ?_) (fun h7 => ?_)
  ·
   obtain ⟨x8, hx8⟩ := nm (Yd x1.2.1 x1.2.2)
   have hnx8 := D8 x1.2.1 x1.2.2
   rw [hx8] at hnx8
   refine rn Qa [0, 2, 4, 6] [4, 60000] (po 1 (.give none (.s x8.1) [.h x8.2.1, .o 41 x8.2.2]) (px (B3 (hx8 ▸ F5 x1.2.1 x1.2.2)) p0)) ?_
   refine wB 60000 1 (.own true 1961) x8.2.2 (fun hw9 hl10 => ?_)
   refine tU Qa Yp [] [4, 24, 25] [(60000, [.h x8.2.1, .slc (.own true 5568) 7 ((eL x8.2.2) ++ [[.i y0, .i 0, .i 0, .s x8.1, .i 0, .i 0, .s ⟨#[]⟩]])])] [4, 60000] (pa x8.2.2 [((y0, 0, 0, x8.1, (0, 0, ⟨#[]⟩)) : Qw)] p0) ?_
   refine eqn [] [] [(60000, [.h x8.2.1, .o 5568 (x8.2.2 ++ [((y0, 0, 0, x8.1, (0, 0, ⟨#[]⟩)) : Qw)])])] [60000] (by rw [show ((eL x8.2.2) ++ [[.i y0, .i 0, .i 0, .s x8.1, .i 0, .i 0, .s ⟨#[]⟩]]) = (eL (x8.2.2 ++ [((y0, 0, 0, x8.1, (0, 0, ⟨#[]⟩)) : Qw)])) from Je (rfl) (rfl)]; first | done | kernel_rfl) ?_
   refine sn Qa [0, 2] [60000] (p0) ?_
   refine Qe ?_
   have hE11 : Xc (n_ + 1) bf bn = ((y0 != (0 : Int)), x8.2.1, x8.2.2 ++ [((y0, 0, 0, x8.1, (0, 0, ⟨#[]⟩)) : Qw)]) := E9 hx1 (V4 hD0.1 (E9 hx4 (Xi h7 (E9 hx8 (rfl)))))
   exact BA [] (congrArg (fun z => (.b z.1 : AV)) hE11.symm) (congrArg (fun z => ([.h z.2.1, .o 41 z.2.2] : List C)) hE11.symm)
  refine Qc ?_
  refine sn Qa [0, 2, 4, 6, 24, 32] [4, 60000] (p0) ?_
  refine mz [(32, .b (y0 == (3 : Int)))] [25] [] [] ?_
  refine jn [(32, .b (bif (y0 == (3 : Int)) then (y0 == (3 : Int)) else (y0 == (4 : Int))))] [32] [] [] (y0 == (3 : Int)) (fun h12 => ?_) (fun h12 => ?_) ?_
  ·
   have h12d := eq_of_beq h12
   refine ckt h12 ?_
   refine Qf ?_
   exact ⟨rfl, Qd (by rw [h12] <;> kernel_rfl)⟩
  ·
   have h12d := Yg h12
   refine ckf h12 ?_
   refine rn Qa [0, 2, 4, 6, 24, 32] [4, 60000] (p0) ?_
   exact ⟨rfl, Qd (by rw [h12] <;> kernel_rfl)⟩
  refine ck (bif (y0 == (3 : Int)) then (y0 == (3 : Int)) else (y0 == (4 : Int))) (fun h13 => ?_) (fun h13 => ?_)
  ·
   obtain ⟨x14, hx14⟩ := nm (Yd x1.2.1 x1.2.2)
   have hnx14 := D8 x1.2.1 x1.2.2
   rw [hx14] at hnx14
   refine sn Qa [0, 2, 4, 6] [4, 60000] (po 1 (.give none (.s x14.1) [.h x14.2.1, .o 41 x14.2.2]) (px (B3 (hx14 ▸ F5 x1.2.1 x1.2.2)) p0)) ?_
   obtain ⟨x15, hx15⟩ := nm (Yd x14.2.1 x14.2.2)
   have hnx15 := D8 x14.2.1 x14.2.2
   rw [hx15] at hnx15
   refine qn Qa [0, 2, 4, 6] [4, 60000] (po 1 (.give none (.s x15.1) [.h x15.2.1, .o 41 x15.2.2]) (px (B3 (hx15 ▸ F5 x14.2.1 x14.2.2)) (pc 2 (Ej x15.1) p0))) ?_
   refine wB 60000 1 (.own true 2601) x15.2.2 (fun hw16 hl17 => ?_)
   refine tU Qa Yp [(6, .b (((Qn x15.1)).2))] [4, 6, 24, 32] [(60000, [.h x15.2.1, .slc (.own true 5568) 7 ((eL x15.2.2) ++ [[.i y0, .i 0, .i 0, .s x14.1, .i ((((Qn x15.1)).1).1), .i ((((Qn x15.1)).1).2.1), .s ((((Qn x15.1)).1).2.2)]])])] [4, 60000] (pa x15.2.2 [((y0, 0, 0, x14.1, (((Qn x15.1)).1)) : Qw)] p0) ?_
   refine eqn [] [] [(60000, [.h x15.2.1, .o 5568 (x15.2.2 ++ [((y0, 0, 0, x14.1, (((Qn x15.1)).1)) : Qw)])])] [60000] (by rw [show ((eL x15.2.2) ++ [[.i y0, .i 0, .i 0, .s x14.1, .i ((((Qn x15.1)).1).1), .i ((((Qn x15.1)).1).2.1), .s ((((Qn x15.1)).1).2.2)]]) = (eL (x15.2.2 ++ [((y0, 0, 0, x14.1, (((Qn x15.1)).1)) : Qw)])) from Je (rfl) (rfl)]; first | done | kernel_rfl) ?_
   refine sn Qa [0, 2] [60000] (p0) ?_
   refine Qe ?_
   have hE18 : Xc (n_ + 1) bf bn = (((Qn x15.1)).2, x15.2.1, x15.2.2 ++ [((y0, 0, 0, x14.1, (((Qn x15.1)).1)) : Qw)]) := E9 hx1 (V4 hD0.1 (E9 hx4 (Qk h7 (Xi h13 (E9 hx14 (E9 hx15 (rfl)))))))
   exact BA [] (congrArg (fun z => (.b z.1 : AV)) hE18.symm) (congrArg (fun z => ([.h z.2.1, .o 41 z.2.2] : List C)) hE18.symm)
  refine sn Qa [0, 2, 4, 6, 24, 45] [4, 60000] (p0) ?_
  refine ck (y0 == (5 : Int)) (fun h19 => ?_) (fun h19 => ?_)
  ·
   have h19d := eq_of_beq h19
   obtain ⟨x20, hx20⟩ := nm (Xc n_ x1.2.1 x1.2.2)
   have hqx20 := L4 n_ x1.2.1 x1.2.2
   rw [hx20] at hqx20
   refine tn Qa [0, 2, 4, 6] [4, 60000] (po 1 (.give none (.b x20.1) [.h x20.2.1, .o 41 x20.2.2]) (px (B3 (hx20 ▸ ih x1.2.1 x1.2.2 (by first | omega | (have hy0 : y0 = 6 ∨ y0 = 7 := (by simp_all); omega)) (by first | omega | (have hy0 : y0 = 6 ∨ y0 = 7 := (by simp_all); omega)) (by first | omega | (have hy0 : y0 = 6 ∨ y0 = 7 := (by simp_all); omega)))) p0)) ?_
   refine wB 60000 1 (.own true 3113) x20.2.2 (fun hw21 hl22 => ?_)
   refine qu Qa [(6, .b x20.1)] [6, 24, 32] [(4, [.i y0, .i ((x20.2.2.length : Int) - 1), .i 0, .s ⟨#[]⟩, .i 0, .i 0, .s ⟨#[]⟩]), (60000, [.h x20.2.1, .o 3113 x20.2.2])] [4, 60000] (pl 4 x20.2.2 (pe 5 (Jr (IntWalk.i64_in ((x20.2.2.length : Int) - 1) (by omega))) p0)) ?_
   refine sU Qa Yp [] [4] [(60000, [.h x20.2.1, .slc (.own true 5568) 7 ((eL x20.2.2) ++ [[.i y0, .i ((x20.2.2.length : Int) - 1), .i 0, .s ⟨#[]⟩, .i 0, .i 0, .s ⟨#[]⟩]])])] [4, 60000] (pa x20.2.2 [((y0, ((x20.2.2.length : Int) - 1), 0, ⟨#[]⟩, (0, 0, ⟨#[]⟩)) : Qw)] p0) ?_
   refine eqn [] [] [(60000, [.h x20.2.1, .o 5568 (x20.2.2 ++ [((y0, ((x20.2.2.length : Int) - 1), 0, ⟨#[]⟩, (0, 0, ⟨#[]⟩)) : Qw)])])] [60000] (by rw [show ((eL x20.2.2) ++ [[.i y0, .i ((x20.2.2.length : Int) - 1), .i 0, .s ⟨#[]⟩, .i 0, .i 0, .s ⟨#[]⟩]]) = (eL (x20.2.2 ++ [((y0, ((x20.2.2.length : Int) - 1), 0, ⟨#[]⟩, (0, 0, ⟨#[]⟩)) : Qw)])) from Je (rfl) (rfl)]; first | done | kernel_rfl) ?_
   refine sn Qa [0, 2] [60000] (p0) ?_
   refine Qe ?_
   have hE23 : Xc (n_ + 1) bf bn = (x20.1, x20.2.1, x20.2.2 ++ [((y0, ((x20.2.2.length : Int) - 1), 0, ⟨#[]⟩, (0, 0, ⟨#[]⟩)) : Qw)]) := E9 hx1 (V4 hD0.1 (E9 hx4 (Qk h7 (Qk h13 (Xi h19 (E9 hx20 (rfl)))))))
   exact BA [] (congrArg (fun z => (.b z.1 : AV)) hE23.symm) (congrArg (fun z => ([.h z.2.1, .o 41 z.2.2] : List C)) hE23.symm)
  have h19d := Yg h19
  refine Qc ?_
  refine tn Qa [0, 2, 4, 6, 24, 56] [4, 60000] (p0) ?_
  refine mz [(56, .b (y0 == (6 : Int)))] [32] [] [] ?_
  obtain ⟨x24, hx24⟩ := nm ((bif (y0 == (6 : Int)) then (y0 == (6 : Int)) else (y0 == (7 : Int))))
  refine jn [(56, .b x24)] [24, 56] [] [] (y0 == (6 : Int)) (fun h25 => ?_) (fun h25 => ?_) ?_
  ·
   have h25d := eq_of_beq h25
   refine ckt h25 ?_
   refine Qf ?_
   obtain rfl : x24 = (y0 == (6 : Int)) := hx24.symm.trans (show (bif (y0 == (6 : Int)) then (y0 == (6 : Int)) else (y0 == (7 : Int))) = (y0 == (6 : Int)) from Xi h25 (rfl))
   exact ⟨rfl, Qd (by kernel_rfl)⟩
  ·
   have h25d := Yg h25
   refine ckf h25 ?_
   refine rn Qa [0, 2, 4, 6, 56] [4, 60000] (p0) ?_
   obtain rfl : x24 = (y0 == (7 : Int)) := hx24.symm.trans (show (bif (y0 == (6 : Int)) then (y0 == (6 : Int)) else (y0 == (7 : Int))) = (y0 == (7 : Int)) from Qk h25 (rfl))
   exact ⟨rfl, Qd (by kernel_rfl)⟩
  refine ck x24 (fun h26 => ?_) (fun h26 => ?_)
  ·
   obtain ⟨x27, hx27⟩ := nm (Xc n_ x1.2.1 x1.2.2)
   have hqx27 := L4 n_ x1.2.1 x1.2.2
   rw [hx27] at hqx27
   refine sn Qa [0, 2, 4, 6] [4, 60000] (po 1 (.give none (.b x27.1) [.h x27.2.1, .o 41 x27.2.2]) (px (B3 (hx27 ▸ ih x1.2.1 x1.2.2 (by first | omega | (have hy0 : y0 = 6 ∨ y0 = 7 := (by simp_all); omega)) (by first | omega | (have hy0 : y0 = 6 ∨ y0 = 7 := (by simp_all); omega)) (by first | omega | (have hy0 : y0 = 6 ∨ y0 = 7 := (by simp_all); omega)))) p0)) ?_
   refine wB 60000 1 (.own true 3881) x27.2.2 (fun hw28 hl29 => ?_)
   refine tn Qa [0, 2, 4, 6] [4, 60000] (pl 4 x27.2.2 (pe 5 (Jr (IntWalk.i64_in ((x27.2.2.length : Int) - 1) (by omega))) p0)) ?_
   refine Qc ?_
   refine Xr x27.1 (fun h30 => ?_) (fun h30 => ?_)
   ·
    obtain ⟨x31, hx31⟩ := nm (Xc n_ x27.2.1 x27.2.2)
    have hqx31 := L4 n_ x27.2.1 x27.2.2
    rw [hx31] at hqx31
    refine qu Qa [(6, .b x31.1)] [6, 56] [(4, [.i y0, .i ((x27.2.2.length : Int) - 1), .i 0, .s ⟨#[]⟩, .i 0, .i 0, .s ⟨#[]⟩]), (60000, [.h x31.2.1, .o 4585 x31.2.2])] [4, 60000] (pt 0 h30 (po 3 (.give none (.b x31.1) [.h x31.2.1, .o 41 x31.2.2]) (px (B3 (hx31 ▸ ih x27.2.1 x27.2.2 (by first | omega | (have hy0 : y0 = 6 ∨ y0 = 7 := (by simp_all); omega)) (by first | omega | (have hy0 : y0 = 6 ∨ y0 = 7 := (by simp_all); omega)) (by first | omega | (have hy0 : y0 = 6 ∨ y0 = 7 := (by simp_all); omega)))) p0))) ?_
    refine wB 60000 1 (.own true 4585) x31.2.2 (fun hw32 hl33 => ?_)
    refine rn Qa [0, 2, 4, 6] [4, 60000] (pl 4 x31.2.2 (pe 5 (Jr (IntWalk.i64_in ((x31.2.2.length : Int) - 1) (by omega))) p0)) ?_
    refine tU Qa Yp [] [4] [(60000, [.h x31.2.1, .slc (.own true 5568) 7 ((eL x31.2.2) ++ [[.i y0, .i ((x27.2.2.length : Int) - 1), .i ((x31.2.2.length : Int) - 1), .s ⟨#[]⟩, .i 0, .i 0, .s ⟨#[]⟩]])])] [4, 60000] (pa x31.2.2 [((y0, ((x27.2.2.length : Int) - 1), ((x31.2.2.length : Int) - 1), ⟨#[]⟩, (0, 0, ⟨#[]⟩)) : Qw)] p0) ?_
    refine eqn [] [] [(60000, [.h x31.2.1, .o 5568 (x31.2.2 ++ [((y0, ((x27.2.2.length : Int) - 1), ((x31.2.2.length : Int) - 1), ⟨#[]⟩, (0, 0, ⟨#[]⟩)) : Qw)])])] [60000] (by rw [show ((eL x31.2.2) ++ [[.i y0, .i ((x27.2.2.length : Int) - 1), .i ((x31.2.2.length : Int) - 1), .s ⟨#[]⟩, .i 0, .i 0, .s ⟨#[]⟩]]) = (eL (x31.2.2 ++ [((y0, ((x27.2.2.length : Int) - 1), ((x31.2.2.length : Int) - 1), ⟨#[]⟩, (0, 0, ⟨#[]⟩)) : Qw)])) from Je (rfl) (rfl)]; first | done | kernel_rfl) ?_
    refine sn Qa [0, 2] [60000] (p0) ?_
    refine Qe ?_
    have hE34 : Xc (n_ + 1) bf bn = (x31.1, x31.2.1, x31.2.2 ++ [((y0, ((x27.2.2.length : Int) - 1), ((x31.2.2.length : Int) - 1), ⟨#[]⟩, (0, 0, ⟨#[]⟩)) : Qw)]) := E9 hx1 (V4 hD0.1 (E9 hx4 (Qk h7 (Qk h13 (Qk h19 (E9 hx24 (Xi h26 (E9 hx27 (Xi h30 (E9 hx31 (rfl)))))))))))
    exact BA [] (congrArg (fun z => (.b z.1 : AV)) hE34.symm) (congrArg (fun z => ([.h z.2.1, .o 41 z.2.2] : List C)) hE34.symm)
   refine qu Qa [(6, .b false)] [6, 56] [(4, [.i y0, .i ((x27.2.2.length : Int) - 1), .i 0, .s ⟨#[]⟩, .i 0, .i 0, .s ⟨#[]⟩]), (60000, [.h x27.2.1, .o 3881 x27.2.2])] [4, 60000] (pf 0 h30 p0) ?_
   refine rn Qa [0, 2, 4, 6] [4, 60000] (pl 4 x27.2.2 (pe 5 (Jr (IntWalk.i64_in ((x27.2.2.length : Int) - 1) (by omega))) p0)) ?_
   refine tU Qa Yp [] [4] [(60000, [.h x27.2.1, .slc (.own true 5568) 7 ((eL x27.2.2) ++ [[.i y0, .i ((x27.2.2.length : Int) - 1), .i ((x27.2.2.length : Int) - 1), .s ⟨#[]⟩, .i 0, .i 0, .s ⟨#[]⟩]])])] [4, 60000] (pa x27.2.2 [((y0, ((x27.2.2.length : Int) - 1), ((x27.2.2.length : Int) - 1), ⟨#[]⟩, (0, 0, ⟨#[]⟩)) : Qw)] p0) ?_
   refine eqn [] [] [(60000, [.h x27.2.1, .o 5568 (x27.2.2 ++ [((y0, ((x27.2.2.length : Int) - 1), ((x27.2.2.length : Int) - 1), ⟨#[]⟩, (0, 0, ⟨#[]⟩)) : Qw)])])] [60000] (by rw [show ((eL x27.2.2) ++ [[.i y0, .i ((x27.2.2.length : Int) - 1), .i ((x27.2.2.length : Int) - 1), .s ⟨#[]⟩, .i 0, .i 0, .s ⟨#[]⟩]]) = (eL (x27.2.2 ++ [((y0, ((x27.2.2.length : Int) - 1), ((x27.2.2.length : Int) - 1), ⟨#[]⟩, (0, 0, ⟨#[]⟩)) : Qw)])) from Je (rfl) (rfl)]; first | done | kernel_rfl) ?_
   refine su Qa [] [6] [] [] (p0) ?_
   refine Qe ?_
   have hE35 : Xc (n_ + 1) bf bn = (false, x27.2.1, x27.2.2 ++ [((y0, ((x27.2.2.length : Int) - 1), ((x27.2.2.length : Int) - 1), ⟨#[]⟩, (0, 0, ⟨#[]⟩)) : Qw)]) := E9 hx1 (V4 hD0.1 (E9 hx4 (Qk h7 (Qk h13 (Qk h19 (E9 hx24 (Xi h26 (E9 hx27 (Qk h30 (rfl))))))))))
   exact BA [] (congrArg (fun z => (.b z.1 : AV)) hE35.symm) (congrArg (fun z => ([.h z.2.1, .o 41 z.2.2] : List C)) hE35.symm)
  refine Qf ?_
  refine wB 60000 1 (.own true 553) x1.2.2 (fun hw36 hl37 => ?_)
  refine sU Qa Yp [] [4, 56] [(60000, [.h x1.2.1, .slc (.own true 5568) 7 ((eL x1.2.2) ++ [[.i y0, .i 0, .i 0, .s ⟨#[]⟩, .i 0, .i 0, .s ⟨#[]⟩]])])] [4, 60000] (pa x1.2.2 [((y0, 0, 0, ⟨#[]⟩, (0, 0, ⟨#[]⟩)) : Qw)] p0) ?_
  refine eqn [] [] [(60000, [.h x1.2.1, .o 5568 (x1.2.2 ++ [((y0, 0, 0, ⟨#[]⟩, (0, 0, ⟨#[]⟩)) : Qw)])])] [60000] (by rw [show ((eL x1.2.2) ++ [[.i y0, .i 0, .i 0, .s ⟨#[]⟩, .i 0, .i 0, .s ⟨#[]⟩]]) = (eL (x1.2.2 ++ [((y0, 0, 0, ⟨#[]⟩, (0, 0, ⟨#[]⟩)) : Qw)])) from Je (rfl) (rfl)]; first | done | kernel_rfl) ?_
  refine sn Qa [0, 2] [60000] (p0) ?_
  refine Qe ?_
  have hE38 : Xc (n_ + 1) bf bn = ((y0 != (0 : Int)), x1.2.1, x1.2.2 ++ [((y0, 0, 0, ⟨#[]⟩, (0, 0, ⟨#[]⟩)) : Qw)]) := E9 hx1 (V4 hD0.1 (E9 hx4 (Qk h7 (Qk h13 (Qk h19 (E9 hx24 (Qk h26 (rfl))))))))
  exact BA [] (congrArg (fun z => (.b z.1 : AV)) hE38.symm) (congrArg (fun z => ([.h z.2.1, .o 41 z.2.2] : List C)) hE38.symm)
open GoE (enc wide)
def U5 (p : (List ByteArray)) (at_ : Int) (k0 : Nat) (s0 : Int) : Rd ((List Qw) × Int) (Int) (Int) := (bif ((Qh p at_).toList == (Xk ((k0 + 1 : Nat) : Int)).toList) then (.next ((k0 + 1 : Nat) : Int)) else (.next s0))
def Ay (_ : Nat) (s0 : Int) : Int := s0
def Xv (n_ : Nat) (p : (List ByteArray)) (at_ : Int) (q : (List Qw)) (deep : Int) : (List Qw) × Int := match n_ with
 | 0 => default
 | n_ + 1 => (Out.on (Jn (U5 p at_) Ay (Int.toNat (((9 : Int) + 1) - 1)) 0 0) (fun y0 => (bif ((y0 == (0 : Int)) || (decide (deep > (9 : Int)) || decide ((q.length : Int) > (9 : Int)))) then (q, 0) else (bif ((y0 == (2 : Int)) || ((y0 == (8 : Int)) || (y0 == (9 : Int)))) then (q ++ [((y0, 0, 0, (Qh p (IntKind.i64.wrap (at_ + 1))), (0, 0, ⟨#[]⟩)) : Qw)], 2) else (bif ((y0 == (3 : Int)) || (y0 == (4 : Int))) then (q ++ [((y0, 0, 0, (Qh p (IntKind.i64.wrap (at_ + 1))), (((Q8 (Qh p (IntKind.i64.wrap (at_ + 2))))).1)) : Qw)], 3) else (bif (Xf y0 5 7) then (lt (Xv n_ p (IntKind.i64.wrap (at_ + 1)) q (IntKind.i64.wrap (deep + 1))) (fun x16 => (bif (x16.2 == (0 : Int)) then (x16.1, 0) else (bif (y0 != (5 : Int)) then (lt (Xv n_ p (IntKind.i64.wrap (at_ + IntKind.i64.wrap (1 + x16.2))) x16.1 (IntKind.i64.wrap (deep + 1))) (fun x21 => (bif (x21.2 == (0 : Int)) then (x21.1, 0) else (x21.1 ++ [((y0, ((x16.1.length : Int) - 1), ((x21.1.length : Int) - 1), ⟨#[]⟩, (0, 0, ⟨#[]⟩)) : Qw)], IntKind.i64.wrap (IntKind.i64.wrap (1 + x16.2) + x21.2))))) else (x16.1 ++ [((y0, ((x16.1.length : Int) - 1), 0, ⟨#[]⟩, (0, 0, ⟨#[]⟩)) : Qw)], IntKind.i64.wrap (1 + x16.2)))))) else (q ++ [((y0, 0, 0, ⟨#[]⟩, (0, 0, ⟨#[]⟩)) : Qw)], 1)))))))
theorem LT {p : List ByteArray} {at_ : Int} {k : Int} (h : ((Qh p at_).toList == (Xk k).toList) = true) : at_ < (p.length : Int) := by
  have h1 := H6 h
  have h2 := Qdj k
  rw [← BT, ← h1] at h2
  unfold Qh at h2
  by_cases hc : at_ ≥ (p.length : Int)
  · rw [decide_eq_true hc, cond_true] at h2; exact absurd h2 (by decide)
  omega
theorem LU {p : List ByteArray} {at_ : Int} (h : Gu (Qh p at_) ≠ 0) : at_ < (p.length : Int) := by
  have h2 := LR h
  unfold Qh at h2
  by_cases hc : at_ ≥ (p.length : Int)
  · rw [decide_eq_true hc, cond_true] at h2; exact absurd h2 (by decide)
  omega
theorem TD (p : List ByteArray) (at_ : Int) : Jn (U5 p at_) Ay (Int.toNat (((9 : Int) + 1) - 1)) 0 0 = .brk (Gu (Qh p at_)) := by
 rw [Fo (f := U5 p at_) (e := Ay) (p := fun k => (Qo ((k + 1 : Nat) : Int)).toList == (Qh p at_).toList) (fun k s => by
  unfold U5
  rw [BT, show ((Qh p at_).toList == (Qo ((k + 1 : Nat) : Int)).toList) = ((Qo ((k + 1 : Nat) : Int)).toList == (Qh p at_).toList) from Bool.eq_iff_iff.2 (by simp only [beq_iff_eq]; exact eq_comm)]) (fun _ _ => rfl)]
 rfl
theorem Cx : ∀ (n : Nat) (p : List ByteArray) (at_ : Int) (q : List Qw) (deep : Int), 0 ≤ at_ → at_ ≤ 30 → p.length ≤ 24 → 0 ≤ deep → deep ≤ 10 →
  ((Xv n p at_ q deep).1.length ≤ q.length ∨ (Xv n p at_ q deep).1.length ≤ 9 + n) ∧ 0 ≤ (Xv n p at_ q deep).2 ∧ ((Xv n p at_ q deep).2 = 0 ∨ at_ + (Xv n p at_ q deep).2 ≤ (p.length : Int) + 2)
 | 0, p, at_, q, deep, _, _, _, _, _ => ⟨.inl (Nat.zero_le _), Int.le_refl _, .inl rfl⟩
 | n + 1, p, at_, q, deep, h0, h1, hp, hd, hx => by
  unfold Xv lt
  rw [TD]
  simp only [Out.on]
  have hy := LU (p := p) (at_ := at_)
  generalize Gu (Qh p at_) = y0 at hy ⊢
  rw [IntWalk.i64_in (at_ + 1) (by omega), IntWalk.i64_in (deep + 1) (by omega)]
  cases c0 : ((y0 == (0 : Int)) || (decide (deep > (9 : Int)) || decide ((q.length : Int) > (9 : Int)))) with
  | true => exact ⟨.inl (Nat.le_refl _), Int.le_refl _, .inl rfl⟩
  | false =>
   obtain ⟨c1, c2⟩ := bo c0
   obtain ⟨c3, c4⟩ := bo c2
   have c1 := ne_of_beq_false c1
   have c3 := of_decide_eq_false c3
   have c4 := of_decide_eq_false c4
   have hlt := hy c1
   simp only [cond_false]
   cases ((y0 == (2 : Int)) || ((y0 == (8 : Int)) || (y0 == (9 : Int)))) with
   | true => simp only [cond_true, List.length_append, List.length_cons, List.length_nil]; omega
   | false =>
   cases ((y0 == (3 : Int)) || (y0 == (4 : Int))) with
   | true => simp only [cond_true, cond_false, List.length_append, List.length_cons, List.length_nil]; omega
   | false =>
   cases Xf y0 5 7 with
   | false => simp only [cond_false, List.length_append, List.length_cons, List.length_nil]; omega
   | true =>
    have ih := Cx n p (at_ + 1) q (deep + 1) (by omega) (by omega) hp (by omega) (by omega)
    simp only [cond_true, cond_false]
    generalize Xv n p (at_ + 1) q (deep + 1) = x16 at ih ⊢
    cases c5 : (x16.2 == (0 : Int)) with
    | true => simp only [cond_true]; omega
    | false =>
     have c5 := ne_of_beq_false c5
     rw [IntWalk.i64_in (1 + x16.2) (by omega), IntWalk.i64_in (at_ + (1 + x16.2)) (by omega)]
     simp only [cond_false]
     cases (y0 != (5 : Int)) with
     | false => simp only [cond_false, List.length_append, List.length_cons, List.length_nil]; omega
     | true =>
      have ih2 := Cx n p (at_ + (1 + x16.2)) x16.1 (deep + 1) (by omega) (by omega) hp (by omega) (by omega)
      simp only [cond_true]
      generalize Xv n p (at_ + (1 + x16.2)) x16.1 (deep + 1) = x21 at ih2 ⊢
      cases c6 : (x21.2 == (0 : Int)) with
      | true => simp only [cond_true]; omega
      | false =>
       have c6 := ne_of_beq_false c6
       rw [IntWalk.i64_in (1 + x16.2 + x21.2) (by omega)]
       simp only [cond_false, List.length_append, List.length_cons, List.length_nil]
       omega
theorem YJ : ∀ (n_ : Nat) (p : (List ByteArray)) (at_ : Int) (q : (List Qw)) (deep : Int) (ha : 0 ≤ at_) (hz : List.length p ≤ 24) (ht : at_ ≤ 30) (hd : 0 ≤ deep) (hx : deep ≤ 10) (hn : 11 ≤ deep + ((n_ : Nat) : Int)) (hm : n_ ≤ 12), AVal Tryz.prog 197 [.h p, .i at_, .o 40 q, .i deep] (.tup [(false, [.o 0 (((Xv n_ p at_ q deep)).1)]), (false, [.i (((Xv n_ p at_ q deep)).2)])]) := by
 intro n_
 induction n_ with
 | zero => intro p at_ q deep ha hz ht hd hx hn hm; exact (by omega : False).elim
 | succ n_ ih =>
  intro p at_ q deep ha hz ht hd hx hn hm
  refine IA (tt := tt) Qa Tryz.func197 (fn := Tryz.f197) rfl (by unfold Bu; kernel_rfl) (Nat.le_of_ble_eq_true rfl) rfl fun w0 F0 hG => ?_
  have hw1 : IntKind.i64.wrap (at_ + 1) = at_ + 1 := IntWalk.i64_in _ (by omega)
  have hw2 : IntKind.i64.wrap (deep + 1) = deep + 1 := IntWalk.i64_in _ (by omega)
  have hw3 : IntKind.i64.wrap (at_ + 2) = at_ + 2 := IntWalk.i64_in _ (by omega)
  refine sn Qa [0, 1, 2, 3, 8, 9] [] (p0) ?_
  refine tn Qa [0, 1, 2, 3, 8, 9, 10] [] (p0) ?_
  refine Qc ?_
  refine tu Qa [(8, .e 0), (9, .i 0), (10, .i 0), (11, .i 1)] [] [] [] (p0) ?_
  refine Qa4 (U5 p at_) Ay (Int.toNat (((9 : Int) + 1) - 1)) 0 (fun k0 s0 => [(10, .i s0), (11, .i ((k0 + 1 : Nat) : Int))]) [10, 11] (fun y0 => [(10, .i y0)]) [10, 11] (fun _ s0 => (s0 = 0 ∨ at_ < (List.length p : Int))) (fun y0 => (y0 = 0 ∨ at_ < (List.length p : Int))) wf0 (by exact .inl rfl) (fun k0 s0 hk0 hI0 => ?_) (fun k0 s0 hk0 hI0 => ?_) (fun y0 hD0 => ?_)
  ·
   have hA0_0 := hI0.2
   refine Qc ?_
   refine su Qa [(16, .b true)] [] [] [] (pe 1 (Qz (decide_eq_true (p := ((k0 + 1 : Nat) : Int) ≤ (9 : Int)) (by omega))) p0) ?_
   refine ckT ?_
   refine Qf ?_
   refine Qc ?_
   refine Qy ?_
   have hk1 := TB ((k0 + 1 : Nat) : Int)
   refine sn Qa [0, 1, 2, 3, 8, 9, 10, 11, 24] [] (pc 2 (Jl p at_ (by omega)) (pc 4 (Fl ((k0 + 1 : Nat) : Int)) p0)) ?_
   refine ck ((Qh p at_).toList == (Xk ((k0 + 1 : Nat) : Int)).toList) (fun h2 => ?_) (fun h2 => ?_)
   ·
    refine qn Qa [0, 1, 2, 3, 8, 9, 10, 11] [] (p0) ?_
    refine qu Qa [(10, .i ((k0 + 1 : Nat) : Int)), (11, .i ((k0 + 2 : Nat) : Int))] [10, 11, 16] [] [] (pe 1 (show .i (IntKind.i64.wrap (((k0 + 1 : Nat) : Int) + 1)) = .i ((k0 + 2 : Nat) : Int) from Jr ((IntWalk.i64_in _ (by omega)).trans (by omega))) p0) ?_
    exact xw ((k0 + 1 : Nat) : Int) ⟨Zu hk0 (Xi h2 (rfl)) hI0.1, (by first | exact hA0_0 | exact .inr (LT (by assumption)))⟩
   refine Qf ?_
   refine qn Qa [0, 1, 2, 3, 8, 9, 10, 11] [] (pe 1 (show .i (IntKind.i64.wrap (((k0 + 1 : Nat) : Int) + 1)) = .i ((k0 + 2 : Nat) : Int) from Jr ((IntWalk.i64_in _ (by omega)).trans (by omega))) p0) ?_
   exact xw s0 ⟨Zu hk0 (Qk h2 (rfl)) hI0.1, (by first | exact hA0_0 | exact .inr (LT (by assumption)))⟩
  ·
   have hA0_0 := hI0.2
   refine Qc ?_
   refine su Qa [(16, .b false)] [] [] [] (pe 1 (Qz (decide_eq_false (p := ((k0 + 1 : Nat) : Int) ≤ (9 : Int)) (by omega))) p0) ?_
   refine ckF ?_
   refine Xs ?_
   exact xw s0 ⟨Up hk0 (rfl) hI0.1, by exact hA0_0⟩
  have hD0_0 := hD0.2
  refine sn Qa [0, 1, 2, 3, 8, 9, 10, 12] [12] (p0) ?_
  refine tn Qa [0, 1, 2, 3, 8, 9, 10, 12, 13] [12] (p0) ?_
  refine Qc ?_
  refine Qy ?_
  refine Qc ?_
  refine mz [(12, .p 12 0), (13, .i 1)] [] [(12, [.i y0, .i 0, .i 0, .s ⟨#[]⟩, .i 0, .i 0, .s ⟨#[]⟩])] [] ?_
  refine jn [(28, .b ((y0 == (0 : Int)) || (decide (deep > (9 : Int)) || decide ((q.length : Int) > (9 : Int)))))] [] [] [] (y0 == (0 : Int)) (fun h3 => ?_) (fun h3 => ?_) ?_
  ·
   have h3d := eq_of_beq h3
   refine ru Qa [(28, .b true)] [] [] [] (pt 1 h3 p0) ?_
   exact ⟨rfl, Qd (by rw [h3] <;> kernel_rfl)⟩
  ·
   have h3d := Yg h3
   refine Xr (decide (deep > (9 : Int))) (fun h4 => ?_) (fun h4 => ?_)
   ·
    have h4d := of_decide_eq_true h4
    refine ru Qa [(28, .b true)] [] [] [] (pf 1 h3 (pt 4 h4 p0)) ?_
    exact ⟨rfl, Qd (by rw [h3, h4] <;> kernel_rfl)⟩
   have h4d := of_decide_eq_false h4
   refine rn Qa [0, 1, 2, 3, 8, 9, 10, 12, 13, 28] [12] (pf 1 h3 (pf 4 h4 (pl 8 q p0))) ?_
   exact ⟨rfl, Qd (by rw [h3, h4] <;> kernel_rfl)⟩
  refine ck ((y0 == (0 : Int)) || (decide (deep > (9 : Int)) || decide ((q.length : Int) > (9 : Int)))) (fun h5 => ?_) (fun h5 => ?_)
  ·
   refine sn Qa [2, 8, 9, 12, 13] [12] (p0) ?_
   refine Qe ?_
   exact pz [] (show Xv (n_ + 1) p at_ q deep = _ from V4 hD0.1 (Xi h5 (rfl))) (fun z => .tup [(false, [.o 0 z.1]), (false, [.i z.2])])
  have h5l : ((y0 == (0 : Int))) = false := UE h5
  have h5ld := Yg h5l
  have h5r : ((decide (deep > (9 : Int)) || decide ((q.length : Int) > (9 : Int)))) = false := UF h5
  have h5rl : (decide (deep > (9 : Int))) = false := UE h5r
  have h5rld := of_decide_eq_false h5rl
  have h5rr : (decide ((q.length : Int) > (9 : Int))) = false := UF h5r
  have h5rrd := of_decide_eq_false h5rr
  refine Qc ?_
  refine jn [(41, .b ((y0 == (2 : Int)) || ((y0 == (8 : Int)) || (y0 == (9 : Int)))))] [28] [] [] (y0 == (2 : Int)) (fun h6 => ?_) (fun h6 => ?_) ?_
  ·
   have h6d := eq_of_beq h6
   refine ru Qa [(41, .b true)] [28] [] [] (pt 1 h6 p0) ?_
   exact ⟨rfl, Qd (by rw [h6] <;> kernel_rfl)⟩
  ·
   have h6d := Yg h6
   refine Xr (y0 == (8 : Int)) (fun h7 => ?_) (fun h7 => ?_)
   ·
    have h7d := eq_of_beq h7
    refine ru Qa [(41, .b true)] [28] [] [] (pf 1 h6 (pt 4 h7 p0)) ?_
    exact ⟨rfl, Qd (by rw [h6, h7] <;> kernel_rfl)⟩
   have h7d := Yg h7
   refine ru Qa [(41, .b (y0 == (9 : Int)))] [28] [] [] (pf 1 h6 (pf 4 h7 p0)) ?_
   exact ⟨rfl, Qd (by rw [h6, h7] <;> kernel_rfl)⟩
  refine ck ((y0 == (2 : Int)) || ((y0 == (8 : Int)) || (y0 == (9 : Int)))) (fun h8 => ?_) (fun h8 => ?_)
  ·
   refine sn Qa [2, 8, 9, 12, 13] [12] (pc 3 (Jl p (IntKind.i64.wrap (at_ + 1)) (by omega)) p0) ?_
   refine qn Qa [2, 8, 9, 12, 13] [12] (p0) ?_
   refine wT 2 0 (.own true 40) q (fun hw9 hl10 => ?_)
   refine tu Qa [(8, .one (.slc (.own true 8064) 7 ((eL q) ++ [[.i y0, .i 0, .i 0, .s (Qh p (IntKind.i64.wrap (at_ + 1))), .i 0, .i 0, .s ⟨#[]⟩]]))), (9, .i 2)] [0, 1, 2, 3, 8, 9, 10, 12, 13, 41] [] [12] (pa q [((y0, 0, 0, (Qh p (IntKind.i64.wrap (at_ + 1))), (0, 0, ⟨#[]⟩)) : Qw)] p0) ?_
   refine eqn [(8, .o 8064 (q ++ [((y0, 0, 0, (Qh p (IntKind.i64.wrap (at_ + 1))), (0, 0, ⟨#[]⟩)) : Qw)]))] [8] [] [] (by rw [show ((eL q) ++ [[.i y0, .i 0, .i 0, .s (Qh p (IntKind.i64.wrap (at_ + 1))), .i 0, .i 0, .s ⟨#[]⟩]]) = (eL (q ++ [((y0, 0, 0, (Qh p (IntKind.i64.wrap (at_ + 1))), (0, 0, ⟨#[]⟩)) : Qw)])) from Je (rfl) (rfl)]; first | done | kernel_rfl) ?_
   refine Qe ?_
   exact pz [] (show Xv (n_ + 1) p at_ q deep = _ from V4 hD0.1 (Qk h5 (Xi h8 (rfl)))) (fun z => .tup [(false, [.o 0 z.1]), (false, [.i z.2])])
  have h8l : ((y0 == (2 : Int))) = false := UE h8
  have h8ld := Yg h8l
  have h8r : (((y0 == (8 : Int)) || (y0 == (9 : Int)))) = false := UF h8
  have h8rl : ((y0 == (8 : Int))) = false := UE h8r
  have h8rld := Yg h8rl
  have h8rr : ((y0 == (9 : Int))) = false := UF h8r
  have h8rrd := Yg h8rr
  refine Qc ?_
  refine jn [(57, .b ((y0 == (3 : Int)) || (y0 == (4 : Int))))] [41] [] [] (y0 == (3 : Int)) (fun h11 => ?_) (fun h11 => ?_) ?_
  ·
   have h11d := eq_of_beq h11
   refine ru Qa [(57, .b true)] [41] [] [] (pt 1 h11 p0) ?_
   exact ⟨rfl, Qd (by rw [h11] <;> kernel_rfl)⟩
  ·
   have h11d := Yg h11
   refine ru Qa [(57, .b (y0 == (4 : Int)))] [41] [] [] (pf 1 h11 p0) ?_
   exact ⟨rfl, Qd (by rw [h11] <;> kernel_rfl)⟩
  refine ck ((y0 == (3 : Int)) || (y0 == (4 : Int))) (fun h12 => ?_) (fun h12 => ?_)
  ·
   refine sn Qa [0, 1, 2, 8, 9, 12, 13] [12] (pc 3 (Jl p (IntKind.i64.wrap (at_ + 1)) (by omega)) p0) ?_
   refine tn Qa [2, 8, 9, 12, 13] [12] (pc 3 (Jl p (IntKind.i64.wrap (at_ + 2)) (by omega)) (pc 4 (Ek (Qh p (IntKind.i64.wrap (at_ + 2)))) p0)) ?_
   refine qu Qa [(13, .i 3)] [0, 1, 3, 10, 13, 57] [(12, [.i y0, .i 0, .i 0, .s (Qh p (IntKind.i64.wrap (at_ + 1))), .i ((((Q8 (Qh p (IntKind.i64.wrap (at_ + 2))))).1).1), .i ((((Q8 (Qh p (IntKind.i64.wrap (at_ + 2))))).1).2.1), .s ((((Q8 (Qh p (IntKind.i64.wrap (at_ + 2))))).1).2.2)])] [12] (p0) ?_
   refine wT 2 0 (.own true 40) q (fun hw13 hl14 => ?_)
   refine su Qa [(8, .one (.slc (.own true 8064) 7 ((eL q) ++ [[.i y0, .i 0, .i 0, .s (Qh p (IntKind.i64.wrap (at_ + 1))), .i ((((Q8 (Qh p (IntKind.i64.wrap (at_ + 2))))).1).1), .i ((((Q8 (Qh p (IntKind.i64.wrap (at_ + 2))))).1).2.1), .s ((((Q8 (Qh p (IntKind.i64.wrap (at_ + 2))))).1).2.2)]]))), (9, .i 3)] [2, 8, 9, 12, 13] [] [12] (pa q [((y0, 0, 0, (Qh p (IntKind.i64.wrap (at_ + 1))), (((Q8 (Qh p (IntKind.i64.wrap (at_ + 2))))).1)) : Qw)] p0) ?_
   refine eqn [(8, .o 8064 (q ++ [((y0, 0, 0, (Qh p (IntKind.i64.wrap (at_ + 1))), (((Q8 (Qh p (IntKind.i64.wrap (at_ + 2))))).1)) : Qw)]))] [8] [] [] (by rw [show ((eL q) ++ [[.i y0, .i 0, .i 0, .s (Qh p (IntKind.i64.wrap (at_ + 1))), .i ((((Q8 (Qh p (IntKind.i64.wrap (at_ + 2))))).1).1), .i ((((Q8 (Qh p (IntKind.i64.wrap (at_ + 2))))).1).2.1), .s ((((Q8 (Qh p (IntKind.i64.wrap (at_ + 2))))).1).2.2)]]) = (eL (q ++ [((y0, 0, 0, (Qh p (IntKind.i64.wrap (at_ + 1))), (((Q8 (Qh p (IntKind.i64.wrap (at_ + 2))))).1)) : Qw)])) from Je (rfl) (rfl)]; first | done | kernel_rfl) ?_
   refine Qe ?_
   exact pz [] (show Xv (n_ + 1) p at_ q deep = _ from V4 hD0.1 (Qk h5 (Qk h8 (Xi h12 (rfl))))) (fun z => .tup [(false, [.o 0 z.1]), (false, [.i z.2])])
  have h12l : ((y0 == (3 : Int))) = false := UE h12
  have h12ld := Yg h12l
  have h12r : ((y0 == (4 : Int))) = false := UF h12
  have h12rd := Yg h12r
  refine sn Qa [0, 1, 2, 3, 8, 9, 10, 12, 13, 78] [12] (pc 1 (Y5 y0 5 7) p0) ?_
  refine ck (Xf y0 5 7) (fun h15 => ?_) (fun h15 => ?_)
  ·
   have h15w := Rm.1 h15
   refine tu Qa [(14, .i 0)] [57] [] [] (p0) ?_
   obtain ⟨x16, hx16⟩ := nm ((Xv n_ p (IntKind.i64.wrap (at_ + 1)) q (IntKind.i64.wrap (deep + 1))))
   have hrx16 := Cx n_ p (IntKind.i64.wrap (at_ + 1)) q (IntKind.i64.wrap (deep + 1)) (by omega) (by omega) (by omega) (by omega) (by omega)
   rw [hx16] at hrx16
   have hux16 : IntKind.i64.wrap (1 + x16.2) = 1 + x16.2 := IntWalk.i64_in _ (by omega)
   have hvx16 : IntKind.i64.wrap (at_ + IntKind.i64.wrap (1 + x16.2)) = at_ + (1 + x16.2) := by rw [hux16]; exact IntWalk.i64_in _ (by omega)
   refine sn Qa [0, 1, 2, 3, 8, 9, 10, 12, 13, 14] [12] (po 6 (.giv [40] (.tup [(false, [.o 0 x16.1]), (false, [.i x16.2])])) (px (AQ (hx16 ▸ ih p (IntKind.i64.wrap (at_ + 1)) q (IntKind.i64.wrap (deep + 1)) (by omega) (by omega) (by omega) (by omega) (by omega) (by omega) (by omega))) p0)) ?_
   refine wT 2 0 (.own true 5632) x16.1 (fun hw17 hl18 => ?_)
   refine tn Qa [0, 1, 2, 3, 8, 9, 10, 12, 13, 14] [12] (pl 1 x16.1 (pe 2 (Jr (IntWalk.i64_in ((x16.1.length : Int) - 1) (by omega))) p0)) ?_
   refine tu Qa [(2, .o 5632 x16.1), (13, .i (IntKind.i64.wrap (1 + x16.2))), (14, .i x16.2)] [2, 13, 14] [(12, [.i y0, .i ((x16.1.length : Int) - 1), .i 0, .s ⟨#[]⟩, .i 0, .i 0, .s ⟨#[]⟩])] [12] (p0) ?_
   refine Qc ?_
   refine su Qa [(98, .b (x16.2 == (0 : Int)))] [] [] [] (p0) ?_
   refine ck (x16.2 == (0 : Int)) (fun h19 => ?_) (fun h19 => ?_)
   ·
    have h19d := eq_of_beq h19
    refine su Qa [(8, .o 5632 x16.1)] [8, 98] [] [] (p0) ?_
    refine Qe ?_
    exact pz [] (show Xv (n_ + 1) p at_ q deep = _ from V4 hD0.1 (Qk h5 (Qk h8 (Qk h12 (Xi h15 (E9 hx16 (Xi h19 (rfl)))))))) (fun z => .tup [(false, [.o 0 z.1]), (false, [.i z.2])])
   have h19d := Yg h19
   refine Qf ?_
   refine sn Qa [0, 1, 2, 3, 8, 9, 12, 13, 14, 101] [12] (p0) ?_
   refine ck (y0 != (5 : Int)) (fun h20 => ?_) (fun h20 => ?_)
   ·
    have h20d := Rj h20
    obtain ⟨x21, hx21⟩ := nm ((Xv n_ p (IntKind.i64.wrap (at_ + IntKind.i64.wrap (1 + x16.2))) x16.1 (IntKind.i64.wrap (deep + 1))))
    have hrx21 := Cx n_ p (IntKind.i64.wrap (at_ + IntKind.i64.wrap (1 + x16.2))) x16.1 (IntKind.i64.wrap (deep + 1)) (by omega) (by omega) (by omega) (by omega) (by omega)
    rw [hx21] at hrx21
    have hux21 : IntKind.i64.wrap (1 + x21.2) = 1 + x21.2 := IntWalk.i64_in _ (by omega)
    have hvx21 : IntKind.i64.wrap (at_ + IntKind.i64.wrap (1 + x21.2)) = at_ + (1 + x21.2) := by rw [hux21]; exact IntWalk.i64_in _ (by omega)
    refine tn Qa [2, 8, 9, 12, 13, 14] [12] (po 7 (.giv [5632] (.tup [(false, [.o 0 x21.1]), (false, [.i x21.2])])) (px (AQ (hx21 ▸ ih p (IntKind.i64.wrap (at_ + IntKind.i64.wrap (1 + x16.2))) x16.1 (IntKind.i64.wrap (deep + 1)) (by omega) (by omega) (by omega) (by omega) (by omega) (by omega) (by omega))) p0)) ?_
    refine wT 2 0 (.own true 7040) x21.1 (fun hw22 hl23 => ?_)
    refine tu Qa [(2, .o 7040 x21.1), (14, .i x21.2)] [0, 1, 2, 3, 10, 14, 98] [(12, [.i y0, .i ((x16.1.length : Int) - 1), .i ((x21.1.length : Int) - 1), .s ⟨#[]⟩, .i 0, .i 0, .s ⟨#[]⟩])] [12] (pl 1 x21.1 (pe 2 (Jr (IntWalk.i64_in ((x21.1.length : Int) - 1) (by omega))) p0)) ?_
    refine sn Qa [2, 8, 9, 12, 13, 14] [12] (p0) ?_
    refine tn Qa [2, 8, 9, 12, 13, 121] [12] (p0) ?_
    refine ck (x21.2 == (0 : Int)) (fun h24 => ?_) (fun h24 => ?_)
    ·
     have h24d := eq_of_beq h24
     refine tu Qa [(8, .o 7040 x21.1), (13, .i (IntKind.i64.wrap (IntKind.i64.wrap (1 + x16.2) + x21.2)))] [8, 13, 14] [] [] (p0) ?_
     refine Qe ?_
     exact pz [] (show Xv (n_ + 1) p at_ q deep = _ from V4 hD0.1 (Qk h5 (Qk h8 (Qk h12 (Xi h15 (E9 hx16 (Qk h19 (Xi h20 (E9 hx21 (Xi h24 (rfl))))))))))) (fun z => .tup [(false, [.o 0 z.1]), (false, [.i z.2])])
    have h24d := Yg h24
    refine Qf ?_
    refine tu Qa [(8, .one (.slc (.own true 8064) 7 ((eL x21.1) ++ [[.i y0, .i ((x16.1.length : Int) - 1), .i ((x21.1.length : Int) - 1), .s ⟨#[]⟩, .i 0, .i 0, .s ⟨#[]⟩]]))), (9, .i (IntKind.i64.wrap (IntKind.i64.wrap (1 + x16.2) + x21.2)))] [2, 8, 9, 12, 13, 14] [] [12] (pa x21.1 [((y0, ((x16.1.length : Int) - 1), ((x21.1.length : Int) - 1), ⟨#[]⟩, (0, 0, ⟨#[]⟩)) : Qw)] p0) ?_
    refine eqn [(8, .o 8064 (x21.1 ++ [((y0, ((x16.1.length : Int) - 1), ((x21.1.length : Int) - 1), ⟨#[]⟩, (0, 0, ⟨#[]⟩)) : Qw)]))] [8] [] [] (by rw [show ((eL x21.1) ++ [[.i y0, .i ((x16.1.length : Int) - 1), .i ((x21.1.length : Int) - 1), .s ⟨#[]⟩, .i 0, .i 0, .s ⟨#[]⟩]]) = (eL (x21.1 ++ [((y0, ((x16.1.length : Int) - 1), ((x21.1.length : Int) - 1), ⟨#[]⟩, (0, 0, ⟨#[]⟩)) : Qw)])) from Je (rfl) (rfl)]; first | done | kernel_rfl) ?_
    refine Qe ?_
    exact pz [] (show Xv (n_ + 1) p at_ q deep = _ from V4 hD0.1 (Qk h5 (Qk h8 (Qk h12 (Xi h15 (E9 hx16 (Qk h19 (Xi h20 (E9 hx21 (Qk h24 (rfl))))))))))) (fun z => .tup [(false, [.o 0 z.1]), (false, [.i z.2])])
   have h20d := Hs h20
   refine Qf ?_
   refine tu Qa [(8, .one (.slc (.own true 8064) 7 ((eL x16.1) ++ [[.i y0, .i ((x16.1.length : Int) - 1), .i 0, .s ⟨#[]⟩, .i 0, .i 0, .s ⟨#[]⟩]]))), (9, .i (IntKind.i64.wrap (1 + x16.2)))] [0, 1, 2, 3, 8, 9, 10, 12, 13, 14, 98] [] [12] (pa x16.1 [((y0, ((x16.1.length : Int) - 1), 0, ⟨#[]⟩, (0, 0, ⟨#[]⟩)) : Qw)] p0) ?_
   refine eqn [(8, .o 8064 (x16.1 ++ [((y0, ((x16.1.length : Int) - 1), 0, ⟨#[]⟩, (0, 0, ⟨#[]⟩)) : Qw)]))] [8] [] [] (by rw [show ((eL x16.1) ++ [[.i y0, .i ((x16.1.length : Int) - 1), .i 0, .s ⟨#[]⟩, .i 0, .i 0, .s ⟨#[]⟩]]) = (eL (x16.1 ++ [((y0, ((x16.1.length : Int) - 1), 0, ⟨#[]⟩, (0, 0, ⟨#[]⟩)) : Qw)])) from Je (rfl) (rfl)]; first | done | kernel_rfl) ?_
   refine Qe ?_
   exact pz [] (show Xv (n_ + 1) p at_ q deep = _ from V4 hD0.1 (Qk h5 (Qk h8 (Qk h12 (Xi h15 (E9 hx16 (Qk h19 (Qk h20 (rfl))))))))) (fun z => .tup [(false, [.o 0 z.1]), (false, [.i z.2])])
  refine Qf ?_
  refine wT 2 0 (.own true 40) q (fun hw25 hl26 => ?_)
  refine tu Qa [(8, .one (.slc (.own true 8064) 7 ((eL q) ++ [[.i y0, .i 0, .i 0, .s ⟨#[]⟩, .i 0, .i 0, .s ⟨#[]⟩]]))), (9, .i 1)] [0, 1, 2, 3, 8, 9, 10, 12, 13, 57] [] [12] (pa q [((y0, 0, 0, ⟨#[]⟩, (0, 0, ⟨#[]⟩)) : Qw)] p0) ?_
  refine eqn [(8, .o 8064 (q ++ [((y0, 0, 0, ⟨#[]⟩, (0, 0, ⟨#[]⟩)) : Qw)]))] [8] [] [] (by rw [show ((eL q) ++ [[.i y0, .i 0, .i 0, .s ⟨#[]⟩, .i 0, .i 0, .s ⟨#[]⟩]]) = (eL (q ++ [((y0, 0, 0, ⟨#[]⟩, (0, 0, ⟨#[]⟩)) : Qw)])) from Je (rfl) (rfl)]; first | done | kernel_rfl) ?_
  refine Qe ?_
  exact pz [] (show Xv (n_ + 1) p at_ q deep = _ from V4 hD0.1 (Qk h5 (Qk h8 (Qk h12 (Qk h15 (rfl)))))) (fun z => .tup [(false, [.o 0 z.1]), (false, [.i z.2])])
def Xu (s_ : ByteArray) : (List Qw) × Bool := (bif (!(((Xd s_)).2)) then ([], false) else (lt (Xc (List.length (((Xd s_)).1) + 1) (((Xd s_)).1) ([] : (List Qw))) (fun x3 => (bif ((!x3.1) || (decide ((x3.2.1.length : Int) > (0 : Int)) || (!(Qj x3.2.2)))) then ([], false) else (x3.2.2, true)))))
theorem Og (s_ : ByteArray) : ACalls Tryz.prog 182 [.s s_] (.tup [(false, [.o 0 (((Xu s_)).1)]), (false, [.b (((Xu s_)).2)])]) := by
 refine en Qa Tryz.func182 fun w0 F0 hG => ?_
 refine sn Qa [0, 2, 3] [] (p0) ?_
 have hk1 := Qdi s_
 refine tn Qa [2, 3, 4, 5] [] (pc 1 (Nb s_) p0) ?_
 refine Qc ?_
 refine tu Qa [(2, .e 0), (3, .b false), (4, .o 576 (((Xd s_)).1)), (13, .b (!(((Xd s_)).2)))] [0] [] [] (p0) ?_
 refine ck (!(((Xd s_)).2)) (fun h2 => ?_) (fun h2 => ?_)
 ·
  refine sn Qa [2, 3, 4] [] (p0) ?_
  refine opn [(false, 2, 0, true, 384000, 7)] ?_
  refine Qe ?_
  exact pz [] (show Xu s_ = _ from Xi h2 (rfl)) (fun z => .tup [(false, [.o 0 z.1]), (false, [.b z.2])])
 refine Qf ?_
 refine sn Qa [2, 3, 6] [16] (p0) ?_
 refine Qc ?_
 obtain ⟨x3, hx3⟩ := nm (Xc (List.length (((Xd s_)).1) + 1) (((Xd s_)).1) ([] : (List Qw)))
 have hqx3 := L4 (List.length (((Xd s_)).1) + 1) (((Xd s_)).1) ([] : (List Qw))
 rw [hx3] at hqx3
 refine Qc ?_
 refine mz [(6, .p 16 0)] [4, 13] [(16, [.o 576 (((Xd s_)).1), .e 7])] [] ?_
 refine jn [(35, .b ((!x3.1) || (decide ((x3.2.1.length : Int) > (0 : Int)) || (!(Qj x3.2.2)))))] [] [(16, [.h x3.2.1, .o 1193 x3.2.2])] [16] (!x3.1) (fun h4 => ?_) (fun h4 => ?_) ?_
 ·
  have h4n : (x3.1) = false := Vz h4
  refine Au (Ww [576] rfl) ?_
  refine opn [(true, 16, 1, true, 448006, 7)] ?_
  refine rn Qa [2, 3, 6, 35] [16] (po 1 (.give none (.b false) [.h x3.2.1, .o 41 x3.2.2]) (px (B3 (gb h4n (hx3 ▸ Nl (List.length (((Xd s_)).1) + 1) (((Xd s_)).1) ([] : (List Qw)) (by omega) (by omega) (by simp; omega)))) (pe 2 (show .b (!false) = .b true from rfl) p0))) ?_
  exact ⟨rfl, Qd (by rw [h4] <;> kernel_rfl)⟩
 ·
  have h4n : (x3.1) = true := Jb h4
  refine Xr (decide ((x3.2.1.length : Int) > (0 : Int))) (fun h5 => ?_) (fun h5 => ?_)
  ·
   have h5d := of_decide_eq_true h5
   refine Au (Ww [576] rfl) ?_
   refine opn [(true, 16, 1, true, 448007, 7)] ?_
   refine rn Qa [2, 3, 6, 35] [16] (po 1 (.give none (.b true) [.h x3.2.1, .o 41 x3.2.2]) (px (B3 (gb h4n (hx3 ▸ Nl (List.length (((Xd s_)).1) + 1) (((Xd s_)).1) ([] : (List Qw)) (by omega) (by omega) (by simp; omega)))) (pe 2 (show .b (!true) = .b false from rfl) (pl 8 x3.2.1 (pt 9 h5 p0))))) ?_
   exact ⟨rfl, Qd (by rw [h4, h5] <;> kernel_rfl)⟩
  have h5d := of_decide_eq_false h5
  refine Au (Ww [576] rfl) ?_
  refine opn [(true, 16, 1, true, 448008, 7)] ?_
  refine rn Qa [2, 3, 6, 35] [16] (po 1 (.give none (.b true) [.h x3.2.1, .o 41 x3.2.2]) (px (B3 (gb h4n (hx3 ▸ Nl (List.length (((Xd s_)).1) + 1) (((Xd s_)).1) ([] : (List Qw)) (by omega) (by omega) (by simp; omega)))) (pe 2 (show .b (!true) = .b false from rfl) (pl 8 x3.2.1 (pf 9 h5 (pc 16 (K7 x3.2.2) p0)))))) ?_
  exact ⟨rfl, Qd (by rw [h4, h5] <;> kernel_rfl)⟩
 refine ck ((!x3.1) || (decide ((x3.2.1.length : Int) > (0 : Int)) || (!(Qj x3.2.2)))) (fun h6 => ?_) (fun h6 => ?_)
 ·
  refine su Qa [] [35] [] [] (p0) ?_
  refine opn [(false, 2, 0, true, 384000, 7)] ?_
  refine Qe ?_
  exact pz [] (show Xu s_ = _ from Qk h2 (E9 hx3 (Xi h6 (rfl)))) (fun z => .tup [(false, [.o 0 z.1]), (false, [.b z.2])])
 refine Qf ?_
 refine sn Qa [2, 3] [] (p0) ?_
 refine Qe ?_
 exact pz [] (show Xu s_ = _ from Qk h2 (E9 hx3 (Qk h6 (rfl)))) (fun z => .tup [(false, [.o 0 z.1]), (false, [.b z.2])])
def X7 (s_ : ByteArray) : (List Qw) × Bool := (bif (!(((Qb s_)).2)) then ([], false) else (lt (Xv 12 (((Qb s_)).1) 0 ([] : (List Qw)) 0) (fun x3 => (bif ((x3.2 != ((((Qb s_)).1).length : Int)) || (((Xw x3.1).toList == (⟨#[]⟩ : ByteArray).toList) || (!((Xw x3.1).toList == (Jm (((Qb s_)).1)).toList)))) then ([], false) else (x3.1, true)))))
theorem Oh (s_ : ByteArray) : ACalls Tryz.prog 167 [.s s_] (.tup [(false, [.o 0 (((X7 s_)).1)]), (false, [.b (((X7 s_)).2)])]) := by
 refine en Qa Tryz.func167 fun w0 F0 hG => ?_
 refine sn Qa [0, 2, 3] [] (p0) ?_
 have hk1 := Dm s_
 refine tn Qa [2, 3, 4, 5] [] (pc 1 (Dj s_) p0) ?_
 refine Qc ?_
 refine tu Qa [(2, .e 0), (3, .b false), (4, .o 704 (((Qb s_)).1)), (15, .b (!(((Qb s_)).2)))] [0] [] [] (p0) ?_
 refine ck (!(((Qb s_)).2)) (fun h2 => ?_) (fun h2 => ?_)
 ·
  refine sn Qa [2, 3, 4] [] (p0) ?_
  refine Qe ?_
  exact pz [] (show X7 s_ = _ from Xi h2 (rfl)) (fun z => .tup [(false, [.o 0 z.1]), (false, [.b z.2])])
 refine Qf ?_
 obtain ⟨x3, hx3⟩ := nm ((Xv 12 (((Qb s_)).1) 0 ([] : (List Qw)) 0))
 have hrx3 := Cx 12 (((Qb s_)).1) 0 ([] : (List Qw)) 0 (by omega) (by omega) (by omega) (by omega) (by omega)
 rw [hx3] at hrx3
 refine sn Qa [2, 3, 4, 6, 7] [] (po 2 (.giv [1216] (.tup [(false, [.o 0 x3.1]), (false, [.i x3.2])])) (px (AQ (hx3 ▸ YJ 12 (((Qb s_)).1) 0 ([] : (List Qw)) 0 (by omega) (by omega) (by omega) (by omega) (by omega) (by omega) (by omega))) p0)) ?_
 have hk4 := TC x3.1
 refine tn Qa [2, 3, 4, 6, 7, 8] [] (pc 1 (Dn x3.1) p0) ?_
 refine Qc ?_
 refine Qc ?_
 refine mz [(6, .o 1280 x3.1), (7, .i x3.2), (8, .s (Xw x3.1))] [15] [] [] ?_
 refine jn [(38, .b ((x3.2 != ((((Qb s_)).1).length : Int)) || (((Xw x3.1).toList == (⟨#[]⟩ : ByteArray).toList) || (!((Xw x3.1).toList == (Jm (((Qb s_)).1)).toList)))))] [4, 7, 8] [] [] (x3.2 != ((((Qb s_)).1).length : Int)) (fun h5 => ?_) (fun h5 => ?_) ?_
 ·
  refine rn Qa [2, 3, 6, 38] [] (pl 2 (((Qb s_)).1) (pt 3 h5 p0)) ?_
  exact ⟨rfl, Qd (by rw [h5] <;> kernel_rfl)⟩
 ·
  have h5d := Hs h5
  refine Xr ((Xw x3.1).toList == (⟨#[]⟩ : ByteArray).toList) (fun h6 => ?_) (fun h6 => ?_)
  ·
   refine rn Qa [2, 3, 6, 38] [] (pl 2 (((Qb s_)).1) (pf 3 h5 (pt 6 h6 p0))) ?_
   exact ⟨rfl, Qd (by rw [h5, h6] <;> kernel_rfl)⟩
  refine rn Qa [2, 3, 6, 38] [] (pl 2 (((Qb s_)).1) (pf 3 h5 (pf 6 h6 (pc 11 (Lz (((Qb s_)).1) (by first | exact (Dm _).1 | (simp only [List.length_drop]; have := (Dm line).1; omega)) (by first | exact (Dm _).2 | exact fun y hy => (Dm line).2 y (List.mem_of_mem_drop hy))) p0)))) ?_
  exact ⟨rfl, Qd (by rw [h5, h6] <;> kernel_rfl)⟩
 refine ck ((x3.2 != ((((Qb s_)).1).length : Int)) || (((Xw x3.1).toList == (⟨#[]⟩ : ByteArray).toList) || (!((Xw x3.1).toList == (Jm (((Qb s_)).1)).toList)))) (fun h7 => ?_) (fun h7 => ?_)
 ·
  refine sn Qa [2, 3, 6] [] (p0) ?_
  refine Qe ?_
  exact pz [] (show X7 s_ = _ from Qk h2 (E9 hx3 (Xi h7 (rfl)))) (fun z => .tup [(false, [.o 0 z.1]), (false, [.b z.2])])
 refine Qf ?_
 refine sn Qa [2, 3] [] (p0) ?_
 refine Qe ?_
 exact pz [] (show X7 s_ = _ from Qk h2 (E9 hx3 (Qk h7 (rfl)))) (fun z => .tup [(false, [.o 0 z.1]), (false, [.b z.2])])
open GoE (enc wide)
def Ja (w : (List ByteArray)) (s0 : Bool × Int × (List Kz)) : Rd (Zl × Bool) (Bool × Int × (List Kz)) (Bool × (List Kz)) := (bif decide (s0.2.1 < (w.length : Int)) then (.next ((s0.1 && ((Qn (nth w (Int.toNat (IntKind.i64.wrap (s0.2.1 + 1)))))).2), IntKind.i64.wrap (s0.2.1 + 2), s0.2.2 ++ [((nth w (Int.toNat s0.2.1)), (((Qn (nth w (Int.toNat (IntKind.i64.wrap (s0.2.1 + 1)))))).1))])) else (.brk (s0.1, s0.2.2)))
def Yr (w : (List ByteArray)) : Zl × Bool := (bif (decide ((w.length : Int) < (4 : Int)) || (Int.tmod (w.length : Int) 2 != (0 : Int))) then ((0, 0, false, 0, []), false) else (Out.on (JH (Ja w) (List.length w + 1) (((Qg (nth w 0)).2 && ((Qg (nth w 1)).2 && (Qg (nth w 3)).2)), 4, [])) (fun y0 => (((Qg (nth w 0)).1, (Qg (nth w 1)).1, ((nth w 2).toList == (⟨#[115]⟩ : ByteArray).toList), (Qg (nth w 3)).1, y0.2), y0.1))))
theorem RE {w : List ByteArray} (hw : List.length w ≤ 1073741800) (b : Bool) : (whl (Ja w) (List.length w + 1) (b, 4, [])).isSome = true :=
  GX (fun s => s.2.1 / 2) ((w.length : Int) / 2 + 1) (fun s s' h0 h => by
    unfold Ja at h
    by_cases hc : s.2.1 < (w.length : Int)
    · rw [decide_eq_true hc, cond_true] at h
      have h := Rd.next.inj h
      rw [← h]
      have e : IntKind.i64.wrap (s.2.1 + 2) = s.2.1 + 2 := IntWalk.i64_in _ (by omega)
      simp only [e]
      omega
    rw [decide_eq_false hc, cond_false] at h; cases h) _ _ (by show (0 : Int) ≤ 4 / 2; decide) (by show _ ≤ (4 : Int) / 2 + _; omega)
theorem KO (w : (List ByteArray)) (hw : List.length w ≤ 1073741800) : ACalls Tryz.prog 181 [.h w] (.tup [(true, [.i ((((Yr w)).1).1), .i ((((Yr w)).1).2.1), .b ((((Yr w)).1).2.2.1), .i ((((Yr w)).1).2.2.2.1), .o 0 ((((Yr w)).1).2.2.2.2)]), (false, [.b (((Yr w)).2)])]) := by
 refine en Qa Tryz.func181 fun w0 F0 hG => ?_
 have hmt : Int.tmod (w.length : Int) 2 = (w.length : Int) % 2 := Int.tmod_eq_emod_of_nonneg (by omega)
 refine sn Qa [0, 2, 3] [2] (p0) ?_
 refine Qc ?_
 refine Qc ?_
 refine mz [(2, .p 2 0), (3, .b false)] [] [(2, [.i 0, .i 0, .b false, .i 0, .e 4])] [] ?_
 refine jn [(23, .b (decide ((w.length : Int) < (4 : Int)) || (Int.tmod (w.length : Int) 2 != (0 : Int))))] [] [] [] (decide ((w.length : Int) < (4 : Int))) (fun h1 => ?_) (fun h1 => ?_) ?_
 ·
  refine rn Qa [0, 2, 3, 23] [2] (pl 1 w (pt 2 h1 p0)) ?_
  exact ⟨rfl, Qd (by rw [h1] <;> kernel_rfl)⟩
 ·
  have h1d := of_decide_eq_false h1
  refine rn Qa [0, 2, 3, 23] [2] (pl 1 w (pf 2 h1 (pl 5 w (px (Qar (n := 2) (by omega)) (px (GE (k := .i64) (n := Int.tmod (w.length : Int) 2) (by unfold InR; simp only [IntKind.min, IntKind.max, IntKind.bits, IntKind.signed]; omega)) p0))))) ?_
  exact ⟨rfl, Qd (by rw [h1] <;> kernel_rfl)⟩
 refine ck (decide ((w.length : Int) < (4 : Int)) || (Int.tmod (w.length : Int) 2 != (0 : Int))) (fun h2 => ?_) (fun h2 => ?_)
 ·
  refine su Qa [] [23] [] [] (p0) ?_
  refine opn [(true, 2, 4, true, 384000, 4)] ?_
  refine Qe ?_
  exact pz [] (show Yr w = _ from Xi h2 (rfl)) (fun z => .tup [(true, [.i z.1.1, .i z.1.2.1, .b z.1.2.2.1, .i z.1.2.2.2.1, .o 0 z.1.2.2.2.2]), (false, [.b z.2])])
 have h2l : (decide ((w.length : Int) < (4 : Int))) = false := UE h2
 have h2ld := of_decide_eq_false h2l
 have h2r : ((Int.tmod (w.length : Int) 2 != (0 : Int))) = false := UF h2
 have h2rd := Hs h2r
 refine Qf ?_
 refine wT 0 0 .sh w (fun hw4 hl5 => ?_)
 have hx3 := ng w 0
 refine sn Qa [0, 2, 3, 4, 5] [2] (pg 1 0 hx3 (pc 3 (Vw (nth w 0)) p0)) ?_
 have hx6 := ng w 1
 refine tn Qa [0, 2, 3, 4, 5, 6, 7] [2] (pg 1 1 hx6 (pc 3 (Vw (nth w 1)) p0)) ?_
 have hx7 := ng w 3
 refine tu Qa [(4, .i ((Qg (nth w 0)).1)), (5, .b ((Qg (nth w 0)).2)), (6, .i ((Qg (nth w 1)).1)), (7, .b ((Qg (nth w 1)).2)), (8, .i ((Qg (nth w 3)).1)), (9, .b ((Qg (nth w 3)).2))] [23] [] [] (pg 1 3 hx7 (pc 3 (Vw (nth w 3)) p0)) ?_
 have hx8 := ng w 2
 refine sn Qa [0, 2, 3, 5, 7, 9, 10] [2, 10] (pg 3 2 hx8 p0) ?_
 refine Qc ?_
 refine mz [(10, .p 10 0)] [4, 6, 8] [(10, [.i ((Qg (nth w 0)).1), .i ((Qg (nth w 1)).1), .b ((nth w 2).toList == (⟨#[115]⟩ : ByteArray).toList), .i ((Qg (nth w 3)).1), .e 4])] [] ?_
 refine jn [(11, .b ((Qg (nth w 0)).2 && ((Qg (nth w 1)).2 && (Qg (nth w 3)).2)))] [5, 7, 9] [] [] ((Qg (nth w 0)).2) (fun h9 => ?_) (fun h9 => ?_) ?_
 ·
  refine Xr ((Qg (nth w 1)).2) (fun h10 => ?_) (fun h10 => ?_)
  ·
   refine rn Qa [0, 2, 3, 10, 11] [2, 10] (pt 0 h9 (pt 2 h10 p0)) ?_
   exact ⟨rfl, Qd (by rw [h9, h10] <;> kernel_rfl)⟩
  refine rn Qa [0, 2, 3, 10, 11] [2, 10] (pt 0 h9 (pf 2 h10 p0)) ?_
  exact ⟨rfl, Qd (by rw [h9, h10] <;> kernel_rfl)⟩
 ·
  refine rn Qa [0, 2, 3, 10, 11] [2, 10] (pf 0 h9 p0) ?_
  exact ⟨rfl, Qd (by rw [h9] <;> kernel_rfl)⟩
 refine Qc ?_
 refine su Qa [(12, .i 4)] [] [] [] (p0) ?_
 refine blw (fun (s0 : Bool × Int × (List Kz)) => [(11, .b s0.1), (12, .i s0.2.1)]) [11, 12] (fun s0 => [(10, [.i ((Qg (nth w 0)).1), .i ((Qg (nth w 1)).1), .b ((nth w 2).toList == (⟨#[115]⟩ : ByteArray).toList), .i ((Qg (nth w 3)).1), .o 147215 s0.2.2])]) [10] (fun (y0 : Bool × (List Kz)) => [(11, .b y0.1)]) [0, 11, 12] (fun y0 => [(10, [.i ((Qg (nth w 0)).1), .i ((Qg (nth w 1)).1), .b ((nth w 2).toList == (⟨#[115]⟩ : ByteArray).toList), .i ((Qg (nth w 3)).1), .o 147365 y0.2])]) [10] (fun (k0 : Nat) (s0 : Bool × Int × (List Kz)) => whl (Ja w) k0 s0 = some (JH (Ja w) (List.length w + 1) (((Qg (nth w 0)).2 && ((Qg (nth w 1)).2 && (Qg (nth w 3)).2)), 4, [])) ∧ 4 ≤ s0.2.1 ∧ s0.2.1 ≤ (List.length w : Int) ∧ s0.2.1 % 2 = 0 ∧ 2 * (List.length s0.2.2 : Int) + 4 = s0.2.1) (fun (y0 : Bool × (List Kz)) => (JH (Ja w) (List.length w + 1) (((Qg (nth w 0)).2 && ((Qg (nth w 1)).2 && (Qg (nth w 3)).2)), 4, [])) = .brk y0) (List.length w + 1) (((Qg (nth w 0)).2 && ((Qg (nth w 1)).2 && (Qg (nth w 3)).2)), 4, []) (M3 [(true, 10, 4, true, 320008, 4)] [] [] [(320008, 147215)] (by kernel_rfl)) ⟨Ou (RE hw _), (by first | omega | rfl | (simp; omega) | (simp; done)), (by first | omega | rfl | (simp; omega) | (simp; done)), (by first | omega | rfl | (simp; omega) | (simp; done)), (by first | omega | rfl | (simp; omega) | (simp; done))⟩ (fun _ h => XN h.1) (fun k0 s0 hI0 => ?_) (fun y0 hD0 => ?_)
 ·
  have hA0_0 := hI0.2.1
  have hA0_1 := hI0.2.2.1
  have hA0_2 := hI0.2.2.2.1
  have hA0_3 := hI0.2.2.2.2
  have e1 : IntKind.i64.wrap (s0.2.1 + 1) = s0.2.1 + 1 := IntWalk.i64_in _ (by omega)
  have e2 : IntKind.i64.wrap (s0.2.1 + 2) = s0.2.1 + 2 := IntWalk.i64_in _ (by omega)
  refine Qc ?_
  refine sn Qa [0, 2, 3, 10, 11, 12, 64] [2, 10] (pl 2 w p0) ?_
  refine ck (decide (s0.2.1 < (w.length : Int))) (fun h11 => ?_) (fun h11 => ?_)
  ·
   have h11d := of_decide_eq_true h11
   refine Qf ?_
   refine Qc ?_
   refine Qy ?_
   have hx12 := ng w (Int.toNat (IntKind.i64.wrap (s0.2.1 + 1)))
   refine tn Qa [0, 2, 3, 10, 11, 12, 13, 14] [2, 10, 13] (pg 3 (IntKind.i64.wrap (s0.2.1 + 1)) hx12 (pc 5 (Ej (nth w (Int.toNat (IntKind.i64.wrap (s0.2.1 + 1))))) p0)) ?_
   have hx13 := ng w (Int.toNat s0.2.1)
   refine wB 10 4 (.own true 147215) s0.2.2 (fun hw14 hl15 => ?_)
   refine tU Qa Yp [(14, .b (((Qn (nth w (Int.toNat (IntKind.i64.wrap (s0.2.1 + 1)))))).2))] [] [(10, [.i ((Qg (nth w 0)).1), .i ((Qg (nth w 1)).1), .b ((nth w 2).toList == (⟨#[115]⟩ : ByteArray).toList), .i ((Qg (nth w 3)).1), .slc (.own true 5440) 4 ((eL s0.2.2) ++ [[.s (nth w (Int.toNat s0.2.1)), .i ((((Qn (nth w (Int.toNat (IntKind.i64.wrap (s0.2.1 + 1)))))).1).1), .i ((((Qn (nth w (Int.toNat (IntKind.i64.wrap (s0.2.1 + 1)))))).1).2.1), .s ((((Qn (nth w (Int.toNat (IntKind.i64.wrap (s0.2.1 + 1)))))).1).2.2)]])])] [10] (pg 4 s0.2.1 hx13 (pa s0.2.2 [((nth w (Int.toNat s0.2.1)), (((Qn (nth w (Int.toNat (IntKind.i64.wrap (s0.2.1 + 1)))))).1))] p0)) ?_
   refine eqn [] [] [(10, [.i ((Qg (nth w 0)).1), .i ((Qg (nth w 1)).1), .b ((nth w 2).toList == (⟨#[115]⟩ : ByteArray).toList), .i ((Qg (nth w 3)).1), .o 5440 (s0.2.2 ++ [((nth w (Int.toNat s0.2.1)), (((Qn (nth w (Int.toNat (IntKind.i64.wrap (s0.2.1 + 1)))))).1))])])] [10] (by rw [show ((eL s0.2.2) ++ [[.s (nth w (Int.toNat s0.2.1)), .i ((((Qn (nth w (Int.toNat (IntKind.i64.wrap (s0.2.1 + 1)))))).1).1), .i ((((Qn (nth w (Int.toNat (IntKind.i64.wrap (s0.2.1 + 1)))))).1).2.1), .s ((((Qn (nth w (Int.toNat (IntKind.i64.wrap (s0.2.1 + 1)))))).1).2.2)]]) = (eL (s0.2.2 ++ [((nth w (Int.toNat s0.2.1)), (((Qn (nth w (Int.toNat (IntKind.i64.wrap (s0.2.1 + 1)))))).1))])) from Je (rfl) (rfl)]; first | done | kernel_rfl) ?_
   refine jn [(11, .b (s0.1 && ((Qn (nth w (Int.toNat (IntKind.i64.wrap (s0.2.1 + 1)))))).2))] [11, 14] [] [] s0.1 (fun h16 => ?_) (fun h16 => ?_) ?_
   ·
    refine rn Qa [0, 2, 3, 10, 11, 12] [2, 10] (pt 0 h16 p0) ?_
    exact ⟨rfl, Qd (by rw [h16] <;> kernel_rfl)⟩
   ·
    refine rn Qa [0, 2, 3, 10, 11, 12] [2, 10] (pf 0 h16 p0) ?_
    exact ⟨rfl, Qd (by rw [h16] <;> kernel_rfl)⟩
   refine rn Qa [0, 2, 3, 10, 11, 12] [2, 10] (p0) ?_
   exact Exists.intro ((s0.1 && ((Qn (nth w (Int.toNat (IntKind.i64.wrap (s0.2.1 + 1)))))).2), IntKind.i64.wrap (s0.2.1 + 2), s0.2.2 ++ [((nth w (Int.toNat s0.2.1)), (((Qn (nth w (Int.toNat (IntKind.i64.wrap (s0.2.1 + 1)))))).1))]) (And.intro (Ys [(5440, 147215)] (by kernel_rfl)) ⟨wn hI0.1 (Xi h11 (rfl)), (by first | omega | (simp; omega)), (by first | omega | (simp; omega)), (by first | omega | (simp; omega)), (by first | omega | (simp; omega))⟩)
  refine Xs ?_
  exact Exists.intro _ (And.intro (Ys [(147215, 147365)] (by kernel_rfl)) (wb hI0.1 (Qk h11 (rfl))))
 refine sn Qa [2, 3] [2] (p0) ?_
 refine Qe ?_
 exact pz [] (show Yr w = _ from Qk h2 (V4 hD0 (rfl))) (fun z => .tup [(true, [.i z.1.1, .i z.1.2.1, .b z.1.2.2.1, .i z.1.2.2.2.1, .o 0 z.1.2.2.2.2]), (false, [.b z.2])])
def Y2 (b1 : (List X6)) (b2 : (List Zl)) (b3 : Int) (b4 : (List Zw)) (line : ByteArray) : Bool × (List X6) × (List Zl) × Int × (List Zw) := (bif (((nth (Qm 32 line) 0).toList == (⟨#[102, 105, 101, 108, 100]⟩ : ByteArray).toList) && (((Qm 32 line).length : Int) == (3 : Int))) then (bif ((nth (Qm 32 line) 2).toList == (⟨#[115, 116, 114, 105, 110, 103]⟩ : ByteArray).toList) then (true, b1 ++ [(((nth (Qm 32 line) 1), 2) : X6)], b2, b3, b4) else (true, b1 ++ [(((nth (Qm 32 line) 1), 1) : X6)], b2, b3, b4)) else (bif (((nth (Qm 32 line) 0).toList == (⟨#[110, 101, 120, 116]⟩ : ByteArray).toList) && (((Qm 32 line).length : Int) == (2 : Int))) then ((Qg (nth (Qm 32 line) 1)).2, b1, b2, (Qg (nth (Qm 32 line) 1)).1, b4) else (bif ((nth (Qm 32 line) 0).toList == (⟨#[102, 105, 108, 101]⟩ : ByteArray).toList) then (((Yr (List.drop 1 (Qm 32 line)))).2, b1, b2 ++ [(((Yr (List.drop 1 (Qm 32 line)))).1)], b3, b4) else (bif (((nth (Qm 32 line) 0).toList == (⟨#[100, 105, 114]⟩ : ByteArray).toList) && decide (((Qm 32 line).length : Int) > (2 : Int))) then (((Xu (Q6 ⟨#[32]⟩ (List.drop 2 (Qm 32 line))))).2, b1, b2, b3, b4 ++ [((nth (Qm 32 line) 1), ((Xu (Q6 ⟨#[32]⟩ (List.drop 2 (Qm 32 line))))).1)]) else (false, b1, b2, b3, b4)))))
theorem LV (b1 : List X6) (b2 : List Zl) (b3 : Int) (b4 : List Zw) (line : ByteArray) : (Y2 b1 b2 b3 b4 line).2.1.length ≤ b1.length + 1 ∧ (Y2 b1 b2 b3 b4 line).2.2.1.length ≤ b2.length + 1 ∧ (Y2 b1 b2 b3 b4 line).2.2.2.2.length ≤ b4.length + 1 := by
 unfold Y2
 simp only [Bool.cond_eq_ite]
 repeat' split
 all_goals (simp only [List.length_append, List.length_cons, List.length_nil]; omega)
theorem DN (b1 : (List X6)) (b2 : (List Zl)) (b3 : Int) (b4 : (List Zw)) (line : ByteArray) (hl : ByteArray.size line ≤ 1073741000) (h1 : List.length b1 < 1073741824) (h2 : List.length b2 < 1073741824) (h4 : List.length b4 < 1073741824) : AGive Tryz.prog 145 [.o 40 b1, .o 41 b2, .i b3, .o 43 b4] [.s line] (.b (((Y2 b1 b2 b3 b4 line)).1)) [.o 40 (((Y2 b1 b2 b3 b4 line)).2.1), .o 41 (((Y2 b1 b2 b3 b4 line)).2.2.1), .i (((Y2 b1 b2 b3 b4 line)).2.2.2.1), .o 43 (((Y2 b1 b2 b3 b4 line)).2.2.2.2)] := by
 refine XP (tt := tt) Qa Tryz.func145 (fn := Tryz.f145) rfl (by unfold Bu; kernel_rfl) (Nat.le_of_ble_eq_true rfl) (Nat.le_of_ble_eq_true rfl) rfl rfl fun w0 F0 hG => ?_
 have hjd := LG 32 line 2
 have hsc := Ni 32 line
 refine sn Qa [0, 1, 4] [60000] (p0) ?_
 refine stT 1 0 line (fun hs1 => ?_)
 refine tn Qa [0, 4, 5] [60000] (pc 1 (Gp line 32 (by omega)) p0) ?_
 refine Qc ?_
 refine Qy ?_
 refine Qc ?_
 refine mz [(4, .b false), (5, .o 896 (Qm 32 line))] [1] [] [] ?_
 refine jn [(15, .b (((nth (Qm 32 line) 0).toList == (⟨#[102, 105, 101, 108, 100]⟩ : ByteArray).toList) && (((Qm 32 line).length : Int) == (3 : Int))))] [] [] [] ((nth (Qm 32 line) 0).toList == (⟨#[102, 105, 101, 108, 100]⟩ : ByteArray).toList) (fun h2 => ?_) (fun h2 => ?_) ?_
 ·
  refine wT 5 0 (.own true 896) (Qm 32 line) (fun hw4 hl5 => ?_)
  have hx3 := ng (Qm 32 line) 0
  refine rn Qa [0, 4, 5, 15] [60000] (pG 1 0 hx3 (pt 3 h2 (pl 6 (Qm 32 line) p0))) ?_
  exact ⟨rfl, Qd (by rw [h2] <;> kernel_rfl)⟩
 ·
  refine wT 5 0 (.own true 896) (Qm 32 line) (fun hw7 hl8 => ?_)
  have hx6 := ng (Qm 32 line) 0
  refine rn Qa [0, 4, 5, 15] [60000] (pG 1 0 hx6 (pf 3 h2 p0)) ?_
  exact ⟨rfl, Qd (by rw [h2] <;> kernel_rfl)⟩
 refine ck (((nth (Qm 32 line) 0).toList == (⟨#[102, 105, 101, 108, 100]⟩ : ByteArray).toList) && (((Qm 32 line).length : Int) == (3 : Int))) (fun h9 => ?_) (fun h9 => ?_)
 ·
  have h9l : (((nth (Qm 32 line) 0).toList == (⟨#[102, 105, 101, 108, 100]⟩ : ByteArray).toList)) = true := Rk h9
  have h9r : ((((Qm 32 line).length : Int) == (3 : Int))) = true := N8 h9
  have h9rd := eq_of_beq h9r
  refine sn Qa [0, 4, 5, 6] [60000] (p0) ?_
  refine Qc ?_
  refine wT 5 0 (.own true 896) (Qm 32 line) (fun hw11 hl12 => ?_)
  have hx10 := ng (Qm 32 line) 2
  refine tn Qa [0, 4, 5, 6, 28] [60000] (pG 1 2 hx10 p0) ?_
  refine ck ((nth (Qm 32 line) 2).toList == (⟨#[115, 116, 114, 105, 110, 103]⟩ : ByteArray).toList) (fun h13 => ?_) (fun h13 => ?_)
  ·
   refine qu Qa [(6, .i 2)] [15] [] [] (p0) ?_
   have hx14 := ng (Qm 32 line) 1
   refine wB 60000 0 (.own true 40) b1 (fun hw15 hl16 => ?_)
   refine sU Qa Yp [] [5, 6] [(60000, [.slc (.own true 2624) 2 ((eL b1) ++ [[.s (nth (Qm 32 line) 1), .i 2]]), .o 41 b2, .i b3, .o 43 b4])] [60000] (pG 7 1 hx14 (pa b1 [(((nth (Qm 32 line) 1), 2) : X6)] p0)) ?_
   refine eqn [] [] [(60000, [.o 2624 (b1 ++ [(((nth (Qm 32 line) 1), 2) : X6)]), .o 41 b2, .i b3, .o 43 b4])] [60000] (by rw [show ((eL b1) ++ [[.s (nth (Qm 32 line) 1), .i 2]]) = (eL (b1 ++ [(((nth (Qm 32 line) 1), 2) : X6)])) from Je (rfl) (rfl)]; first | done | kernel_rfl) ?_
   refine sn Qa [0, 4] [60000] (p0) ?_
   refine Qe ?_
   have hE17 : Y2 b1 b2 b3 b4 line = (true, b1 ++ [(((nth (Qm 32 line) 1), 2) : X6)], b2, b3, b4) := Xi h9 (Xi h13 (rfl))
   exact BA [] (congrArg (fun z => (.b z.1 : AV)) hE17.symm) (congrArg (fun z => ([.o 40 z.2.1, .o 41 z.2.2.1, .i z.2.2.2.1, .o 43 z.2.2.2.2] : List C)) hE17.symm)
  refine Qf ?_
  have hx18 := ng (Qm 32 line) 1
  refine wB 60000 0 (.own true 40) b1 (fun hw19 hl20 => ?_)
  refine tU Qa Yp [] [5, 15] [(60000, [.slc (.own true 2624) 2 ((eL b1) ++ [[.s (nth (Qm 32 line) 1), .i 1]]), .o 41 b2, .i b3, .o 43 b4])] [60000] (pG 7 1 hx18 (pa b1 [(((nth (Qm 32 line) 1), 1) : X6)] p0)) ?_
  refine eqn [] [] [(60000, [.o 2624 (b1 ++ [(((nth (Qm 32 line) 1), 1) : X6)]), .o 41 b2, .i b3, .o 43 b4])] [60000] (by rw [show ((eL b1) ++ [[.s (nth (Qm 32 line) 1), .i 1]]) = (eL (b1 ++ [(((nth (Qm 32 line) 1), 1) : X6)])) from Je (rfl) (rfl)]; first | done | kernel_rfl) ?_
  refine sn Qa [0, 4] [60000] (p0) ?_
  refine Qe ?_
  have hE21 : Y2 b1 b2 b3 b4 line = (true, b1 ++ [(((nth (Qm 32 line) 1), 1) : X6)], b2, b3, b4) := Xi h9 (Qk h13 (rfl))
  exact BA [] (congrArg (fun z => (.b z.1 : AV)) hE21.symm) (congrArg (fun z => ([.o 40 z.2.1, .o 41 z.2.2.1, .i z.2.2.2.1, .o 43 z.2.2.2.2] : List C)) hE21.symm)
 refine Qc ?_
 refine jn [(45, .b (((nth (Qm 32 line) 0).toList == (⟨#[110, 101, 120, 116]⟩ : ByteArray).toList) && (((Qm 32 line).length : Int) == (2 : Int))))] [15] [] [] ((nth (Qm 32 line) 0).toList == (⟨#[110, 101, 120, 116]⟩ : ByteArray).toList) (fun h22 => ?_) (fun h22 => ?_) ?_
 ·
  refine wT 5 0 (.own true 896) (Qm 32 line) (fun hw24 hl25 => ?_)
  have hx23 := ng (Qm 32 line) 0
  refine rn Qa [0, 4, 5, 45] [60000] (pG 1 0 hx23 (pt 3 h22 (pl 6 (Qm 32 line) p0))) ?_
  exact ⟨rfl, Qd (by rw [h22] <;> kernel_rfl)⟩
 ·
  refine wT 5 0 (.own true 896) (Qm 32 line) (fun hw27 hl28 => ?_)
  have hx26 := ng (Qm 32 line) 0
  refine rn Qa [0, 4, 5, 45] [60000] (pG 1 0 hx26 (pf 3 h22 p0)) ?_
  exact ⟨rfl, Qd (by rw [h22] <;> kernel_rfl)⟩
 refine ck (((nth (Qm 32 line) 0).toList == (⟨#[110, 101, 120, 116]⟩ : ByteArray).toList) && (((Qm 32 line).length : Int) == (2 : Int))) (fun h29 => ?_) (fun h29 => ?_)
 ·
  have h29l : (((nth (Qm 32 line) 0).toList == (⟨#[110, 101, 120, 116]⟩ : ByteArray).toList)) = true := Rk h29
  have h29r : ((((Qm 32 line).length : Int) == (2 : Int))) = true := N8 h29
  have h29rd := eq_of_beq h29r
  refine wT 5 0 (.own true 896) (Qm 32 line) (fun hw31 hl32 => ?_)
  have hx30 := ng (Qm 32 line) 1
  refine sn Qa [0, 4, 7, 8] [60000] (pG 1 1 hx30 (pc 3 (Vw (nth (Qm 32 line) 1)) p0)) ?_
  refine tn Qa [0, 4, 8] [60000] (p0) ?_
  refine tu Qa [(4, .b ((Qg (nth (Qm 32 line) 1)).2))] [4, 5, 45] [(60000, [.o 40 b1, .o 41 b2, .i ((Qg (nth (Qm 32 line) 1)).1), .o 43 b4])] [60000] (p0) ?_
  refine Qe ?_
  have hE33 : Y2 b1 b2 b3 b4 line = ((Qg (nth (Qm 32 line) 1)).2, b1, b2, (Qg (nth (Qm 32 line) 1)).1, b4) := Qk h9 (Xi h29 (rfl))
  exact BA [] (congrArg (fun z => (.b z.1 : AV)) hE33.symm) (congrArg (fun z => ([.o 40 z.2.1, .o 41 z.2.2.1, .i z.2.2.2.1, .o 43 z.2.2.2.2] : List C)) hE33.symm)
 refine wT 5 0 (.own true 896) (Qm 32 line) (fun hw35 hl36 => ?_)
 have hx34 := ng (Qm 32 line) 0
 refine sn Qa [0, 4, 5, 68] [60000] (pG 1 0 hx34 p0) ?_
 refine ck ((nth (Qm 32 line) 0).toList == (⟨#[102, 105, 108, 101]⟩ : ByteArray).toList) (fun h37 => ?_) (fun h37 => ?_)
 ·
  refine tn Qa [0, 4, 9, 10] [9, 60000] (pe 1 (My (.vw 896) 1 1 1 (Qm 32 line) rfl) (px (Co (lo := 1) (hi := (((eL (Qm 32 line)) : List (List PV)).length : Int)) (n := (List.length (eL (Qm 32 line)))) (Mz (by omega) (by omega))) (pc 2 (KO (List.drop 1 (Qm 32 line)) (by have := (F4 32 line).1; simp only [List.length_drop]; omega)) p0))) ?_
  refine wB 60000 1 (.own true 41) b2 (fun hw38 hl39 => ?_)
  refine tU Qa Yp [(10, .b (((Yr (List.drop 1 (Qm 32 line)))).2))] [5, 45] [(60000, [.o 40 b1, .slc (.own true 5568) 5 ((eL b2) ++ [[.i ((((Yr (List.drop 1 (Qm 32 line)))).1).1), .i ((((Yr (List.drop 1 (Qm 32 line)))).1).2.1), .b ((((Yr (List.drop 1 (Qm 32 line)))).1).2.2.1), .i ((((Yr (List.drop 1 (Qm 32 line)))).1).2.2.2.1), .h ((((Yr (List.drop 1 (Qm 32 line)))).1).2.2.2.2)]]), .i b3, .o 43 b4])] [60000] (pa b2 [(((Yr (List.drop 1 (Qm 32 line)))).1)] p0) ?_
  refine eqn [] [] [(60000, [.o 40 b1, .o 5568 (b2 ++ [(((Yr (List.drop 1 (Qm 32 line)))).1)]), .i b3, .o 43 b4])] [60000] (by rw [show ((eL b2) ++ [[.i ((((Yr (List.drop 1 (Qm 32 line)))).1).1), .i ((((Yr (List.drop 1 (Qm 32 line)))).1).2.1), .b ((((Yr (List.drop 1 (Qm 32 line)))).1).2.2.1), .i ((((Yr (List.drop 1 (Qm 32 line)))).1).2.2.2.1), .h ((((Yr (List.drop 1 (Qm 32 line)))).1).2.2.2.2)]]) = (eL (b2 ++ [(((Yr (List.drop 1 (Qm 32 line)))).1)])) from Je (rfl) (rfl)]; first | done | kernel_rfl) ?_
  refine sn Qa [0, 4] [60000] (p0) ?_
  refine Qe ?_
  have hE40 : Y2 b1 b2 b3 b4 line = (((Yr (List.drop 1 (Qm 32 line)))).2, b1, b2 ++ [(((Yr (List.drop 1 (Qm 32 line)))).1)], b3, b4) := Qk h9 (Qk h29 (Xi h37 (rfl)))
  exact BA [] (congrArg (fun z => (.b z.1 : AV)) hE40.symm) (congrArg (fun z => ([.o 40 z.2.1, .o 41 z.2.2.1, .i z.2.2.2.1, .o 43 z.2.2.2.2] : List C)) hE40.symm)
 refine Qc ?_
 refine mz [(68, .b ((nth (Qm 32 line) 0).toList == (⟨#[102, 105, 108, 101]⟩ : ByteArray).toList))] [45] [] [] ?_
 refine jn [(92, .b (((nth (Qm 32 line) 0).toList == (⟨#[100, 105, 114]⟩ : ByteArray).toList) && decide (((Qm 32 line).length : Int) > (2 : Int))))] [68] [] [] ((nth (Qm 32 line) 0).toList == (⟨#[100, 105, 114]⟩ : ByteArray).toList) (fun h41 => ?_) (fun h41 => ?_) ?_
 ·
  refine rn Qa [0, 4, 5, 92] [60000] (pG 1 0 hx34 (pt 3 h41 (pl 6 (Qm 32 line) p0))) ?_
  exact ⟨rfl, Qd (by rw [h41] <;> kernel_rfl)⟩
 ·
  refine rn Qa [0, 4, 5, 92] [60000] (pG 1 0 hx34 (pf 3 h41 p0)) ?_
  exact ⟨rfl, Qd (by rw [h41] <;> kernel_rfl)⟩
 refine ck (((nth (Qm 32 line) 0).toList == (⟨#[100, 105, 114]⟩ : ByteArray).toList) && decide (((Qm 32 line).length : Int) > (2 : Int))) (fun h42 => ?_) (fun h42 => ?_)
 ·
  have h42l : (((nth (Qm 32 line) 0).toList == (⟨#[100, 105, 114]⟩ : ByteArray).toList)) = true := Rk h42
  have h42r : (decide (((Qm 32 line).length : Int) > (2 : Int))) = true := N8 h42
  have h42rd := of_decide_eq_true h42r
  refine sn Qa [0, 4, 5, 11, 12] [60000] (pe 1 (My (.vw 896) 1 2 2 (Qm 32 line) rfl) (px (Co (lo := 2) (hi := (((eL (Qm 32 line)) : List (List PV)).length : Int)) (n := (List.length (eL (Qm 32 line)))) (Mz (by omega) (by omega))) (pc 2 (Kj (List.drop 2 (Qm 32 line)) ⟨#[32]⟩ (by first | omega | exact Nat.le_trans (J9 (m := 10) (n := 20) rfl (by assumption) (by omega)) (by decide) | (simp only [Zh, Z3, Zv, ByteArray.size_append]; omega))) (pc 3 (Og (Q6 ⟨#[32]⟩ (List.drop 2 (Qm 32 line)))) p0)))) ?_
  have hx43 := ng (Qm 32 line) 1
  refine wB 60000 3 (.own true 43) b4 (fun hw44 hl45 => ?_)
  refine tU Qa Yp [(12, .b (((Xu (Q6 ⟨#[32]⟩ (List.drop 2 (Qm 32 line))))).2))] [5, 92] [(60000, [.o 40 b1, .o 41 b2, .i b3, .slc (.own true 7680) 2 ((eL b4) ++ [[.s (nth (Qm 32 line) 1), .h (((Xu (Q6 ⟨#[32]⟩ (List.drop 2 (Qm 32 line))))).1)]])])] [60000] (pG 6 1 hx43 (pa b4 [((nth (Qm 32 line) 1), ((Xu (Q6 ⟨#[32]⟩ (List.drop 2 (Qm 32 line))))).1)] p0)) ?_
  refine eqn [] [] [(60000, [.o 40 b1, .o 41 b2, .i b3, .o 7680 (b4 ++ [((nth (Qm 32 line) 1), ((Xu (Q6 ⟨#[32]⟩ (List.drop 2 (Qm 32 line))))).1)])])] [60000] (by rw [show ((eL b4) ++ [[.s (nth (Qm 32 line) 1), .h (((Xu (Q6 ⟨#[32]⟩ (List.drop 2 (Qm 32 line))))).1)]]) = (eL (b4 ++ [((nth (Qm 32 line) 1), ((Xu (Q6 ⟨#[32]⟩ (List.drop 2 (Qm 32 line))))).1)])) from Je (rfl) (rfl)]; first | done | kernel_rfl) ?_
  refine sn Qa [0, 4] [60000] (p0) ?_
  refine Qe ?_
  have hE46 : Y2 b1 b2 b3 b4 line = (((Xu (Q6 ⟨#[32]⟩ (List.drop 2 (Qm 32 line))))).2, b1, b2, b3, b4 ++ [((nth (Qm 32 line) 1), ((Xu (Q6 ⟨#[32]⟩ (List.drop 2 (Qm 32 line))))).1)]) := Qk h9 (Qk h29 (Qk h37 (Xi h42 (rfl))))
  exact BA [] (congrArg (fun z => (.b z.1 : AV)) hE46.symm) (congrArg (fun z => ([.o 40 z.2.1, .o 41 z.2.2.1, .i z.2.2.2.1, .o 43 z.2.2.2.2] : List C)) hE46.symm)
 refine Qf ?_
 refine sn Qa [0, 4] [60000] (p0) ?_
 refine Qe ?_
 have hE47 : Y2 b1 b2 b3 b4 line = (false, b1, b2, b3, b4) := Qk h9 (Qk h29 (Qk h37 (Qk h42 (rfl))))
 exact BA [] (congrArg (fun z => (.b z.1 : AV)) hE47.symm) (congrArg (fun z => ([.o 40 z.2.1, .o 41 z.2.2.1, .i z.2.2.2.1, .o 43 z.2.2.2.2] : List C)) hE47.symm)
def Zi (line : ByteArray) (s0 : Int × (List Kz)) : Rd (Qp) (Int × (List Kz)) ((List Kz)) := (bif decide (s0.1 < ((((Qb line)).1).length : Int)) then (.next (IntKind.i64.wrap (s0.1 + 2), s0.2 ++ [((nth (((Qb line)).1) (Int.toNat s0.1)), (((Q8 (Qh (((Qb line)).1) (IntKind.i64.wrap (s0.1 + 1))))).1))])) else (.brk s0.2))
def Yl (x : Qp) (line : ByteArray) : Qp := (bif ((Qh (((Qb line)).1) 0).toList == (⟨#[102, 105, 101, 108, 100]⟩ : ByteArray).toList) then (bif ((Qh (((Qb line)).1) 2).toList == (⟨#[105, 110, 116]⟩ : ByteArray).toList) then ((x.1.1 ++ [(((Qh (((Qb line)).1) 1), 1) : X6)], x.1.2.1, x.1.2.2), x.2) else ((x.1.1 ++ [(((Qh (((Qb line)).1) 1), 2) : X6)], x.1.2.1, x.1.2.2), x.2)) else (bif ((Qh (((Qb line)).1) 0).toList == (⟨#[110, 101, 120, 116]⟩ : ByteArray).toList) then ((x.1.1, x.1.2.1, (X4 (((Qb line)).1) 1)), x.2) else (bif ((Qh (((Qb line)).1) 0).toList == (⟨#[102, 105, 108, 101]⟩ : ByteArray).toList) then (Out.on (JH (Zi line) (List.length (Qb line).1 + 1) (5, [])) (fun y0 => ((x.1.1, x.1.2.1 ++ [((X4 (((Qb line)).1) 1), (X4 (((Qb line)).1) 2), ((Qh (((Qb line)).1) 3).toList == (⟨#[115]⟩ : ByteArray).toList), (X4 (((Qb line)).1) 4), y0)], x.1.2.2), x.2))) else (bif ((Qh (((Qb line)).1) 0).toList == (⟨#[100, 105, 114]⟩ : ByteArray).toList) then (bif decide (((((Qb line)).1).length : Int) > (2 : Int)) then (x.1, x.2 ++ [((Qh (((Qb line)).1) 1), ((X7 (Jm (List.drop 2 (((Qb line)).1))))).1)]) else (x.1, x.2 ++ [(((Qh (((Qb line)).1) 1), []) : Zw)])) else x))))
theorem Qdk (line : ByteArray) : (whl (Zi line) (List.length (Qb line).1 + 1) (5, [])).isSome = true :=
  GX (fun s => s.1 / 2) (((Qb line).1.length : Int) / 2 + 1) (fun s s' h0 h => by
    have hw := (Dm line).1
    unfold Zi at h
    by_cases hc : s.1 < ((Qb line).1.length : Int)
    · rw [decide_eq_true hc, cond_true] at h
      have h := Rd.next.inj h
      rw [← h]
      have e : IntKind.i64.wrap (s.1 + 2) = s.1 + 2 := IntWalk.i64_in _ (by omega)
      simp only [e]
      omega
    rw [decide_eq_false hc, cond_false] at h; cases h) _ _ (by show (0 : Int) ≤ 5 / 2; decide) (by show _ ≤ (5 : Int) / 2 + _; omega)
theorem Qbr (line : ByteArray) : ∃ t, JH (Zi line) (List.length (Qb line).1 + 1) (5, []) = .brk t :=
 BW (fun s r h => by
  unfold Zi at h
  cases hc : decide (s.1 < ((Qb line).1.length : Int)) <;> rw [hc] at h <;> simp at h) _ _ _ (Ou (Qdk line))
theorem LW (x : Qp) (line : ByteArray) : (Yl x line).1.1.length ≤ x.1.1.length + 1 ∧ (Yl x line).1.2.1.length ≤ x.1.2.1.length + 1 ∧ (Yl x line).2.length ≤ x.2.length + 1 := by
 obtain ⟨t, ht⟩ := Qbr line
 unfold Yl
 rw [ht]
 simp only [Bool.cond_eq_ite, Out.on]
 repeat' split
 all_goals (first | omega | (simp only [List.length_append, List.length_cons, List.length_nil]; omega))
theorem YK (x : Qp) (line : ByteArray) (h1 : List.length x.1.1 < 1073741824) (h2 : List.length x.1.2.1 < 1073741824) (h4 : List.length x.2 < 1073741824) : AVal Tryz.prog 129 [.a [.o 40 x.1.1, .o 41 x.1.2.1, .i x.1.2.2, .o 42 x.2], .s line] (.a [.o 0 ((Yl x line).1.1), .o 1 ((Yl x line).1.2.1), .i ((Yl x line).1.2.2), .o 2 ((Yl x line).2)]) := by
 refine IA (tt := tt) Qa Tryz.func129 (fn := Tryz.f129) rfl (by unfold Bu; kernel_rfl) (Nat.le_of_ble_eq_true rfl) rfl fun w0 F0 hG => ?_
 refine sn Qa [1, 2, 4] [2, 4] (p0) ?_
 have hk1 := Dm line
 refine tn Qa [2, 4, 5] [2, 4] (pc 1 (Dj line) p0) ?_
 refine Qc ?_
 refine tu Qa [(2, .p 2 0), (4, .p 4 0), (5, .o 960 (((Qb line)).1)), (19, .s (Qh (((Qb line)).1) 0))] [0, 1] [(2, [.o 40 x.1.1, .o 41 x.1.2.1, .i x.1.2.2, .o 42 x.2]), (4, [.e 2, .e 5, .i 0, .e 2])] [] (pc 1 (Jl (((Qb line)).1) 0 (by omega)) p0) ?_
 refine Qy ?_
 refine sn Qa [2, 4, 5, 19, 20] [2, 4] (p0) ?_
 refine ck ((Qh (((Qb line)).1) 0).toList == (⟨#[102, 105, 101, 108, 100]⟩ : ByteArray).toList) (fun h2 => ?_) (fun h2 => ?_)
 ·
  refine tn Qa [2, 4, 5, 7] [2, 4, 7] (pc 1 (Jl (((Qb line)).1) 1 (by omega)) p0) ?_
  refine Qc ?_
  refine tu Qa [(7, .p 7 0), (27, .b ((Qh (((Qb line)).1) 2).toList == (⟨#[105, 110, 116]⟩ : ByteArray).toList))] [5, 19] [(7, [.s (Qh (((Qb line)).1) 1), .i 2])] [] (pc 1 (Jl (((Qb line)).1) 2 (by omega)) p0) ?_
  refine ck ((Qh (((Qb line)).1) 2).toList == (⟨#[105, 110, 116]⟩ : ByteArray).toList) (fun h3 => ?_) (fun h3 => ?_)
  ·
   refine rn Qa [2, 4, 7] [2, 4, 7] (p0) ?_
   refine wB 2 0 (.own true 40) x.1.1 (fun hw4 hl5 => ?_)
   refine qu Qa [] [7, 27] [(2, [.slc (.own true 2176) 2 ((eL x.1.1) ++ [[.s (Qh (((Qb line)).1) 1), .i 1]]), .o 41 x.1.2.1, .i x.1.2.2, .o 42 x.2])] [2, 7] (pa x.1.1 [(((Qh (((Qb line)).1) 1), 1) : X6)] p0) ?_
   refine eqn [] [] [(2, [.o 2176 (x.1.1 ++ [(((Qh (((Qb line)).1) 1), 1) : X6)]), .o 41 x.1.2.1, .i x.1.2.2, .o 42 x.2])] [2] (by rw [show ((eL x.1.1) ++ [[.s (Qh (((Qb line)).1) 1), .i 1]]) = (eL (x.1.1 ++ [(((Qh (((Qb line)).1) 1), 1) : X6)])) from Je (rfl) (rfl)]; first | done | kernel_rfl) ?_
   refine sn Qa [4] [4] (p0) ?_
   refine Qe ?_
   exact pz [] (show Yl x line = _ from Xi h2 (Xi h3 (rfl))) (fun z => .a [.o 0 z.1.1, .o 1 z.1.2.1, .i z.1.2.2, .o 2 z.2])
  refine Qf ?_
  refine wB 2 0 (.own true 40) x.1.1 (fun hw6 hl7 => ?_)
  refine ru Qa [] [7, 27] [(2, [.slc (.own true 2176) 2 ((eL x.1.1) ++ [[.s (Qh (((Qb line)).1) 1), .i 2]]), .o 41 x.1.2.1, .i x.1.2.2, .o 42 x.2])] [2, 7] (pa x.1.1 [(((Qh (((Qb line)).1) 1), 2) : X6)] p0) ?_
  refine eqn [] [] [(2, [.o 2176 (x.1.1 ++ [(((Qh (((Qb line)).1) 1), 2) : X6)]), .o 41 x.1.2.1, .i x.1.2.2, .o 42 x.2])] [2] (by rw [show ((eL x.1.1) ++ [[.s (Qh (((Qb line)).1) 1), .i 2]]) = (eL (x.1.1 ++ [(((Qh (((Qb line)).1) 1), 2) : X6)])) from Je (rfl) (rfl)]; first | done | kernel_rfl) ?_
  refine sn Qa [4] [4] (p0) ?_
  refine Qe ?_
  exact pz [] (show Yl x line = _ from Xi h2 (Qk h3 (rfl))) (fun z => .a [.o 0 z.1.1, .o 1 z.1.2.1, .i z.1.2.2, .o 2 z.2])
 refine tn Qa [2, 4, 5, 19, 37] [2, 4] (p0) ?_
 refine ck ((Qh (((Qb line)).1) 0).toList == (⟨#[110, 101, 120, 116]⟩ : ByteArray).toList) (fun h8 => ?_) (fun h8 => ?_)
 ·
  refine qu Qa [] [5, 19] [(2, [.o 40 x.1.1, .o 41 x.1.2.1, .i (X4 (((Qb line)).1) 1), .o 42 x.2])] [2] (pc 1 (Cw (((Qb line)).1) 1 (by omega)) p0) ?_
  refine sn Qa [4] [4] (p0) ?_
  refine Qe ?_
  exact pz [] (show Yl x line = _ from Qk h2 (Xi h8 (rfl))) (fun z => .a [.o 0 z.1.1, .o 1 z.1.2.1, .i z.1.2.2, .o 2 z.2])
 refine tu Qa [(43, .b ((Qh (((Qb line)).1) 0).toList == (⟨#[102, 105, 108, 101]⟩ : ByteArray).toList))] [] [] [] (p0) ?_
 refine ck ((Qh (((Qb line)).1) 0).toList == (⟨#[102, 105, 108, 101]⟩ : ByteArray).toList) (fun h9 => ?_) (fun h9 => ?_)
 ·
  refine sn Qa [2, 4, 5, 8] [2, 4, 8] (pc 1 (Cw (((Qb line)).1) 1 (by omega)) (pc 3 (Cw (((Qb line)).1) 2 (by omega)) (pc 5 (Jl (((Qb line)).1) 3 (by omega)) (pc 8 (Cw (((Qb line)).1) 4 (by omega)) p0)))) ?_
  refine Qc ?_
  refine tn Qa [2, 4, 5, 8, 9] [2, 4, 8] (p0) ?_
  refine mz [(8, .p 8 0), (9, .i 5)] [19, 43] [(8, [.i (X4 (((Qb line)).1) 1), .i (X4 (((Qb line)).1) 2), .b ((Qh (((Qb line)).1) 3).toList == (⟨#[115]⟩ : ByteArray).toList), .i (X4 (((Qb line)).1) 4), .e 4])] [] ?_
  refine blw (fun (s0 : Int × (List Kz)) => [(9, .i s0.1)]) [9] (fun s0 => [(8, [.i (X4 (((Qb line)).1) 1), .i (X4 (((Qb line)).1) 2), .b ((Qh (((Qb line)).1) 3).toList == (⟨#[115]⟩ : ByteArray).toList), .i (X4 (((Qb line)).1) 4), .o 147217 s0.2])]) [8] (fun (y0 : (List Kz)) => []) [5, 9] (fun y0 => [(8, [.i (X4 (((Qb line)).1) 1), .i (X4 (((Qb line)).1) 2), .b ((Qh (((Qb line)).1) 3).toList == (⟨#[115]⟩ : ByteArray).toList), .i (X4 (((Qb line)).1) 4), .o 147367 y0])]) [8] (fun (k0 : Nat) (s0 : Int × (List Kz)) => whl (Zi line) k0 s0 = some (JH (Zi line) (List.length (Qb line).1 + 1) (5, [])) ∧ 5 ≤ s0.1 ∧ s0.1 ≤ (List.length (Qb line).1 : Int) + 5 ∧ 2 * (List.length s0.2 : Int) + 5 = s0.1) (fun (y0 : (List Kz)) => (JH (Zi line) (List.length (Qb line).1 + 1) (5, [])) = .brk y0) (List.length (Qb line).1 + 1) (5, []) (M3 [(true, 8, 4, true, 320008, 4)] [] [] [(320008, 147217)] (by kernel_rfl)) ⟨Ou (Qdk line), (by first | omega | rfl | (simp; omega) | (simp; done)), (by first | omega | rfl | (simp; omega) | (simp; done)), (by first | omega | rfl | (simp; omega) | (simp; done))⟩ (fun _ h => XN h.1) (fun k0 s0 hI0 => ?_) (fun y0 hD0 => ?_)
  ·
   have hA0_0 := hI0.2.1
   have hA0_1 := hI0.2.2.1
   have hA0_2 := hI0.2.2.2
   have e1 : IntKind.i64.wrap (s0.1 + 1) = s0.1 + 1 := IntWalk.i64_in _ (by have := (Dm line).1; omega)
   have e2 : IntKind.i64.wrap (s0.1 + 2) = s0.1 + 2 := IntWalk.i64_in _ (by have := (Dm line).1; omega)
   refine Qc ?_
   refine sn Qa [2, 4, 5, 8, 9, 58] [2, 4, 8] (pl 2 (((Qb line)).1) p0) ?_
   refine ck (decide (s0.1 < ((((Qb line)).1).length : Int))) (fun h10 => ?_) (fun h10 => ?_)
   ·
    have h10d := of_decide_eq_true h10
    refine Qf ?_
    refine Qc ?_
    refine Qy ?_
    refine tn Qa [2, 4, 5, 8, 9, 10] [2, 4, 8, 10] (pc 3 (Jl (((Qb line)).1) (IntKind.i64.wrap (s0.1 + 1)) (by omega)) (pc 4 (Ek (Qh (((Qb line)).1) (IntKind.i64.wrap (s0.1 + 1)))) p0)) ?_
    refine wT 5 0 (.own true 960) (((Qb line)).1) (fun hw12 hl13 => ?_)
    have hx11 := ng (((Qb line)).1) (Int.toNat s0.1)
    refine wB 8 4 (.own true 147217) s0.2 (fun hw14 hl15 => ?_)
    refine qU Qa Yp [] [] [(8, [.i (X4 (((Qb line)).1) 1), .i (X4 (((Qb line)).1) 2), .b ((Qh (((Qb line)).1) 3).toList == (⟨#[115]⟩ : ByteArray).toList), .i (X4 (((Qb line)).1) 4), .slc (.own true 4992) 4 ((eL s0.2) ++ [[.s (nth (((Qb line)).1) (Int.toNat s0.1)), .i ((((Q8 (Qh (((Qb line)).1) (IntKind.i64.wrap (s0.1 + 1))))).1).1), .i ((((Q8 (Qh (((Qb line)).1) (IntKind.i64.wrap (s0.1 + 1))))).1).2.1), .s ((((Q8 (Qh (((Qb line)).1) (IntKind.i64.wrap (s0.1 + 1))))).1).2.2)]])])] [8] (pG 4 s0.1 hx11 (pa s0.2 [((nth (((Qb line)).1) (Int.toNat s0.1)), (((Q8 (Qh (((Qb line)).1) (IntKind.i64.wrap (s0.1 + 1))))).1))] p0)) ?_
    refine eqn [] [] [(8, [.i (X4 (((Qb line)).1) 1), .i (X4 (((Qb line)).1) 2), .b ((Qh (((Qb line)).1) 3).toList == (⟨#[115]⟩ : ByteArray).toList), .i (X4 (((Qb line)).1) 4), .o 4992 (s0.2 ++ [((nth (((Qb line)).1) (Int.toNat s0.1)), (((Q8 (Qh (((Qb line)).1) (IntKind.i64.wrap (s0.1 + 1))))).1))])])] [8] (by rw [show ((eL s0.2) ++ [[.s (nth (((Qb line)).1) (Int.toNat s0.1)), .i ((((Q8 (Qh (((Qb line)).1) (IntKind.i64.wrap (s0.1 + 1))))).1).1), .i ((((Q8 (Qh (((Qb line)).1) (IntKind.i64.wrap (s0.1 + 1))))).1).2.1), .s ((((Q8 (Qh (((Qb line)).1) (IntKind.i64.wrap (s0.1 + 1))))).1).2.2)]]) = (eL (s0.2 ++ [((nth (((Qb line)).1) (Int.toNat s0.1)), (((Q8 (Qh (((Qb line)).1) (IntKind.i64.wrap (s0.1 + 1))))).1))])) from Je (rfl) (rfl)]; first | done | kernel_rfl) ?_
    refine rn Qa [2, 4, 5, 8, 9] [2, 4, 8] (p0) ?_
    exact Exists.intro (IntKind.i64.wrap (s0.1 + 2), s0.2 ++ [((nth (((Qb line)).1) (Int.toNat s0.1)), (((Q8 (Qh (((Qb line)).1) (IntKind.i64.wrap (s0.1 + 1))))).1))]) (And.intro (Ys [(4992, 147217)] (by kernel_rfl)) ⟨wn hI0.1 (Xi h10 (rfl)), (by first | omega | (simp; omega)), (by first | omega | (simp; omega)), (by first | omega | (simp; omega))⟩)
   refine Xs ?_
   exact Exists.intro _ (And.intro (Ys [(147217, 147367)] (by kernel_rfl)) (wb hI0.1 (Qk h10 (rfl))))
  refine wB 2 1 (.own true 41) x.1.2.1 (fun hw16 hl17 => ?_)
  refine ru Qa [] [8] [(2, [.o 40 x.1.1, .slc (.own true 5440) 5 ((eL x.1.2.1) ++ [[.i (X4 (((Qb line)).1) 1), .i (X4 (((Qb line)).1) 2), .b ((Qh (((Qb line)).1) 3).toList == (⟨#[115]⟩ : ByteArray).toList), .i (X4 (((Qb line)).1) 4), .h y0]]), .i x.1.2.2, .o 42 x.2])] [2, 8] (pa x.1.2.1 [((X4 (((Qb line)).1) 1), (X4 (((Qb line)).1) 2), ((Qh (((Qb line)).1) 3).toList == (⟨#[115]⟩ : ByteArray).toList), (X4 (((Qb line)).1) 4), y0)] p0) ?_
  refine eqn [] [] [(2, [.o 40 x.1.1, .o 5440 (x.1.2.1 ++ [((X4 (((Qb line)).1) 1), (X4 (((Qb line)).1) 2), ((Qh (((Qb line)).1) 3).toList == (⟨#[115]⟩ : ByteArray).toList), (X4 (((Qb line)).1) 4), y0)]), .i x.1.2.2, .o 42 x.2])] [2] (by rw [show ((eL x.1.2.1) ++ [[.i (X4 (((Qb line)).1) 1), .i (X4 (((Qb line)).1) 2), .b ((Qh (((Qb line)).1) 3).toList == (⟨#[115]⟩ : ByteArray).toList), .i (X4 (((Qb line)).1) 4), .h y0]]) = (eL (x.1.2.1 ++ [((X4 (((Qb line)).1) 1), (X4 (((Qb line)).1) 2), ((Qh (((Qb line)).1) 3).toList == (⟨#[115]⟩ : ByteArray).toList), (X4 (((Qb line)).1) 4), y0)])) from Je (rfl) (rfl)]; first | done | kernel_rfl) ?_
  refine sn Qa [4] [4] (p0) ?_
  refine Qe ?_
  exact pz [] (show Yl x line = _ from Qk h2 (Qk h8 (Xi h9 (V4 hD0 (rfl))))) (fun z => .a [.o 0 z.1.1, .o 1 z.1.2.1, .i z.1.2.2, .o 2 z.2])
 refine sn Qa [2, 4, 5, 88] [2, 4] (p0) ?_
 refine ck ((Qh (((Qb line)).1) 0).toList == (⟨#[100, 105, 114]⟩ : ByteArray).toList) (fun h18 => ?_) (fun h18 => ?_)
 ·
  refine tn Qa [2, 4, 5, 12] [2, 4, 12] (pc 1 (Jl (((Qb line)).1) 1 (by omega)) p0) ?_
  refine Qc ?_
  refine tu Qa [(12, .p 12 0), (95, .b (decide (((((Qb line)).1).length : Int) > (2 : Int))))] [19, 43] [(12, [.s (Qh (((Qb line)).1) 1), .e 7])] [] (pl 1 (((Qb line)).1) p0) ?_
  refine ck (decide (((((Qb line)).1).length : Int) > (2 : Int))) (fun h19 => ?_) (fun h19 => ?_)
  ·
   have h19d := of_decide_eq_true h19
   refine wT 5 0 (.own true 960) (((Qb line)).1) (fun hw20 hl21 => ?_)
   refine rn Qa [2, 4, 12] [2, 4, 12] (pe 1 (My (.vw 960) 1 2 2 (((Qb line)).1) rfl) (px (Co (lo := 2) (hi := (((eL (((Qb line)).1)) : List (List PV)).length : Int)) (n := (List.length (eL (((Qb line)).1)))) (Mz (by omega) (by omega))) (pc 2 (Lz (List.drop 2 (((Qb line)).1)) (by first | exact (Dm _).1 | (simp only [List.length_drop]; have := (Dm line).1; omega)) (by first | exact (Dm _).2 | exact fun y hy => (Dm line).2 y (List.mem_of_mem_drop hy))) (pc 3 (Oh (Jm (List.drop 2 (((Qb line)).1)))) p0)))) ?_
   refine wB 2 3 (.own true 42) x.2 (fun hw22 hl23 => ?_)
   refine qu Qa [] [5, 12, 95] [(2, [.o 40 x.1.1, .o 41 x.1.2.1, .i x.1.2.2, .slc (.own true 6912) 2 ((eL x.2) ++ [[.s (Qh (((Qb line)).1) 1), .h (((X7 (Jm (List.drop 2 (((Qb line)).1))))).1)]])])] [2, 12] (pa x.2 [((Qh (((Qb line)).1) 1), ((X7 (Jm (List.drop 2 (((Qb line)).1))))).1)] p0) ?_
   refine eqn [] [] [(2, [.o 40 x.1.1, .o 41 x.1.2.1, .i x.1.2.2, .o 6912 (x.2 ++ [((Qh (((Qb line)).1) 1), ((X7 (Jm (List.drop 2 (((Qb line)).1))))).1)])])] [2] (by rw [show ((eL x.2) ++ [[.s (Qh (((Qb line)).1) 1), .h (((X7 (Jm (List.drop 2 (((Qb line)).1))))).1)]]) = (eL (x.2 ++ [((Qh (((Qb line)).1) 1), ((X7 (Jm (List.drop 2 (((Qb line)).1))))).1)])) from Je (rfl) (rfl)]; first | done | kernel_rfl) ?_
   refine sn Qa [4] [4] (p0) ?_
   refine Qe ?_
   exact pz [] (show Yl x line = _ from Qk h2 (Qk h8 (Qk h9 (Xi h18 (Xi h19 (rfl)))))) (fun z => .a [.o 0 z.1.1, .o 1 z.1.2.1, .i z.1.2.2, .o 2 z.2])
  have h19d := of_decide_eq_false h19
  refine Qf ?_
  refine wB 2 3 (.own true 42) x.2 (fun hw24 hl25 => ?_)
  refine ru Qa [] [5, 12, 95] [(2, [.o 40 x.1.1, .o 41 x.1.2.1, .i x.1.2.2, .slc (.own true 6912) 2 ((eL x.2) ++ [[.s (Qh (((Qb line)).1) 1), .slc 7 []]])])] [2, 12] (pa x.2 [(((Qh (((Qb line)).1) 1), []) : Zw)] p0) ?_
  refine eqn [] [] [(2, [.o 40 x.1.1, .o 41 x.1.2.1, .i x.1.2.2, .o 6912 (x.2 ++ [(((Qh (((Qb line)).1) 1), []) : Zw)])])] [2] (by rw [show ((eL x.2) ++ [[.s (Qh (((Qb line)).1) 1), .slc 7 []]]) = (eL (x.2 ++ [(((Qh (((Qb line)).1) 1), []) : Zw)])) from Je (rfl) (rfl)]; first | done | kernel_rfl) ?_
  refine sn Qa [4] [4] (p0) ?_
  refine Qe ?_
  exact pz [] (show Yl x line = _ from Qk h2 (Qk h8 (Qk h9 (Xi h18 (Qk h19 (rfl)))))) (fun z => .a [.o 0 z.1.1, .o 1 z.1.2.1, .i z.1.2.2, .o 2 z.2])
 refine Qf ?_
 refine tn Qa [4] [4] (p0) ?_
 refine Qe ?_
 exact pz [] (show Yl x line = _ from Qk h2 (Qk h8 (Qk h9 (Qk h18 (rfl))))) (fun z => .a [.o 0 z.1.1, .o 1 z.1.2.1, .i z.1.2.2, .o 2 z.2])
def Ue (s2_ : (List ByteArray)) (k0 : Nat) (a0 : ByteArray) (_ : Unit) : Rd (Bool) (Unit) (Unit) := (bif (!(a0.toList == (nth s2_ k0).toList)) then (.ret false) else (.next ()))
def Uf (_ : Nat) (_ : Unit) : Unit := ()
def Z5 (s1_ : (List ByteArray)) (s2_ : (List ByteArray)) : Bool := (bif ((s1_.length : Int) != (s2_.length : Int)) then false else (Out.on (Yt (Ue s2_) Uf s1_ 0 ()) (fun _ => true)))
theorem Bg (s1_ : (List ByteArray)) (s2_ : (List ByteArray)) : ACalls Tryz.prog 45 [.h s1_, .h s2_] (.b (Z5 s1_ s2_)) := by
 refine en Qa Tryz.func45 fun w0 F0 hG => ?_
 refine sn Qa [0, 1, 4] [] (p0) ?_
 refine Qc ?_
 refine tn Qa [0, 1, 4, 10] [] (pl 1 s1_ (pl 3 s2_ p0)) ?_
 refine ck ((s1_.length : Int) != (s2_.length : Int)) (fun h1 => ?_) (fun h1 => ?_)
 ·
  refine tu Qa [(4, .b false)] [] [] [] (p0) ?_
  refine Qe ?_
  exact pb [] (Xi h1 (rfl))
 have h1d := Hs h1
 refine Qf ?_
 refine Qc ?_
 refine tu Qa [(4, .b false), (12, .i (s1_.length : Int)), (13, .i 0)] [] [] [] (pl 1 s1_ p0) ?_
 refine wT 0 0 .sh s1_ (fun hw2 hl3 => ?_)
 refine Su (Ue s2_) Uf s1_ () (fun k0 _ => [(13, .i ((k0 : Nat) : Int))]) [13] (fun _ => []) [0, 1, 12, 13] wf0 (fun k0 s0 hk0 hI0 => ?_) (fun k0 s0 hk0 hI0 => ?_) (fun y0 hD0 => ?_)
 ·
  obtain ⟨a0, hx0⟩ := Yi (l := s1_) (i := k0) hk0
  refine su Qa [(14, .b true)] [] [] [] (pe 0 (Qz (decide_eq_true (p := ((k0 : Nat) : Int) < (s1_.length : Int)) (by omega))) p0) ?_
  refine Qc ?_
  refine ckT ?_
  refine Qf ?_
  refine Qc ?_
  refine Qy ?_
  refine sn Qa [0, 1, 4, 5, 12, 13] [] (p0) ?_
  refine wT 1 0 .sh s2_ (fun hw5 hl6 => ?_)
  have hx4 := ng s2_ k0
  refine tN Qa Yp [0, 1, 4, 12, 13, 24] [] (pn 2 hx0 (pn 6 hx4 p0)) ?_
  refine ck (!(a0.toList == (nth s2_ k0).toList)) (fun h7 => ?_) (fun h7 => ?_)
  ·
   refine tu Qa [] [14] [] [] (p0) ?_
   refine Qe ?_
   have hr8 : (Yt (Ue s2_) Uf s1_ 0 ()) = .ret false := Kh hx0 (Xi h7 (rfl)) hI0
   exact pb [] (Qk h1 (N7 hr8))
  refine Qf ?_
  refine qu Qa [(13, .i ((k0 + 1 : Nat) : Int))] [13, 14] [] [] (pe 0 (Jr (Q1 k0 (by omega))) p0) ?_
  exact xw _ (Xl hx0 (Qk h7 (rfl)) hI0)
 ·
  refine sn Qa [0, 1, 4, 12, 13, 14] [] (pe 0 (Qz (decide_eq_false (p := ((k0 : Nat) : Int) < (s1_.length : Int)) (by omega))) p0) ?_
  refine Qc ?_
  refine ckF ?_
  refine Xs ?_
  exact xw _ (Yn hk0 (rfl) hI0)
 refine sn Qa [4] [] (p0) ?_
 refine Qe ?_
 exact pb [] (Qk h1 (V4 hD0 (rfl)))
def J6 (_ : Nat) (a0 : ByteArray) (s0 : Qp) : Rd (Qp × Bool) (Qp) (Qp) := (lt (Y2 s0.1.1 s0.1.2.1 s0.1.2.2 s0.2 a0) (fun x3 => (bif (!x3.1) then (.ret ((([], [], 0), []), false)) else (.next ((x3.2.1, x3.2.2.1, x3.2.2.2.1), x3.2.2.2.2)))))
def Ve (_ : Nat) (s0 : Qp) : Qp := s0
def Q5 (lines : (List ByteArray)) : Qp × Bool := (Out.on (Yt J6 Ve lines 0 (([], [], 0), [])) (fun y0 => (bif ((!(Qi y0)) || (!(Z5 (Qt y0) lines))) then ((([], [], 0), []), false) else (y0, true))))
theorem F6 (lines : (List ByteArray)) (hl : ∀ y, y ∈ lines → ByteArray.size y ≤ 1073741000) : ACalls Tryz.prog 111 [.h lines] (.tup [(true, [.o 0 ((((Q5 lines)).1).1.1), .o 1 ((((Q5 lines)).1).1.2.1), .i ((((Q5 lines)).1).1.2.2), .o 2 ((((Q5 lines)).1).2)]), (false, [.b (((Q5 lines)).2)])]) := by
 refine en Qa Tryz.func111 fun w0 F0 hG => ?_
 refine sn Qa [0, 2, 3] [2] (p0) ?_
 refine tn Qa [0, 2, 3, 4] [2, 4] (p0) ?_
 refine Qc ?_
 refine tu Qa [(2, .p 2 0), (3, .b false), (4, .p 4 0), (8, .h lines), (9, .i (lines.length : Int)), (10, .i 0)] [] [(2, [.e 2, .e 5, .i 0, .e 2]), (4, [.e 2, .e 5, .i 0, .e 2])] [] (pl 1 lines p0) ?_
 refine wT 0 0 .sh lines (fun hw1 hl2 => ?_)
 refine GW J6 Ve lines (([], [], 0), []) (fun k0 _ => [(10, .i ((k0 : Nat) : Int))]) [10] (fun _ s0 => [(4, [.o 147211 s0.1.1, .o 147212 s0.1.2.1, .i s0.1.2.2, .o 147214 s0.2])]) [4] (fun _ => []) [8, 9, 10] (fun y0 => [(4, [.o 147361 y0.1.1, .o 147362 y0.1.2.1, .i y0.1.2.2, .o 147364 y0.2])]) [4] (fun k0 s0 => List.length s0.1.1 ≤ k0 ∧ List.length s0.1.2.1 ≤ k0 ∧ List.length s0.2 ≤ k0) (M3 [(true, 4, 0, true, 320008, 2), (true, 4, 1, true, 320009, 5), (true, 4, 3, true, 320010, 2)] [] [] [(320008, 147211), (320009, 147212), (320010, 147214)] (by kernel_rfl)) ⟨(by exact Nat.zero_le _), (by exact Nat.zero_le _), (by exact Nat.zero_le _)⟩ (fun k0 s0 hk0 hI0 => ?_) (fun k0 s0 hk0 hI0 => ?_) (fun y0 hD0 => ?_)
 ·
  have hA0_0 := hI0.2.1
  have hA0_1 := hI0.2.2.1
  have hA0_2 := hI0.2.2.2
  obtain ⟨a0, hx0⟩ := Yi (l := lines) (i := k0) hk0
  refine su Qa [(11, .b true)] [] [] [] (pe 0 (Qz (decide_eq_true (p := ((k0 : Nat) : Int) < (lines.length : Int)) (by omega))) p0) ?_
  refine Qc ?_
  refine ckT ?_
  refine Qf ?_
  refine Qc ?_
  refine Qy ?_
  refine su Qa [(6, .s a0)] [11] [] [] (pn 0 hx0 p0) ?_
  obtain ⟨x3, hx3⟩ := nm (Y2 s0.1.1 s0.1.2.1 s0.1.2.2 s0.2 a0)
  have hqx3 := LV s0.1.1 s0.1.2.1 s0.1.2.2 s0.2 a0
  rw [hx3] at hqx3
  refine sn Qa [0, 2, 3, 4, 8, 9, 10, 16] [2, 4] (po 1 (.give none (.b x3.1) [.o 40 x3.2.1, .o 41 x3.2.2.1, .i x3.2.2.2.1, .o 43 x3.2.2.2.2]) (px (B3 (hx3 ▸ DN s0.1.1 s0.1.2.1 s0.1.2.2 s0.2 a0 (hl _ (List.mem_of_getElem? hx0)) (by omega) (by omega) (by omega))) p0)) ?_
  refine ck (!x3.1) (fun h4 => ?_) (fun h4 => ?_)
  ·
   refine tn Qa [0, 2, 3, 4, 8, 9, 10] [2, 4] (p0) ?_
   refine opn [(true, 2, 0, true, 384000, 2), (true, 2, 1, true, 384001, 5), (true, 2, 3, true, 384002, 2)] ?_
   refine Qe ?_
   have hr5 : (Yt J6 Ve lines 0 (([], [], 0), [])) = .ret ((([], [], 0), []), false) := Kh hx0 (by exact E9 hx3 (Xi h4 (rfl))) hI0.1
   exact pz [] (show Q5 lines = _ from N7 hr5) (fun z => .tup [(true, [.o 0 z.1.1.1, .o 1 z.1.1.2.1, .i z.1.1.2.2, .o 2 z.1.2]), (false, [.b z.2])])
  refine Qf ?_
  refine qn Qa [0, 2, 3, 4, 8, 9, 10] [2, 4] (pe 0 (Jr (Q1 k0 (by omega))) p0) ?_
  exact Exists.intro ((x3.2.1, x3.2.2.1, x3.2.2.2.1), x3.2.2.2.2) (And.intro (Ys [(1000, 147211), (1001, 147212), (1003, 147214)] (by kernel_rfl)) ⟨Xl hx0 (E9 hx3 (Qk h4 (rfl))) hI0.1, (by first | omega | (dsimp only; omega)), (by first | omega | (dsimp only; omega)), (by first | omega | (dsimp only; omega))⟩)
 ·
  have hA0_0 := hI0.2.1
  have hA0_1 := hI0.2.2.1
  have hA0_2 := hI0.2.2.2
  refine su Qa [(11, .b false)] [] [] [] (pe 0 (Qz (decide_eq_false (p := ((k0 : Nat) : Int) < (lines.length : Int)) (by omega))) p0) ?_
  refine Qc ?_
  refine ckF ?_
  refine Xs ?_
  exact Exists.intro _ (And.intro (Ys [(147211, 147361), (147212, 147362), (147214, 147364)] (by kernel_rfl)) (Yn hk0 (rfl) hI0.1))
 refine Qc ?_
 refine Qc ?_
 refine jn [(28, .b ((!(Qi y0)) || (!(Z5 (Qt y0) lines))))] [0] [] [] (!(Qi y0)) (fun h6 => ?_) (fun h6 => ?_) ?_
 ·
  have h6n : (Qi y0) = false := Vz h6
  refine rn Qa [2, 3, 4, 28] [2, 4] (pc 1 (cb h6n (J3 y0)) (pe 2 (show .b (!false) = .b true from rfl) p0)) ?_
  exact ⟨rfl, Qd (by rw [h6] <;> kernel_rfl)⟩
 ·
  have h6n : (Qi y0) = true := Jb h6
  refine rn Qa [2, 3, 4, 28] [2, 4] (pc 1 (cb h6n (J3 y0)) (pe 2 (show .b (!true) = .b false from rfl) (pc 5 (Vq y0) (pc 7 (Bg (Qt y0) lines) p0)))) ?_
  exact ⟨rfl, Qd (by rw [h6] <;> kernel_rfl)⟩
 refine ck ((!(Qi y0)) || (!(Z5 (Qt y0) lines))) (fun h7 => ?_) (fun h7 => ?_)
 ·
  refine su Qa [] [28] [] [] (p0) ?_
  refine opn [(true, 2, 0, true, 384000, 2), (true, 2, 1, true, 384001, 5), (true, 2, 3, true, 384002, 2)] ?_
  refine Qe ?_
  exact pz [] (show Q5 lines = _ from V4 hD0 (Xi h7 (rfl))) (fun z => .tup [(true, [.o 0 z.1.1.1, .o 1 z.1.1.2.1, .i z.1.1.2.2, .o 2 z.1.2]), (false, [.b z.2])])
 refine Qf ?_
 refine sn Qa [2, 3] [2] (p0) ?_
 refine Qe ?_
 exact pz [] (show Q5 lines = _ from V4 hD0 (Qk h7 (rfl))) (fun z => .tup [(true, [.o 0 z.1.1.1, .o 1 z.1.1.2.1, .i z.1.1.2.2, .o 2 z.1.2]), (false, [.b z.2])])
def Vf (_ : Nat) (a0 : ByteArray) (s0 : Qp) : Rd (Qp × Bool) (Qp) (Qp) := (lt (Yl s0 a0) (fun x3 => (.next x3)))
def Ug (_ : Nat) (s0 : Qp) : Qp := s0
def Xa (lines : (List ByteArray)) : Qp × Bool := (Out.on (Yt Vf Ug lines 0 (([], [], 0), [])) (fun y0 => (bif ((!(Q4 y0)) || (!(V1 (Xh y0) lines))) then ((([], [], 0), []), false) else (y0, true))))
theorem F7 (lines : (List ByteArray)) (hl : ∀ y, y ∈ lines → ByteArray.size y ≤ 1073741000) : ACalls Tryz.prog 95 [.h lines] (.tup [(true, [.o 0 ((((Xa lines)).1).1.1), .o 1 ((((Xa lines)).1).1.2.1), .i ((((Xa lines)).1).1.2.2), .o 2 ((((Xa lines)).1).2)]), (false, [.b (((Xa lines)).2)])]) := by
 refine en Qa Tryz.func95 fun w0 F0 hG => ?_
 refine sn Qa [0, 2, 3] [2] (p0) ?_
 refine tn Qa [0, 2, 3, 4] [2, 4] (p0) ?_
 refine Qc ?_
 refine tu Qa [(2, .p 2 0), (3, .b false), (4, .p 4 0), (5, .i 0)] [] [(2, [.e 2, .e 5, .i 0, .e 2]), (4, [.e 2, .e 5, .i 0, .e 2])] [] (p0) ?_
 refine wT 0 0 .sh lines (fun hw1 hl2 => ?_)
 refine GW Vf Ug lines (([], [], 0), []) (fun k0 _ => [(5, .i ((k0 : Nat) : Int))]) [5] (fun _ s0 => [(2, [.slc (.own true 147205) 2 [], .e 5, .i 0, .e 2]), (4, [.o 147209 s0.1.1, .o 147210 s0.1.2.1, .i s0.1.2.2, .o 147212 s0.2])]) [2, 4] (fun _ => []) [5] (fun y0 => [(2, [.slc (.own true 147355) 2 [], .e 5, .i 0, .e 2]), (4, [.o 147359 y0.1.1, .o 147360 y0.1.2.1, .i y0.1.2.2, .o 147362 y0.2])]) [2, 4] (fun k0 s0 => List.length s0.1.1 ≤ k0 ∧ List.length s0.1.2.1 ≤ k0 ∧ List.length s0.2 ≤ k0) (M3 [(true, 2, 0, true, 320008, 2), (true, 4, 0, true, 320009, 2), (true, 4, 1, true, 320010, 5), (true, 4, 3, true, 320011, 2)] [] [] [(320008, 147205), (320009, 147209), (320010, 147210), (320011, 147212)] (by kernel_rfl)) ⟨(by exact Nat.zero_le _), (by exact Nat.zero_le _), (by exact Nat.zero_le _)⟩ (fun k0 s0 hk0 hI0 => ?_) (fun k0 s0 hk0 hI0 => ?_) (fun y0 hD0 => ?_)
 ·
  have hA0_0 := hI0.2.1
  have hA0_1 := hI0.2.2.1
  have hA0_2 := hI0.2.2.2
  obtain ⟨a0, hx0⟩ := Yi (l := lines) (i := k0) hk0
  refine Qc ?_
  refine su Qa [(10, .b true)] [] [] [] (pl 2 lines (pe 3 (Qz (decide_eq_true (p := ((k0 : Nat) : Int) < (lines.length : Int)) (by omega))) p0)) ?_
  refine ckT ?_
  refine Qf ?_
  refine Qc ?_
  refine Qy ?_
  obtain ⟨x3, hx3⟩ := nm ((Yl s0 a0))
  have hqx3 := LW s0 a0
  rw [hx3] at hqx3
  refine rN Qa Yp [0, 2, 3, 4, 5] [2, 4] (pn 3 hx0 (po 5 (.giv [147209, 147210, 147212] (.a [.o 0 x3.1.1, .o 1 x3.1.2.1, .i x3.1.2.2, .o 2 x3.2])) (px (AQ (hx3 ▸ YK s0 a0 (by omega) (by omega) (by omega))) p0))) ?_
  refine qn Qa [0, 2, 3, 4, 5] [2, 4] (pe 1 (Jr (Q1 k0 (by omega))) p0) ?_
  exact Exists.intro x3 (And.intro (Ys [(1152, 147209), (1153, 147210), (1154, 147212)] (by kernel_rfl)) ⟨Xl hx0 (E9 hx3 (rfl)) hI0.1, (by first | omega | (dsimp only; omega)), (by first | omega | (dsimp only; omega)), (by first | omega | (dsimp only; omega))⟩)
 ·
  have hA0_0 := hI0.2.1
  have hA0_1 := hI0.2.2.1
  have hA0_2 := hI0.2.2.2
  refine Qc ?_
  refine su Qa [(10, .b false)] [] [] [] (pl 2 lines (pe 3 (Qz (decide_eq_false (p := ((k0 : Nat) : Int) < (lines.length : Int)) (by omega))) p0)) ?_
  refine ckF ?_
  refine Xs ?_
  exact Exists.intro _ (And.intro (Ys [(147205, 147355), (147209, 147359), (147210, 147360), (147212, 147362)] (by kernel_rfl)) (Yn hk0 (rfl) hI0.1))
 refine Qc ?_
 refine Qc ?_
 refine jn [(28, .b ((!(Q4 y0)) || (!(V1 (Xh y0) lines))))] [0] [] [] (!(Q4 y0)) (fun h4 => ?_) (fun h4 => ?_) ?_
 ·
  have h4n : (Q4 y0) = false := Vz h4
  refine rn Qa [2, 3, 4, 28] [2, 4] (pc 1 (cb h4n (J4 y0)) (pe 2 (show .b (!false) = .b true from rfl) p0)) ?_
  exact ⟨rfl, Qd (by rw [h4] <;> kernel_rfl)⟩
 ·
  have h4n : (Q4 y0) = true := Jb h4
  refine rn Qa [2, 3, 4, 28] [2, 4] (pc 1 (cb h4n (J4 y0)) (pe 2 (show .b (!true) = .b false from rfl) (pc 5 (Vr y0) (pc 7 (Gt (Xh y0) lines) p0)))) ?_
  exact ⟨rfl, Qd (by rw [h4] <;> kernel_rfl)⟩
 refine ck ((!(Q4 y0)) || (!(V1 (Xh y0) lines))) (fun h5 => ?_) (fun h5 => ?_)
 ·
  refine sn Qa [2, 3, 4] [2, 4] (p0) ?_
  refine opn [(true, 2, 0, true, 384000, 2), (true, 2, 1, true, 384001, 5), (true, 2, 3, true, 384002, 2)] ?_
  refine Qe ?_
  exact pz [] (show Xa lines = _ from V4 hD0 (Xi h5 (rfl))) (fun z => .tup [(true, [.o 0 z.1.1.1, .o 1 z.1.1.2.1, .i z.1.1.2.2, .o 2 z.1.2]), (false, [.b z.2])])
 refine Qf ?_
 refine sn Qa [2, 3] [2] (p0) ?_
 refine Qe ?_
 exact pz [] (show Xa lines = _ from V4 hD0 (Qk h5 (rfl))) (fun z => .tup [(true, [.o 0 z.1.1.1, .o 1 z.1.1.2.1, .i z.1.1.2.2, .o 2 z.1.2]), (false, [.b z.2])])
theorem YL (s : ByteArray) : ∀ (rest : List UInt8) (k b : Nat) (o : List ByteArray) (cur : List UInt8), s.data.toList.drop k = rest → b ≤ k → k ≤ s.size → cur = (s.data.toList.drop b).take (k - b) → 10 ∉ cur →
    Jn (H5 s) Bp rest.length k (o, (b : Int)) = .brk (o ++ ((R0 10 (cur ++ rest)).map W0).dropLast)
  | [], k, b, o, cur, _, _, _, _, hc => by
    rw [List.append_nil, HD hc]
    simp [Jn, Bp]
  | c :: rest, k, b, o, cur, hr, hb, hk, hcur, hc => by
    obtain ⟨hx, hd, hlt⟩ := Ch hr
    rw [Hf] at hlt
    have hl : cur.length = k - b := by rw [hcur, List.length_take, List.length_drop, Hf]; omega
    rw [List.length_cons]
    have hf : H5 s k (o, (b : Int)) = (bif ((c.toNat : Int) == (10 : Int)) then (.next (o ++ [W0 cur], ((k + 1 : Nat) : Int))) else (.next (o, (b : Int)))) := by
      unfold H5
      rw [Dl hx]
      simp only [Int.toNat_natCast]
      rw [Fm, ← hcur]
    by_cases h10 : c = 10
    · subst h10
      rw [show (((10 : UInt8).toNat : Int) == (10 : Int)) = true from rfl, cond_true] at hf
      rw [D7 hf, YL s rest (k + 1) (k + 1) _ [] hd (Nat.le_refl _) (by omega) (by rw [Nat.sub_self]; rfl) (by simp), YG rest hc, List.append_assoc, List.nil_append]
      obtain ⟨q, qs, hq⟩ := R1 10 rest
      rw [hq]
      rfl
    have h1 : ((c.toNat : Int) == (10 : Int)) = false := by
      cases hz : ((c.toNat : Int) == (10 : Int)) with
      | false => rfl
      | true => exact absurd (UInt8.toNat_inj.1 (show c.toNat = (10 : UInt8).toNat by have := eq_of_beq hz; have e : (10 : UInt8).toNat = 10 := rfl; omega)) h10
    rw [h1, cond_false] at hf
    rw [D7 hf, YL s rest (k + 1) b o (cur ++ [c]) hd (by omega) (by omega) ?_ ?_, List.append_assoc, List.singleton_append]
    · have : (s.data.toList.drop b)[k - b]? = some c := by rw [List.getElem?_drop, show b + (k - b) = k by omega]; exact hx
      rw [show k + 1 - b = (k - b) + 1 by omega, List.take_add_one, this, ← hcur]
      rfl
    exact fun hm => (List.mem_append.1 hm).elim hc fun h => h10 (List.mem_singleton.1 h).symm
theorem BX (s : ByteArray) : X2 s = (Qm 10 s).dropLast := by
  unfold X2
  have h := YL s s.data.toList 0 0 [] [] rfl (Nat.le_refl _) (Nat.zero_le _) rfl (by simp)
  rw [Hf] at h
  rw [show Int.toNat (ByteArray.size s : Int) = s.size by omega, show (([] : List ByteArray), (0 : Int)) = ([], ((0 : Nat) : Int)) from rfl, h]
  rfl
theorem RF {s : ByteArray} {n : Nat} (h : s.size ≤ n) : ∀ y, y ∈ X2 s → y.size ≤ n := fun y hy => by
  rw [BX] at hy
  have := (F4 10 s).2 y ((List.dropLast_sublist _).subset hy)
  omega
open GoE (enc wide)
def Qr (s_ : ByteArray) : Int × Qp × Bool := (bif decide (((Qm 10 s_).length : Int) < (2 : Int)) then (0, (([], [], 0), []), false) else (bif ((!((Qg (nth (Qm 10 s_) 0)).2)) || ((!(((Q5 (List.drop 1 (List.take (Int.toNat (((Qm 10 s_).length : Int) - 1)) (Qm 10 s_))))).2)) || (!((Kn ((Qg (nth (Qm 10 s_) 0)).1) (((Q5 (List.drop 1 (List.take (Int.toNat (((Qm 10 s_).length : Int) - 1)) (Qm 10 s_))))).1)).toList == s_.toList)))) then (0, (([], [], 0), []), false) else ((Qg (nth (Qm 10 s_) 0)).1, (((Q5 (List.drop 1 (List.take (Int.toNat (((Qm 10 s_).length : Int) - 1)) (Qm 10 s_))))).1), true)))
theorem El (s_ : ByteArray) (hs : ByteArray.size s_ ≤ 1073741000) : ACalls Tryz.prog 74 [.s s_] (.tup [(false, [.i (((Qr s_)).1)]), (true, [.o 0 ((((Qr s_)).2.1).1.1), .o 1 ((((Qr s_)).2.1).1.2.1), .i ((((Qr s_)).2.1).1.2.2), .o 2 ((((Qr s_)).2.1).2)]), (false, [.b (((Qr s_)).2.2)])]) := by
 refine en Qa Tryz.func74 fun w0 F0 hG => ?_
 have hsc := Ni 10 s_
 refine sn Qa [0, 2, 3, 4] [3] (p0) ?_
 refine stT 0 0 s_ (fun hs1 => ?_)
 refine tn Qa [0, 2, 3, 4, 5] [3] (pc 1 (Gp s_ 10 (by omega)) p0) ?_
 refine Qc ?_
 refine tu Qa [(2, .i 0), (3, .p 3 0), (4, .b false), (5, .o 704 (Qm 10 s_)), (14, .b (decide (((Qm 10 s_).length : Int) < (2 : Int))))] [] [(3, [.e 2, .e 5, .i 0, .e 2])] [] (pl 1 (Qm 10 s_) p0) ?_
 refine ck (decide (((Qm 10 s_).length : Int) < (2 : Int))) (fun h2 => ?_) (fun h2 => ?_)
 ·
  refine su Qa [] [14] [] [] (p0) ?_
  refine opn [(true, 3, 0, true, 384000, 2), (true, 3, 1, true, 384001, 5), (true, 3, 3, true, 384002, 2)] ?_
  refine Qe ?_
  exact pz [] (show Qr s_ = _ from Xi h2 (rfl)) (fun z => .tup [(false, [.i z.1]), (true, [.o 0 z.2.1.1.1, .o 1 z.2.1.1.2.1, .i z.2.1.1.2.2, .o 2 z.2.1.2]), (false, [.b z.2.2])])
 have h2d := of_decide_eq_false h2
 refine Qf ?_
 refine wT 5 0 (.own true 704) (Qm 10 s_) (fun hw4 hl5 => ?_)
 have hx3 := ng (Qm 10 s_) 0
 refine sn Qa [0, 2, 3, 4, 5, 6, 7] [3] (pG 1 0 hx3 (pc 3 (Vw (nth (Qm 10 s_) 0)) p0)) ?_
 refine tn Qa [0, 2, 3, 4, 6, 7, 8, 9] [3, 8] (pl 2 (Qm 10 s_) (pe 3 (Jr (IntWalk.i64_in (((Qm 10 s_).length : Int) - 1) (by omega))) (pe 4 (Qc2 (.vw 704) 1 1 (Int.toNat (((Qm 10 s_).length : Int) - 1)) 1 (((Qm 10 s_).length : Int) - 1) (Qm 10 s_) rfl rfl) (px (Co (lo := 1) (hi := (((Qm 10 s_).length : Int) - 1)) (n := (List.length (eL (Qm 10 s_)))) (SS (by omega) (by omega) (by omega))) (pc 5 (F6 (List.drop 1 (List.take (Int.toNat (((Qm 10 s_).length : Int) - 1)) (Qm 10 s_))) (fun y hy => Nat.le_trans ((F4 10 s_).2 y (List.mem_of_mem_take (List.mem_of_mem_drop hy))) hs)) p0))))) ?_
 refine Qc ?_
 refine Qc ?_
 refine mz [(6, .i ((Qg (nth (Qm 10 s_) 0)).1)), (7, .b ((Qg (nth (Qm 10 s_) 0)).2)), (8, .p 8 0), (9, .b (((Q5 (List.drop 1 (List.take (Int.toNat (((Qm 10 s_).length : Int) - 1)) (Qm 10 s_))))).2))] [5, 14] [(8, [.o 1856 ((((Q5 (List.drop 1 (List.take (Int.toNat (((Qm 10 s_).length : Int) - 1)) (Qm 10 s_))))).1).1.1), .o 1857 ((((Q5 (List.drop 1 (List.take (Int.toNat (((Qm 10 s_).length : Int) - 1)) (Qm 10 s_))))).1).1.2.1), .i ((((Q5 (List.drop 1 (List.take (Int.toNat (((Qm 10 s_).length : Int) - 1)) (Qm 10 s_))))).1).1.2.2), .o 1858 ((((Q5 (List.drop 1 (List.take (Int.toNat (((Qm 10 s_).length : Int) - 1)) (Qm 10 s_))))).1).2)])] [] ?_
 refine jn [(44, .b ((!((Qg (nth (Qm 10 s_) 0)).2)) || ((!(((Q5 (List.drop 1 (List.take (Int.toNat (((Qm 10 s_).length : Int) - 1)) (Qm 10 s_))))).2)) || (!((Kn ((Qg (nth (Qm 10 s_) 0)).1) (((Q5 (List.drop 1 (List.take (Int.toNat (((Qm 10 s_).length : Int) - 1)) (Qm 10 s_))))).1)).toList == s_.toList)))))] [0, 7, 9] [] [] (!((Qg (nth (Qm 10 s_) 0)).2)) (fun h6 => ?_) (fun h6 => ?_) ?_
 ·
  have h6n : ((Qg (nth (Qm 10 s_) 0)).2) = false := Vz h6
  refine rn Qa [2, 3, 4, 6, 8, 44] [3, 8] (pf 0 h6n (pe 1 (show .b (!false) = .b true from rfl) p0)) ?_
  exact ⟨rfl, Qd (by rw [h6] <;> kernel_rfl)⟩
 ·
  have h6n : ((Qg (nth (Qm 10 s_) 0)).2) = true := Jb h6
  refine Xr (!(((Q5 (List.drop 1 (List.take (Int.toNat (((Qm 10 s_).length : Int) - 1)) (Qm 10 s_))))).2)) (fun h7 => ?_) (fun h7 => ?_)
  ·
   have h7n : (((Q5 (List.drop 1 (List.take (Int.toNat (((Qm 10 s_).length : Int) - 1)) (Qm 10 s_))))).2) = false := Vz h7
   refine rn Qa [2, 3, 4, 6, 8, 44] [3, 8] (pt 0 h6n (pe 1 (show .b (!true) = .b false from rfl) (pf 3 h7n (pe 4 (show .b (!false) = .b true from rfl) p0)))) ?_
   exact ⟨rfl, Qd (by rw [h6, h7] <;> kernel_rfl)⟩
  have h7n : (((Q5 (List.drop 1 (List.take (Int.toNat (((Qm 10 s_).length : Int) - 1)) (Qm 10 s_))))).2) = true := Jb h7
  refine rn Qa [2, 3, 4, 6, 8, 44] [3, 8] (pt 0 h6n (pe 1 (show .b (!true) = .b false from rfl) (pt 3 h7n (pe 4 (show .b (!true) = .b false from rfl) (pc 9 (Od ((Qg (nth (Qm 10 s_) 0)).1) (((Q5 (List.drop 1 (List.take (Int.toNat (((Qm 10 s_).length : Int) - 1)) (Qm 10 s_))))).1)) p0))))) ?_
  exact ⟨rfl, Qd (by rw [h6, h7] <;> kernel_rfl)⟩
 refine ck ((!((Qg (nth (Qm 10 s_) 0)).2)) || ((!(((Q5 (List.drop 1 (List.take (Int.toNat (((Qm 10 s_).length : Int) - 1)) (Qm 10 s_))))).2)) || (!((Kn ((Qg (nth (Qm 10 s_) 0)).1) (((Q5 (List.drop 1 (List.take (Int.toNat (((Qm 10 s_).length : Int) - 1)) (Qm 10 s_))))).1)).toList == s_.toList)))) (fun h8 => ?_) (fun h8 => ?_)
 ·
  refine su Qa [] [44] [] [] (p0) ?_
  refine opn [(true, 3, 0, true, 384000, 2), (true, 3, 1, true, 384001, 5), (true, 3, 3, true, 384002, 2)] ?_
  refine Qe ?_
  exact pz [] (show Qr s_ = _ from Qk h2 (Xi h8 (rfl))) (fun z => .tup [(false, [.i z.1]), (true, [.o 0 z.2.1.1.1, .o 1 z.2.1.1.2.1, .i z.2.1.1.2.2, .o 2 z.2.1.2]), (false, [.b z.2.2])])
 refine Qf ?_
 refine sN Qa Yp [2, 3, 4] [3] (p0) ?_
 refine Qe ?_
 exact pz [] (show Qr s_ = _ from Qk h2 (Qk h8 (rfl))) (fun z => .tup [(false, [.i z.1]), (true, [.o 0 z.2.1.1.1, .o 1 z.2.1.1.2.1, .i z.2.1.1.2.2, .o 2 z.2.1.2]), (false, [.b z.2.2])])
def Qv (s_ : ByteArray) : Int × Qp × Bool := (bif (((X2 s_).length : Int) == (0 : Int)) then (0, (([], [], 0), []), false) else (bif ((!(((Xa (List.drop 1 (X2 s_)))).2)) || (!((Wk (((Q3 (nth (X2 s_) 0))).1) (((Xa (List.drop 1 (X2 s_)))).1)).toList == s_.toList))) then (0, (([], [], 0), []), false) else (((Q3 (nth (X2 s_) 0))).1, (((Xa (List.drop 1 (X2 s_)))).1), true)))
theorem Em (s_ : ByteArray) (hs : ByteArray.size s_ ≤ 1073741000) : ACalls Tryz.prog 60 [.s s_] (.tup [(false, [.i (((Qv s_)).1)]), (true, [.o 0 ((((Qv s_)).2.1).1.1), .o 1 ((((Qv s_)).2.1).1.2.1), .i ((((Qv s_)).2.1).1.2.2), .o 2 ((((Qv s_)).2.1).2)]), (false, [.b (((Qv s_)).2.2)])]) := by
 refine en Qa Tryz.func60 fun w0 F0 hG => ?_
 refine sn Qa [0, 2, 3, 4] [3] (p0) ?_
 refine tn Qa [0, 2, 3, 4, 5] [3] (pc 1 (KH s_ (by omega)) p0) ?_
 refine Qc ?_
 refine tu Qa [(2, .i 0), (3, .p 3 0), (4, .b false), (5, .o 704 (X2 s_)), (14, .b (((X2 s_).length : Int) == (0 : Int)))] [] [(3, [.e 2, .e 5, .i 0, .e 2])] [] (pl 1 (X2 s_) p0) ?_
 refine ck (((X2 s_).length : Int) == (0 : Int)) (fun h1 => ?_) (fun h1 => ?_)
 ·
  refine su Qa [] [14] [] [] (p0) ?_
  refine opn [(true, 3, 0, true, 384000, 2), (true, 3, 1, true, 384001, 5), (true, 3, 3, true, 384002, 2)] ?_
  refine Qe ?_
  exact pz [] (show Qv s_ = _ from Xi h1 (rfl)) (fun z => .tup [(false, [.i z.1]), (true, [.o 0 z.2.1.1.1, .o 1 z.2.1.1.2.1, .i z.2.1.1.2.2, .o 2 z.2.1.2]), (false, [.b z.2.2])])
 have h1d := Yg h1
 refine Qf ?_
 refine wT 5 0 (.own true 704) (X2 s_) (fun hw3 hl4 => ?_)
 have hx2 := ng (X2 s_) 0
 refine sn Qa [0, 2, 3, 4, 5, 6] [3] (pG 1 0 hx2 (pc 3 (Ce (nth (X2 s_) 0)) p0)) ?_
 refine tn Qa [0, 2, 3, 4, 6, 8, 9] [3, 8] (pe 1 (My (.vw 704) 1 1 1 (X2 s_) rfl) (px (Co (lo := 1) (hi := (((eL (X2 s_)) : List (List PV)).length : Int)) (n := (List.length (eL (X2 s_)))) (Mz (by omega) (by omega))) (pc 2 (F7 (List.drop 1 (X2 s_)) (fun y hy => RF hs y (List.mem_of_mem_drop hy))) p0))) ?_
 refine Qc ?_
 refine Qc ?_
 refine mz [(6, .i (((Q3 (nth (X2 s_) 0))).1)), (8, .p 8 0), (9, .b (((Xa (List.drop 1 (X2 s_)))).2))] [5, 14] [(8, [.o 1664 ((((Xa (List.drop 1 (X2 s_)))).1).1.1), .o 1665 ((((Xa (List.drop 1 (X2 s_)))).1).1.2.1), .i ((((Xa (List.drop 1 (X2 s_)))).1).1.2.2), .o 1666 ((((Xa (List.drop 1 (X2 s_)))).1).2)])] [] ?_
 refine jn [(37, .b ((!(((Xa (List.drop 1 (X2 s_)))).2)) || (!((Wk (((Q3 (nth (X2 s_) 0))).1) (((Xa (List.drop 1 (X2 s_)))).1)).toList == s_.toList))))] [0, 9] [] [] (!(((Xa (List.drop 1 (X2 s_)))).2)) (fun h5 => ?_) (fun h5 => ?_) ?_
 ·
  have h5n : (((Xa (List.drop 1 (X2 s_)))).2) = false := Vz h5
  refine rn Qa [2, 3, 4, 6, 8, 37] [3, 8] (pf 0 h5n (pe 1 (show .b (!false) = .b true from rfl) p0)) ?_
  exact ⟨rfl, Qd (by rw [h5] <;> kernel_rfl)⟩
 ·
  have h5n : (((Xa (List.drop 1 (X2 s_)))).2) = true := Jb h5
  refine rn Qa [2, 3, 4, 6, 8, 37] [3, 8] (pt 0 h5n (pe 1 (show .b (!true) = .b false from rfl) (pc 5 (Oe (((Q3 (nth (X2 s_) 0))).1) (((Xa (List.drop 1 (X2 s_)))).1)) p0))) ?_
  exact ⟨rfl, Qd (by rw [h5] <;> kernel_rfl)⟩
 refine ck ((!(((Xa (List.drop 1 (X2 s_)))).2)) || (!((Wk (((Q3 (nth (X2 s_) 0))).1) (((Xa (List.drop 1 (X2 s_)))).1)).toList == s_.toList))) (fun h6 => ?_) (fun h6 => ?_)
 ·
  refine su Qa [] [37] [] [] (p0) ?_
  refine opn [(true, 3, 0, true, 384000, 2), (true, 3, 1, true, 384001, 5), (true, 3, 3, true, 384002, 2)] ?_
  refine Qe ?_
  exact pz [] (show Qv s_ = _ from Qk h1 (Xi h6 (rfl))) (fun z => .tup [(false, [.i z.1]), (true, [.o 0 z.2.1.1.1, .o 1 z.2.1.1.2.1, .i z.2.1.1.2.2, .o 2 z.2.1.2]), (false, [.b z.2.2])])
 refine Qf ?_
 refine sN Qa Yp [2, 3, 4] [3] (p0) ?_
 refine Qe ?_
 exact pz [] (show Qv s_ = _ from Qk h1 (Qk h6 (rfl))) (fun z => .tup [(false, [.i z.1]), (true, [.o 0 z.2.1.1.1, .o 1 z.2.1.1.2.1, .i z.2.1.1.2.2, .o 2 z.2.1.2]), (false, [.b z.2.2])])
def X8 (d : Ep) : Int × Qp × Bool × Bool := (bif (((Qr d.2)).2.2 && ((!(((Qr d.1)).2.2)) || decide (((Qr d.2)).1 > ((Qr d.1)).1))) then (((Qr d.2)).1, (((Qr d.2)).2.1), true, false) else (((Qr d.1)).1, (((Qr d.1)).2.1), ((Qr d.1)).2.2, ((Qr d.1)).2.2))
theorem Oi (d : Ep) (ha : ByteArray.size d.1 ≤ 1073741000) (hb : ByteArray.size d.2 ≤ 1073741000) : ACalls Tryz.prog 44 [.a [.s d.1, .s d.2]] (.tup [(false, [.i (((X8 d)).1)]), (true, [.o 0 ((((X8 d)).2.1).1.1), .o 1 ((((X8 d)).2.1).1.2.1), .i ((((X8 d)).2.1).1.2.2), .o 2 ((((X8 d)).2.1).2)]), (false, [.b (((X8 d)).2.2.1)]), (false, [.b (((X8 d)).2.2.2)])]) := by
 refine en Qa Tryz.func44 fun w0 F0 hG => ?_
 refine sn Qa [1, 2, 3, 4, 5] [1, 3] (p0) ?_
 refine tn Qa [1, 2, 3, 4, 5, 6, 7, 8] [1, 3, 7] (pc 2 (El d.1 (by assumption)) p0) ?_
 refine tu Qa [(2, .i 0), (3, .p 3 0), (4, .b false), (5, .b false), (6, .i (((Qr d.1)).1)), (7, .p 7 0), (8, .b (((Qr d.1)).2.2)), (9, .i (((Qr d.2)).1)), (10, .p 10 0), (11, .b (((Qr d.2)).2.2))] [0] [(3, [.e 2, .e 5, .i 0, .e 2]), (7, [.o 960 ((((Qr d.1)).2.1).1.1), .o 961 ((((Qr d.1)).2.1).1.2.1), .i ((((Qr d.1)).2.1).1.2.2), .o 962 ((((Qr d.1)).2.1).2)]), (10, [.o 1408 ((((Qr d.2)).2.1).1.1), .o 1409 ((((Qr d.2)).2.1).1.2.1), .i ((((Qr d.2)).2.1).1.2.2), .o 1410 ((((Qr d.2)).2.1).2)])] [] (pc 2 (El d.2 (by assumption)) p0) ?_
 refine Qc ?_
 refine Qc ?_
 refine jn [(35, .b (((Qr d.2)).2.2 && ((!(((Qr d.1)).2.2)) || decide (((Qr d.2)).1 > ((Qr d.1)).1))))] [11] [] [] (((Qr d.2)).2.2) (fun h1 => ?_) (fun h1 => ?_) ?_
 ·
  refine Xr (!(((Qr d.1)).2.2)) (fun h2 => ?_) (fun h2 => ?_)
  ·
   have h2n : (((Qr d.1)).2.2) = false := Vz h2
   refine ru Qa [(35, .b true)] [11] [] [] (pt 0 h1 (pf 2 h2n (pe 3 (show .b (!false) = .b true from rfl) p0))) ?_
   exact ⟨rfl, Qd (by rw [h1, h2] <;> kernel_rfl)⟩
  have h2n : (((Qr d.1)).2.2) = true := Jb h2
  refine rn Qa [2, 3, 4, 5, 6, 7, 8, 9, 10, 35] [3, 7, 10] (pt 0 h1 (pt 2 h2n (pe 3 (show .b (!true) = .b false from rfl) p0))) ?_
  exact ⟨rfl, Qd (by rw [h1, h2] <;> kernel_rfl)⟩
 ·
  refine ru Qa [(35, .b false)] [11] [] [] (pf 0 h1 p0) ?_
  exact ⟨rfl, Qd (by rw [h1] <;> kernel_rfl)⟩
 refine ck (((Qr d.2)).2.2 && ((!(((Qr d.1)).2.2)) || decide (((Qr d.2)).1 > ((Qr d.1)).1))) (fun h3 => ?_) (fun h3 => ?_)
 ·
  have h3l : (((Qr d.2)).2.2) = true := Rk h3
  have h3r : (((!(((Qr d.1)).2.2)) || decide (((Qr d.2)).1 > ((Qr d.1)).1))) = true := N8 h3
  refine sN Qa Yp [2, 3, 4, 5, 6, 7, 8] [3, 7] (p0) ?_
  refine Qe ?_
  exact pz [] (show X8 d = _ from Xi h3 (rfl)) (fun z => .tup [(false, [.i z.1]), (true, [.o 0 z.2.1.1.1, .o 1 z.2.1.1.2.1, .i z.2.1.1.2.2, .o 2 z.2.1.2]), (false, [.b z.2.2.1]), (false, [.b z.2.2.2])])
 refine Qf ?_
 refine sN Qa Yp [2, 3, 4, 5] [3] (p0) ?_
 refine Qe ?_
 exact pz [] (show X8 d = _ from Qk h3 (rfl)) (fun z => .tup [(false, [.i z.1]), (true, [.o 0 z.2.1.1.1, .o 1 z.2.1.1.2.1, .i z.2.1.1.2.2, .o 2 z.2.1.2]), (false, [.b z.2.2.1]), (false, [.b z.2.2.2])])
def Yh (d : Ep) : Int × Qp × Bool × Bool := (bif (((Qv d.1)).2.2 && ((!(((Qv d.2)).2.2)) || decide (((Qv d.1)).1 ≥ ((Qv d.2)).1))) then (((Qv d.1)).1, (((Qv d.1)).2.1), true, true) else (((Qv d.2)).1, (((Qv d.2)).2.1), ((Qv d.2)).2.2, false))
theorem Sc (d : Ep) (ha : ByteArray.size d.1 ≤ 1073741000) (hb : ByteArray.size d.2 ≤ 1073741000) : ACalls Tryz.prog 35 [.a [.s d.1, .s d.2]] (.tup [(false, [.i (((Yh d)).1)]), (true, [.o 0 ((((Yh d)).2.1).1.1), .o 1 ((((Yh d)).2.1).1.2.1), .i ((((Yh d)).2.1).1.2.2), .o 2 ((((Yh d)).2.1).2)]), (false, [.b (((Yh d)).2.2.1)]), (false, [.b (((Yh d)).2.2.2)])]) := by
 refine en Qa Tryz.func35 fun w0 F0 hG => ?_
 refine sn Qa [1, 2, 3, 4, 5] [1, 3] (p0) ?_
 refine tn Qa [1, 2, 3, 4, 5, 6, 7, 8] [1, 3, 7] (pc 2 (Em d.1 (by assumption)) p0) ?_
 refine tu Qa [(2, .i 0), (3, .p 3 0), (4, .b false), (5, .b false), (6, .i (((Qv d.1)).1)), (7, .p 7 0), (8, .b (((Qv d.1)).2.2)), (9, .i (((Qv d.2)).1)), (10, .p 10 0), (11, .b (((Qv d.2)).2.2))] [0] [(3, [.e 2, .e 5, .i 0, .e 2]), (7, [.o 960 ((((Qv d.1)).2.1).1.1), .o 961 ((((Qv d.1)).2.1).1.2.1), .i ((((Qv d.1)).2.1).1.2.2), .o 962 ((((Qv d.1)).2.1).2)]), (10, [.o 1408 ((((Qv d.2)).2.1).1.1), .o 1409 ((((Qv d.2)).2.1).1.2.1), .i ((((Qv d.2)).2.1).1.2.2), .o 1410 ((((Qv d.2)).2.1).2)])] [] (pc 2 (Em d.2 (by assumption)) p0) ?_
 refine Qc ?_
 refine Qc ?_
 refine jn [(35, .b (((Qv d.1)).2.2 && ((!(((Qv d.2)).2.2)) || decide (((Qv d.1)).1 ≥ ((Qv d.2)).1))))] [8] [] [] (((Qv d.1)).2.2) (fun h1 => ?_) (fun h1 => ?_) ?_
 ·
  refine Xr (!(((Qv d.2)).2.2)) (fun h2 => ?_) (fun h2 => ?_)
  ·
   have h2n : (((Qv d.2)).2.2) = false := Vz h2
   refine ru Qa [(35, .b true)] [8] [] [] (pt 0 h1 (pf 2 h2n (pe 3 (show .b (!false) = .b true from rfl) p0))) ?_
   exact ⟨rfl, Qd (by rw [h1, h2] <;> kernel_rfl)⟩
  have h2n : (((Qv d.2)).2.2) = true := Jb h2
  refine rn Qa [2, 3, 4, 5, 6, 7, 9, 10, 11, 35] [3, 7, 10] (pt 0 h1 (pt 2 h2n (pe 3 (show .b (!true) = .b false from rfl) p0))) ?_
  exact ⟨rfl, Qd (by rw [h1, h2] <;> kernel_rfl)⟩
 ·
  refine ru Qa [(35, .b false)] [8] [] [] (pf 0 h1 p0) ?_
  exact ⟨rfl, Qd (by rw [h1] <;> kernel_rfl)⟩
 refine ck (((Qv d.1)).2.2 && ((!(((Qv d.2)).2.2)) || decide (((Qv d.1)).1 ≥ ((Qv d.2)).1))) (fun h3 => ?_) (fun h3 => ?_)
 ·
  have h3l : (((Qv d.1)).2.2) = true := Rk h3
  have h3r : (((!(((Qv d.2)).2.2)) || decide (((Qv d.1)).1 ≥ ((Qv d.2)).1))) = true := N8 h3
  refine sN Qa Yp [2, 3, 4, 5, 9, 10, 11] [3, 10] (p0) ?_
  refine Qe ?_
  exact pz [] (show Yh d = _ from Xi h3 (rfl)) (fun z => .tup [(false, [.i z.1]), (true, [.o 0 z.2.1.1.1, .o 1 z.2.1.1.2.1, .i z.2.1.1.2.2, .o 2 z.2.1.2]), (false, [.b z.2.2.1]), (false, [.b z.2.2.2])])
 refine Qf ?_
 refine sN Qa Yp [2, 3, 4, 5] [3] (p0) ?_
 refine Qe ?_
 exact pz [] (show Yh d = _ from Qk h3 (rfl)) (fun z => .tup [(false, [.i z.1]), (true, [.o 0 z.2.1.1.1, .o 1 z.2.1.1.2.1, .i z.2.1.1.2.2, .o 2 z.2.1.2]), (false, [.b z.2.2.1]), (false, [.b z.2.2.2])])
/-! ### numbers -/
theorem TE (t : ByteArray) : ∀ (n k : Nat) (s : Int), 0 ≤ s → s < 10 ^ k → k + n ≤ 10 → Jn (Zp t) K4 n k s = .ret (0, false) ∨ ∃ y, Jn (Zp t) K4 n k s = .brk y ∧ 0 ≤ y
  | 0, k, s, h0, _, _ => .inr ⟨s, rfl, h0⟩
  | n + 1, k, s, h0, h1, hk => by
    cases hc : (decide (Yw t ((k : Nat) : Int) < (48 : Int)) || decide (Yw t ((k : Nat) : Int) > (57 : Int))) with
    | true =>
      refine .inl (KK ?_)
      unfold Zp
      rw [hc, cond_true]
    | false =>
      obtain ⟨c1, c2⟩ := bo hc
      have c1 := of_decide_eq_false c1
      have c2 := of_decide_eq_false c2
      have hp := UX (c := Yw t ((k : Nat) : Int)) h0 h1 (by omega) (by omega) (by omega)
      have hf : Zp t k s = .next (10 * s + (Yw t ((k : Nat) : Int) - 48)) := by
        unfold Zp
        rw [hc, cond_false, hp.1]
      rw [D7 hf]
      exact TE t n (k + 1) _ hp.2.1 hp.2.2 (by omega)
theorem KP (t : ByteArray) : ∀ (rest : List UInt8) (k acc m : Nat), t.data.toList.drop k = rest → (acc : Int) < 10 ^ k → k + rest.length ≤ 10 → Lib.decFrom acc rest = some m → Jn (Zp t) K4 rest.length k (acc : Int) = .brk (m : Int)
  | [], k, acc, m, _, _, _, h => by
    obtain rfl : acc = m := by simpa [Lib.decFrom] using h
    rfl
  | b :: rest, k, acc, m, hr, hlt, hk, h => by
    obtain ⟨hx, hd, _⟩ := Ch hr
    rw [List.length_cons] at hk ⊢
    simp only [Lib.decFrom] at h
    cases hv : Lib.digitVal b with
    | none => rw [hv] at h; cases h
    | some d =>
      rw [hv] at h
      have hb : (48 ≤ b.toNat ∧ b.toNat ≤ 57) ∧ b.toNat - 48 = d := by
        unfold Lib.digitVal at hv
        split at hv
        · rename_i hb; exact ⟨hb, Option.some.inj hv⟩
        cases hv
      have hs := Dl hx
      have hp := UX (s := (acc : Int)) (c := Yw t ((k : Nat) : Int)) (by omega) hlt (by omega) (by omega) (by omega)
      have hf : Zp t k (acc : Int) = .next (((acc * 10 + d : Nat)) : Int) := by
        unfold Zp
        rw [decide_eq_false (show ¬ Yw t ((k : Nat) : Int) < 48 by omega), decide_eq_false (show ¬ Yw t ((k : Nat) : Int) > 57 by omega), Bool.or_false, cond_false, hp.1]
        congr 1
        omega
      rw [D7 hf]
      exact KP t rest (k + 1) _ m hd (by have := hp.2.2; omega) (by omega) h
theorem Hk (t : ByteArray) : Q3 t = Qg t := by
  unfold Q3 Qg
  cases hp : A5 t with
  | some n =>
    obtain ⟨h1, rfl⟩ := Ly hp
    have h2 := Zk (n := (n : Int)) (by omega)
    have hr := KP (Qq (n : Int)) (Qq (n : Int)).data.toList 0 0 n rfl (by decide) (by rw [Hf]; omega) (by rw [W1]; exact Gr n)
    rw [Hf] at hr
    rw [decide_eq_false (show ¬ (ByteArray.size (Qq (n : Int)) : Int) > 10 by omega), cond_false, show Int.toNat (ByteArray.size (Qq (n : Int)) : Int) = (Qq (n : Int)).size by omega, show (0 : Int) = ((0 : Nat) : Int) from rfl, hr]
    simp only [Out.on]
    rw [decide_eq_false (show ¬ (n : Int) > 1000000000 by omega), beq_self_eq_true]
    rfl
  | none =>
    cases hc : decide ((ByteArray.size t : Int) > (10 : Int)) with
    | true => rfl
    | false =>
      have hc := of_decide_eq_false hc
      rcases TE t (Int.toNat (ByteArray.size t : Int)) 0 0 (by decide) (by decide) (by omega) with h | ⟨y, h, h0⟩
      · rw [h]; rfl
      rw [h]
      simp only [cond_false, Out.on]
      cases hy : (decide (y > (1000000000 : Int)) || (!((Qq y).toList == t.toList))) with
      | true => rfl
      | false =>
        obtain ⟨y1, y2⟩ := bo hy
        have y1 := of_decide_eq_false y1
        obtain ⟨m, rfl⟩ := Int.eq_ofNat_of_zero_le h0
        rw [Nf (n := m) (by omega) (H6 (bn y2))] at hp
        cases hp
theorem L5 {n : Int} (h : 0 ≤ n ∧ n ≤ 1000000000) : Qg (Qq n) = (n, true) := by
  obtain ⟨m, rfl⟩ := Int.eq_ofNat_of_zero_le h.1
  unfold Qg
  rw [Nf (n := m) (by omega) rfl]
/-! ### values -/
theorem Qbs : Qn ⟨#[45]⟩ = ((0, 0, ⟨#[]⟩), true) := by kernel_rfl
theorem HI : Qn ⟨#[]⟩ = ((0, 0, ⟨#[]⟩), false) := by kernel_rfl
theorem L6 (s : ByteArray) : Q8 s = Qn s := by
  cases hd : (s.toList == (⟨#[45]⟩ : ByteArray).toList) with
  | true =>
    rw [H6 hd, Qbs]
    unfold Q8
    rw [beq_self_eq_true]
    rfl
  | false =>
    unfold Q8 Qn
    rw [hd, Hk]
    simp only [cond_false, Bool.not_false, cond_true]
    cases hu : (Qg s).2 with
    | true =>
      simp only [cond_true]
      have e : Xg (Yu (Qg s).1) = Qu (Zt (Qg s).1) := rfl
      rw [e]
      cases hv : Qu (Zt (Qg s).1) with
      | false => rfl
      | true =>
        have hf : Yc (Yu (Qg s).1) = s := by
          unfold Yc
          rw [e, hv]
          have hn : Qq (Qg s).1 = s := by
            unfold Qg at hu ⊢
            cases hp : A5 s with
            | none => rw [hp] at hu; cases hu
            | some n => exact (Ly hp).2
          exact hn
        rw [hf, beq_self_eq_true]
        rfl
    | false =>
      simp only [cond_false]
      have e : Xg (X1 s) = Qu (Y0 s) := rfl
      rw [e]
      cases hv : Qu (Y0 s) with
      | false => rfl
      | true =>
        have hf : Yc (X1 s) = s := by
          unfold Yc
          rw [e, hv]
          rfl
        rw [hf, beq_self_eq_true]
        rfl
theorem KQ {v : Jf} (h : Qu v = true) (h0 : v.1 ≠ 0) : (v.1 = 1 ∧ (0 ≤ v.2.1 ∧ v.2.1 ≤ 999) ∧ v.2.2 = ⟨#[]⟩) ∨ (v.1 = 2 ∧ v.2.1 = 0 ∧ Q0 v.2.2 = true) := by
  cases h1 : (v.1 == (1 : Int)) with
  | true =>
    refine .inl ⟨eq_of_beq h1, YF h h1, ?_⟩
    unfold Qu at h
    rw [eq_of_beq h1] at h
    simp only [show ((1 : Int) == 0) = false from rfl, show ((1 : Int) == 1) = true from rfl, cond_true, cond_false, Bool.and_eq_true] at h
    exact H6 h.2
  | false =>
    cases h2 : (v.1 == (2 : Int)) with
    | true => have := LF h h2; exact .inr ⟨eq_of_beq h2, this.2, this.1⟩
    | false =>
      exfalso
      unfold Qu at h
      have e0 : (v.1 == (0 : Int)) = false := by simpa using h0
      rw [e0, h1, h2] at h
      cases h
/-! ### words -/
theorem L7 {n : Int} (h : 0 ≤ n) : Word (Qq n) := by
  obtain ⟨m, rfl⟩ := Int.eq_ofNat_of_zero_le h
  refine ⟨?_, fun b hb => ?_⟩
  · have h1 := R5 m
    rw [← W1] at h1
    have h2 := Hf (Qq (m : Int))
    have h3 := List.length_pos_iff.2 h1
    show 1 ≤ (Qq (m : Int)).size
    omega
  have hb : b ∈ (Qq (m : Int)).data.toList := hb
  rw [W1] at hb
  have := Nd m b hb
  omega
theorem QI {s : ByteArray} (h0 : 1 ≤ s.size) (h : ∀ k : Nat, k < s.size → 97 ≤ Yw s (k : Int) ∧ Yw s (k : Int) ≤ 122) : Word s := by
  refine ⟨h0, fun b hb => ?_⟩
  obtain ⟨i, hi⟩ := List.getElem?_of_mem hb
  have hlt := (List.getElem?_eq_some_iff.1 hi).1
  rw [Hf] at hlt
  have h1 := h i hlt
  rw [Dl hi] at h1
  omega
theorem YM {s : ByteArray} (h : Q0 s = true) : Word s := by
  have hs := Cv h
  refine QI hs.1 fun k hk => ?_
  unfold Q0 at h
  have key : ∀ (n j : Nat), Jn (Xp s) Zs n j () = .brk () → ∀ i, j ≤ i → i < j + n → 97 ≤ Yw s (i : Int) ∧ Yw s (i : Int) ≤ 122 := by
    intro n
    induction n with
    | zero => intro j _ i h1 h2; omega
    | succ n ih =>
      intro j hj i h1 h2
      cases hc : (decide (Yw s ((j : Nat) : Int) < (97 : Int)) || decide (Yw s ((j : Nat) : Int) > (122 : Int))) with
      | true =>
        have hf : Xp s j () = .ret false := by unfold Xp; rw [hc, cond_true]
        rw [KK hf] at hj; cases hj
      | false =>
        have hf : Xp s j () = .next () := by unfold Xp; rw [hc, cond_false]
        rw [D7 hf] at hj
        obtain ⟨c1, c2⟩ := bo hc
        have c1 := of_decide_eq_false c1
        have c2 := of_decide_eq_false c2
        by_cases e : i = j
        · subst e; omega
        exact ih (j + 1) hj i (by omega) (by omega)
  cases hf : Jn (Xp s) Zs (Int.toNat (s.size : Int)) 0 () with
  | brk t => exact key _ _ hf k (Nat.zero_le _) (by omega)
  | ret r =>
    exfalso
    rw [hf] at h
    obtain rfl : r = true := h
    have nr : ∀ n j, Jn (Xp s) Zs n j () ≠ .ret true := by
      intro n
      induction n with
      | zero => intro j h; simp [Jn] at h
      | succ n ih =>
        intro j h
        cases hc : (decide (Yw s ((j : Nat) : Int) < (97 : Int)) || decide (Yw s ((j : Nat) : Int) > (122 : Int))) with
        | true =>
          have hf : Xp s j () = .ret false := by unfold Xp; rw [hc, cond_true]
          rw [KK hf] at h; simp at h
        | false =>
          have hf : Xp s j () = .next () := by unfold Xp; rw [hc, cond_false]
          rw [D7 hf] at h
          exact ih _ h
    exact nr _ _ hf
theorem Sd {s : ByteArray} (h : Qs s = true) : Word s := by
  have h1 := YB h
  unfold Qs at h
  simp only [Bool.and_eq_true, decide_eq_true_eq] at h
  refine QI (by omega) fun k hk => ?_
  obtain rfl : k = 0 := by omega
  exact ⟨h.2.1, h.2.2⟩
theorem BY {v : Jf} (h : Qu v = true) (h0 : v.1 ≠ 0) : Word (Xe v) := by
  unfold Xe
  rw [h]
  rcases KQ h h0 with ⟨h1, h2, _⟩ | ⟨h1, _, h2⟩
  · rw [h1]; exact L7 h2.1
  rw [h1]; exact YM h2
theorem KR {v : Jf} (h : Qu v = true) (h0 : v.1 ≠ 0) : Qn (Xe v) = (v, true) := by
  obtain ⟨k, n, s⟩ := v
  rcases KQ h h0 with ⟨h1, h2, h3⟩ | ⟨h1, h2, h3⟩
  · obtain rfl : k = 1 := h1
    obtain rfl : s = ⟨#[]⟩ := h3
    have h2 : 0 ≤ n ∧ n ≤ 999 := h2
    have e : Xe (1, n, ⟨#[]⟩) = Qq n := by unfold Xe; rw [h]; rfl
    rw [e]
    unfold Qn
    rw [L5 (by omega), show Zt n = ((1, n, ⟨#[]⟩) : Jf) from rfl, h]
    rfl
  obtain rfl : k = 2 := h1
  obtain rfl : n = 0 := h2
  have h3 : Q0 s = true := h3
  have e : Xe (2, 0, s) = s := by unfold Xe; rw [h]; rfl
  rw [e]
  unfold Qn
  have hu : (Qg s).2 = false := by
    unfold Qg
    cases hp : A5 s with
    | none => rfl
    | some m =>
      exfalso
      obtain ⟨_, rfl⟩ := Ly hp
      have hw := Nd m
      have hs := Cv h3
      have hn := R5 m
      cases hl : Lib.decDigits m with
      | nil => exact hn hl
      | cons b r =>
        have hb := hw b (by rw [hl]; exact List.mem_cons_self ..)
        have hbk : (Qq (m : Int)).data.toList[0]? = some b := by rw [W1, hl]; rfl
        unfold Q0 at h3
        obtain ⟨q, hq⟩ : ∃ q, Int.toNat (((Qq (m : Int)).size : Nat) : Int) = q + 1 := ⟨(Qq (m : Int)).size - 1, by omega⟩
        rw [hq] at h3
        have hf : Xp (Qq (m : Int)) 0 () = .ret false := by
          unfold Xp
          rw [Dl hbk, decide_eq_true (show (b.toNat : Int) < 97 by omega)]
          rfl
        rw [KK hf] at h3
        cases h3
  have hd : (s.toList == (⟨#[45]⟩ : ByteArray).toList) = false := by
    cases hz : (s.toList == (⟨#[45]⟩ : ByteArray).toList) with
    | false => rfl
    | true =>
      exfalso
      rw [H6 hz] at h3
      exact absurd h3 (by decide)
  rw [hu, hd, show Y0 s = ((2, 0, s) : Jf) from rfl, h]
  rfl
abbrev NZ : Jf := (0, 0, ⟨#[]⟩)
inductive Pr : List ByteArray → List Qw → List ByteArray → List Qw → Prop
  | all {w : ByteArray} {r : List ByteArray} {q : List Qw} : Gu w = 1 → Pr (w :: r) q r (q ++ [((1, 0, 0, ⟨#[]⟩, NZ) : Qw)])
  | nm {w x : ByteArray} {r : List ByteArray} {q : List Qw} {op : Int} : Gu w = op → op = 2 ∨ op = 8 ∨ op = 9 → Pr (w :: x :: r) q r (q ++ [((op, 0, 0, x, NZ) : Qw)])
  | vl {w x y : ByteArray} {r : List ByteArray} {q : List Qw} {op : Int} : Gu w = op → op = 3 ∨ op = 4 → (Qn y).2 = true → Pr (w :: x :: y :: r) q r (q ++ [((op, 0, 0, x, (Qn y).1) : Qw)])
  | nt {w : ByteArray} {r r1 : List ByteArray} {q q1 : List Qw} : Gu w = 5 → Pr r q r1 q1 → Pr (w :: r) q r1 (q1 ++ [((5, (q1.length : Int) - 1, 0, ⟨#[]⟩, NZ) : Qw)])
  | tw {w : ByteArray} {r r1 r2 : List ByteArray} {q q1 q2 : List Qw} {op : Int} : Gu w = op → op = 6 ∨ op = 7 → Pr r q r1 q1 → Pr r1 q1 r2 q2 → Pr (w :: r) q r2 (q2 ++ [((op, (q1.length : Int) - 1, (q2.length : Int) - 1, ⟨#[]⟩, NZ) : Qw)])
theorem Pr.len {r r' : List ByteArray} {q q' : List Qw} (h : Pr r q r' q') : q.length < q'.length ∧ r'.length < r.length ∧ r.length + 2 * q.length ≤ r'.length + 2 * q'.length + 1 := by
  induction h <;> simp only [List.length_append, List.length_cons, List.length_nil] <;> omega
theorem Pr.suf {r r' : List ByteArray} {q q' : List Qw} (h : Pr r q r' q') : r' = r.drop (r.length - r'.length) := by
  have key : ∃ u, r = u ++ r' := by
    induction h with
    | @all w r => exact ⟨[w], rfl⟩
    | @nm w x r => exact ⟨[w, x], rfl⟩
    | @vl w x y r => exact ⟨[w, x, y], rfl⟩
    | @nt w _ _ _ _ _ _ ih => obtain ⟨u, rfl⟩ := ih; exact ⟨w :: u, rfl⟩
    | @tw w _ _ _ _ _ _ _ _ _ _ _ ih1 ih2 =>
      obtain ⟨u, rfl⟩ := ih2
      obtain ⟨u1, rfl⟩ := ih1
      exact ⟨w :: (u1 ++ u), by simp⟩
  obtain ⟨u, rfl⟩ := key
  rw [List.length_append, Nat.add_sub_cancel, List.drop_left]
/-! ### the program's reader -/
def Qbt (n : Nat) (x1 : ByteArray × (List ByteArray) × (List Qw)) (y0 : Int) : Bool × (List ByteArray) × (List Qw) :=
  bif (bif (y0 == (2 : Int)) then (y0 == (2 : Int)) else (bif (y0 == (8 : Int)) then (y0 == (8 : Int)) else (y0 == (9 : Int)))) then
    ((y0 != (0 : Int)), (Yd x1.2.1 x1.2.2).2.1, (Yd x1.2.1 x1.2.2).2.2 ++ [((y0, 0, 0, (Yd x1.2.1 x1.2.2).1, NZ) : Qw)])
  else bif (bif (y0 == (3 : Int)) then (y0 == (3 : Int)) else (y0 == (4 : Int))) then
    lt (Yd x1.2.1 x1.2.2) fun x14 => lt (Yd x14.2.1 x14.2.2) fun x15 => ((Qn x15.1).2, x15.2.1, x15.2.2 ++ [((y0, 0, 0, x14.1, (Qn x15.1).1) : Qw)])
  else bif (y0 == (5 : Int)) then
    lt (Xc n x1.2.1 x1.2.2) fun x20 => (x20.1, x20.2.1, x20.2.2 ++ [((y0, ((x20.2.2.length : Int) - 1), 0, ⟨#[]⟩, NZ) : Qw)])
  else bif (bif (y0 == (6 : Int)) then (y0 == (6 : Int)) else (y0 == (7 : Int))) then
    lt (Xc n x1.2.1 x1.2.2) fun x27 => bif x27.1 then
      lt (Xc n x27.2.1 x27.2.2) fun x31 => (x31.1, x31.2.1, x31.2.2 ++ [((y0, ((x27.2.2.length : Int) - 1), ((x31.2.2.length : Int) - 1), ⟨#[]⟩, NZ) : Qw)])
    else (false, x27.2.1, x27.2.2 ++ [((y0, ((x27.2.2.length : Int) - 1), ((x27.2.2.length : Int) - 1), ⟨#[]⟩, NZ) : Qw)])
  else ((y0 != (0 : Int)), x1.2.1, x1.2.2 ++ [((y0, 0, 0, ⟨#[]⟩, NZ) : Qw)])
theorem Iq (n : Nat) (bf : List ByteArray) (bn : List Qw) : Xc (n + 1) bf bn = Qbt n (Yd bf bn) (Gu (Yd bf bn).1) := by
  unfold Xc lt
  dsimp only
  rw [Fo (f := D9 (Yd bf bn)) (e := Ea) (p := fun k => (Qo ((k + 1 : Nat) : Int)).toList == (Yd bf bn).1.toList) (fun _ _ => rfl) (fun _ _ => rfl)]
  rfl
theorem H7 (w : ByteArray) (r : List ByteArray) (q : List Qw) : Yd (w :: r) q = (w, r, q) := rfl
theorem L8 (q : List Qw) : Yd [] q = (⟨#[]⟩, [], q) := rfl
theorem Qdl (n : Nat) (w : ByteArray) (r : List ByteArray) (q : List Qw) : Qbt n (w, r, q) 5 = ((Xc n r q).1, (Xc n r q).2.1, (Xc n r q).2.2 ++ [((5, (((Xc n r q).2.2.length : Int) - 1), 0, ⟨#[]⟩, NZ) : Qw)]) := rfl
def Qdm (n : Nat) (r : List ByteArray) (q : List Qw) (op : Int) : Bool × (List ByteArray) × (List Qw) := bif (Xc n r q).1 then ((Xc n (Xc n r q).2.1 (Xc n r q).2.2).1, (Xc n (Xc n r q).2.1 (Xc n r q).2.2).2.1, (Xc n (Xc n r q).2.1 (Xc n r q).2.2).2.2 ++ [((op, (((Xc n r q).2.2.length : Int) - 1), (((Xc n (Xc n r q).2.1 (Xc n r q).2.2).2.2.length : Int) - 1), ⟨#[]⟩, NZ) : Qw)]) else (false, (Xc n r q).2.1, (Xc n r q).2.2 ++ [((op, (((Xc n r q).2.2.length : Int) - 1), (((Xc n r q).2.2.length : Int) - 1), ⟨#[]⟩, NZ) : Qw)])
theorem Qdn (n : Nat) (w : ByteArray) (r : List ByteArray) (q : List Qw) {op : Int} (h : op = 6 ∨ op = 7) : Qbt n (w, r, q) op = Qdm n r q op := by rcases h with rfl | rfl <;> rfl
theorem Qbu {r r' : List ByteArray} {q q' : List Qw} (h : Pr r q r' q') : ∀ n, r.length < n → Xc n r q = (true, r', q') := by
  induction h with
  | all h =>
    intro n hn
    obtain ⟨m, rfl⟩ : ∃ m, n = m + 1 := ⟨n - 1, by omega⟩
    rw [Iq, H7]
    dsimp only
    rw [h]
    rfl
  | nm h ho =>
    intro n hn
    obtain ⟨m, rfl⟩ : ∃ m, n = m + 1 := ⟨n - 1, by omega⟩
    rw [Iq, H7]
    dsimp only
    rw [h]
    rcases ho with rfl | rfl | rfl <;> rfl
  | vl h ho hv =>
    intro n hn
    obtain ⟨m, rfl⟩ : ∃ m, n = m + 1 := ⟨n - 1, by omega⟩
    rw [Iq, H7]
    dsimp only
    rw [h, ← hv]
    rcases ho with rfl | rfl <;> rfl
  | nt h h1 ih =>
    intro n hn
    obtain ⟨m, rfl⟩ : ∃ m, n = m + 1 := ⟨n - 1, by omega⟩
    simp only [List.length_cons] at hn
    rw [Iq, H7]
    dsimp only
    rw [h]
    rw [Qdl, ih m (by omega)]
  | tw h ho h1 h2 ih1 ih2 =>
    intro n hn
    obtain ⟨m, rfl⟩ : ∃ m, n = m + 1 := ⟨n - 1, by omega⟩
    simp only [List.length_cons] at hn
    have hl := h1.len
    have e1 := ih1 m (by omega)
    have e2 := ih2 m (by omega)
    rw [Iq, H7]
    dsimp only
    rw [h, Qdn _ _ _ _ ho]
    unfold Qdm
    rw [e1]
    simp only [cond_true]
    rw [e2]
def Gd (q : List Qw) : Prop := ∀ x, x ∈ q → x.1 = 2 ∨ x.1 = 3 ∨ x.1 = 4 ∨ x.1 = 8 ∨ x.1 = 9 → 1 ≤ x.2.2.2.1.size
theorem Gd.left {q p : List Qw} (h : Gd (q ++ p)) : Gd q := fun x hx => h x (List.mem_append_left _ hx)
theorem Gd.last {q : List Qw} {x : Qw} (h : Gd (q ++ [x])) : x.1 = 2 ∨ x.1 = 3 ∨ x.1 = 4 ∨ x.1 = 8 ∨ x.1 = 9 → 1 ≤ x.2.2.2.1.size := h x (List.mem_append_right _ (List.mem_singleton.2 rfl))
theorem TF (w : ByteArray) : Gu w = 0 ∨ Gu w = 1 ∨ Gu w = 2 ∨ Gu w = 3 ∨ Gu w = 4 ∨ Gu w = 5 ∨ Gu w = 6 ∨ Gu w = 7 ∨ Gu w = 8 ∨ Gu w = 9 := by have := Qbq w; omega
theorem HJ {P : Prop} (h : 1 ≤ (⟨#[]⟩ : ByteArray).size) : P := absurd h (by decide)
theorem YN : ∀ (n : Nat) (r : List ByteArray) (q : List Qw) (r' : List ByteArray) (q' : List Qw), Xc n r q = (true, r', q') → Gd q' → Pr r q r' q'
  | 0, r, q, r', q', h, _ => by cases h
  | n + 1, [], q, r', q', h, _ => by
    rw [Iq, L8] at h
    dsimp only at h
    rw [YI] at h
    cases h
  | n + 1, w :: r, q, r', q', h, hg => by
    rw [Iq, H7] at h
    dsimp only at h
    have hnm : ∀ op : Int, Gu w = op → op = 2 ∨ op = 8 ∨ op = 9 → ((op != (0 : Int)), (Yd r q).2.1, (Yd r q).2.2 ++ [((op, 0, 0, (Yd r q).1, NZ) : Qw)]) = (true, r', q') → Pr (w :: r) q r' q' := fun op ho h9 h => by
      cases r with
      | nil =>
        rw [L8] at h
        simp only [Prod.mk.injEq] at h
        obtain ⟨_, _, rfl⟩ := h
        exact HJ (hg.last (by show op = 2 ∨ _; omega))
      | cons x r =>
        rw [H7] at h
        simp only [Prod.mk.injEq] at h
        obtain ⟨_, rfl, rfl⟩ := h
        exact .nm ho h9
    have hvl : ∀ op : Int, Gu w = op → op = 3 ∨ op = 4 → ((Qn (Yd (Yd r q).2.1 (Yd r q).2.2).1).2, (Yd (Yd r q).2.1 (Yd r q).2.2).2.1, (Yd (Yd r q).2.1 (Yd r q).2.2).2.2 ++ [((op, 0, 0, (Yd r q).1, (Qn (Yd (Yd r q).2.1 (Yd r q).2.2).1).1) : Qw)]) = (true, r', q') → Pr (w :: r) q r' q' := fun op ho h9 h => by
      cases r with
      | nil =>
        rw [L8] at h
        dsimp only at h
        rw [L8, HI] at h
        cases h
      | cons x r =>
        rw [H7] at h
        dsimp only at h
        cases r with
        | nil =>
          rw [L8, HI] at h
          cases h
        | cons y r =>
          rw [H7] at h
          simp only [Prod.mk.injEq] at h
          obtain ⟨hv, rfl, rfl⟩ := h
          exact .vl ho h9 hv
    have htw : ∀ op : Int, Gu w = op → op = 6 ∨ op = 7 → (bif (Xc n r q).1 then ((Xc n (Xc n r q).2.1 (Xc n r q).2.2).1, (Xc n (Xc n r q).2.1 (Xc n r q).2.2).2.1, (Xc n (Xc n r q).2.1 (Xc n r q).2.2).2.2 ++ [((op, (((Xc n r q).2.2.length : Int) - 1), (((Xc n (Xc n r q).2.1 (Xc n r q).2.2).2.2.length : Int) - 1), ⟨#[]⟩, NZ) : Qw)]) else (false, (Xc n r q).2.1, (Xc n r q).2.2 ++ [((op, (((Xc n r q).2.2.length : Int) - 1), (((Xc n r q).2.2.length : Int) - 1), ⟨#[]⟩, NZ) : Qw)])) = (true, r', q') → Pr (w :: r) q r' q' := fun op ho h9 h => by
      rcases h1 : Xc n r q with ⟨b1, r1, q1⟩
      rw [h1] at h
      dsimp only at h
      cases b1 with
      | false => cases h
      | true =>
        simp only [cond_true] at h
        rcases h2 : Xc n r1 q1 with ⟨b2, r2, q2⟩
        rw [h2] at h
        simp only [Prod.mk.injEq] at h
        obtain ⟨rfl, rfl, rfl⟩ := h
        have k2 := YN n r1 q1 r2 q2 h2 hg.left
        have hpre : Gd q1 := by
          obtain ⟨u, hu⟩ := pr_pre k2
          rw [hu] at hg
          exact hg.left.left
        exact .tw ho h9 (YN n r q r1 q1 h1 hpre) k2
    rcases TF w with e | e | e | e | e | e | e | e | e | e <;> rw [e] at h
    · cases h
    · obtain ⟨_, h⟩ := Prod.mk.inj h
      obtain ⟨rfl, rfl⟩ := Prod.mk.inj h
      exact .all e
    · exact hnm 2 e (by omega) h
    · exact hvl 3 e (by omega) h
    · exact hvl 4 e (by omega) h
    · rcases h1 : Xc n r q with ⟨b1, r1, q1⟩
      have h : ((Xc n r q).1, (Xc n r q).2.1, (Xc n r q).2.2 ++ [((5, (((Xc n r q).2.2.length : Int) - 1), 0, ⟨#[]⟩, NZ) : Qw)]) = (true, r', q') := h
      rw [h1] at h
      simp only [Prod.mk.injEq] at h
      obtain ⟨rfl, rfl, rfl⟩ := h
      exact .nt e (YN n r q r1 q1 h1 hg.left)
    · exact htw 6 e (by omega) h
    · exact htw 7 e (by omega) h
    · exact hnm 8 e (by omega) h
    exact hnm 9 e (by omega) h
where
  pr_pre {r r' : List ByteArray} {q q' : List Qw} (h : Pr r q r' q') : ∃ u, q' = q ++ u := by
    induction h with
    | all | nm | vl => exact ⟨_, rfl⟩
    | nt _ _ ih => obtain ⟨u, rfl⟩ := ih; exact ⟨_, List.append_assoc ..⟩
    | tw _ _ _ _ ih1 ih2 => obtain ⟨u, rfl⟩ := ih1; obtain ⟨u2, rfl⟩ := ih2; exact ⟨u ++ (u2 ++ _), by simp only [List.append_assoc]; rfl⟩
theorem Vg {p r : List ByteArray} {w : ByteArray} {a : Nat} (h : p.drop a = w :: r) : Qh p (a : Int) = w ∧ p.drop (a + 1) = r ∧ a < p.length := by
  obtain ⟨h1, h2, h3⟩ := Ch h
  refine ⟨?_, h2, h3⟩
  unfold Qh
  rw [decide_eq_false (show ¬ (a : Int) ≥ (p.length : Int) by omega), cond_false, Int.toNat_natCast]
  unfold nth
  rw [List.getD_eq_getElem?_getD, h1]
  rfl
theorem Pg {p : List ByteArray} {a : Nat} (h : p.drop a = []) : Qh p (a : Int) = ⟨#[]⟩ := by
  have : p.length ≤ a := by
    have := congrArg List.length h
    rw [List.length_drop] at this
    simp only [List.length_nil] at this
    omega
  unfold Qh
  rw [decide_eq_true (show (a : Int) ≥ (p.length : Int) by omega), cond_true]
def S1 (n : Nat) (p : List ByteArray) (a : Int) (q : List Qw) (deep : Int) (y0 : Int) : (List Qw) × Int :=
  bif ((y0 == (0 : Int)) || (decide (deep > (9 : Int)) || decide ((q.length : Int) > (9 : Int)))) then (q, 0)
  else bif ((y0 == (2 : Int)) || ((y0 == (8 : Int)) || (y0 == (9 : Int)))) then (q ++ [((y0, 0, 0, (Qh p (a + 1)), NZ) : Qw)], 2)
  else bif ((y0 == (3 : Int)) || (y0 == (4 : Int))) then (q ++ [((y0, 0, 0, (Qh p (a + 1)), (Qn (Qh p (a + 2))).1) : Qw)], 3)
  else bif (Xf y0 5 7) then
    lt (Xv n p (a + 1) q (deep + 1)) fun x16 => bif (x16.2 == (0 : Int)) then (x16.1, 0) else bif (y0 != (5 : Int)) then
      lt (Xv n p (a + (1 + x16.2)) x16.1 (deep + 1)) fun x21 => bif (x21.2 == (0 : Int)) then (x21.1, 0) else (x21.1 ++ [((y0, ((x16.1.length : Int) - 1), ((x21.1.length : Int) - 1), ⟨#[]⟩, NZ) : Qw)], 1 + x16.2 + x21.2)
    else (x16.1 ++ [((y0, ((x16.1.length : Int) - 1), 0, ⟨#[]⟩, NZ) : Qw)], 1 + x16.2)
  else (q ++ [((y0, 0, 0, ⟨#[]⟩, NZ) : Qw)], 1)
theorem Nm (n : Nat) (p : List ByteArray) (a : Int) (q : List Qw) (deep : Int) (h0 : 0 ≤ a) (h1 : a ≤ 30) (hp : p.length ≤ 24) (hd : 0 ≤ deep) (hx : deep ≤ 10) : Xv (n + 1) p a q deep = S1 n p a q deep (Gu (Qh p a)) := by
  unfold Xv S1 lt
  rw [TD]
  simp only [Out.on]
  have hy := LU (p := p) (at_ := a)
  generalize Gu (Qh p a) = y0 at hy ⊢
  rw [IntWalk.i64_in (a + 1) (by omega), IntWalk.i64_in (a + 2) (by omega), IntWalk.i64_in (deep + 1) (by omega), L6]
  cases c0 : ((y0 == (0 : Int)) || (decide (deep > (9 : Int)) || decide ((q.length : Int) > (9 : Int)))) with
  | true => rfl
  | false =>
    obtain ⟨c1, c2⟩ := bo c0
    obtain ⟨c3, c4⟩ := bo c2
    have c3 := of_decide_eq_false c3
    have hlt := hy (ne_of_beq_false c1)
    have ih := Cx n p (a + 1) q (deep + 1) (by omega) (by omega) hp (by omega) (by omega)
    generalize Xv n p (a + 1) q (deep + 1) = x16 at ih ⊢
    have e1 : IntKind.i64.wrap (1 + x16.2) = 1 + x16.2 := IntWalk.i64_in _ (by omega)
    have e2 : IntKind.i64.wrap (a + (1 + x16.2)) = a + (1 + x16.2) := IntWalk.i64_in _ (by omega)
    rw [e1, e2]
    cases c5 : (x16.2 == (0 : Int)) with
    | true => rfl
    | false =>
      have c5 := ne_of_beq_false c5
      have ih2 := Cx n p (a + (1 + x16.2)) x16.1 (deep + 1) (by omega) (by omega) hp (by omega) (by omega)
      generalize Xv n p (a + (1 + x16.2)) x16.1 (deep + 1) = x21 at ih2 ⊢
      have e3 : IntKind.i64.wrap (1 + x16.2 + x21.2) = 1 + x16.2 + x21.2 := IntWalk.i64_in _ (by omega)
      rw [e3]
theorem Qbv {r r' : List ByteArray} {q q' : List Qw} (h : Pr r q r' q') : ∀ (n a : Nat) (p : List ByteArray) (deep : Nat), p.drop a = r → p.length ≤ 24 → q'.length + deep ≤ 9 → n + deep = 12 → Xv n p (a : Int) q (deep : Int) = (q', ((r.length - r'.length : Nat) : Int)) := by
  induction h with
  | @all w r q h =>
    intro n a p deep hr hp hq hn
    obtain ⟨m, rfl⟩ : ∃ m, n = m + 1 := ⟨n - 1, by omega⟩
    obtain ⟨e1, _, hlt⟩ := Vg hr
    rw [List.length_append] at hq
    rw [Nm m p a q deep (by omega) (by omega) hp (by omega) (by omega), e1, h]
    unfold S1
    rw [decide_eq_false (show ¬ (deep : Int) > 9 by omega), decide_eq_false (show ¬ (q.length : Int) > 9 by omega)]
    rw [show (w :: r).length - r.length = 1 by rw [List.length_cons]; omega]
    rfl
  | @nm w x r q op h ho =>
    intro n a p deep hr hp hq hn
    obtain ⟨m, rfl⟩ : ∃ m, n = m + 1 := ⟨n - 1, by omega⟩
    obtain ⟨e1, h2, hlt⟩ := Vg hr
    obtain ⟨e2, _, _⟩ := Vg h2
    rw [List.length_append] at hq
    rw [Nm m p a q deep (by omega) (by omega) hp (by omega) (by omega), e1, h]
    unfold S1
    rw [decide_eq_false (show ¬ (deep : Int) > 9 by omega), decide_eq_false (show ¬ (q.length : Int) > 9 by omega)]
    rw [show (w :: x :: r).length - r.length = 2 by simp only [List.length_cons]; omega]
    rw [show ((a : Int) + 1) = ((a + 1 : Nat) : Int) from rfl, e2]
    rcases ho with rfl | rfl | rfl <;> rfl
  | @vl w x y r q op h ho hv =>
    intro n a p deep hr hp hq hn
    obtain ⟨m, rfl⟩ : ∃ m, n = m + 1 := ⟨n - 1, by omega⟩
    obtain ⟨e1, h2, hlt⟩ := Vg hr
    obtain ⟨e2, h3, _⟩ := Vg h2
    obtain ⟨e3, _, _⟩ := Vg h3
    rw [List.length_append] at hq
    rw [Nm m p a q deep (by omega) (by omega) hp (by omega) (by omega), e1, h]
    unfold S1
    rw [decide_eq_false (show ¬ (deep : Int) > 9 by omega), decide_eq_false (show ¬ (q.length : Int) > 9 by omega)]
    rw [show (w :: x :: y :: r).length - r.length = 3 by simp only [List.length_cons]; omega]
    rw [show ((a : Int) + 1) = ((a + 1 : Nat) : Int) from rfl, show ((a : Int) + 2) = ((a + 1 + 1 : Nat) : Int) from rfl, e2, e3]
    rcases ho with rfl | rfl <;> rfl
  | @nt w r r1 q q1 h h1 ih =>
    intro n a p deep hr hp hq hn
    obtain ⟨m, rfl⟩ : ∃ m, n = m + 1 := ⟨n - 1, by omega⟩
    obtain ⟨e1, h2, hlt⟩ := Vg hr
    have hl := h1.len
    simp only [List.length_append, List.length_cons, List.length_nil] at hq
    have hi := ih m (a + 1) p (deep + 1) h2 hp (by omega) (by omega)
    rw [Nm m p a q deep (by omega) (by omega) hp (by omega) (by omega), e1, h]
    unfold S1 lt
    rw [decide_eq_false (show ¬ (deep : Int) > 9 by omega), decide_eq_false (show ¬ (q.length : Int) > 9 by omega)]
    rw [show ((a : Int) + 1) = ((a + 1 : Nat) : Int) from rfl, show ((deep : Int) + 1) = ((deep + 1 : Nat) : Int) from rfl, hi]
    have hk : (((r.length - r1.length : Nat) : Int) == (0 : Int)) = false := by
      cases hz : (((r.length - r1.length : Nat) : Int) == (0 : Int)) with
      | false => rfl
      | true => have := eq_of_beq hz; omega
    show (bif (((r.length - r1.length : Nat) : Int) == (0 : Int)) then _ else _) = _
    rw [hk, show (((w :: r).length - r1.length : Nat) : Int) = 1 + ((r.length - r1.length : Nat) : Int) by rw [List.length_cons]; omega]
    rfl
  | @tw w r r1 r2 q q1 q2 op h ho h1 h2 ih1 ih2 =>
    intro n a p deep hr hp hq hn
    obtain ⟨m, rfl⟩ : ∃ m, n = m + 1 := ⟨n - 1, by omega⟩
    obtain ⟨e1, hd, hlt⟩ := Vg hr
    have hl1 := h1.len
    have hl2 := h2.len
    simp only [List.length_append, List.length_cons, List.length_nil] at hq
    have hi1 := ih1 m (a + 1) p (deep + 1) hd hp (by omega) (by omega)
    have hd1 : p.drop (a + (1 + (r.length - r1.length))) = r1 := by
      have e : p.drop (a + (1 + (r.length - r1.length))) = (p.drop (a + 1)).drop (r.length - r1.length) := by
        rw [List.drop_drop]
        congr 1
        omega
      rw [e, hd]
      exact h1.suf.symm
    have hi2 := ih2 m (a + (1 + (r.length - r1.length))) p (deep + 1) hd1 hp (by omega) (by omega)
    rw [Nm m p a q deep (by omega) (by omega) hp (by omega) (by omega), e1, h]
    have hk1 : (((r.length - r1.length : Nat) : Int) == (0 : Int)) = false := by
      cases hz : (((r.length - r1.length : Nat) : Int) == (0 : Int)) with
      | false => rfl
      | true => have := eq_of_beq hz; omega
    have hk2 : (((r1.length - r2.length : Nat) : Int) == (0 : Int)) = false := by
      cases hz : (((r1.length - r2.length : Nat) : Int) == (0 : Int)) with
      | false => rfl
      | true => have := eq_of_beq hz; omega
    have hK : S1 m p (a : Int) q (deep : Int) op = (bif (((r.length - r1.length : Nat) : Int) == (0 : Int)) then (q1, 0) else (bif (((r1.length - r2.length : Nat) : Int) == (0 : Int)) then (q2, 0) else (q2 ++ [((op, ((q1.length : Int) - 1), ((q2.length : Int) - 1), ⟨#[]⟩, NZ) : Qw)], 1 + ((r.length - r1.length : Nat) : Int) + ((r1.length - r2.length : Nat) : Int)))) := by
      unfold S1 lt
      rw [decide_eq_false (show ¬ (deep : Int) > 9 by omega), decide_eq_false (show ¬ (q.length : Int) > 9 by omega)]
      rw [show ((a : Int) + 1) = ((a + 1 : Nat) : Int) from rfl, show ((deep : Int) + 1) = ((deep + 1 : Nat) : Int) from rfl, hi1]
      dsimp only
      rw [show ((a : Int) + (1 + ((r.length - r1.length : Nat) : Int))) = ((a + (1 + (r.length - r1.length)) : Nat) : Int) by omega, hi2]
      rcases ho with rfl | rfl <;> rfl
    rw [hK, hk1, hk2, show (((w :: r).length - r2.length : Nat) : Int) = 1 + ((r.length - r1.length : Nat) : Int) + ((r1.length - r2.length : Nat) : Int) by rw [List.length_cons]; omega]
    rfl
def Gs (q : List Qw) : Prop := Gd q ∧ ∀ x, x ∈ q → x.1 = 3 ∨ x.1 = 4 → x.2.2.2.2.1 ≠ 0
theorem Gs.left {q p : List Qw} (h : Gs (q ++ p)) : Gs q := ⟨h.1.left, fun x hx => h.2 x (List.mem_append_left _ hx)⟩
theorem Qbw {s : ByteArray} (h : (Qn s).1.1 ≠ 0) : (Qn s).2 = true := by
  cases hb : (Qn s).2 with
  | true => rfl
  | false =>
    refine absurd ?_ h
    revert hb
    unfold Qn
    cases (Qg s).2 with
    | true =>
      simp only [cond_true]
      cases Qu (Zt (Qg s).1) with
      | false => intro _; rfl
      | true => intro h; cases h
    | false =>
      simp only [cond_false]
      cases (s.toList == (⟨#[45]⟩ : ByteArray).toList) with
      | false =>
        simp only [Bool.not_false, cond_true]
        cases Qu (Y0 s) with
        | false => intro _; rfl
        | true => intro h; cases h
      | true =>
        simp only [Bool.not_true, cond_false]
        cases Qu (0, 0, ⟨#[]⟩) with
        | false => intro _; rfl
        | true => intro h; cases h
theorem RG {r r' : List ByteArray} {q q' : List Qw} (h : Pr r q r' q') : ∃ u, q' = q ++ u := by
  induction h with
  | all | nm | vl => exact ⟨_, rfl⟩
  | nt _ _ ih => obtain ⟨u, rfl⟩ := ih; exact ⟨_, List.append_assoc ..⟩
  | tw _ _ _ _ ih1 ih2 => obtain ⟨u, rfl⟩ := ih1; obtain ⟨u2, rfl⟩ := ih2; exact ⟨u ++ (u2 ++ _), by simp only [List.append_assoc]; rfl⟩
theorem YO : ∀ (n a : Nat) (p : List ByteArray) (q : List Qw) (deep : Nat) (q' : List Qw) (k : Int), Xv n p (a : Int) q (deep : Int) = (q', k) → k ≠ 0 → Gs q' → a ≤ 30 → p.length ≤ 24 → deep ≤ 10 → ∃ j : Nat, k = (j : Int) ∧ Pr (p.drop a) q (p.drop (a + j)) q' ∧ a + j ≤ p.length
  | 0, a, p, q, deep, q', k, h, hk, _, _, _, _ => by
    obtain ⟨_, rfl⟩ := Prod.mk.inj h
    exact absurd rfl hk
  | n + 1, a, p, q, deep, q', k, h, hk, hg, ha, hp, hd => by
    rw [Nm n p a q deep (by omega) (by omega) hp (by omega) (by omega)] at h
    cases hr : p.drop a with
    | nil =>
      rw [Pg hr, YI] at h
      obtain ⟨_, rfl⟩ := Prod.mk.inj (show (q, (0 : Int)) = (q', k) from h)
      exact absurd rfl hk
    | cons w r =>
    obtain ⟨e1, hr1, hlt⟩ := Vg hr
    rw [e1] at h
    have hnz : ∀ {c : Bool} {X : (List Qw) × Int}, (bif c then (q, (0 : Int)) else X) = (q', k) → X = (q', k) := fun {c} {X} h => by
      cases c with
      | false => exact h
      | true => obtain ⟨_, rfl⟩ := Prod.mk.inj (show (q, (0 : Int)) = (q', k) from h); exact absurd rfl hk
    have hd9 : deep ≤ 9 := by
      refine Classical.byContradiction fun hc => ?_
      unfold S1 at h
      rw [decide_eq_true (show (deep : Int) > 9 by omega), Bool.true_or, Bool.or_true, cond_true] at h
      obtain ⟨_, rfl⟩ := Prod.mk.inj h
      exact hk rfl
    have hnm : ∀ op : Int, Gu w = op → op = 2 ∨ op = 8 ∨ op = 9 → (q ++ [((op, 0, 0, (Qh p ((a : Int) + 1)), NZ) : Qw)], (2 : Int)) = (q', k) → ∃ j : Nat, k = (j : Int) ∧ Pr (w :: r) q (p.drop (a + j)) q' ∧ a + j ≤ p.length := fun op ho h9 h => by
      obtain ⟨rfl, rfl⟩ := Prod.mk.inj h
      rw [show ((a : Int) + 1) = ((a + 1 : Nat) : Int) from rfl] at hg ⊢
      cases hr2 : p.drop (a + 1) with
      | nil =>
        rw [Pg hr2] at hg
        exact HJ (hg.1.last (by show op = 2 ∨ _; omega))
      | cons x r2 =>
        obtain ⟨e2, hr3, hlt2⟩ := Vg hr2
        rw [e2, ← hr1, hr2]
        refine ⟨2, rfl, ?_, by omega⟩
        rw [show a + 2 = a + 1 + 1 from rfl, hr3]
        exact .nm ho h9
    have hvl : ∀ op : Int, Gu w = op → op = 3 ∨ op = 4 → (q ++ [((op, 0, 0, (Qh p ((a : Int) + 1)), (Qn (Qh p ((a : Int) + 2))).1) : Qw)], (3 : Int)) = (q', k) → ∃ j : Nat, k = (j : Int) ∧ Pr (w :: r) q (p.drop (a + j)) q' ∧ a + j ≤ p.length := fun op ho h9 h => by
      obtain ⟨rfl, rfl⟩ := Prod.mk.inj h
      rw [show ((a : Int) + 1) = ((a + 1 : Nat) : Int) from rfl, show ((a : Int) + 2) = ((a + 1 + 1 : Nat) : Int) from rfl] at hg ⊢
      have hv := Qbw (hg.2 _ (List.mem_append_right _ (List.mem_singleton.2 rfl)) h9)
      cases hr2 : p.drop (a + 1) with
      | nil =>
        rw [Pg hr2] at hg
        exact HJ (hg.1.last (by show op = 2 ∨ _; omega))
      | cons x r2 =>
        obtain ⟨e2, hr3, hlt2⟩ := Vg hr2
        cases hr4 : p.drop (a + 1 + 1) with
        | nil =>
          rw [Pg hr4, HI] at hv
          cases hv
        | cons y r4 =>
          obtain ⟨e3, hr5, hlt3⟩ := Vg hr4
          rw [e3] at hv
          rw [e2, e3, ← hr1, hr2, ← hr3, hr4]
          refine ⟨3, rfl, ?_, by omega⟩
          rw [show a + 3 = a + 1 + 1 + 1 from rfl, hr5]
          exact .vl ho h9 hv
    have hin : ∀ op : Int, Gu w = op → op = 5 ∨ op = 6 ∨ op = 7 → (lt (Xv n p ((a : Int) + 1) q ((deep : Int) + 1)) fun x16 => bif (x16.2 == (0 : Int)) then (x16.1, 0) else bif (op != (5 : Int)) then lt (Xv n p ((a : Int) + (1 + x16.2)) x16.1 ((deep : Int) + 1)) fun x21 => bif (x21.2 == (0 : Int)) then (x21.1, 0) else (x21.1 ++ [((op, ((x16.1.length : Int) - 1), ((x21.1.length : Int) - 1), ⟨#[]⟩, NZ) : Qw)], 1 + x16.2 + x21.2) else (x16.1 ++ [((op, ((x16.1.length : Int) - 1), 0, ⟨#[]⟩, NZ) : Qw)], 1 + x16.2)) = (q', k) → ∃ j : Nat, k = (j : Int) ∧ Pr (w :: r) q (p.drop (a + j)) q' ∧ a + j ≤ p.length := fun op ho h9 h => by
      rw [show ((a : Int) + 1) = ((a + 1 : Nat) : Int) from rfl, show ((deep : Int) + 1) = ((deep + 1 : Nat) : Int) from rfl] at h
      rcases h1 : Xv n p ((a + 1 : Nat) : Int) q ((deep + 1 : Nat) : Int) with ⟨q1, k1⟩
      rw [h1] at h
      have h : (bif (k1 == (0 : Int)) then (q1, (0 : Int)) else bif (op != (5 : Int)) then lt (Xv n p ((a : Int) + (1 + k1)) q1 ((deep + 1 : Nat) : Int)) fun x21 => bif (x21.2 == (0 : Int)) then (x21.1, 0) else (x21.1 ++ [((op, ((q1.length : Int) - 1), ((x21.1.length : Int) - 1), ⟨#[]⟩, NZ) : Qw)], 1 + k1 + x21.2) else (q1 ++ [((op, ((q1.length : Int) - 1), 0, ⟨#[]⟩, NZ) : Qw)], 1 + k1)) = (q', k) := h
      cases hk1 : (k1 == (0 : Int)) with
      | true =>
        rw [hk1] at h
        obtain ⟨_, rfl⟩ := Prod.mk.inj (show (q1, (0 : Int)) = (q', k) from h)
        exact absurd rfl hk
      | false =>
        rw [hk1, cond_false] at h
        have hk1 := ne_of_beq_false hk1
        rcases h9 with rfl | h9
        · have h : (q1 ++ [((5, ((q1.length : Int) - 1), 0, ⟨#[]⟩, NZ) : Qw)], 1 + k1) = (q', k) := h
          obtain ⟨rfl, rfl⟩ := Prod.mk.inj h
          obtain ⟨j, rfl, hP, hj⟩ := YO n (a + 1) p q (deep + 1) q1 k1 h1 hk1 hg.left (by omega) hp (by omega)
          refine ⟨1 + j, by omega, ?_, by omega⟩
          rw [hr1] at hP
          rw [show a + (1 + j) = a + 1 + j by omega]
          exact .nt ho hP
        rw [show (op != (5 : Int)) = true by rcases h9 with rfl | rfl <;> rfl, cond_true] at h
        rcases h2 : Xv n p ((a : Int) + (1 + k1)) q1 ((deep + 1 : Nat) : Int) with ⟨q2, k2⟩
        rw [h2] at h
        have h : (bif (k2 == (0 : Int)) then (q2, (0 : Int)) else (q2 ++ [((op, ((q1.length : Int) - 1), ((q2.length : Int) - 1), ⟨#[]⟩, NZ) : Qw)], 1 + k1 + k2)) = (q', k) := h
        cases hk2 : (k2 == (0 : Int)) with
        | true =>
          rw [hk2] at h
          obtain ⟨_, rfl⟩ := Prod.mk.inj (show (q2, (0 : Int)) = (q', k) from h)
          exact absurd rfl hk
        | false =>
          rw [hk2, cond_false] at h
          have hk2 := ne_of_beq_false hk2
          obtain ⟨rfl, rfl⟩ := Prod.mk.inj h
          have hl := Cx n p ((a + 1 : Nat) : Int) q ((deep + 1 : Nat) : Int) (by omega) (by omega) hp (by omega) (by omega)
          rw [h1] at hl
          obtain ⟨j1, rfl⟩ := Int.eq_ofNat_of_zero_le (show 0 ≤ k1 from hl.2.1)
          have hl3 : ((j1 : Int) = 0 ∨ ((a + 1 : Nat) : Int) + (j1 : Int) ≤ (p.length : Int) + 2) := hl.2.2
          rw [show ((a : Int) + (1 + (j1 : Int))) = ((a + (1 + j1) : Nat) : Int) by omega] at h2
          obtain ⟨j2, rfl, hP2, hj2⟩ := YO n (a + (1 + j1)) p q1 (deep + 1) q2 k2 h2 hk2 hg.left (by omega) hp (by omega)
          have hg1 : Gs q1 := by
            obtain ⟨u, hu⟩ := RG hP2
            rw [hu] at hg
            exact hg.left.left
          obtain ⟨j3, e3, hP1, hj1⟩ := YO n (a + 1) p q (deep + 1) q1 (j1 : Int) h1 hk1 hg1 (by omega) hp (by omega)
          obtain rfl : j1 = j3 := by omega
          refine ⟨1 + j1 + j2, by omega, ?_, by omega⟩
          rw [hr1] at hP1
          rw [show a + (1 + j1) = a + 1 + j1 by omega] at hP2
          rw [show a + (1 + j1 + j2) = a + 1 + j1 + j2 by omega]
          exact .tw ho h9 hP1 hP2
    rcases TF w with e | e | e | e | e | e | e | e | e | e <;> rw [e] at h <;> unfold S1 at h
    · obtain ⟨_, rfl⟩ := Prod.mk.inj (show (q, (0 : Int)) = (q', k) from h)
      exact absurd rfl hk
    · have h := hnz h
      obtain ⟨rfl, rfl⟩ := Prod.mk.inj (show (q ++ [((1, 0, 0, ⟨#[]⟩, NZ) : Qw)], (1 : Int)) = (q', k) from h)
      refine ⟨1, rfl, ?_, by omega⟩
      rw [hr1]
      exact .all e
    · exact hnm 2 e (by omega) (hnz h)
    · exact hvl 3 e (by omega) (hnz h)
    · exact hvl 4 e (by omega) (hnz h)
    · exact hin 5 e (by omega) (hnz h)
    · exact hin 6 e (by omega) (hnz h)
    · exact hin 7 e (by omega) (hnz h)
    · exact hnm 8 e (by omega) (hnz h)
    exact hnm 9 e (by omega) (hnz h)
theorem Eb {s : ByteArray} (h : (decide (1 ≤ s.size) && s.data.toList.all fun b => decide (33 ≤ b.toNat) && decide (b.toNat ≤ 126)) = true) : Word s := by
  simp only [Bool.and_eq_true, decide_eq_true_eq, List.all_eq_true] at h
  exact ⟨h.1, h.2⟩
theorem Qbx {op : Int} (h : 1 ≤ op ∧ op ≤ 9) : Word (Qo op) := by
  rcases Pd (Jv.2 h) with rfl | rfl | rfl | rfl | rfl | rfl | rfl | rfl | rfl <;> exact Eb (by decide)
theorem YP {n : Qw} {k : Int} (h : Yo n k = true) : (n.1 = 2 ∨ n.1 = 3 ∨ n.1 = 4 → Qs n.2.2.2.1 = true) ∧ (n.1 = 8 ∨ n.1 = 9 → Q0 n.2.2.2.1 = true) ∧ (n.1 = 3 ∨ n.1 = 4 → Qu n.2.2.2.2 = true ∧ n.2.2.2.2.1 ≠ 0) ∧ (1 ≤ n.1 ∧ n.1 ≤ 9) := by
  unfold Yo at h
  cases h1 : (n.1 == (1 : Int)) with
  | true => have e := eq_of_beq h1; exact ⟨fun _ => by omega, fun _ => by omega, fun _ => by omega, by omega⟩
  | false =>
  cases h2 : (n.1 == (2 : Int)) with
  | true =>
    have e := eq_of_beq h2
    simp only [h1, h2, cond_true, cond_false, Bool.and_eq_true] at h
    exact ⟨fun _ => h.2, fun _ => by omega, fun _ => by omega, by omega⟩
  | false =>
  cases h3 : (n.1 == (3 : Int)) with
  | true =>
    have e := eq_of_beq h3
    simp only [h1, h2, h3, cond_true, cond_false, Bool.and_eq_true, bne_iff_ne] at h
    exact ⟨fun _ => h.2.1, fun _ => by omega, fun _ => ⟨h.2.2.1, h.2.2.2.1⟩, by omega⟩
  | false =>
  cases h4 : (n.1 == (4 : Int)) with
  | true =>
    have e := eq_of_beq h4
    simp only [h1, h2, h3, h4, cond_true, cond_false, Bool.and_eq_true, bne_iff_ne] at h
    exact ⟨fun _ => h.2.1, fun _ => by omega, fun _ => ⟨h.2.2.1, h.2.2.2.1⟩, by omega⟩
  | false =>
  cases h5 : (n.1 == (5 : Int)) with
  | true => have e := eq_of_beq h5; exact ⟨fun _ => by omega, fun _ => by omega, fun _ => by omega, by omega⟩
  | false =>
  cases h6 : (n.1 == (6 : Int)) with
  | true => have e := eq_of_beq h6; exact ⟨fun _ => by omega, fun _ => by omega, fun _ => by omega, by omega⟩
  | false =>
  cases h7 : (n.1 == (7 : Int)) with
  | true => have e := eq_of_beq h7; exact ⟨fun _ => by omega, fun _ => by omega, fun _ => by omega, by omega⟩
  | false =>
  cases h8 : (n.1 == (8 : Int)) with
  | true =>
    have e := eq_of_beq h8
    simp only [h1, h2, h3, h4, h5, h6, h7, h8, cond_true, cond_false, Bool.and_eq_true] at h
    exact ⟨fun _ => by omega, fun _ => h.2, fun _ => by omega, by omega⟩
  | false =>
  cases h9 : (n.1 == (9 : Int)) with
  | true =>
    have e := eq_of_beq h9
    simp only [h1, h2, h3, h4, h5, h6, h7, h8, h9, cond_true, cond_false, Bool.and_eq_true] at h
    exact ⟨fun _ => by omega, fun _ => h.2, fun _ => by omega, by omega⟩
  | false =>
    simp only [h1, h2, h3, h4, h5, h6, h7, h8, h9, cond_false] at h
    cases h
theorem LX {q : List Qw} (h : Qj q = true) : Gs q := by
  have hn : ∀ x, x ∈ q → ∃ k : Int, Yo x k = true := fun x hx => by
    obtain ⟨i, hi⟩ := List.getElem?_of_mem hx
    exact ⟨_, XS h hi⟩
  refine ⟨fun x hx ho => ?_, fun x hx ho => ?_⟩
  · obtain ⟨k, hk⟩ := hn x hx
    obtain ⟨f1, f2, _, _⟩ := YP hk
    by_cases h8 : x.1 = 8 ∨ x.1 = 9
    · exact (Cv (f2 h8)).1
    have := YB (f1 (by omega)); omega
  obtain ⟨k, hk⟩ := hn x hx
  exact ((YP hk).2.2.1 ho).2
/-! ### a query's words -/
def qw : Nat → List Qw → Int → List ByteArray
  | 0, _, _ => []
  | n + 1, q, k => bif ((nth q (Int.toNat k)).1 == (2 : Int)) || ((nth q (Int.toNat k)).1 == (8 : Int)) || ((nth q (Int.toNat k)).1 == (9 : Int)) then [Qo (nth q (Int.toNat k)).1, (nth q (Int.toNat k)).2.2.2.1]
    else bif ((nth q (Int.toNat k)).1 == (3 : Int)) || ((nth q (Int.toNat k)).1 == (4 : Int)) then [Qo (nth q (Int.toNat k)).1, (nth q (Int.toNat k)).2.2.2.1, Xe (nth q (Int.toNat k)).2.2.2.2]
    else bif ((nth q (Int.toNat k)).1 == (5 : Int)) then [Qo (nth q (Int.toNat k)).1] ++ qw n q (nth q (Int.toNat k)).2.1
    else bif ((nth q (Int.toNat k)).1 == (6 : Int)) || ((nth q (Int.toNat k)).1 == (7 : Int)) then [Qo (nth q (Int.toNat k)).1] ++ (qw n q (nth q (Int.toNat k)).2.1 ++ qw n q (nth q (Int.toNat k)).2.2.1)
    else [Qo (nth q (Int.toNat k)).1]
theorem DO {a : ByteArray} {l : List ByteArray} (h : l ≠ []) : Q6 ⟨#[32]⟩ ([a] ++ l) = Q6 ⟨#[32]⟩ [a, Q6 ⟨#[32]⟩ l] := by
  rw [Ak _ (fun e => by cases e) h, Zh, Z3]
theorem DP {a : ByteArray} {l m : List ByteArray} (h : l ≠ []) (h' : m ≠ []) : Q6 ⟨#[32]⟩ ([a] ++ (l ++ m)) = Q6 ⟨#[32]⟩ [a, Q6 ⟨#[32]⟩ l, Q6 ⟨#[32]⟩ m] := by
  rw [Ak _ (fun e => by cases e) (by simp [h]), Zh, Ak _ h h', Zv]
  simp only [ByteArray.append_assoc]
theorem LY : ∀ (n : Nat) {q : List Qw} (_ : Qj q = true) {k : Nat} (_ : k < q.length) (_ : k < n), Xq n q (k : Int) = Q6 ⟨#[32]⟩ (qw n q (k : Int)) ∧ qw n q (k : Int) ≠ [] ∧ ∀ y, y ∈ qw n q (k : Int) → Word y ∧ y.size ≤ 10
  | 0, q, hv, k, hk, hn => by omega
  | n + 1, q, hv, k, hk, hn => by
    have hnode := XS hv (G9 hk)
    obtain ⟨f1, f2, f3, f4⟩ := YP hnode
    have hop := Qbx f4
    have hob := LH (nth q k).1
    have ka := EP hv (k := (k : Int)) (by omega) (by omega)
    have kb := EQ hv (k := (k : Int)) (by omega) (by omega)
    have kc := ID hv (k := (k : Int)) (by omega) (by omega)
    have kd := ER hv (k := (k : Int)) (by omega) (by omega)
    have ke := IE hv (k := (k : Int)) (by omega) (by omega)
    have kid : ∀ j : Int, 0 ≤ j ∧ j < (k : Int) → Xq n q j = Q6 ⟨#[32]⟩ (qw n q j) ∧ qw n q j ≠ [] ∧ ∀ y, y ∈ qw n q j → Word y ∧ y.size ≤ 10 := fun j hj => by
      obtain ⟨m, rfl⟩ := Int.eq_ofNat_of_zero_le hj.1
      exact LY n hv (by omega) (by omega)
    unfold Xq qw
    rw [Int.toNat_natCast] at ka kb kc kd ke ⊢
    generalize nth q k = x at *
    have one : ∀ y, y ∈ [Qo x.1] → Word y ∧ y.size ≤ 10 := fun y hy => by rw [List.mem_singleton.1 hy]; exact ⟨hop, by omega⟩
    have two : Word x.2.2.2.1 ∧ x.2.2.2.1.size ≤ 10 → ∀ y, y ∈ [Qo x.1, x.2.2.2.1] → Word y ∧ y.size ≤ 10 := fun hx y hy => by
      rcases List.mem_cons.1 hy with rfl | hy
      · exact one _ (List.mem_singleton.2 rfl)
      rw [List.mem_singleton.1 hy]; exact hx
    have hat : Qs x.2.2.2.1 = true → Word x.2.2.2.1 ∧ x.2.2.2.1.size ≤ 10 := fun h => ⟨Sd h, by rw [YB h]; decide⟩
    have hst : Q0 x.2.2.2.1 = true → Word x.2.2.2.1 ∧ x.2.2.2.1.size ≤ 10 := fun h => ⟨YM h, by have := Cv h; omega⟩
    cases h2 : (x.1 == (2 : Int)) with
    | true => exact ⟨rfl, List.cons_ne_nil _ _, two (hat (f1 (.inl (eq_of_beq h2))))⟩
    | false =>
    cases h8 : (x.1 == (8 : Int)) with
    | true => exact ⟨rfl, List.cons_ne_nil _ _, two (hst (f2 (.inl (eq_of_beq h8))))⟩
    | false =>
    cases h9 : (x.1 == (9 : Int)) with
    | true => exact ⟨rfl, List.cons_ne_nil _ _, two (hst (f2 (.inr (eq_of_beq h9))))⟩
    | false =>
    have val : x.1 = 3 ∨ x.1 = 4 → ∀ y, y ∈ [Qo x.1, x.2.2.2.1, Xe x.2.2.2.2] → Word y ∧ y.size ≤ 10 := fun h y hy => by
      rcases List.mem_cons.1 hy with rfl | hy
      · exact one _ (List.mem_singleton.2 rfl)
      rcases List.mem_cons.1 hy with rfl | hy
      · exact hat (f1 (.inr h))
      rw [List.mem_singleton.1 hy]; exact ⟨BY (f3 h).1 (f3 h).2, HF _⟩
    cases h3 : (x.1 == (3 : Int)) with
    | true => exact ⟨rfl, List.cons_ne_nil _ _, val (.inl (eq_of_beq h3))⟩
    | false =>
    cases h4 : (x.1 == (4 : Int)) with
    | true => exact ⟨rfl, List.cons_ne_nil _ _, val (.inr (eq_of_beq h4))⟩
    | false =>
    cases h5 : (x.1 == (5 : Int)) with
    | true =>
      obtain ⟨g1, g2, g3⟩ := kid _ (ka h5)
      refine ⟨?_, fun e => by simp at e, fun y hy => ?_⟩
      · show Q6 _ [_, Xq n q x.2.1] = Q6 _ ([_] ++ qw n q x.2.1)
        rw [DO g2, g1]
      exact (List.mem_append.1 (show y ∈ [Qo x.1] ++ qw n q x.2.1 from hy)).elim (one y) (g3 y)
    | false =>
    have both : (0 ≤ x.2.1 ∧ x.2.1 < (k : Int)) → (0 ≤ x.2.2.1 ∧ x.2.2.1 < (k : Int)) → Q6 ⟨#[32]⟩ [Qo x.1, Xq n q x.2.1, Xq n q x.2.2.1] = Q6 ⟨#[32]⟩ ([Qo x.1] ++ (qw n q x.2.1 ++ qw n q x.2.2.1)) ∧ ([Qo x.1] ++ (qw n q x.2.1 ++ qw n q x.2.2.1)) ≠ [] ∧ ∀ y, y ∈ [Qo x.1] ++ (qw n q x.2.1 ++ qw n q x.2.2.1) → Word y ∧ y.size ≤ 10 := fun hl hr => by
      obtain ⟨g1, g2, g3⟩ := kid _ hl
      obtain ⟨e1, e2, e3⟩ := kid _ hr
      refine ⟨by rw [DP g2 e2, g1, e1], fun e => by simp at e, fun y hy => ?_⟩
      exact (List.mem_append.1 hy).elim (one y) fun hy => (List.mem_append.1 hy).elim (g3 y) (e3 y)
    cases h6 : (x.1 == (6 : Int)) with
    | true => exact both (kb h6) (kd h6)
    | false =>
    cases h7 : (x.1 == (7 : Int)) with
    | true => exact both (kc h7) (ke h7)
    | false => exact ⟨by show Q6 _ [_] = Q6 _ [_]; rfl, List.cons_ne_nil _ _, one⟩
def qws (q : List Qw) : List ByteArray := qw q.length q ((q.length : Int) - 1)
theorem N4 {q : List Qw} (hv : Qj q = true) : Qx q = Q6 ⟨#[32]⟩ (qws q) ∧ qws q ≠ [] ∧ ∀ y, y ∈ qws q → Word y ∧ y.size ≤ 10 := by
  have hl := Ei hv
  unfold Qx qws
  rw [hv, show ((q.length : Int) - 1) = ((q.length - 1 : Nat) : Int) by omega]
  exact LY q.length hv (by omega) (by omega)
/-! ### reading a query's text -/
theorem HK {l : List ByteArray} (h : ∀ y, y ∈ l → Word y) (hl : ¬ (l.length ≤ 24 ∧ (Q6 ⟨#[32]⟩ l).size ≤ 600)) : Xd (Q6 ⟨#[32]⟩ l) = ([], false) := by
  unfold Xd
  cases hc : decide (((Q6 ⟨#[32]⟩ l).size : Int) > (600 : Int)) with
  | true => rfl
  | false =>
    have hc := of_decide_eq_false hc
    simp only [cond_false]
    have h2 := KL (Q6 ⟨#[32]⟩ l) (Q6 ⟨#[32]⟩ l).data.toList 0 rfl
    rw [Hf] at h2
    rw [show Int.toNat (ByteArray.size (Q6 ⟨#[32]⟩ l) : Int) = (Q6 ⟨#[32]⟩ l).size by omega, h2]
    have ha : (Q6 ⟨#[32]⟩ l).data.toList.all Bf = true := List.all_eq_true.2 fun b hb => by
      have := Nj h b hb
      unfold Bf
      simp only [Bool.and_eq_true, decide_eq_true_eq]
      exact this
    rw [ha, Ip h]
    simp only [if_true, Out.on]
    rw [decide_eq_true (show (l.length : Int) > 24 by omega)]
    rfl
theorem Qes {q : List Qw} (h : Qj q = true) : q ≠ [] := fun e => by have := Ei h; rw [e] at this; simp at this
theorem Qet {q : List Qw} (hv : Qj q = true) (h : Xu (Qx q) = (q, true)) : Pr (qws q) [] [] q ∧ ((qws q).length ≤ 24 ∧ (Qx q).size ≤ 600) := by
  obtain ⟨h1, h2, h3⟩ := N4 hv
  rw [h1] at h ⊢
  have hW : ∀ y, y ∈ qws q → Word y := fun y hy => (h3 y hy).1
  by_cases hs : (qws q).length ≤ 24 ∧ (Q6 ⟨#[32]⟩ (qws q)).size ≤ 600
  · refine ⟨?_, hs⟩
    unfold Xu lt at h
    rw [L3 hW hs.1 hs.2] at h
    dsimp only at h
    rcases hn : Xc ((qws q).length + 1) (qws q) [] with ⟨b, r, q2⟩
    rw [hn] at h
    simp only [Bool.not_true, cond_false] at h
    cases hc : ((!b) || (decide ((r.length : Int) > (0 : Int)) || (!(Qj q2)))) with
    | true => rw [hc] at h; obtain ⟨_, h⟩ := Prod.mk.inj (show (([] : List Qw), false) = (q, true) from h); cases h
    | false =>
      rw [hc] at h
      obtain ⟨rfl, _⟩ := Prod.mk.inj (show (q2, true) = (q, true) from h)
      obtain ⟨c1, c2⟩ := bo hc
      obtain ⟨c3, _⟩ := bo c2
      have c3 := of_decide_eq_false c3
      obtain rfl : r = [] := List.eq_nil_of_length_eq_zero (by omega)
      obtain rfl := bn c1
      exact YN _ _ _ _ _ hn (LX hv).1
  unfold Xu at h
  rw [HK hW hs] at h
  obtain ⟨_, h⟩ := Prod.mk.inj (show (([] : List Qw), false) = (q, true) from h)
  cases h
theorem Qeu {q : List Qw} (hv : Qj q = true) (h : Pr (qws q) [] [] q) (hs : (qws q).length ≤ 24 ∧ (Qx q).size ≤ 600) : Xu (Qx q) = (q, true) := by
  obtain ⟨h1, h2, h3⟩ := N4 hv
  rw [h1] at hs ⊢
  unfold Xu lt
  rw [L3 (fun y hy => (h3 y hy).1) hs.1 hs.2]
  dsimp only
  rw [Qbu h _ (Nat.lt_succ_self _)]
  simp only [Bool.not_true, cond_false, hv]
  rfl
theorem Qdo {q : List Qw} (hv : Qj q = true) (h : Pr (qws q) [] [] q) (hs : (qws q).length ≤ 24 ∧ (Qx q).size ≤ 600) : X7 (Qx q) = (q, true) := by
  obtain ⟨h1, h2, h3⟩ := N4 hv
  have hl := Ei hv
  have hr := Qbv h 12 0 (qws q) 0 rfl hs.1 (by omega) rfl
  have hne : (Qx q).toList == (⟨#[]⟩ : ByteArray).toList ↔ False := by
    refine ⟨fun e => ?_, False.elim⟩
    have e := H6 e
    obtain ⟨y, ys, hy⟩ := List.exists_cons_of_ne_nil h2
    have hw := (h3 y (by rw [hy]; exact List.mem_cons_self ..)).1
    have hsz : (Q6 ⟨#[32]⟩ (qws q)).size = 0 := by rw [← h1, e]; rfl
    rw [hy] at hsz
    cases ys with
    | nil => rw [Zh] at hsz; have := hw.1; omega
    | cons z zs => rw [Jo, ByteArray.size_append, ByteArray.size_append] at hsz; have := hw.1; omega
  unfold X7 lt
  rw [LM, h1, L3 (fun y hy => (h3 y hy).1) hs.1 (by rw [← h1]; exact hs.2)]
  dsimp only
  rw [show (0 : Int) = ((0 : Nat) : Int) from rfl, hr]
  dsimp only
  rw [Qbn, QH, ← h1, beq_self_eq_true, show (((Qx q).toList == (⟨#[]⟩ : ByteArray).toList) = false) from Bool.eq_false_iff.2 fun e => hne.1 e]
  rw [show ((((qws q).length - ([] : List ByteArray).length : Nat) : Int) != ((qws q).length : Int)) = false from bne_eq_false_iff_eq.2 (by simp)]
  rfl
theorem Qdp {q : List Qw} (hv : Qj q = true) (h : (X7 (Qx q)).1 = q) : Pr (qws q) [] [] q ∧ ((qws q).length ≤ 24 ∧ (Qx q).size ≤ 600) := by
  obtain ⟨h1, h2, h3⟩ := N4 hv
  have hne := Qes hv
  have hW : ∀ y, y ∈ qws q → Word y := fun y hy => (h3 y hy).1
  rw [h1] at h ⊢
  unfold X7 lt at h
  rw [LM] at h
  by_cases hs : (qws q).length ≤ 24 ∧ (Q6 ⟨#[32]⟩ (qws q)).size ≤ 600
  · refine ⟨?_, hs⟩
    rw [L3 hW hs.1 hs.2] at h
    dsimp only at h
    rcases hr : Xv 12 (qws q) 0 [] 0 with ⟨q2, k⟩
    rw [hr] at h
    simp only [Bool.not_true, cond_false] at h
    cases hc : (((k : Int) != ((qws q).length : Int)) || (((Xw q2).toList == (⟨#[]⟩ : ByteArray).toList) || (!((Xw q2).toList == (Jm (qws q)).toList)))) with
    | true => rw [hc] at h; exact absurd (show [] = q from h).symm hne
    | false =>
      rw [hc] at h
      obtain rfl : q2 = q := h
      obtain ⟨c1, _⟩ := bo hc
      have hk : k = ((qws q2).length : Int) := bne_eq_false_iff_eq.1 c1
      have hpos : 1 ≤ (qws q2).length := List.length_pos_iff.2 h2
      obtain ⟨j, e, hP, _⟩ := YO 12 0 (qws q2) [] 0 q2 k hr (by omega) (LX hv) (by omega) hs.1 (by omega)
      obtain rfl : j = (qws q2).length := by omega
      rw [Nat.zero_add, List.drop_length] at hP
      exact hP
  rw [HK hW hs] at h
  exact absurd (show [] = q from h).symm hne
abbrev SP : ByteArray := ⟨#[32]⟩
abbrev FLD : ByteArray := ⟨#[102, 105, 101, 108, 100]⟩
abbrev NXT : ByteArray := ⟨#[110, 101, 120, 116]⟩
abbrev FIL : ByteArray := ⟨#[102, 105, 108, 101]⟩
abbrev DIR : ByteArray := ⟨#[100, 105, 114]⟩
theorem Qfi {y : ByteArray} (h : Word y) : (32 : UInt8) ∉ y.data.toList := h.no (by decide)
theorem Ma {l : List ByteArray} (h0 : l ≠ []) (h : ∀ y, y ∈ l → Word y) : Qm 32 (Q6 SP l) = l := BS h0 fun y hy => Qfi (h y hy)
theorem Mb {l : List ByteArray} (h : ∀ y, y ∈ l → Word y) (hl : l.length ≤ 24) (hs : (Q6 SP l).size ≤ 600) : Qb (Q6 SP l) = (l, true) := by rw [LM]; exact L3 h hl hs
/-! ### fields -/
theorem KS {f : X6} (hn : Qs f.1 = true) (hk : f.2 = 1 ∨ f.2 = 2) : X0 f = Q6 SP [FLD, f.1, bif f.2 == (1 : Int) then ⟨#[105, 110, 116]⟩ else ⟨#[115, 116, 114, 105, 110, 103]⟩] := by
  unfold X0
  rw [hn, Zv]
  rcases hk with h | h <;> rw [h]
  · show ((⟨#[102, 105, 101, 108, 100, 32]⟩ : ByteArray) ++ f.1) ++ (⟨#[32, 105, 110, 116]⟩ : ByteArray) = _
    rw [show (⟨#[102, 105, 101, 108, 100, 32]⟩ : ByteArray) = FLD ++ SP from rfl, show (⟨#[32, 105, 110, 116]⟩ : ByteArray) = SP ++ ⟨#[105, 110, 116]⟩ from rfl]
    simp only [ByteArray.append_assoc]
    rfl
  show ((⟨#[102, 105, 101, 108, 100, 32]⟩ : ByteArray) ++ f.1) ++ (⟨#[32, 115, 116, 114, 105, 110, 103]⟩ : ByteArray) = _
  rw [show (⟨#[102, 105, 101, 108, 100, 32]⟩ : ByteArray) = FLD ++ SP from rfl, show (⟨#[32, 115, 116, 114, 105, 110, 103]⟩ : ByteArray) = SP ++ ⟨#[115, 116, 114, 105, 110, 103]⟩ from rfl]
  simp only [ByteArray.append_assoc]
  rfl
theorem Qdq {f : X6} (hn : Qs f.1 = true) : ∀ y, y ∈ [FLD, f.1, bif f.2 == (1 : Int) then (⟨#[105, 110, 116]⟩ : ByteArray) else ⟨#[115, 116, 114, 105, 110, 103]⟩] → Word y ∧ y.size ≤ 10 := fun y hy => by
  simp only [List.mem_cons, List.mem_nil_iff, or_false] at hy
  rcases hy with rfl | rfl | rfl
  · exact ⟨Eb (by decide), by decide⟩
  · exact ⟨Sd hn, by rw [YB hn]; decide⟩
  cases (f.2 == (1 : Int)) <;> exact ⟨Eb (by decide), by decide⟩
theorem Qfj {f : X6} (hn : Qs f.1 = true) (hk : f.2 = 1 ∨ f.2 = 2) (b1 : List X6) (b2 : List Zl) (b3 : Int) (b4 : List Zw) : Y2 b1 b2 b3 b4 (X0 f) = (true, b1 ++ [f], b2, b3, b4) := by
  rw [KS hn hk]
  unfold Y2
  rw [Ma (fun e => by cases e) fun y hy => (Qdq hn y hy).1]
  obtain ⟨n, k⟩ := f
  rcases hk with h | h <;> obtain rfl : k = _ := h <;> kernel_rfl
theorem Qfk {f : X6} (hn : Qs f.1 = true) (hk : f.2 = 1 ∨ f.2 = 2) (x : Qp) : Yl x (X0 f) = ((x.1.1 ++ [f], x.1.2.1, x.1.2.2), x.2) := by
  have hw := Qdq hn
  have hs := J9 (s := SP) (m := 10) (n := 3) rfl (fun y hy => (hw y hy).2) (Nat.le_refl _)
  rw [KS hn hk]
  unfold Yl
  rw [Mb (fun y hy => (hw y hy).1) (Nat.le_of_ble_eq_true rfl) (Nat.le_trans hs (by decide))]
  obtain ⟨n, k⟩ := f
  rcases hk with h | h <;> obtain rfl : k = _ := h <;> (show _ = _; kernel_rfl)
/-! ### the next number -/
theorem KT (n : Int) : (⟨#[110, 101, 120, 116, 32]⟩ : ByteArray) ++ Qq n = Q6 SP [NXT, Qq n] := by
  rw [Z3]
  rfl
theorem Qdr {n : Int} (h : 0 ≤ n ∧ n ≤ 1000000000) : ∀ y, y ∈ [NXT, Qq n] → Word y ∧ y.size ≤ 10 := fun y hy => by
  simp only [List.mem_cons, List.mem_nil_iff, or_false] at hy
  rcases hy with rfl | rfl
  · exact ⟨Eb (by decide), by decide⟩
  exact ⟨L7 h.1, Zk h⟩
theorem Qfl {n : Int} (h : 0 ≤ n ∧ n ≤ 1000000000) (b1 : List X6) (b2 : List Zl) (b3 : Int) (b4 : List Zw) : Y2 b1 b2 b3 b4 ((⟨#[110, 101, 120, 116, 32]⟩ : ByteArray) ++ Qq n) = (true, b1, b2, n, b4) := by
  rw [KT]
  unfold Y2
  rw [Ma (fun e => by cases e) fun y hy => (Qdr h y hy).1]
  refine Eq.trans (b := ((Qg (Qq n)).2, b1, b2, (Qg (Qq n)).1, b4)) (by kernel_rfl) ?_
  rw [L5 h]
theorem Qfm {n : Int} (h : 0 ≤ n ∧ n ≤ 1000000000) (x : Qp) : Yl x ((⟨#[110, 101, 120, 116, 32]⟩ : ByteArray) ++ Qq n) = ((x.1.1, x.1.2.1, n), x.2) := by
  have hw := Qdr h
  have hs := J9 (s := SP) (m := 10) (n := 2) rfl (fun y hy => (hw y hy).2) (Nat.le_refl _)
  rw [KT]
  unfold Yl
  rw [Mb (fun y hy => (hw y hy).1) (Nat.le_of_ble_eq_true rfl) (Nat.le_trans hs (by decide))]
  refine Eq.trans (b := ((x.1.1, x.1.2.1, (Q3 (Qq n)).1), x.2)) (by kernel_rfl) ?_
  rw [Hk, L5 h]
/-! ### files -/
def DQ (l : List Kz) : List ByteArray := l.flatMap fun a => [a.1, Xe a.2]
def Qe6 (l : List Kz) : Prop := ∀ a, a ∈ l → Qs a.1 = true ∧ Qu a.2 = true ∧ a.2.1 ≠ 0
theorem Nn (a : Kz) (l : List Kz) : DQ (a :: l) = a.1 :: Xe a.2 :: DQ l := rfl
theorem KU (l : List Kz) : (DQ l).length = 2 * l.length := by
  induction l with
  | nil => rfl
  | cons a l ih => rw [Nn]; simp only [List.length_cons, ih]; omega
theorem BZ {w r : List ByteArray} {i : Nat} {a b : ByteArray} (h : w.drop i = a :: b :: r) : nth w i = a ∧ nth w (i + 1) = b ∧ w.drop (i + 2) = r ∧ i + 1 < w.length := by
  obtain ⟨h1, h2, _⟩ := Ch h
  obtain ⟨h3, h4, h5⟩ := Ch h2
  refine ⟨?_, ?_, h4, h5⟩
  · unfold nth; rw [List.getD_eq_getElem?_getD, h1]; rfl
  unfold nth; rw [List.getD_eq_getElem?_getD, h3]; rfl
theorem N5 {w : List ByteArray} {i : Nat} (h : w.drop i = []) : w.length ≤ i := by
  have := congrArg List.length h
  rw [List.length_drop] at this
  simp only [List.length_nil] at this
  omega
theorem QK {w : List ByteArray} (hw : w.length ≤ 1000) : ∀ (l : List Kz) (i n : Nat) (A : List Kz), Qe6 l → w.drop i = DQ l → l.length < n → whl (Ja w) n (true, (i : Int), A) = some (.brk (true, A ++ l))
  | [], i, n, A, _, h, hn => by
    obtain ⟨m, rfl⟩ : ∃ m, n = m + 1 := ⟨n - 1, by omega⟩
    have hl := N5 h
    have hf : Ja w (true, (i : Int), A) = .brk (true, A) := by
      unfold Ja
      rw [decide_eq_false (show ¬ (i : Int) < (w.length : Int) by omega), cond_false]
    rw [whl, hf, List.append_nil]
  | a :: l, i, n, A, ho, h, hn => by
    obtain ⟨m, rfl⟩ : ∃ m, n = m + 1 := ⟨n - 1, by omega⟩
    rw [Nn] at h
    obtain ⟨h1, h2, h3, h4⟩ := BZ h
    have ha := ho a (List.mem_cons_self ..)
    have hf : Ja w (true, (i : Int), A) = .next (true, ((i + 2 : Nat) : Int), A ++ [a]) := by
      unfold Ja
      rw [decide_eq_true (show (i : Int) < (w.length : Int) by omega), cond_true]
      dsimp only
      rw [IntWalk.i64_in ((i : Int) + 1) (by omega), IntWalk.i64_in ((i : Int) + 2) (by omega), show ((i : Int) + 1) = ((i + 1 : Nat) : Int) from rfl, Int.toNat_natCast, Int.toNat_natCast, h1, h2, KR ha.2.1 ha.2.2]
      rfl
    rw [List.length_cons] at hn
    rw [whl, hf]
    show whl (Ja w) m (true, ((i + 2 : Nat) : Int), A ++ [a]) = _
    rw [QK hw l (i + 2) m (A ++ [a]) (fun b hb => ho b (List.mem_cons_of_mem _ hb)) h3 (by omega), List.append_assoc, List.singleton_append]
theorem QM {line : ByteArray} {w : List ByteArray} (hS : (Qb line).1 = w) (hw : w.length ≤ 1000) : ∀ (l : List Kz) (i n : Nat) (A : List Kz), Qe6 l → w.drop i = DQ l → l.length < n → whl (Zi line) n ((i : Int), A) = some (.brk (A ++ l))
  | [], i, n, A, _, h, hn => by
    obtain ⟨m, rfl⟩ : ∃ m, n = m + 1 := ⟨n - 1, by omega⟩
    have hl := N5 h
    have hf : Zi line ((i : Int), A) = .brk A := by
      unfold Zi
      rw [hS, decide_eq_false (show ¬ (i : Int) < (w.length : Int) by omega), cond_false]
    rw [whl, hf, List.append_nil]
  | a :: l, i, n, A, ho, h, hn => by
    obtain ⟨m, rfl⟩ : ∃ m, n = m + 1 := ⟨n - 1, by omega⟩
    rw [Nn] at h
    obtain ⟨h1, h2, h3, h4⟩ := BZ h
    have ha := ho a (List.mem_cons_self ..)
    have hf : Zi line ((i : Int), A) = .next (((i + 2 : Nat) : Int), A ++ [a]) := by
      unfold Zi
      rw [hS, decide_eq_true (show (i : Int) < (w.length : Int) by omega), cond_true]
      dsimp only
      rw [IntWalk.i64_in ((i : Int) + 1) (by omega), IntWalk.i64_in ((i : Int) + 2) (by omega)]
      have hp : Qh w ((i : Int) + 1) = Xe a.2 := by
        unfold Qh
        rw [decide_eq_false (show ¬ ((i : Int) + 1) ≥ (w.length : Int) by omega), cond_false, show ((i : Int) + 1) = ((i + 1 : Nat) : Int) from rfl, Int.toNat_natCast, h2]
      rw [hp, Int.toNat_natCast, h1, L6, KR ha.2.1 ha.2.2]
      rfl
    rw [List.length_cons] at hn
    rw [whl, hf]
    show whl (Zi line) m (((i + 2 : Nat) : Int), A ++ [a]) = _
    rw [QM hS hw l (i + 2) m (A ++ [a]) (fun b hb => ho b (List.mem_cons_of_mem _ hb)) h3 (by omega), List.append_assoc, List.singleton_append]
theorem LZ {R S T : Type} [Inhabited T] {f : S → Rd R S T} {n : Nat} {s : S} {o : Out R T} (h : whl f n s = some o) : JH f n s = o := by unfold JH; rw [h]; rfl
theorem Mc (f : Zl) : U4 f = FIL :: Qq f.1 :: Qq f.2.1 :: (bif f.2.2.1 then (⟨#[115]⟩ : ByteArray) else ⟨#[111]⟩) :: Qq f.2.2.2.1 :: DQ f.2.2.2.2 := rfl
theorem CA {f : Zl} (h : FBd f) : ∀ y, y ∈ U4 f → Word y := fun y hy => by
  rw [Mc] at hy
  have h1 := h.1; have h2 := h.2.1; have h3 := h.2.2.1
  simp only [List.mem_cons] at hy
  rcases hy with rfl | rfl | rfl | rfl | rfl | hy
  · exact Eb (by decide)
  · exact L7 (by omega)
  · exact L7 (by omega)
  · cases f.2.2.1 <;> exact Eb (by decide)
  · exact L7 (by omega)
  obtain ⟨a, ha, hy⟩ := List.mem_flatMap.1 hy
  have hv := h.2.2.2.2 a ha
  simp only [List.mem_cons, List.mem_nil_iff, or_false] at hy
  rcases hy with rfl | rfl
  · exact Sd hv.1
  exact BY hv.2.1 hv.2.2
theorem KV {f : Zl} (h : FBd f) : Yr ((U4 f).drop 1) = (f, true) := by
  have h1 := h.1; have h2 := h.2.1; have h3 := h.2.2.1; have h4 := h.2.2.2.1
  have hlen : ((U4 f).drop 1).length = 4 + 2 * f.2.2.2.2.length := by rw [Mc]; simp only [List.drop_succ_cons, List.drop_zero, List.length_cons, KU]; omega
  unfold Yr
  rw [hlen, decide_eq_false (show ¬ ((4 + 2 * f.2.2.2.2.length : Nat) : Int) < 4 by omega), Bool.false_or]
  rw [show (Int.tmod ((4 + 2 * f.2.2.2.2.length : Nat) : Int) 2 != (0 : Int)) = false from bne_eq_false_iff_eq.2 (by rw [Int.tmod_eq_emod_of_nonneg (by omega)]; omega), cond_false]
  have n0 : nth ((U4 f).drop 1) 0 = Qq f.1 := rfl
  have n1 : nth ((U4 f).drop 1) 1 = Qq f.2.1 := rfl
  have n2 : nth ((U4 f).drop 1) 2 = (bif f.2.2.1 then (⟨#[115]⟩ : ByteArray) else ⟨#[111]⟩) := rfl
  have n3 : nth ((U4 f).drop 1) 3 = Qq f.2.2.2.1 := rfl
  rw [n0, n1, n2, n3, L5 (n := f.1) (by omega), L5 (n := f.2.1) (by omega), L5 (n := f.2.2.2.1) (by omega)]
  have hl := QK (w := (U4 f).drop 1) (by rw [hlen]; omega) f.2.2.2.2 4 (4 + 2 * f.2.2.2.2.length + 1) [] h.2.2.2.2 rfl (by omega)
  have hl2 := LZ hl
  rw [show (true && (true && true)) = true from rfl, show (4 : Int) = ((4 : Nat) : Int) from rfl]
  simp only []
  rw [hl2]
  obtain ⟨i, o, s, l, z⟩ := f
  cases s <;> (show _ = _; kernel_rfl)
theorem Qfn {f : Zl} (h : FBd f) (b1 : List X6) (b2 : List Zl) (b3 : Int) (b4 : List Zw) : Y2 b1 b2 b3 b4 (Ym f) = (true, b1, b2 ++ [f], b3, b4) := by
  rw [Pf]
  unfold Y2
  rw [Ma (by rw [Mc]; exact List.cons_ne_nil _ _) (CA h)]
  refine Eq.trans (b := ((Yr ((U4 f).drop 1)).2, b1, b2 ++ [(Yr ((U4 f).drop 1)).1], b3, b4)) (by kernel_rfl) ?_
  rw [KV h]
theorem Qfo {f : Zl} (h : FBd f) (x : Qp) : Yl x (Ym f) = ((x.1.1, x.1.2.1 ++ [f], x.1.2.2), x.2) := by
  have h1 := h.1; have h2 := h.2.1; have h3 := h.2.2.1
  have hb := KN h
  have hs := J9 (s := SP) (m := 10) (n := 15) rfl hb.2 hb.1
  rw [Pf]
  have hS := Mb (CA h) (by omega) (Nat.le_trans hs (by decide))
  have hl := QM (line := Q6 SP (U4 f)) (w := U4 f) (by rw [hS]) (by omega) f.2.2.2.2 5 ((U4 f).length + 1) [] h.2.2.2.2 rfl (by rw [Mc]; simp only [List.length_cons, KU]; omega)
  have hl2 := LZ hl
  unfold Yl
  rw [hS]
  refine Eq.trans (b := (Out.on (JH (Zi (Q6 SP (U4 f))) ((U4 f).length + 1) (((5 : Nat) : Int), [])) (fun y0 => ((x.1.1, x.1.2.1 ++ [((Q3 (Qq f.1)).1, (Q3 (Qq f.2.1)).1, ((bif f.2.2.1 then (⟨#[115]⟩ : ByteArray) else ⟨#[111]⟩).toList == (⟨#[115]⟩ : ByteArray).toList), (Q3 (Qq f.2.2.2.1)).1, y0)], x.1.2.2), x.2)) : Qp)) (by kernel_rfl) ?_
  rw [hl2, Hk, Hk, Hk, L5 (n := f.1) (by omega), L5 (n := f.2.1) (by omega), L5 (n := f.2.2.2.1) (by omega)]
  obtain ⟨i, o, s, l, z⟩ := f
  cases s <;> (show _ = _; kernel_rfl)
/-! ### directories -/
theorem Md {d : Zw} (hq : Qj d.2 = true) : Kw d = Q6 SP (DIR :: d.1 :: qws d.2) := by
  obtain ⟨h1, h2, _⟩ := N4 hq
  unfold Kw
  rw [h1, show (DIR :: d.1 :: qws d.2) = [DIR, d.1] ++ qws d.2 from rfl, Ak _ (fun e => by cases e) h2, Z3]
  simp only [ByteArray.append_assoc]
  rfl
theorem RH {d : Zw} (hn : Q0 d.1 = true) (hq : Qj d.2 = true) : ∀ y, y ∈ DIR :: d.1 :: qws d.2 → Word y ∧ y.size ≤ 10 := fun y hy => by
  simp only [List.mem_cons] at hy
  rcases hy with rfl | rfl | hy
  · exact ⟨Eb (by decide), by decide⟩
  · exact ⟨YM hn, by have := Cv hn; omega⟩
  exact (N4 hq).2.2 y hy
theorem Qev {d : Zw} (hn : Q0 d.1 = true) (hq : Qj d.2 = true) (b1 : List X6) (b2 : List Zl) (b3 : Int) (b4 : List Zw) : Y2 b1 b2 b3 b4 (Kw d) = ((Xu (Qx d.2)).2, b1, b2, b3, b4 ++ [(d.1, (Xu (Qx d.2)).1)]) := by
  obtain ⟨h1, h2, _⟩ := N4 hq
  rw [Md hq, h1]
  unfold Y2
  rw [Ma (List.cons_ne_nil _ _) fun y hy => (RH hn hq y hy).1]
  have hl : decide (((DIR :: d.1 :: qws d.2).length : Int) > (2 : Int)) = true := decide_eq_true (by have := List.length_pos_iff.2 h2; simp only [List.length_cons]; omega)
  rw [hl]
  show _ = _
  kernel_rfl
theorem YQ {d : Zw} (hn : Q0 d.1 = true) (hq : Qj d.2 = true) (hs : (DIR :: d.1 :: qws d.2).length ≤ 24 ∧ (Kw d).size ≤ 600) (x : Qp) : Yl x (Kw d) = (x.1, x.2 ++ [(d.1, (X7 (Qx d.2)).1)]) := by
  obtain ⟨h1, h2, _⟩ := N4 hq
  rw [Md hq] at hs ⊢
  rw [h1]
  unfold Yl
  rw [Mb (fun y hy => (RH hn hq y hy).1) hs.1 hs.2]
  have hl : decide (((DIR :: d.1 :: qws d.2).length : Int) > (2 : Int)) = true := decide_eq_true (by have := List.length_pos_iff.2 h2; simp only [List.length_cons]; omega)
  have p0 : Qh (DIR :: d.1 :: qws d.2) 0 = DIR := (Vg (a := 0) rfl).1
  have p1 : Qh (DIR :: d.1 :: qws d.2) 1 = d.1 := (Vg (a := 1) rfl).1
  have k1 : (DIR.toList == (⟨#[102, 105, 101, 108, 100]⟩ : ByteArray).toList) = false := by kernel_rfl
  have k2 : (DIR.toList == (⟨#[110, 101, 120, 116]⟩ : ByteArray).toList) = false := by kernel_rfl
  have k3 : (DIR.toList == (⟨#[102, 105, 108, 101]⟩ : ByteArray).toList) = false := by kernel_rfl
  dsimp only
  rw [p0, p1, hl, k1, k2, k3, beq_self_eq_true]
  simp only [cond_true, cond_false, List.drop_succ_cons, List.drop_zero]
  rw [QH]
theorem MA {d : Zw} (hn : Q0 d.1 = true) (hq : Qj d.2 = true) (hs : ¬ ((DIR :: d.1 :: qws d.2).length ≤ 24 ∧ (Kw d).size ≤ 600)) (x : Qp) : Yl x (Kw d) = x := by
  rw [Md hq] at hs ⊢
  unfold Yl
  rw [LM, HK (fun y hy => (RH hn hq y hy).1) hs]
  kernel_rfl
/-! ### lines equal -/
theorem HL {α : Type} [Inhabited α] : ∀ {a b : List α}, a.length = b.length → (∀ i, i < a.length → nth a i = nth b i) → a = b
  | [], [], _, _ => rfl
  | [], _ :: _, h, _ => by cases h
  | _ :: _, [], h, _ => by cases h
  | x :: a, y :: b, h, hi => by
    have h0 := hi 0 (Nat.zero_lt_succ _)
    have : a = b := HL (by simpa using h) fun i hlt => hi (i + 1) (Nat.succ_lt_succ hlt)
    rw [this, show x = y from h0]
theorem YR {R : Type} (b : List ByteArray) (f : Nat → ByteArray → Unit → Rd Bool Unit Unit) (e : Nat → Unit → Unit) (hf : ∀ k a, f k a () = (bif (!(a.toList == (nth b k).toList)) then (.ret false) else (.next ()))) : ∀ (l : List ByteArray) (k : Nat), Out.on (Yt f e l k ()) (fun _ => true) = decide (∀ i, i < l.length → nth l i = nth b (k + i))
  | [], k => by simp [Yt, Out.on]
  | a :: l, k => by
    simp only [Yt]
    rw [hf]
    cases hz : (a.toList == (nth b k).toList) with
    | false =>
      simp only [Bool.not_false, cond_true, Out.on]
      refine (decide_eq_false fun h => ?_).symm
      have h0 : a = nth b k := h 0 (Nat.zero_lt_succ _)
      rw [h0, beq_self_eq_true] at hz
      cases hz
    | true =>
      simp only [Bool.not_true, cond_false]
      have h0 : a = nth b k := H6 hz
      have ih := YR (R := R) b f e hf l (k + 1)
      rw [ih]
      refine decide_eq_decide.2 ⟨fun h i hi => ?_, fun h i hi => ?_⟩
      · cases i with
        | zero => exact h0
        | succ i => have := h i (Nat.lt_of_succ_lt_succ hi); rw [show k + (i + 1) = k + 1 + i by omega]; exact this
      have := h (i + 1) (Nat.succ_lt_succ hi)
      rw [show k + 1 + i = k + (i + 1) by omega]
      exact this
theorem TG (a b : List ByteArray) : Z5 a b = decide (a = b) := by
  unfold Z5
  by_cases hl : a.length = b.length
  · rw [show ((a.length : Int) != (b.length : Int)) = false from bne_eq_false_iff_eq.2 (by omega), cond_false, YR (R := Unit) b _ _ fun _ _ => rfl]
    refine decide_eq_decide.2 ⟨fun h => HL hl fun i hi => by have := h i hi; rwa [Nat.zero_add] at this, fun h i _ => by rw [h, Nat.zero_add]⟩
  rw [show ((a.length : Int) != (b.length : Int)) = true from bne_iff_ne.2 (by omega), cond_true]
  exact (decide_eq_false fun h => hl (by rw [h])).symm
theorem TH (a b : List ByteArray) : V1 a b = decide (a = b) := by
  unfold V1
  by_cases hl : a.length = b.length
  · rw [show ((a.length : Int) != (b.length : Int)) = false from bne_eq_false_iff_eq.2 (by omega), cond_false, YR (R := Unit) b _ _ fun _ _ => rfl]
    refine decide_eq_decide.2 ⟨fun h => HL hl fun i hi => by have := h i hi; rwa [Nat.zero_add] at this, fun h i _ => by rw [h, Nat.zero_add]⟩
  rw [show ((a.length : Int) != (b.length : Int)) = true from bne_iff_ne.2 (by omega), cond_true]
  exact (decide_eq_false fun h => hl (by rw [h])).symm
/-! ### folds -/
def Br : List ByteArray → Qp → Option Qp
  | [], s => some s
  | a :: l, s => bif (Y2 s.1.1 s.1.2.1 s.1.2.2 s.2 a).1 then Br l (((Y2 s.1.1 s.1.2.1 s.1.2.2 s.2 a).2.1, (Y2 s.1.1 s.1.2.1 s.1.2.2 s.2 a).2.2.1, (Y2 s.1.1 s.1.2.1 s.1.2.2 s.2 a).2.2.2.1), (Y2 s.1.1 s.1.2.1 s.1.2.2 s.2 a).2.2.2.2) else none
def Ao : List ByteArray → Qp → Qp
  | [], s => s
  | a :: l, s => Ao l (Yl s a)
theorem Me : ∀ (a b : List ByteArray) (s : Qp), Br (a ++ b) s = (Br a s).bind (Br b)
  | [], _, _ => rfl
  | x :: a, b, s => by
    simp only [List.cons_append, Br]
    cases (Y2 s.1.1 s.1.2.1 s.1.2.2 s.2 x).1 with
    | true => exact Me a b _
    | false => rfl
theorem KW : ∀ (a b : List ByteArray) (s : Qp), Ao (a ++ b) s = Ao b (Ao a s)
  | [], _, _ => rfl
  | _ :: a, b, s => KW a b _
theorem QN : ∀ (l : List ByteArray) (k : Nat) (s : Qp), Yt J6 Ve l k s = match Br l s with
    | some y => .brk y
    | none => .ret ((([], [], 0), []), false)
  | [], _, _ => rfl
  | a :: l, k, s => by
    have hf : J6 k a s = bif (!(Y2 s.1.1 s.1.2.1 s.1.2.2 s.2 a).1) then .ret ((([], [], 0), []), false) else .next (((Y2 s.1.1 s.1.2.1 s.1.2.2 s.2 a).2.1, (Y2 s.1.1 s.1.2.1 s.1.2.2 s.2 a).2.2.1, (Y2 s.1.1 s.1.2.1 s.1.2.2 s.2 a).2.2.2.1), (Y2 s.1.1 s.1.2.1 s.1.2.2 s.2 a).2.2.2.2) := rfl
    simp only [Yt, Br]
    rw [hf]
    cases (Y2 s.1.1 s.1.2.1 s.1.2.2 s.2 a).1 with
    | true =>
      simp only [Bool.not_true, cond_false, cond_true]
      exact QN l (k + 1) _
    | false => rfl
theorem QO : ∀ (l : List ByteArray) (k : Nat) (s : Qp), Yt Vf Ug l k s = .brk (Ao l s)
  | [], _, _ => rfl
  | a :: l, k, s => by
    simp only [Yt, Ao]
    unfold Vf lt
    exact QO l (k + 1) _
abbrev ZS : Qp := (([], [], 0), [])
theorem Qfp (lines : List ByteArray) : Q5 lines = match Br lines ZS with
    | some y => bif Qi y && decide (Qt y = lines) then (y, true) else (ZS, false)
    | none => (ZS, false) := by
  unfold Q5
  rw [QN]
  cases Br lines ZS with
  | none => rfl
  | some y =>
    simp only [Out.on]
    rw [TG]
    cases Qi y <;> cases decide (Qt y = lines) <;> rfl
theorem Qfq (lines : List ByteArray) : Xa lines = bif Qi (Ao lines ZS) && decide (Qt (Ao lines ZS) = lines) then (Ao lines ZS, true) else (ZS, false) := by
  unfold Xa
  rw [QO]
  simp only [Out.on]
  rw [TH, Bq, enc_eq]
  cases Qi (Ao lines ZS) <;> cases decide (Qt (Ao lines ZS) = lines) <;> rfl
/-! ### what each reads out of the lines of a snapshot in order -/
theorem KX : ∀ (l : List X6) (s : Qp), (∀ f, f ∈ l → Qs f.1 = true ∧ (f.2 = 1 ∨ f.2 = 2)) → Br (l.map X0) s = some ((s.1.1 ++ l, s.1.2.1, s.1.2.2), s.2)
  | [], s, _ => by rw [List.append_nil]; rfl
  | f :: l, s, h => by
    have hf := h f (List.mem_cons_self ..)
    rw [List.map_cons, Br, Qfj hf.1 hf.2]
    simp only [cond_true]
    rw [KX l _ fun g hg => h g (List.mem_cons_of_mem _ hg)]
    simp only [List.append_assoc, List.singleton_append]
theorem KY : ∀ (l : List X6) (s : Qp), (∀ f, f ∈ l → Qs f.1 = true ∧ (f.2 = 1 ∨ f.2 = 2)) → Ao (l.map X0) s = ((s.1.1 ++ l, s.1.2.1, s.1.2.2), s.2)
  | [], s, _ => by rw [List.append_nil]; rfl
  | f :: l, s, h => by
    have hf := h f (List.mem_cons_self ..)
    rw [List.map_cons, Ao, Qfk hf.1 hf.2, KY l _ fun g hg => h g (List.mem_cons_of_mem _ hg)]
    simp only [List.append_assoc, List.singleton_append]
theorem KZ : ∀ (l : List Zl) (s : Qp), (∀ f, f ∈ l → FBd f) → Br (l.map Ym) s = some ((s.1.1, s.1.2.1 ++ l, s.1.2.2), s.2)
  | [], s, _ => by rw [List.append_nil]; rfl
  | f :: l, s, h => by
    rw [List.map_cons, Br, Qfn (h f (List.mem_cons_self ..))]
    simp only [cond_true]
    rw [KZ l _ fun g hg => h g (List.mem_cons_of_mem _ hg)]
    simp only [List.append_assoc, List.singleton_append]
theorem VB : ∀ (l : List Zl) (s : Qp), (∀ f, f ∈ l → FBd f) → Ao (l.map Ym) s = ((s.1.1, s.1.2.1 ++ l, s.1.2.2), s.2)
  | [], s, _ => by rw [List.append_nil]; rfl
  | f :: l, s, h => by
    rw [List.map_cons, Ao, Qfo (h f (List.mem_cons_self ..)), VB l _ fun g hg => h g (List.mem_cons_of_mem _ hg)]
    simp only [List.append_assoc, List.singleton_append]
abbrev DOk (d : Zw) : Prop := Q0 d.1 = true ∧ Qj d.2 = true
def RdI (d : Zw) : Prop := Xu (Qx d.2) = (d.2, true)
def RdS (d : Zw) : Prop := ((DIR :: d.1 :: qws d.2).length ≤ 24 ∧ (Kw d).size ≤ 600) ∧ (X7 (Qx d.2)).1 = d.2
theorem VD : ∀ (l : List Zw) (s : Qp), (∀ d, d ∈ l → DOk d) → (∀ d, d ∈ l → RdI d) → Br (l.map Kw) s = some (s.1, s.2 ++ l)
  | [], s, _, _ => by rw [List.append_nil]; rfl
  | d :: l, s, h, hr => by
    have hd := h d (List.mem_cons_self ..)
    have hp := hr d (List.mem_cons_self ..)
    unfold RdI at hp
    rw [List.map_cons, Br, Qev hd.1 hd.2, hp]
    simp only [cond_true]
    rw [VD l _ (fun g hg => h g (List.mem_cons_of_mem _ hg)) fun g hg => hr g (List.mem_cons_of_mem _ hg)]
    simp only [List.append_assoc, List.singleton_append]
theorem Se : ∀ (l m : List Zw) (s t : Qp), (∀ d, d ∈ l → DOk d) → Br (l.map Kw) s = some t → t.2 = s.2 ++ m → m.length = l.length → ∀ (i : Nat) d, l[i]? = some d → ∃ g, m[i]? = some g ∧ g.1 = d.1 ∧ Xu (Qx d.2) = (g.2, true)
  | [], _, _, _, _, _, _, _, i, d, hi => by simp at hi
  | a :: l, m, s, t, h, hf, ht, hm, i, d, hi => by
    have ha := h a (List.mem_cons_self ..)
    rw [List.map_cons, Br, Qev ha.1 ha.2] at hf
    cases hp : (Xu (Qx a.2)).2 with
    | false => rw [hp] at hf; cases hf
    | true =>
      rw [hp] at hf
      simp only [cond_true] at hf
      cases m with
      | nil => simp at hm
      | cons g m =>
        have hmono : ∀ (l : List Zw) (s t : Qp), (∀ d, d ∈ l → DOk d) → Br (l.map Kw) s = some t → ∃ u, t.2 = s.2 ++ u := by
          intro l
          induction l with
          | nil => intro s t _ h; obtain rfl := Option.some.inj (show some s = some t from h); exact ⟨[], (List.append_nil _).symm⟩
          | cons b l ih =>
            intro s t hb h
            have hb1 := hb b (List.mem_cons_self ..)
            rw [List.map_cons, Br, Qev hb1.1 hb1.2] at h
            cases hq : (Xu (Qx b.2)).2 with
            | false => rw [hq] at h; cases h
            | true =>
              rw [hq] at h
              obtain ⟨u, hu⟩ := ih _ t (fun d hd => hb d (List.mem_cons_of_mem _ hd)) h
              exact ⟨_ :: u, by rw [hu]; simp only [List.append_assoc, List.singleton_append]; rfl⟩
        obtain ⟨u, hu⟩ := hmono l _ t (fun d hd => h d (List.mem_cons_of_mem _ hd)) hf
        have e : [(a.1, (Xu (Qx a.2)).1)] ++ u = g :: m := by
          have := hu.symm.trans ht
          simp only [List.append_assoc] at this
          exact List.append_cancel_left this
        obtain ⟨rfl, rfl⟩ : (a.1, (Xu (Qx a.2)).1) = g ∧ u = m := by simpa using e
        cases i with
        | zero =>
          obtain rfl : a = d := by simpa using hi
          exact ⟨_, rfl, rfl, by rw [← hp]⟩
        | succ i =>
          exact Se l u _ t (fun d hd => h d (List.mem_cons_of_mem _ hd)) hf hu (by simpa using hm) i d (by simpa using hi)
theorem VE : ∀ (l : List Zw) (s : Qp), (∀ d, d ∈ l → DOk d) → (∀ d, d ∈ l → RdS d) → Ao (l.map Kw) s = (s.1, s.2 ++ l)
  | [], s, _, _ => by rw [List.append_nil]; rfl
  | d :: l, s, h, hr => by
    have hd := h d (List.mem_cons_self ..)
    have hp := hr d (List.mem_cons_self ..)
    rw [List.map_cons, Ao, YQ hd.1 hd.2 hp.1, hp.2, VE l _ (fun g hg => h g (List.mem_cons_of_mem _ hg)) fun g hg => hr g (List.mem_cons_of_mem _ hg)]
    simp only [List.append_assoc, List.singleton_append]
theorem Ph : ∀ (l : List Zw) (s : Qp), (∀ d, d ∈ l → DOk d) → ∃ u, (Ao (l.map Kw) s).2 = s.2 ++ u ∧ u.length ≤ l.length
  | [], s, _ => ⟨[], (List.append_nil _).symm, Nat.le_refl _⟩
  | d :: l, s, h => by
    have hd := h d (List.mem_cons_self ..)
    rw [List.map_cons, Ao]
    by_cases hs : (DIR :: d.1 :: qws d.2).length ≤ 24 ∧ (Kw d).size ≤ 600
    · rw [YQ hd.1 hd.2 hs]
      obtain ⟨u, h1, h2⟩ := Ph l (s.1, s.2 ++ [(d.1, (X7 (Qx d.2)).1)]) fun g hg => h g (List.mem_cons_of_mem _ hg)
      exact ⟨_ :: u, by rw [h1]; simp only [List.append_assoc, List.singleton_append]; rfl, Nat.succ_le_succ h2⟩
    rw [MA hd.1 hd.2 hs]
    obtain ⟨u, h1, h2⟩ := Ph l s fun g hg => h g (List.mem_cons_of_mem _ hg)
    exact ⟨u, h1, Nat.le_succ_of_le h2⟩
theorem Sf : ∀ (l : List Zw) (s : Qp), (∀ d, d ∈ l → DOk d) → (Ao (l.map Kw) s).2 = s.2 ++ l → ∀ d, d ∈ l → RdS d
  | [], _, _, _, d, hd => by cases hd
  | a :: l, s, h, hf, d, hd => by
    have ha := h a (List.mem_cons_self ..)
    have hl := fun g hg => h g (List.mem_cons_of_mem _ hg)
    rw [List.map_cons, Ao] at hf
    by_cases hs : (DIR :: a.1 :: qws a.2).length ≤ 24 ∧ (Kw a).size ≤ 600
    · rw [YQ ha.1 ha.2 hs] at hf
      obtain ⟨u, h1, _⟩ := Ph l (s.1, s.2 ++ [(a.1, (X7 (Qx a.2)).1)]) hl
      have e : [(a.1, (X7 (Qx a.2)).1)] ++ u = a :: l := by
        have := h1.symm.trans hf
        simp only [List.append_assoc] at this
        exact List.append_cancel_left this
      obtain ⟨e1, rfl⟩ : (a.1, (X7 (Qx a.2)).1) = a ∧ u = l := by simpa using e
      have hq : (X7 (Qx a.2)).1 = a.2 := congrArg Prod.snd e1
      rcases List.mem_cons.1 hd with rfl | hd
      · exact ⟨hs, hq⟩
      exact Sf u (s.1, s.2 ++ [(a.1, (X7 (Qx a.2)).1)]) hl h1 d hd
    rw [MA ha.1 ha.2 hs] at hf
    obtain ⟨u, h1, h2⟩ := Ph l s hl
    have e : u = a :: l := List.append_cancel_left (h1.symm.trans hf)
    rw [e] at h2
    simp only [List.length_cons] at h2
    omega
theorem TJ {d : Zw} (h : DOk d) : RdI d ↔ RdS d := by
  unfold RdI RdS
  refine ⟨fun hi => ?_, fun hs => ?_⟩
  · obtain ⟨hP, hs⟩ := Qet h.2 hi
    have hl := hP.len
    have hq := Ei h.2
    simp only [List.length_nil] at hl
    refine ⟨⟨by simp only [List.length_cons]; omega, ?_⟩, by rw [Qdo h.2 hP hs]⟩
    have hb := J9 (s := SP) (m := 10) (n := 21) (l := DIR :: d.1 :: qws d.2) rfl (fun y hy => (RH h.1 h.2 y hy).2) (by simp only [List.length_cons]; omega)
    rw [Md h.2]
    exact Nat.le_trans hb (by decide)
  obtain ⟨hP, hq⟩ := Qdp h.2 hs.2
  exact Qeu h.2 hP hq
theorem N6 {x : Qp} (hv : Qi x = true) : Qt x = (x.1.1.map X0 ++ [((⟨#[110, 101, 120, 116, 32]⟩ : ByteArray) ++ (Qq x.1.2.2))]) ++ (x.1.2.1.map Ym ++ x.2.map Kw) := by
  rw [Sb, hv]
  simp only [Bool.not_true, cond_false, List.append_assoc]
theorem Qby {x : Qp} (hv : Qi x = true) : Br (Qt x) ZS = Br (x.2.map Kw) ((x.1.1, x.1.2.1, x.1.2.2), []) := by
  have hb := C3 hv
  have hf := (Pc (HC (Nc hv)).1).2
  rw [N6 hv, Me, Me, KX _ _ hf]
  simp only [Option.bind_some, Br]
  rw [Qfl (by omega)]
  simp only [cond_true]
  rw [Option.bind_some, Me, KZ _ _ hb.2.2.2]
  rfl
theorem Qbz {x : Qp} (hv : Qi x = true) : Ao (Qt x) ZS = Ao (x.2.map Kw) ((x.1.1, x.1.2.1, x.1.2.2), []) := by
  have hb := C3 hv
  have hf := (Pc (HC (Nc hv)).1).2
  rw [N6 hv]
  simp only [KW]
  rw [KY _ _ hf]
  simp only [Ao]
  rw [Qfm (by omega), VB _ _ hb.2.2.2]
  rfl
theorem RI {x : Qp} (hv : Qi x = true) : ∀ d, d ∈ x.2 → DOk d := fun d hd => (Pe hv hd).2
theorem CB {x : Qp} (hv : Qi x = true) : Br (Qt x) ZS = some x ↔ Ao (Qt x) ZS = x := by
  have hd := RI hv
  rw [Qby hv, Qbz hv]
  refine ⟨fun h => ?_, fun h => ?_⟩
  · have hr : ∀ d, d ∈ x.2 → RdI d := fun d hm => by
      obtain ⟨i, hi⟩ := List.getElem?_of_mem hm
      obtain ⟨g, h1, h2, h3⟩ := Se x.2 x.2 _ x hd h rfl rfl i d hi
      obtain rfl : d = g := Option.some.inj (hi.symm.trans h1)
      exact h3
    rw [VE _ _ hd fun d hm => (TJ (hd d hm)).1 (hr d hm)]
    rfl
  have hr := Sf x.2 ((x.1.1, x.1.2.1, x.1.2.2), []) hd (by rw [h]; rfl)
  rw [VD _ _ hd fun d hm => (TJ (hd d hm)).2 (hr d hm)]
  rfl
theorem MB (lines : List ByteArray) : Xa lines = Q5 lines := by
  rw [Qfp, Qfq]
  cases hS : (Qi (Ao lines ZS) && decide (Qt (Ao lines ZS) = lines)) with
  | true =>
    simp only [Bool.and_eq_true, decide_eq_true_eq] at hS
    have hb := (CB hS.1).2 (by rw [hS.2])
    rw [hS.2] at hb
    rw [hb]
    simp only [hS.1, hS.2, decide_true, Bool.and_true, cond_true]
  | false =>
    simp only [cond_false]
    cases hI : Br lines ZS with
    | none => rfl
    | some y =>
      simp only []
      cases hc : (Qi y && decide (Qt y = lines)) with
      | false => rfl
      | true =>
        exfalso
        simp only [Bool.and_eq_true, decide_eq_true_eq] at hc
        have hb := (CB hc.1).1 (by rw [hc.2]; exact hI)
        rw [hc.2] at hb
        rw [hb] at hS
        simp only [hc.1, hc.2, decide_true, Bool.and_true] at hS
        cases hS
/-! ### slots -/
theorem Sg : ∀ (l : List ByteArray) (k : Nat) (s : ByteArray), Yt Uw An l k s = Yt Vx Uv l k s ∧ ∃ y, Yt Vx Uv l k s = .brk y
  | [], k, s => ⟨rfl, s, rfl⟩
  | a :: l, k, s => by
    simp only [Yt, Uw, Vx]
    rw [ByteArray.append_assoc]
    exact Sg l (k + 1) _
theorem DR (n : Int) (x : Qp) : Wk n x = Kn n x := by
  unfold Wk Kn
  have e : ∀ n, Xf n 1 1000000000 = Q9 n 1 1000000000 := fun n => rfl
  rw [Bq, enc_eq, e, (Sg _ _ _).1]
  cases ((!(Qi x)) || (!(Q9 n 1 1000000000))) with
  | true => rfl
  | false =>
    obtain ⟨y, hy⟩ := (Sg (Qt x) 0 ((Qq n) ++ (⟨#[10]⟩ : ByteArray))).2
    rw [hy]
    simp only [cond_false, Out.on]
    rw [BR]
theorem HM {n : Int} (x : Qp) (h : ¬ (1 ≤ n ∧ n ≤ 1000000000)) : Kn n x = ⟨#[]⟩ := by
  unfold Kn
  have e : Q9 n 1 1000000000 = false := by
    cases hz : Q9 n 1 1000000000 with
    | false => rfl
    | true => exact absurd (Jv.1 hz) h
  rw [e]
  simp only [Bool.not_false, Bool.or_true, cond_true]
theorem Mf (s : ByteArray) : Qv s = Qr s := by
  unfold Qv Qr
  rw [BX]
  have hpos := Ni 10 s
  have hlen : ((Qm 10 s).dropLast).length = (Qm 10 s).length - 1 := List.length_dropLast ..
  by_cases h1 : (Qm 10 s).length = 1
  · rw [hlen, h1]
    rfl
  rw [show ((((Qm 10 s).dropLast).length : Int) == (0 : Int)) = false from by
    cases hz : ((((Qm 10 s).dropLast).length : Int) == (0 : Int)) with
    | false => rfl
    | true => have := eq_of_beq hz; omega, decide_eq_false (show ¬ ((Qm 10 s).length : Int) < 2 by omega), cond_false, cond_false]
  have hn : nth ((Qm 10 s).dropLast) 0 = nth (Qm 10 s) 0 := by
    unfold nth
    rw [List.getD_eq_getElem?_getD, List.getD_eq_getElem?_getD, List.getElem?_dropLast, if_pos (by omega)]
  have ht : List.take (Int.toNat (((Qm 10 s).length : Int) - 1)) (Qm 10 s) = (Qm 10 s).dropLast := by
    rw [List.dropLast_eq_take, show Int.toNat (((Qm 10 s).length : Int) - 1) = (Qm 10 s).length - 1 by omega]
  rw [hn, ht, MB, Hk, DR]
  cases hu : (Qg (nth (Qm 10 s) 0)).2 with
  | true => rfl
  | false =>
    have hz : (Qg (nth (Qm 10 s) 0)).1 = 0 := by
      unfold Qg at hu ⊢
      cases hp : A5 (nth (Qm 10 s) 0) with
      | none => rfl
      | some n => rw [hp] at hu; cases hu
    rw [hz, HM _ (by omega)]
    have hs : ((⟨#[]⟩ : ByteArray).toList == s.toList) = false := by
      cases hz : ((⟨#[]⟩ : ByteArray).toList == s.toList) with
      | false => rfl
      | true => rw [← H6 hz] at h1; exact absurd rfl h1
    rw [hs]
    simp only [Bool.not_false, Bool.or_true, Bool.true_or, cond_true]
theorem MC {c : Bool} {n : Int} {x : Qp} (h : (bif c then ((0, ZS, false) : Int × Qp × Bool) else (n, x, true)).2.2 = false) : (bif c then ((0, ZS, false) : Int × Qp × Bool) else (n, x, true)) = (0, ZS, false) := by
  cases c with
  | true => rfl
  | false => cases h
theorem MD (d : Ep) : Yh d = X8 d := by
  unfold Yh X8
  rw [Mf, Mf]
  have hz : ∀ s, (Qr s).2.2 = false → Qr s = (0, ZS, false) := fun s h => by
    unfold Qr at h ⊢
    cases h1 : decide (((Qm 10 s).length : Int) < (2 : Int)) with
    | true => rfl
    | false =>
      rw [h1] at h
      simp only [cond_false] at h ⊢
      exact MC h
  have h1 := hz d.1
  have h2 := hz d.2
  generalize Qr d.1 = a at h1 ⊢
  generalize Qr d.2 = b at h2 ⊢
  obtain ⟨n, x, p⟩ := a
  obtain ⟨m, y, q⟩ := b
  cases p with
  | true =>
    cases q with
    | true =>
      by_cases h : m > n
      · simp [h, show ¬ n ≥ m by omega]
      simp [h, show n ≥ m by omega]
    | false => rfl
  | false =>
    cases q with
    | true => rfl
    | false =>
      have e1 := h1 rfl
      have e2 := h2 rfl
      rw [e1, e2]
      rfl
open GoE (enc wide)
def Xm (d : Ep) : Int × Qp × Bool := (((X8 d)).1, (((X8 d)).2.1), ((X8 d)).2.2.1)
theorem F8 (d : Ep) (ha : ByteArray.size d.1 ≤ 1073741000) (hb : ByteArray.size d.2 ≤ 1073741000) : ACalls Tryz.prog 22 [.a [.s d.1, .s d.2]] (.tup [(false, [.i (((Xm d)).1)]), (true, [.o 0 ((((Xm d)).2.1).1.1), .o 1 ((((Xm d)).2.1).1.2.1), .i ((((Xm d)).2.1).1.2.2), .o 2 ((((Xm d)).2.1).2)]), (false, [.b (((Xm d)).2.2)])]) := by
 refine en Qa Tryz.func22 fun w0 F0 hG => ?_
 refine sn Qa [1, 2, 3, 4] [1, 3] (p0) ?_
 refine tn Qa [2, 3, 4, 5, 6, 7] [3, 6] (pc 1 (Oi d (by assumption) (by assumption)) p0) ?_
 refine tU Qa Yp [(2, .i (((X8 d)).1)), (3, .p 3 0), (4, .b (((X8 d)).2.2.1))] [0] [(3, [.o 704 ((((X8 d)).2.1).1.1), .o 705 ((((X8 d)).2.1).1.2.1), .i ((((X8 d)).2.1).1.2.2), .o 706 ((((X8 d)).2.1).2)])] [] (p0) ?_
 refine Qe ?_
 exact pz [] (show Xm d = (((X8 d)).1, (((X8 d)).2.1), ((X8 d)).2.2.1) from rfl) (fun z => .tup [(false, [.i z.1]), (true, [.o 0 z.2.1.1.1, .o 1 z.2.1.1.2.1, .i z.2.1.1.2.2, .o 2 z.2.1.2]), (false, [.b z.2.2])])
def Xn (d : Ep) : Int × Qp × Bool := (((Yh d)).1, (((Yh d)).2.1), ((Yh d)).2.2.1)
theorem F9 (d : Ep) (ha : ByteArray.size d.1 ≤ 1073741000) (hb : ByteArray.size d.2 ≤ 1073741000) : ACalls Tryz.prog 14 [.a [.s d.1, .s d.2]] (.tup [(false, [.i (((Xn d)).1)]), (true, [.o 0 ((((Xn d)).2.1).1.1), .o 1 ((((Xn d)).2.1).1.2.1), .i ((((Xn d)).2.1).1.2.2), .o 2 ((((Xn d)).2.1).2)]), (false, [.b (((Xn d)).2.2)])]) := by
 refine en Qa Tryz.func14 fun w0 F0 hG => ?_
 refine sn Qa [1, 2, 3, 4] [1, 3] (p0) ?_
 refine tn Qa [2, 3, 4, 5, 6, 7] [3, 6] (pc 1 (Sc d (by assumption) (by assumption)) p0) ?_
 refine tU Qa Yp [(2, .i (((Yh d)).1)), (3, .p 3 0), (4, .b (((Yh d)).2.2.1))] [0] [(3, [.o 704 ((((Yh d)).2.1).1.1), .o 705 ((((Yh d)).2.1).1.2.1), .i ((((Yh d)).2.1).1.2.2), .o 706 ((((Yh d)).2.1).2)])] [] (p0) ?_
 refine Qe ?_
 exact pz [] (show Xn d = (((Yh d)).1, (((Yh d)).2.1), ((Yh d)).2.2.1) from rfl) (fun z => .tup [(false, [.i z.1]), (true, [.o 0 z.2.1.1.1, .o 1 z.2.1.1.2.1, .i z.2.1.1.2.2, .o 2 z.2.1.2]), (false, [.b z.2.2])])
def Yx (f : Zl) : Zl := f
theorem S3 (f : Zl) : ACalls Tryz.prog 121 [.a [.i f.1, .i f.2.1, .b f.2.2.1, .i f.2.2.2.1, .h f.2.2.2.2]] (.a [.i ((Yx f).1), .i ((Yx f).2.1), .b ((Yx f).2.2.1), .i ((Yx f).2.2.2.1), .o 0 ((Yx f).2.2.2.2)]) := by
 refine en Qa Tryz.func121 fun w0 F0 hG => ?_
 refine sn Qa [1, 2] [1, 2] (p0) ?_
 refine tn Qa [1, 2] [1, 2] (pc 2 (UI f.2.2.2.2) p0) ?_
 refine tu Qa [(2, .p 2 0)] [0] [(2, [.i f.1, .i f.2.1, .b f.2.2.1, .i f.2.2.2.1, .o 320 f.2.2.2.2])] [] (p0) ?_
 refine Qe ?_
 exact pz [] (show Yx f = f from rfl) (fun z => .a [.i z.1, .i z.2.1, .b z.2.2.1, .i z.2.2.2.1, .o 0 z.2.2.2.2])
def Be (_ : Nat) (a0 : Zl) (s0 : (List Zl)) : Rd ((List Zl)) ((List Zl)) ((List Zl)) := (.next (s0 ++ [(Yx a0)]))
def En (_ : Nat) (s0 : (List Zl)) : (List Zl) := s0
def H8 (l : (List Zl)) : (List Zl) := (Out.on (Yt Be En l 0 []) (fun y0 => y0))
theorem Si (l : (List Zl)) : ACalls Tryz.prog 81 [.h l] (.o 0 (H8 l)) := by
 refine en Qa Tryz.func81 fun w0 F0 hG => ?_
 refine sn Qa [0, 2] [] (p0) ?_
 refine tn Qa [0, 2, 3] [] (p0) ?_
 refine Qc ?_
 refine tu Qa [(2, .e 0), (3, .one (.slc (.own true 384) 5 [])), (7, .h l), (8, .i (l.length : Int)), (9, .i 0)] [0] [] [] (pl 1 l p0) ?_
 refine wT 7 0 .sh l (fun hw1 hl2 => ?_)
 refine Qa3 Be En l [] (fun k0 s0 => [(3, .o 147201 s0), (9, .i ((k0 : Nat) : Int))]) [3, 9] (fun y0 => [(3, .o 147351 y0)]) [3, 7, 8, 9] (fun k0 s0 => List.length s0 ≤ k0) (Ys [(384, 147201)] (by kernel_rfl)) (by simp) (fun k0 s0 hk0 hI0 => ?_) (fun k0 s0 hk0 hI0 => ?_) (fun y0 hD0 => ?_)
 ·
  have hA0_0 := hI0.2
  obtain ⟨a0, hx0⟩ := Yi (l := l) (i := k0) hk0
  refine sn Qa [2, 3, 7, 8, 9, 10] [] (pe 0 (Qz (decide_eq_true (p := ((k0 : Nat) : Int) < (l.length : Int)) (by omega))) p0) ?_
  refine Qc ?_
  refine ckT ?_
  refine Qf ?_
  refine Qc ?_
  refine Qy ?_
  refine tn Qa [2, 3, 5, 7, 8, 9] [5] (pn 0 hx0 p0) ?_
  refine wT 3 0 (.own true 147201) s0 (fun hw3 hl4 => ?_)
  refine qu Qa [(3, .one (.slc (.own true 1088) 5 ((eL s0) ++ [[.i ((Yx a0).1), .i ((Yx a0).2.1), .b ((Yx a0).2.2.1), .i ((Yx a0).2.2.2.1), .h ((Yx a0).2.2.2.2)]])))] [3] [] [] (pc 2 (S3 a0) (pa s0 [(Yx a0)] p0)) ?_
  refine eqn [(3, .o 1088 (s0 ++ [(Yx a0)]))] [3] [] [] (by rw [show ((eL s0) ++ [[.i ((Yx a0).1), .i ((Yx a0).2.1), .b ((Yx a0).2.2.1), .i ((Yx a0).2.2.2.1), .h ((Yx a0).2.2.2.2)]]) = (eL (s0 ++ [(Yx a0)])) from Je (rfl) (rfl)]; first | done | kernel_rfl) ?_
  refine rn Qa [2, 3, 7, 8, 9] [] (pe 0 (Jr (Q1 k0 (by omega))) p0) ?_
  exact Exists.intro (s0 ++ [(Yx a0)]) (And.intro (Ys [(1088, 147201)] (by kernel_rfl)) ⟨Xl hx0 (rfl) hI0.1, by first | omega | (simp; omega) | simp⟩)
 ·
  have hA0_0 := hI0.2
  refine sn Qa [2, 3, 7, 8, 9, 10] [] (pe 0 (Qz (decide_eq_false (p := ((k0 : Nat) : Int) < (l.length : Int)) (by omega))) p0) ?_
  refine Qc ?_
  refine ckF ?_
  refine Xs ?_
  exact Exists.intro _ (And.intro (Ys [(147201, 147351)] (by kernel_rfl)) (Yn hk0 (rfl) hI0.1))
 refine sn Qa [2] [] (p0) ?_
 refine Qe ?_
 exact po0 [] (V4 hD0 (rfl))
def Vh (s_ : V0) : V0 := (s_.1, (H8 s_.2.1), s_.2.2)
theorem Sj (s_ : V0) : ACalls Tryz.prog 47 [.a [.h s_.1, .h s_.2.1, .i s_.2.2]] (.a [.o 0 ((Vh s_).1), .o 1 ((Vh s_).2.1), .i ((Vh s_).2.2)]) := by
 refine en Qa Tryz.func47 fun w0 F0 hG => ?_
 refine sn Qa [1, 2] [1, 2] (p0) ?_
 refine tN Qa Yp [2] [2] (pc 2 (JL s_.1) (pc 5 (Si s_.2.1) p0)) ?_
 refine Qe ?_
 exact pz [] (show Vh s_ = (s_.1, (H8 s_.2.1), s_.2.2) from rfl) (fun z => .a [.o 0 z.1, .o 1 z.2.1, .i z.2.2])
def Kd (x : Zw) : Zw := x
theorem YS (x : Zw) : ACalls Tryz.prog 82 [.a [.s x.1, .h x.2]] (.a [.s ((Kd x).1), .o 0 ((Kd x).2)]) := by
 refine en Qa Tryz.func82 fun w0 F0 hG => ?_
 refine sn Qa [1, 2] [1, 2] (p0) ?_
 refine tn Qa [1, 2] [1, 2] (pc 2 (UK x.2) p0) ?_
 refine tu Qa [(2, .p 2 0)] [0] [(2, [.s x.1, .o 320 x.2])] [] (p0) ?_
 refine Qe ?_
 exact pz [] (show Kd x = x from rfl) (fun z => .a [.s z.1, .o 0 z.2])
def Cj (_ : Nat) (a0 : Zw) (s0 : (List Zw)) : Rd ((List Zw)) ((List Zw)) ((List Zw)) := (.next (s0 ++ [(Kd a0)]))
def Fp (_ : Nat) (s0 : (List Zw)) : (List Zw) := s0
def A6 (d : (List Zw)) : (List Zw) := (Out.on (Yt Cj Fp d 0 []) (fun y0 => y0))
theorem S4 (d : (List Zw)) : ACalls Tryz.prog 48 [.h d] (.o 0 (A6 d)) := by
 refine en Qa Tryz.func48 fun w0 F0 hG => ?_
 refine sn Qa [0, 2] [] (p0) ?_
 refine tn Qa [0, 2, 3] [] (p0) ?_
 refine Qc ?_
 refine tu Qa [(2, .e 0), (3, .one (.slc (.own true 384) 2 [])), (7, .h d), (8, .i (d.length : Int)), (9, .i 0)] [0] [] [] (pl 1 d p0) ?_
 refine wT 7 0 .sh d (fun hw1 hl2 => ?_)
 refine Qa3 Cj Fp d [] (fun k0 s0 => [(3, .o 147201 s0), (9, .i ((k0 : Nat) : Int))]) [3, 9] (fun y0 => [(3, .o 147351 y0)]) [3, 7, 8, 9] (fun k0 s0 => List.length s0 ≤ k0) (Ys [(384, 147201)] (by kernel_rfl)) (by simp) (fun k0 s0 hk0 hI0 => ?_) (fun k0 s0 hk0 hI0 => ?_) (fun y0 hD0 => ?_)
 ·
  have hA0_0 := hI0.2
  obtain ⟨a0, hx0⟩ := Yi (l := d) (i := k0) hk0
  refine sn Qa [2, 3, 7, 8, 9, 10] [] (pe 0 (Qz (decide_eq_true (p := ((k0 : Nat) : Int) < (d.length : Int)) (by omega))) p0) ?_
  refine Qc ?_
  refine ckT ?_
  refine Qf ?_
  refine Qc ?_
  refine Qy ?_
  refine tn Qa [2, 3, 5, 7, 8, 9] [5] (pn 0 hx0 p0) ?_
  refine wT 3 0 (.own true 147201) s0 (fun hw3 hl4 => ?_)
  refine qu Qa [(3, .one (.slc (.own true 1088) 2 ((eL s0) ++ [[.s ((Kd a0).1), .h ((Kd a0).2)]])))] [3] [] [] (pc 2 (YS a0) (pa s0 [(Kd a0)] p0)) ?_
  refine eqn [(3, .o 1088 (s0 ++ [(Kd a0)]))] [3] [] [] (by rw [show ((eL s0) ++ [[.s ((Kd a0).1), .h ((Kd a0).2)]]) = (eL (s0 ++ [(Kd a0)])) from Je (rfl) (rfl)]; first | done | kernel_rfl) ?_
  refine rn Qa [2, 3, 7, 8, 9] [] (pe 0 (Jr (Q1 k0 (by omega))) p0) ?_
  exact Exists.intro (s0 ++ [(Kd a0)]) (And.intro (Ys [(1088, 147201)] (by kernel_rfl)) ⟨Xl hx0 (rfl) hI0.1, by first | omega | (simp; omega) | simp⟩)
 ·
  have hA0_0 := hI0.2
  refine sn Qa [2, 3, 7, 8, 9, 10] [] (pe 0 (Qz (decide_eq_false (p := ((k0 : Nat) : Int) < (d.length : Int)) (by omega))) p0) ?_
  refine Qc ?_
  refine ckF ?_
  refine Xs ?_
  exact Exists.intro _ (And.intro (Ys [(147201, 147351)] (by kernel_rfl)) (Yn hk0 (rfl) hI0.1))
 refine sn Qa [2] [] (p0) ?_
 refine Qe ?_
 exact po0 [] (V4 hD0 (rfl))
def Ze (x : Jy) : Qp := ((Vh x.1.1), (A6 x.1.2.1))
theorem Ga (x : Jy) : ACalls Tryz.prog 24 [.a [.h x.1.1.1, .h x.1.1.2.1, .i x.1.1.2.2, .h x.1.2.1, .h x.1.2.2, .s x.2.1.1, .s x.2.1.2, .i x.2.2.1, .h x.2.2.2.1, .h x.2.2.2.2.1, .h x.2.2.2.2.2]] (.a [.o 0 ((Ze x).1.1), .o 1 ((Ze x).1.2.1), .i ((Ze x).1.2.2), .o 2 ((Ze x).2)]) := by
 refine en Qa Tryz.func24 fun w0 F0 hG => ?_
 refine sn Qa [1, 2] [1, 2] (p0) ?_
 refine tN Qa Yp [2] [2] (pc 3 (Sj x.1.1) (pc 7 (S4 x.1.2.1) p0)) ?_
 refine Qe ?_
 exact pz [] (show Ze x = ((Vh x.1.1), (A6 x.1.2.1)) from rfl) (fun z => .a [.o 0 z.1.1, .o 1 z.1.2.1, .i z.1.2.2, .o 2 z.2])
def Zj (f : Zl) : Zl := f
theorem YT (f : Zl) : ACalls Tryz.prog 104 [.a [.i f.1, .i f.2.1, .b f.2.2.1, .i f.2.2.2.1, .h f.2.2.2.2]] (.a [.i ((Zj f).1), .i ((Zj f).2.1), .b ((Zj f).2.2.1), .i ((Zj f).2.2.2.1), .o 0 ((Zj f).2.2.2.2)]) := by
 refine en Qa Tryz.func104 fun w0 F0 hG => ?_
 refine sn Qa [1, 2] [1, 2] (p0) ?_
 refine wB 1 4 .sh f.2.2.2.2 (fun hw1 hl2 => ?_)
 refine tn Qa [1, 2] [1, 2] (po 3 (.flat) (px (I4 (n := (([] : List (List PV)).length + ((eL f.2.2.2.2) : List (List PV)).length)) (Nw (rfl) (Yv f.2.2.2.2) (by first | omega | (simp only [List.length_cons, List.length_nil]; omega) | (simp; omega) | simp))) (px (G5 (E3 f.2.2.2.2)) p0))) ?_
 refine tu Qa [(2, .p 2 0)] [0] [(2, [.i f.1, .i f.2.1, .b f.2.2.1, .i f.2.2.2.1, .o 384 f.2.2.2.2])] [] (p0) ?_
 refine Qe ?_
 exact pz [] (show Zj f = f from rfl) (fun z => .a [.i z.1, .i z.2.1, .b z.2.2.1, .i z.2.2.2.1, .o 0 z.2.2.2.2])
def C4 (_ : Nat) (a0 : Zl) (s0 : (List Zl)) : Rd (V0) ((List Zl)) ((List Zl)) := (.next (s0 ++ [(Zj a0)]))
def Gv (_ : Nat) (s0 : (List Zl)) : (List Zl) := s0
def Uh (s_ : V0) : V0 := (Out.on (Yt C4 Gv s_.2.1 0 []) (fun y0 => (s_.1, y0, s_.2.2)))
theorem YU (s_ : V0) : ACalls Tryz.prog 66 [.a [.h s_.1, .h s_.2.1, .i s_.2.2]] (.a [.o 0 ((Uh s_).1), .o 1 ((Uh s_).2.1), .i ((Uh s_).2.2)]) := by
 refine en Qa Tryz.func66 fun w0 F0 hG => ?_
 refine sn Qa [1, 2] [1, 2] (p0) ?_
 refine wB 1 0 .sh s_.1 (fun hw1 hl2 => ?_)
 refine tN Qa Yp [1, 2, 3] [1, 2, 3] (po 3 (.flat) (px (I4 (n := (([] : List (List PV)).length + ((eL s_.1) : List (List PV)).length)) (Nw (rfl) (Yv s_.1) (by first | omega | (simp only [List.length_cons, List.length_nil]; omega) | (simp; omega) | simp))) (px (G5 (E3 s_.1)) p0))) ?_
 refine Qc ?_
 refine tu Qa [(1, .p 1 0), (2, .p 2 0), (3, .p 3 0), (4, .i 0)] [0] [(1, [.h s_.1, .h s_.2.1, .i s_.2.2]), (2, [.e 2, .e 5, .i 0]), (3, [.o 512 s_.1, .e 5, .i s_.2.2])] [] (p0) ?_
 refine wB 1 1 .sh s_.2.1 (fun hw3 hl4 => ?_)
 refine GW C4 Gv s_.2.1 [] (fun k0 _ => [(4, .i ((k0 : Nat) : Int))]) [4] (fun _ s0 => [(3, [.o 512 s_.1, .o 147211 s0, .i s_.2.2])]) [3] (fun _ => []) [1, 4] (fun y0 => [(3, [.o 512 s_.1, .o 147361 y0, .i s_.2.2])]) [1, 3] (fun k0 s0 => List.length s0 ≤ k0) (M3 [(true, 3, 1, true, 320008, 5)] [] [] [(320008, 147211)] (by kernel_rfl)) (by simp) (fun k0 s0 hk0 hI0 => ?_) (fun k0 s0 hk0 hI0 => ?_) (fun y0 hD0 => ?_)
 ·
  have hA0_0 := hI0.2
  obtain ⟨a0, hx0⟩ := Yi (l := s_.2.1) (i := k0) hk0
  refine Qc ?_
  refine su Qa [(16, .b true)] [] [] [] (pl 3 s_.2.1 (pe 4 (Qz (decide_eq_true (p := ((k0 : Nat) : Int) < (s_.2.1.length : Int)) (by omega))) p0)) ?_
  refine ckT ?_
  refine Qf ?_
  refine Qc ?_
  refine Qy ?_
  refine wB 3 1 (.own true 147211) s0 (fun hw5 hl6 => ?_)
  refine rU Qa Yp [] [16] [(3, [.o 512 s_.1, .slc (.own true 1792) 5 ((eL s0) ++ [[.i ((Zj a0).1), .i ((Zj a0).2.1), .b ((Zj a0).2.2.1), .i ((Zj a0).2.2.2.1), .h ((Zj a0).2.2.2.2)]]), .i s_.2.2])] [3] (pn 5 hx0 (pc 7 (YT a0) (pa s0 [(Zj a0)] p0))) ?_
  refine eqn [] [] [(3, [.o 512 s_.1, .o 1792 (s0 ++ [(Zj a0)]), .i s_.2.2])] [3] (by rw [show ((eL s0) ++ [[.i ((Zj a0).1), .i ((Zj a0).2.1), .b ((Zj a0).2.2.1), .i ((Zj a0).2.2.2.1), .h ((Zj a0).2.2.2.2)]]) = (eL (s0 ++ [(Zj a0)])) from Je (rfl) (rfl)]; first | done | kernel_rfl) ?_
  refine rn Qa [1, 2, 3, 4] [1, 2, 3] (pe 1 (Jr (Q1 k0 (by omega))) p0) ?_
  exact Exists.intro (s0 ++ [(Zj a0)]) (And.intro (Ys [(1792, 147211)] (by kernel_rfl)) ⟨Xl hx0 (rfl) hI0.1, by first | omega | (simp; omega) | simp⟩)
 ·
  have hA0_0 := hI0.2
  refine Qc ?_
  refine su Qa [(16, .b false)] [] [] [] (pl 3 s_.2.1 (pe 4 (Qz (decide_eq_false (p := ((k0 : Nat) : Int) < (s_.2.1.length : Int)) (by omega))) p0)) ?_
  refine ckF ?_
  refine Xs ?_
  exact Exists.intro _ (And.intro (Ys [(147211, 147361)] (by kernel_rfl)) (Yn hk0 (rfl) hI0.1))
 refine sn Qa [2] [2] (p0) ?_
 refine Qe ?_
 exact pz [] (show Uh s_ = _ from V4 hD0 (rfl)) (fun z => .a [.o 0 z.1, .o 1 z.2.1, .i z.2.2])
def C5 (_ : Nat) (a0 : Zw) (s0 : (List Zw)) : Rd ((List Zw)) ((List Zw)) ((List Zw)) := (.next (s0 ++ [a0]))
def Gw (_ : Nat) (s0 : (List Zw)) : (List Zw) := s0
def Ck (d : (List Zw)) : (List Zw) := (Out.on (Yt C5 Gw d 0 []) (fun y0 => y0))
theorem YV (d : (List Zw)) : ACalls Tryz.prog 67 [.h d] (.o 0 (Ck d)) := by
 refine en Qa Tryz.func67 fun w0 F0 hG => ?_
 refine sn Qa [0, 2] [] (p0) ?_
 refine tn Qa [0, 2, 3] [] (p0) ?_
 refine Qc ?_
 refine tu Qa [(2, .e 0), (3, .one (.slc (.own true 320) 2 [])), (4, .i 0)] [] [] [] (p0) ?_
 refine wT 0 0 .sh d (fun hw1 hl2 => ?_)
 refine Qa3 C5 Gw d [] (fun k0 s0 => [(3, .o 147202 s0), (4, .i ((k0 : Nat) : Int))]) [3, 4] (fun y0 => [(3, .o 147352 y0)]) [0, 3, 4] (fun k0 s0 => List.length s0 ≤ k0) (Ys [(320, 147202)] (by kernel_rfl)) (by simp) (fun k0 s0 hk0 hI0 => ?_) (fun k0 s0 hk0 hI0 => ?_) (fun y0 hD0 => ?_)
 ·
  have hA0_0 := hI0.2
  obtain ⟨a0, hx0⟩ := Yi (l := d) (i := k0) hk0
  refine Qc ?_
  refine sn Qa [0, 2, 3, 4, 9] [] (pl 2 d (pe 3 (Qz (decide_eq_true (p := ((k0 : Nat) : Int) < (d.length : Int)) (by omega))) p0)) ?_
  refine ckT ?_
  refine Qf ?_
  refine Qc ?_
  refine Qy ?_
  have hl3 : List.length a0.2 ≤ 1073741824 := I9 (PB (PA hx0 (hw1)))
  refine wT 3 0 (.own true 147202) s0 (fun hw4 hl5 => ?_)
  refine qU Qa Yp [(3, .one (.slc (.own true 1728) 2 ((eL s0) ++ [[.s a0.1, .slc 7 ([] ++ (eL a0.2))]])))] [3] [] [] (pn 3 hx0 (pn 9 hx0 (po 12 (.flat) (px (I4 (n := (([] : List (List PV)).length + ((eL a0.2) : List (List PV)).length)) (Nw (rfl) (Yv a0.2) (by first | omega | (simp only [List.length_cons, List.length_nil]; omega) | (simp; omega) | simp))) (px (G5 (E3 a0.2)) (px (I4 (n := (((eL s0) : List (List PV)).length + ([[.s a0.1, .slc 7 ([] ++ (eL a0.2))]] : List (List PV)).length)) (Nw (Yv s0) (rfl) (by first | omega | (simp only [List.length_cons, List.length_nil]; omega) | (simp; omega) | simp))) p0)))))) ?_
  refine eqn [(3, .o 1728 (s0 ++ [a0]))] [3] [] [] (by rw [show ((eL s0) ++ [[.s a0.1, .slc 7 ([] ++ (eL a0.2))]]) = (eL (s0 ++ [a0])) from Je (rfl) (rfl)]; first | done | kernel_rfl) ?_
  refine rn Qa [0, 2, 3, 4] [] (pe 1 (Jr (Q1 k0 (by omega))) p0) ?_
  exact Exists.intro (s0 ++ [a0]) (And.intro (Ys [(1728, 147202)] (by kernel_rfl)) ⟨Xl hx0 (rfl) hI0.1, by first | omega | (simp; omega) | simp⟩)
 ·
  have hA0_0 := hI0.2
  refine Qc ?_
  refine sn Qa [0, 2, 3, 4, 9] [] (pl 2 d (pe 3 (Qz (decide_eq_false (p := ((k0 : Nat) : Int) < (d.length : Int)) (by omega))) p0)) ?_
  refine ckF ?_
  refine Xs ?_
  exact Exists.intro _ (And.intro (Ys [(147202, 147352)] (by kernel_rfl)) (Yn hk0 (rfl) hI0.1))
 refine sn Qa [2] [] (p0) ?_
 refine Qe ?_
 exact po0 [] (V4 hD0 (rfl))
def V2 (x : Qp) : Qp := ((Uh x.1), (Ck x.2))
theorem S5 (x : Qp) : ACalls Tryz.prog 38 [.a [.h x.1.1, .h x.1.2.1, .i x.1.2.2, .h x.2]] (.a [.o 0 ((V2 x).1.1), .o 1 ((V2 x).1.2.1), .i ((V2 x).1.2.2), .o 2 ((V2 x).2)]) := by
 refine en Qa Tryz.func38 fun w0 F0 hG => ?_
 refine sn Qa [1, 2] [1, 2] (p0) ?_
 refine tN Qa Yp [2] [2] (pc 2 (YU x.1) (pc 5 (YV x.2) p0)) ?_
 refine Qe ?_
 exact pz [] (show V2 x = ((Uh x.1), (Ck x.2)) from rfl) (fun z => .a [.o 0 z.1.1, .o 1 z.1.2.1, .i z.1.2.2, .o 2 z.2])
def Zf (x : Jy) : Qp := (V2 (x.1.1, x.1.2.1))
theorem Gb (x : Jy) : ACalls Tryz.prog 16 [.a [.h x.1.1.1, .h x.1.1.2.1, .i x.1.1.2.2, .h x.1.2.1, .h x.1.2.2, .s x.2.1.1, .s x.2.1.2, .i x.2.2.1, .h x.2.2.2.1, .h x.2.2.2.2.1, .h x.2.2.2.2.2]] (.a [.o 0 ((Zf x).1.1), .o 1 ((Zf x).1.2.1), .i ((Zf x).1.2.2), .o 2 ((Zf x).2)]) := by
 refine en Qa Tryz.func16 fun w0 F0 hG => ?_
 refine sn Qa [1, 2] [1, 2] (p0) ?_
 refine tn Qa [2] [2] (pc 7 (S5 (x.1.1, x.1.2.1)) p0) ?_
 refine Qe ?_
 exact pz [] (show Zf x = (V2 (x.1.1, x.1.2.1)) from rfl) (fun z => .a [.o 0 z.1.1, .o 1 z.1.2.1, .i z.1.2.2, .o 2 z.2])
def Ui (a_ : Qp) (b : Qp) : Bool := (Z5 (Qt a_) (Qt b))
theorem S6 (a_ : Qp) (b : Qp) : ACalls Tryz.prog 23 [.a [.h a_.1.1, .h a_.1.2.1, .i a_.1.2.2, .h a_.2], .a [.h b.1.1, .h b.1.2.1, .i b.1.2.2, .h b.2]] (.b (Ui a_ b)) := by
 refine en Qa Tryz.func23 fun w0 F0 hG => ?_
 refine sn Qa [2, 3, 4] [2, 3] (p0) ?_
 refine tN Qa Yp [4] [] (pc 1 (Vq a_) (pc 3 (Vq b) (pc 4 (Bg (Qt a_) (Qt b)) p0))) ?_
 refine Qe ?_
 exact pb [] (show Ui a_ b = (Z5 (Qt a_) (Qt b)) from rfl)
def Uj (a_ : Qp) (b : Qp) : Bool := (V1 (Xh a_) (Xh b))
theorem S7 (a_ : Qp) (b : Qp) : ACalls Tryz.prog 15 [.a [.h a_.1.1, .h a_.1.2.1, .i a_.1.2.2, .h a_.2], .a [.h b.1.1, .h b.1.2.1, .i b.1.2.2, .h b.2]] (.b (Uj a_ b)) := by
 refine en Qa Tryz.func15 fun w0 F0 hG => ?_
 refine sn Qa [2, 3, 4] [2, 3] (p0) ?_
 refine tN Qa Yp [4] [] (pc 1 (Vr a_) (pc 3 (Vr b) (pc 4 (Gt (Xh a_) (Xh b)) p0))) ?_
 refine Qe ?_
 exact pb [] (show Uj a_ b = (V1 (Xh a_) (Xh b)) from rfl)
def Wc (x : Jy) : Bool := (((Xm x.2.1)).2.2 && (Ui (((Xm x.2.1)).2.1) (Ze x)))
theorem Sk (x : Jy) (ha : ByteArray.size x.2.1.1 ≤ 1073741000) (hb : ByteArray.size x.2.1.2 ≤ 1073741000) : ACalls Tryz.prog 7 [.a [.h x.1.1.1, .h x.1.1.2.1, .i x.1.1.2.2, .h x.1.2.1, .h x.1.2.2, .s x.2.1.1, .s x.2.1.2, .i x.2.2.1, .h x.2.2.2.1, .h x.2.2.2.2.1, .h x.2.2.2.2.2]] (.b (Wc x)) := by
 refine en Qa Tryz.func7 fun w0 F0 hG => ?_
 refine sn Qa [1, 2] [1] (p0) ?_
 refine tn Qa [1, 2, 4, 5] [1, 4] (pc 2 (F8 x.2.1 (by assumption) (by assumption)) p0) ?_
 refine Qc ?_
 refine mz [(1, .p 1 0), (2, .b false), (4, .p 4 0), (5, .b (((Xm x.2.1)).2.2))] [0] [(1, [.h x.1.1.1, .h x.1.1.2.1, .i x.1.1.2.2, .h x.1.2.1, .h x.1.2.2, .s x.2.1.1, .s x.2.1.2, .i x.2.2.1, .h x.2.2.2.1, .h x.2.2.2.2.1, .h x.2.2.2.2.2]), (4, [.o 576 ((((Xm x.2.1)).2.1).1.1), .o 577 ((((Xm x.2.1)).2.1).1.2.1), .i ((((Xm x.2.1)).2.1).1.2.2), .o 578 ((((Xm x.2.1)).2.1).2)])] [] ?_
 refine jn [(2, .b (((Xm x.2.1)).2.2 && (Ui (((Xm x.2.1)).2.1) (Ze x))))] [1, 2, 4, 5] [] [1, 4] (((Xm x.2.1)).2.2) (fun h1 => ?_) (fun h1 => ?_) ?_
 ·
  refine rN Qa Yp [2] [] (pt 0 h1 (pc 4 (Ga x) (pc 5 (S6 (((Xm x.2.1)).2.1) (Ze x)) p0))) ?_
  exact ⟨rfl, Qd (by rw [h1] <;> kernel_rfl)⟩
 ·
  refine rN Qa Yp [2] [] (pf 0 h1 p0) ?_
  exact ⟨rfl, Qd (by rw [h1] <;> kernel_rfl)⟩
 refine Qe ?_
 exact pb [] (show Wc x = (((Xm x.2.1)).2.2 && (Ui (((Xm x.2.1)).2.1) (Ze x))) from rfl)
def Bs (x : Jy) : Bool := (((Xn x.2.1)).2.2 && (Uj (((Xn x.2.1)).2.1) (Zf x)))
theorem Sl (x : Jy) (ha : ByteArray.size x.2.1.1 ≤ 1073741000) (hb : ByteArray.size x.2.1.2 ≤ 1073741000) : ACalls Tryz.prog 5 [.a [.h x.1.1.1, .h x.1.1.2.1, .i x.1.1.2.2, .h x.1.2.1, .h x.1.2.2, .s x.2.1.1, .s x.2.1.2, .i x.2.2.1, .h x.2.2.2.1, .h x.2.2.2.2.1, .h x.2.2.2.2.2]] (.b (Bs x)) := by
 refine en Qa Tryz.func5 fun w0 F0 hG => ?_
 refine sn Qa [1, 2] [1] (p0) ?_
 refine tn Qa [1, 2, 4, 5] [1, 4] (pc 2 (F9 x.2.1 (by assumption) (by assumption)) p0) ?_
 refine Qc ?_
 refine mz [(1, .p 1 0), (2, .b false), (4, .p 4 0), (5, .b (((Xn x.2.1)).2.2))] [0] [(1, [.h x.1.1.1, .h x.1.1.2.1, .i x.1.1.2.2, .h x.1.2.1, .h x.1.2.2, .s x.2.1.1, .s x.2.1.2, .i x.2.2.1, .h x.2.2.2.1, .h x.2.2.2.2.1, .h x.2.2.2.2.2]), (4, [.o 576 ((((Xn x.2.1)).2.1).1.1), .o 577 ((((Xn x.2.1)).2.1).1.2.1), .i ((((Xn x.2.1)).2.1).1.2.2), .o 578 ((((Xn x.2.1)).2.1).2)])] [] ?_
 refine jn [(2, .b (((Xn x.2.1)).2.2 && (Uj (((Xn x.2.1)).2.1) (Zf x))))] [1, 2, 4, 5] [] [1, 4] (((Xn x.2.1)).2.2) (fun h1 => ?_) (fun h1 => ?_) ?_
 ·
  refine rN Qa Yp [2] [] (pt 0 h1 (pc 4 (Gb x) (pc 5 (S7 (((Xn x.2.1)).2.1) (Zf x)) p0))) ?_
  exact ⟨rfl, Qd (by rw [h1] <;> kernel_rfl)⟩
 ·
  refine rN Qa Yp [2] [] (pf 0 h1 p0) ?_
  exact ⟨rfl, Qd (by rw [h1] <;> kernel_rfl)⟩
 refine Qe ?_
 exact pb [] (show Bs x = (((Xn x.2.1)).2.2 && (Uj (((Xn x.2.1)).2.1) (Zf x))) from rfl)
theorem DS (l : List Zl) : H8 l = l := by
  unfold H8
  rw [Ht (f := Be) (g := id) (fun _ _ _ => rfl), List.map_id]
  rfl
theorem ME (d : List Zw) : A6 d = d := by
  unfold A6
  rw [Ht (f := Cj) (g := id) (fun _ _ _ => rfl), List.map_id]
  rfl
theorem DT (s : V0) : Vh s = s := by
  unfold Vh
  rw [DS]
theorem Qb0 (s : V0) : Uh s = s := by
  unfold Uh
  rw [Ht (f := C4) (g := id) (fun _ _ _ => rfl), List.map_id]
  rfl
theorem Qb1 (d : List Zw) : Ck d = d := by
  unfold Ck
  rw [Ht (f := C5) (g := id) (fun _ _ _ => rfl), List.map_id]
  rfl
theorem DU (x : Jy) : Zf x = Ze x := by
  unfold Zf Ze V2
  rw [Qb0, Qb1, DT, ME]
theorem RJ (a b : Qp) : Uj a b = Ui a b := by
  unfold Uj Ui
  rw [enc_eq, enc_eq, TG, TH]
theorem MF (d : Ep) : Xn d = Xm d := by
  unfold Xn Xm
  rw [MD]
theorem VF (x : Jy) : Bs x = Wc x := by
  unfold Bs Wc
  rw [MF, RJ, DU]
open GoD (rd own)
open GoE (enc wide)
def szI (t : Nat) (left : Int) : Int := bif decide ((t : Int) ≤ left) then left - t else -1
theorem Qds {t : Nat} {left r : Int} (h : szq t left r) : r = szI t left := by
  unfold szq at h
  unfold szI
  by_cases hc : (t : Int) ≤ left
  · rw [decide_eq_true hc]; simp only [cond_true]; omega
  rw [decide_eq_false hc]; simp only [cond_false]; omega
theorem Qdt (t : Nat) (left : Int) : szI t left < 0 ∨ (0 ≤ szI t left ∧ szI t left = left - t ∧ (t : Int) ≤ left) := by
  by_cases hc : (t : Int) ≤ left
  · have : szI t left = left - t := by unfold szI; rw [decide_eq_true hc]; rfl
    omega
  have : szI t left = -1 := by unfold szI; rw [decide_eq_false hc]; rfl
  omega
theorem Qdu (t : Nat) {left : Int} (h0 : 0 ≤ left) (h1 : left ≤ 1048576) : InR .i64 (szI t left) := by
  rw [Gz]; unfold I64
  by_cases hc : (t : Int) ≤ left
  · have : szI t left = left - t := by unfold szI; rw [decide_eq_true hc]; rfl
    omega
  have : szI t left = -1 := by unfold szI; rw [decide_eq_false hc]; rfl
  omega
section
variable {α : Type} [GoE α] {P : Program} {f : Nat}
theorem Qb2 {F : Nat → Prop} {w : World} {v : Value} {a : α} (h : AR (ZK F) w v (Vs a)) : ∃ cs : List Value, v = .agg cs.toArray ∧ rd w cs a := by
  obtain ⟨vs, rfl, hr⟩ := h
  exact ⟨vs, rfl, GoE.vc_rd (Qcy hr fun _ => GoE.no_any)⟩
theorem MG {F : Nat → Prop} {w w' : World} {v : Value} {r : AV} (hb : Below w.heap.size w w') (hr : ∀ J, AR J w' v r) : NU F w r (.returned v) w' :=
  ⟨v, fun _ => [], rfl, hb, fun _ => List.nodup_nil, (fun _ _ h => by simp at h), (fun _ _ _ h => by simp at h), hr _⟩
theorem DV (hok : Bu P f) {a : α} {left : Int} (h0 : 0 ≤ left) (h1 : left ≤ 1048576) (h : ∀ w (cs : List Value), rd w cs a → Calls P f #[.agg cs.toArray, .int .i64 left] w (Ab w (GoD.size a) left)) : ACalls P f [Vs a, Qd4 left] (Qd4 (szI (GoD.size a) left)) := by
  refine ⟨hok, fun w _ F vals hF hall => ?_⟩
  cases hall with
  | cons h2 h3 => cases h3 with
    | cons h3 h4 =>
      cases h4
      obtain ⟨cs, rfl, hr⟩ := Qb2 h2
      obtain ⟨rfl, _⟩ := h3
      refine (h w cs hr).mono ?_
      rintro e w' ⟨r, rfl, hq, hb⟩
      exact MG hb fun J => ⟨by rw [Qds hq], Qdu _ h0 h1⟩
end
/-! ### copies -/
section
variable {α : Type} [GoE α] {P : Program} {f : Nat}
end
/-! ### marks -/
section
variable {P : Program} {N : Nat} {w0 : Base} {F0 : Nat → Prop} {J : Inj} {a : Act} {w w' : World} {s : St}
theorem Rel.mark (h : Rel N w0 F0 J a w s) (ks : List Nat) {L : List Nat} (hL : ∀ b, b ∈ L → ∃ k, k ∈ ks ∧ b ∈ J.L k) (hc : Chg L w w') (d : Nat) (hd : d < N) (n : Int) (hn : InR .i64 n) (bx : Option (Nat × List C))
    (hb : ∀ k c, bx = some (k, c) → ∃ c0, get s.bx k = some c0 ∧ ∃ arr e, w.heap[J.B k]? = some (.cells arr e (0, 0)) ∧ ∀ J' : Inj, (∀ b, J'.F b ↔ J.F b ∨ b ∈ L) → All2 (CR J' w') arr.toList c) :
    ∃ J', (∀ b, J'.F b ↔ J.F b ∨ b ∈ L) ∧ (∀ k, J'.B k = J.B k) ∧ Rel N w0 F0 J' (a.put (some d) (.int .i64 n)) w' (s.step (some d) ⟨.one (.int .i64 n), Z7 ks, none, bx⟩) := by
  let J' : Inj := ⟨fun b => J.F b ∨ b ∈ L, fun k => if k ∈ ks then [] else J.L k, J.B⟩
  have hlo : ∀ b, b ∈ L → w0.lo (b) ∧ b < w.heap.size ∧ ¬ J.F b := fun b hb => by
    obtain ⟨k, _, hm⟩ := hL b hb
    exact h.lo k b hm
  have hun : ∀ b, b < w.heap.size → b ∉ L → w'.heap[b]? = w.heap[b]? := hc.block
  have hJL : ∀ k b, b ∈ J'.L k → k ∉ ks ∧ b ∈ J.L k := fun k b hm => by
    have hm : b ∈ (if k ∈ ks then [] else J.L k) := hm
    split at hm
    · simp at hm
    rename_i hk; exact ⟨hk, hm⟩
  have hout : ∀ k b, k ∉ ks → b ∈ J.L k → b ∉ L := fun k b hk hm hl => by
    obtain ⟨k', hk', hm'⟩ := hL b hl
    exact hk (h.dj k k' b hm hm' ▸ hk')
  have hboxL : ∀ k c, get s.bx k = some c → J.B k ∉ L := fun k c hk hl => by
    obtain ⟨k', _, hm⟩ := hL _ hl
    exact (h.bo k c hk).2.2.1 k' hm
  refine ⟨J', fun b => Iff.rfl, fun _ => rfl, ?_⟩
  refine h.upd (w' := w') (J' := J') (some d) (fun d' e => by cases e; exact hd) _ _ (h.below.step hc.os hc.tape hc.output hc.size fun b hb hnl => hun b hb fun hl => hnl (hlo b hl).1) ?_ ?_ (fun _ => ⟨rfl, hn⟩) ?_ ?_
  · constructor
    · exact fun b hb => ⟨.inl hb, hun b (h.fl b hb).1 fun hl => (hlo b hl).2.2 hb⟩
    · intro k hk
      rw [V3] at hk
      split at hk
      · cases hk
      rename_i hn
      exact ⟨if_neg hn, fun b hb => hun b (h.lo k b hb).2.1 (hout k b hn hb)⟩
    · intro k hk; rw [V3] at hk; split at hk <;> cases hk
    · intro k k' hk; rw [V3] at hk; split at hk <;> cases hk
    · intro k t hk; rw [V3] at hk; split at hk <;> cases hk
    · exact fun _ _ => rfl
    intro k d m i o cs hk; rw [V3] at hk; split at hk <;> cases hk
  · constructor
    · intro b hb
      rcases hb with hb | hb
      · exact ⟨Nat.lt_of_lt_of_le (h.fl b hb).1 hc.size, (h.fl b hb).2⟩
      exact ⟨Nat.lt_of_lt_of_le (hlo b hb).2.1 hc.size, .inr (hlo b hb).1⟩
    · exact fun b hb => .inl (h.f0 b hb)
    · intro k
      show (if _ then _ else _ : List Nat).Nodup
      split
      · exact List.nodup_nil
      exact h.nd k
    · intro k b hm
      obtain ⟨hk, hm⟩ := hJL k b hm
      obtain ⟨h1, h2, h3⟩ := h.lo k b hm
      exact ⟨h1, Nat.lt_of_lt_of_le h2 hc.size, fun hF => hF.elim h3 (hout k b hk hm)⟩
    intro k k' b hm hm'
    exact h.dj k k' b (hJL k b hm).2 (hJL k' b hm').2
  · intro k c hk _
    obtain ⟨h1, h2, h3, arr, e, h4, _⟩ := h.bo k c hk
    refine ⟨by simp, fun hF => hF.elim h2 (hboxL k c hk), fun k' hm => h3 k' (hJL k' _ hm).2, hun _ ?_ (hboxL k c hk)⟩
    exact Q2 h4
  intro k c hk
  obtain ⟨c0, hg, arr, e, hh, hall⟩ := hb k c hk
  obtain ⟨h1, h2, h3, arr', e', h4, _⟩ := h.bo k c0 hg
  have hlt : J.B k < w.heap.size := Q2 h4
  exact ⟨h1, fun hF => hF.elim h2 (hboxL k c0 hg), fun k' hm => h3 k' (hJL k' _ hm).2, ⟨arr, e, (hun _ hlt (hboxL k c0 hg)).trans hh, hall J' fun _ => Iff.rfl⟩, fun k' c' hk' hne e => hne (h.bi k' k c' c0 hk' hg e)⟩
end
class GoM (α : Type) [GoE α] : Prop where
  mkw : ∀ {a : α} {k : Nat}, wide a → wide (GoD.mark a k).1
  mkT : ∀ {a : α} {k : Nat}, wide a → wide (GoD.markT a k).1
instance : GoM Int := ⟨fun _ => trivial, fun _ => trivial⟩
instance : GoM Bool := ⟨fun _ => trivial, fun _ => trivial⟩
instance : GoM ByteArray := ⟨fun _ => trivial, fun _ => trivial⟩
instance {α β : Type} [GoE α] [GoE β] [GoM α] [GoM β] : GoM (α × β) := ⟨fun h => ⟨GoM.mkw h.1, GoM.mkw h.2⟩, fun h => ⟨GoM.mkT h.1, GoM.mkT h.2⟩⟩
theorem Np {α : Type} [GoE α] [GoM α] : ∀ {l : List α} {k : Nat}, (∀ a, a ∈ l → wide a) → ∀ a, a ∈ (Gx l k).1 → wide a
  | [], k, _, a, ha => by simp [Gx] at ha
  | x :: l, k, h, a, ha => by
    simp only [Gx, List.mem_cons] at ha
    rcases ha with rfl | ha
    · exact GoM.mkw (h x List.mem_cons_self)
    exact Np (fun a ha => h a (List.mem_cons_of_mem _ ha)) a ha
instance {α : Type} [GoE α] [GoM α] : GoM (List α) := ⟨fun {l k} h => ⟨by rw [show (GoD.mark l k).1 = (Gx l k).1 from rfl, Lc]; exact h.1, Np h.2⟩, fun {l k} h => ⟨by rw [show (GoD.markT l k).1 = (Gx l k).1 from rfl, Lc]; exact h.1, Np h.2⟩⟩
section
variable {P : Program} {N : Nat} {w0 : Base} {F0 : Nat → Prop} {s s' : St} {Q : Exit → St → Prop}
end
end Go.Proofs.YtkbmchfkaibelaaGreatDoor
