/- Texts of this proof, put together by a program: Cuc, Cud, Vsa, Vs, Drl, Dra, Drs, Drd, Lid, Rp, Lia, Wab, Rpa, Rpb, Rpc, Rpd, Nfa, Nfb. -/
import Derived.Test.YtcnkkobgogmakaaGreatP5
import Derived.KernelRfl
import Derived.Lib.SlicesCompact
set_option linter.unusedVariables false
set_option linter.unusedSimpArgs false
namespace Go.Proofs.YtcnkkobgogmakaaGreat
open Go.RowKit
open GoE (enc wide)
def Qg (code : (List UInt8)) (ci : Nat) (ch : Int) (n : Int) : Int × Nat × Int := (bif decide (n ≤ (0 : Int)) then (0, ci, ch) else (bif decide (n ≤ (256 : Int)) then (lt (α := Int × Nat × Int) (Y9 code ci ch) (fun x4 => (Int.tmod x4.1 n, x4.2.1, x4.2.2))) else (lt (α := Int × Nat × Int) (Y9 code ci ch) (fun x6 => (lt (α := Int × Nat × Int) (Y9 code x6.2.1 x6.2.2) (fun x7 => (lt (α := Int × Nat × Int) (Y9 code x7.2.1 x7.2.2) (fun x8 => (lt (α := Int × Nat × Int) (Y9 code x8.2.1 x8.2.2) (fun x9 => (Int.tmod ((((x6.1 * 16777216) + (x7.1 * 65536)) + (x8.1 * 256)) + x9.1) n, x9.2.1, x9.2.2)))))))))))
theorem Q3 (code : (List UInt8)) (ci : Nat) (ch : Int) (n : Int) : AGive Tryz.prog 50 [.h code, .i ((ci : Nat) : Int), .i ch] [.i n] (.i (((Qg code ci ch n)).1)) [.h code, .i ((((Qg code ci ch n)).2.1 : Nat) : Int), .i (((Qg code ci ch n)).2.2)] := by
 refine Jx (tt := tt) Qa Tryz.func50 (fn := Tryz.f50) rfl (by unfold FnOk; kernel_rfl) (Nat.le_of_ble_eq_true rfl) (Nat.le_of_ble_eq_true rfl) rfl rfl fun w0 F0 hG => ?_
 refine sn Qa [0, 1, 4] [60000] (p0) ?_
 refine Qd ?_
 refine tn Qa [0, 1, 4, 10] [60000] (p0) ?_
 refine ck (decide (n ≤ (0 : Int))) (fun h1 => ?_) (fun h1 => ?_)
 ·
  refine tu Qa [(4, .i 0)] [] [] [] (p0) ?_
  refine Qe ?_
  have hE2 : Qg code ci ch n = (0, ci, ch) := Q4 h1 (rfl)
  exact Uk [] (congrArg (fun z => (.i z.1 : AV)) hE2.symm) (congrArg (fun z => ([.h code, .i ((z.2.1 : Nat) : Int), .i z.2.2] : List C)) hE2.symm)
 ·
  have h1d := of_decide_eq_false h1
  refine Qf ?_
  refine Qd ?_
  refine tu Qa [(4, .i 0), (12, .b (decide (n ≤ (256 : Int))))] [] [] [] (p0) ?_
  refine ck (decide (n ≤ (256 : Int))) (fun h3 => ?_) (fun h3 => ?_)
  ·
   have h3d := of_decide_eq_true h3
   obtain ⟨x4, hx4⟩ : ∃ z : Int × Nat × Int, Y9 code ci ch = z := ⟨_, rfl⟩
   have hbx4 := hx4 ▸ Ke code ci ch
   refine sn Qa [0, 1, 4] [60000] (po 1 (.give none (.i x4.1) [.h code, .i ((x4.2.1 : Nat) : Int), .i x4.2.2]) (px (Q0 (hx4 ▸ specl01Byte_a code ci ch)) (px (ob_nz (n := n) (by omega)) (px (ob_inr (k := .i64) (n := Int.tmod x4.1 n) (inr_rem0 (by omega))) p0)))) ?_
   refine Qe ?_
   have hE5 : Qg code ci ch n = (Int.tmod x4.1 n, x4.2.1, x4.2.2) := Qk h1 (Q4 h3 (Yh hx4 (rfl)))
   exact Uk [] (congrArg (fun z => (.i z.1 : AV)) hE5.symm) (congrArg (fun z => ([.h code, .i ((z.2.1 : Nat) : Int), .i z.2.2] : List C)) hE5.symm)
  ·
   have h3d := of_decide_eq_false h3
   refine Qf ?_
   obtain ⟨x6, hx6⟩ : ∃ z : Int × Nat × Int, Y9 code ci ch = z := ⟨_, rfl⟩
   have hbx6 := hx6 ▸ Ke code ci ch
   refine sn Qa [0, 1, 4, 5] [60000] (po 1 (.give none (.i x6.1) [.h code, .i ((x6.2.1 : Nat) : Int), .i x6.2.2]) (px (Q0 (hx6 ▸ specl01Byte_a code ci ch)) p0)) ?_
   obtain ⟨x7, hx7⟩ : ∃ z : Int × Nat × Int, Y9 code x6.2.1 x6.2.2 = z := ⟨_, rfl⟩
   have hbx7 := hx7 ▸ Ke code x6.2.1 x6.2.2
   refine tn Qa [0, 1, 4, 5, 6] [60000] (po 1 (.give none (.i x7.1) [.h code, .i ((x7.2.1 : Nat) : Int), .i x7.2.2]) (px (Q0 (hx7 ▸ specl01Byte_a code x6.2.1 x6.2.2)) p0)) ?_
   obtain ⟨x8, hx8⟩ : ∃ z : Int × Nat × Int, Y9 code x7.2.1 x7.2.2 = z := ⟨_, rfl⟩
   have hbx8 := hx8 ▸ Ke code x7.2.1 x7.2.2
   refine tu Qa [(5, .i x6.1), (6, .i x7.1), (7, .i x8.1)] [12] [(60000, [.h code, .i ((x8.2.1 : Nat) : Int), .i x8.2.2])] [60000] (po 1 (.give none (.i x8.1) [.h code, .i ((x8.2.1 : Nat) : Int), .i x8.2.2]) (px (Q0 (hx8 ▸ specl01Byte_a code x7.2.1 x7.2.2)) p0)) ?_
   obtain ⟨x9, hx9⟩ : ∃ z : Int × Nat × Int, Y9 code x8.2.1 x8.2.2 = z := ⟨_, rfl⟩
   have hbx9 := hx9 ▸ Ke code x8.2.1 x8.2.2
   refine sn Qa [0, 1, 4, 5, 6, 7, 8] [60000] (po 1 (.give none (.i x9.1) [.h code, .i ((x9.2.1 : Nat) : Int), .i x9.2.2]) (px (Q0 (hx9 ▸ specl01Byte_a code x8.2.1 x8.2.2)) p0)) ?_
   refine tn Qa [0, 4] [60000] (pe 1 (Zq (IntWalk.i64_in (x6.1 * 16777216) (by omega))) (pe 3 (Zq (IntWalk.i64_in (x7.1 * 65536) (by omega))) (pe 4 (Zq (IntWalk.i64_in ((x6.1 * 16777216) + (x7.1 * 65536)) (by omega))) (pe 6 (Zq (IntWalk.i64_in (x8.1 * 256) (by omega))) (pe 7 (Zq (IntWalk.i64_in (((x6.1 * 16777216) + (x7.1 * 65536)) + (x8.1 * 256)) (by omega))) (pe 9 (Zq (IntWalk.i64_in ((((x6.1 * 16777216) + (x7.1 * 65536)) + (x8.1 * 256)) + x9.1) (by omega))) (px (ob_nz (n := n) (by omega)) (px (ob_inr (k := .i64) (n := Int.tmod ((((x6.1 * 16777216) + (x7.1 * 65536)) + (x8.1 * 256)) + x9.1) n) (inr_rem0 (by omega))) p0)))))))) ?_
   refine Qe ?_
   have hE10 : Qg code ci ch n = (Int.tmod ((((x6.1 * 16777216) + (x7.1 * 65536)) + (x8.1 * 256)) + x9.1) n, x9.2.1, x9.2.2) := Qk h1 (Qk h3 (Yh hx6 (Yh hx7 (Yh hx8 (Yh hx9 (rfl))))))
   exact Uk [] (congrArg (fun z => (.i z.1 : AV)) hE10.symm) (congrArg (fun z => ([.h code, .i ((z.2.1 : Nat) : Int), .i z.2.2] : List C)) hE10.symm)
end Go.Proofs.YtcnkkobgogmakaaGreat
namespace Go.Proofs.YtcnkkobgogmakaaGreat
open Go.RowKit
theorem Qt (code : List UInt8) (ci : Nat) (ch n : Int) : 0 ≤ (Qg code ci ch n).1 ∧ (0 < n → (Qg code ci ch n).1 < n) ∧ (n ≤ 0 → (Qg code ci ch n).1 = 0) := by
  unfold Qg lt
  by_cases h0 : n ≤ 0
  · rw [decide_eq_true h0]
    exact ⟨Int.le_refl _, fun h => by omega, fun _ => rfl⟩
  · rw [decide_eq_false h0]
    have hn : 0 < n := by omega
    cases decide (n ≤ (256 : Int)) with
    | true =>
      have := Ke code ci ch
      exact ⟨Int.tmod_nonneg _ this.1, fun _ => Int.tmod_lt_of_pos _ hn, fun h => by omega⟩
    | false =>
      simp only [cond_false]
      generalize hx6 : Y9 code ci ch = x6
      generalize hx7 : Y9 code x6.2.1 x6.2.2 = x7
      generalize hx8 : Y9 code x7.2.1 x7.2.2 = x8
      generalize hx9 : Y9 code x8.2.1 x8.2.2 = x9
      have h6 := hx6 ▸ Ke code ci ch
      have h7 := hx7 ▸ Ke code x6.2.1 x6.2.2
      have h8 := hx8 ▸ Ke code x7.2.1 x7.2.2
      have h9 := hx9 ▸ Ke code x8.2.1 x8.2.2
      exact ⟨Int.tmod_nonneg _ (by omega), fun _ => Int.tmod_lt_of_pos _ hn, fun h => by omega⟩
open GoE (enc wide)
def specl05Copy_f0 (_ : Nat) (a0 : Xy) (s0 : (List Xy)) : Rd (Q2) ((List Xy)) ((List Xy)) := (.next (s0 ++ [(Ql a0)]))
def specl05Copy_e0 (_ : Nat) (s0 : (List Xy)) : (List Xy) := s0
def Qh (s_ : Q2) : Q2 := (Out.on (Xp specl05Copy_f0 specl05Copy_e0 s_.2.1 0 []) (fun y0 => (s_.1, y0, s_.2.2)))
theorem specl05Copy_a (s_ : Q2) : ACalls Tryz.prog 52 [.a [.h s_.1, .h s_.2.1, .i s_.2.2]] (.a [.o 0 ((Qh s_).1), .o 1 ((Qh s_).2.1), .i ((Qh s_).2.2)]) := by
 refine en Qa Tryz.func52 fun w0 F0 hG => ?_
 refine sn Qa [1, 2] [1, 2] (p0) ?_
 refine wB 1 0 .sh s_.1 (fun hw1 hl2 => ?_)
 refine tN Qa Yr [1, 2, 3] [1, 2, 3] (po 3 (.flat) (px (ob_len (n := (([] : List (List PV)).length + ((eL s_.1) : List (List PV)).length)) (len_of (rfl) (X8 s_.1) (by first | omega | (simp only [List.length_cons, List.length_nil]; omega) | (simp; omega) | simp))) (px (Wi (Vv s_.1)) p0))) ?_
 refine Qd ?_
 refine tu Qa [(1, .p 1 0), (2, .p 2 0), (3, .p 3 0), (4, .i 0)] [0] [(1, [.h s_.1, .h s_.2.1, .i s_.2.2]), (2, [.e 2, .e 5, .i 0]), (3, [.o 512 s_.1, .e 5, .i s_.2.2])] [] (p0) ?_
 refine wB 1 1 .sh s_.2.1 (fun hw3 hl4 => ?_)
 refine blL1b specl05Copy_f0 specl05Copy_e0 s_.2.1 [] (fun k0 _ => [(4, .i ((k0 : Nat) : Int))]) [4] (fun _ s0 => [(3, [.o 512 s_.1, .o 147211 s0, .i s_.2.2])]) [3] (fun _ => []) [1, 4] (fun y0 => [(3, [.o 512 s_.1, .o 147361 y0, .i s_.2.2])]) [1, 3] (fun k0 s0 => List.length s0 ≤ k0) (weak_gf [(true, 3, 1, true, 320008, 5)] [] [] [(320008, 147211)] (by kernel_rfl)) (by simp) (fun k0 s0 hk0 hI0 => ?_) (fun k0 s0 hk0 hI0 => ?_) (fun y0 hD0 => ?_)
 ·
  have hA0_0 := hI0.2
  obtain ⟨a0, hx0⟩ := Xl (l := s_.2.1) (i := k0) hk0
  refine Qd ?_
  refine su Qa [(16, .b true)] [] [] [] (pl 3 s_.2.1 (pe 4 (Qs (decide_eq_true (p := ((k0 : Nat) : Int) < (s_.2.1.length : Int)) (by omega))) p0)) ?_
  refine ckT ?_
  refine Qf ?_
  refine Qd ?_
  refine Qr ?_
  refine wB 3 1 (.own true 147211) s0 (fun hw5 hl6 => ?_)
  refine rU Qa Yr [] [16] [(3, [.o 512 s_.1, .slc (.own true 1792) 5 ((eL s0) ++ [[.i ((Ql a0).1), .i ((Ql a0).2.1), .b ((Ql a0).2.2.1), .i ((Ql a0).2.2.2.1), .h ((Ql a0).2.2.2.2)]]), .i s_.2.2])] [3] (pn 5 hx0 (pc 7 (specl04Copy_a a0) (pa s0 [(Ql a0)] p0))) ?_
  refine eqn [] [] [(3, [.o 512 s_.1, .o 1792 (s0 ++ [(Ql a0)]), .i s_.2.2])] [3] (by rw [show ((eL s0) ++ [[.i ((Ql a0).1), .i ((Ql a0).2.1), .b ((Ql a0).2.2.1), .i ((Ql a0).2.2.2.1), .h ((Ql a0).2.2.2.2)]]) = (eL (s0 ++ [(Ql a0)])) from Kc (rfl) (rfl)]; first | done | kernel_rfl) ?_
  refine rn Qa [1, 2, 3, 4] [1, 2, 3] (pe 1 (Zq (Qu k0 (by omega))) p0) ?_
  exact Exists.intro (s0 ++ [(Ql a0)]) (And.intro (Xx [(1792, 147211)] (by kernel_rfl)) ⟨Qv hx0 (rfl) hI0.1, by first | omega | (simp; omega) | simp⟩)
 ·
  have hA0_0 := hI0.2
  refine Qd ?_
  refine su Qa [(16, .b false)] [] [] [] (pl 3 s_.2.1 (pe 4 (Qs (decide_eq_false (p := ((k0 : Nat) : Int) < (s_.2.1.length : Int)) (by omega))) p0)) ?_
  refine ckF ?_
  refine Qz ?_
  exact Exists.intro _ (And.intro (Xx [(147211, 147361)] (by kernel_rfl)) (Xm hk0 (rfl) hI0.1))
 ·
  refine sn Qa [2] [2] (p0) ?_
  refine Qe ?_
  exact pz [] (show Qh s_ = _ from V2 hD0 (rfl)) (fun z => .a [.o 0 z.1, .o 1 z.2.1, .i z.2.2])
def X0 (s_ : Q2) (f : Xy) : Q2 × Int × Bool := (bif ((!(Xi (Qh s_))) || (decide ((((Qh s_).2.1).length : Int) ≥ (12 : Int)) || (!(Xq ((Qh s_).1) ((Qh s_).2.2, (Ql f).2.1, (Ql f).2.2.1, (Ql f).2.2.2.1, (Ql f).2.2.2.2))))) then ((Qh s_), 0, false) else (((Qh s_).1, (Qh s_).2.1 ++ [((Qh s_).2.2, (Ql f).2.1, (Ql f).2.2.1, (Ql f).2.2.2.1, (Ql f).2.2.2.2)], IntKind.i64.wrap ((Qh s_).2.2 + 1)), (Qh s_).2.2, true))
theorem specCreateFile_a (s_ : Q2) (f : Xy) : ACalls Tryz.prog 14 [.a [.h s_.1, .h s_.2.1, .i s_.2.2], .a [.i f.1, .i f.2.1, .b f.2.2.1, .i f.2.2.2.1, .h f.2.2.2.2]] (.tup [(true, [.o 0 ((((X0 s_ f)).1).1), .o 1 ((((X0 s_ f)).1).2.1), .i ((((X0 s_ f)).1).2.2)]), (false, [.i (((X0 s_ f)).2.1)]), (false, [.b (((X0 s_ f)).2.2)])]) := by
 refine en Qa Tryz.func14 fun w0 F0 hG => ?_
 refine sn Qa [2, 3, 4, 5, 6] [2, 3, 4] (p0) ?_
 refine tn Qa [2, 3, 4, 5, 6] [2, 3, 4] (pc 1 (specl05Copy_a s_) p0) ?_
 refine tu Qa [(2, .p 2 0), (3, .p 3 0), (4, .p 4 0), (5, .i 0), (6, .b false)] [0, 1] [(2, [.o 512 ((Qh s_).1), .o 513 ((Qh s_).2.1), .i ((Qh s_).2.2)]), (3, [.i ((Ql f).1), .i ((Ql f).2.1), .b ((Ql f).2.2.1), .i ((Ql f).2.2.2.1), .o 640 ((Ql f).2.2.2.2)]), (4, [.e 2, .e 5, .i 0])] [] (pc 1 (specl04Copy_a f) p0) ?_
 refine sn Qa [2, 3, 4, 5, 6] [2, 3, 4] (p0) ?_
 refine Qd ?_
 refine Qd ?_
 refine mz [] [] [(3, [.i ((Qh s_).2.2), .i ((Ql f).2.1), .b ((Ql f).2.2.1), .i ((Ql f).2.2.2.1), .o 640 ((Ql f).2.2.2.2)])] [3] ?_
 refine jn [(29, .b ((!(Xi (Qh s_))) || (decide ((((Qh s_).2.1).length : Int) ≥ (12 : Int)) || (!(Xq ((Qh s_).1) ((Qh s_).2.2, (Ql f).2.1, (Ql f).2.2.1, (Ql f).2.2.2.1, (Ql f).2.2.2.2))))))] [] [] [] (!(Xi (Qh s_))) (fun h1 => ?_) (fun h1 => ?_) ?_
 ·
  have h1n : (Xi (Qh s_)) = false := bnot_t h1
  refine ru Qa [(29, .b true)] [] [] [] (pc 1 (cb h1n (Kj (Qh s_))) (pe 2 (show .b (!false) = .b true from rfl) p0)) ?_
  exact ⟨rfl, Qc (by rw [h1]; first | done | kernel_rfl)⟩
 ·
  have h1n : (Xi (Qh s_)) = true := Kg h1
  refine Xd (decide ((((Qh s_).2.1).length : Int) ≥ (12 : Int))) (fun h2 => ?_) (fun h2 => ?_)
  ·
   refine ru Qa [(29, .b true)] [] [] [] (pc 1 (cb h1n (Kj (Qh s_))) (pe 2 (show .b (!true) = .b false from rfl) (pl 6 ((Qh s_).2.1) (pt 7 h2 p0)))) ?_
   exact ⟨rfl, Qc (by rw [h1, h2]; first | done | kernel_rfl)⟩
  ·
   refine rn Qa [2, 3, 4, 5, 6, 29] [2, 3, 4] (pc 1 (cb h1n (Kj (Qh s_))) (pe 2 (show .b (!true) = .b false from rfl) (pl 6 ((Qh s_).2.1) (pf 7 h2 (pc 13 (Ua ((Qh s_).1) ((Qh s_).2.2, (Ql f).2.1, (Ql f).2.2.1, (Ql f).2.2.2.1, (Ql f).2.2.2.2)) p0))))) ?_
   exact ⟨rfl, Qc (by rw [h1, h2]; first | done | kernel_rfl)⟩
 refine ck ((!(Xi (Qh s_))) || (decide ((((Qh s_).2.1).length : Int) ≥ (12 : Int)) || (!(Xq ((Qh s_).1) ((Qh s_).2.2, (Ql f).2.1, (Ql f).2.2.1, (Ql f).2.2.2.1, (Ql f).2.2.2.2))))) (fun h3 => ?_) (fun h3 => ?_)
 ·
  refine sn Qa [2, 3, 4, 5, 6] [2, 3, 4] (p0) ?_
  refine Qe ?_
  exact pz [] (show X0 s_ f = _ from Q4 h3 (rfl)) (fun z => .tup [(true, [.o 0 z.1.1, .o 1 z.1.2.1, .i z.1.2.2]), (false, [.i z.2.1]), (false, [.b z.2.2])])
 ·
  have h3r : ((decide ((((Qh s_).2.1).length : Int) ≥ (12 : Int)) || (!(Xq ((Qh s_).1) ((Qh s_).2.2, (Ql f).2.1, (Ql f).2.2.1, (Ql f).2.2.2.1, (Ql f).2.2.2.2))))) = false := or_r h3
  have h3rl : (decide ((((Qh s_).2.1).length : Int) ≥ (12 : Int))) = false := or_l h3r
  have h3rld := of_decide_eq_false h3rl
  refine Qf ?_
  refine wB 2 1 (.own true 513) ((Qh s_).2.1) (fun hw4 hl5 => ?_)
  refine su Qa [] [29] [(2, [.o 512 ((Qh s_).1), .slc (.own true 2240) 5 ((eL ((Qh s_).2.1)) ++ [[.i ((Qh s_).2.2), .i ((Ql f).2.1), .b ((Ql f).2.2.1), .i ((Ql f).2.2.2.1), .h ((Ql f).2.2.2.2)]]), .i ((Qh s_).2.2)]), (3, [.i ((Qh s_).2.2), .i ((Ql f).2.1), .b ((Ql f).2.2.1), .i ((Ql f).2.2.2.1), .dead])] [2, 3] (pa ((Qh s_).2.1) [((Qh s_).2.2, (Ql f).2.1, (Ql f).2.2.1, (Ql f).2.2.2.1, (Ql f).2.2.2.2)] p0) ?_
  refine eqn [] [] [(2, [.o 512 ((Qh s_).1), .o 2240 ((Qh s_).2.1 ++ [((Qh s_).2.2, (Ql f).2.1, (Ql f).2.2.1, (Ql f).2.2.2.1, (Ql f).2.2.2.2)]), .i ((Qh s_).2.2)])] [2] (by rw [show ((eL ((Qh s_).2.1)) ++ [[.i ((Qh s_).2.2), .i ((Ql f).2.1), .b ((Ql f).2.2.1), .i ((Ql f).2.2.2.1), .h ((Ql f).2.2.2.2)]]) = (eL ((Qh s_).2.1 ++ [((Qh s_).2.2, (Ql f).2.1, (Ql f).2.2.1, (Ql f).2.2.2.1, (Ql f).2.2.2.2)])) from Kc (rfl) (rfl)]; first | done | kernel_rfl) ?_
  refine sn Qa [2, 3, 4, 5, 6] [2, 3, 4] (p0) ?_
  refine tN Qa Yr [4, 5, 6] [4] (p0) ?_
  refine Qe ?_
  exact pz [] (show X0 s_ f = _ from Qk h3 (rfl)) (fun z => .tup [(true, [.o 0 z.1.1, .o 1 z.1.2.1, .i z.1.2.2]), (false, [.i z.2.1]), (false, [.b z.2.2])])
def Zs (s_ : (List Y5)) : Q2 := (s_, [], 1)
theorem specNewStore_a (s_ : (List Y5)) : ACalls Tryz.prog 11 [.h s_] (.a [.o 0 ((Zs s_).1), .o 1 ((Zs s_).2.1), .i ((Zs s_).2.2)]) := by
 refine en Qa Tryz.func11 fun w0 F0 hG => ?_
 refine sn Qa [0, 2] [2] (p0) ?_
 refine wT 0 0 .sh s_ (fun hw1 hl2 => ?_)
 refine tn Qa [2] [2] (po 2 (.flat) (px (ob_len (n := (([] : List (List PV)).length + ((eL s_) : List (List PV)).length)) (len_of (rfl) (X8 s_) (by first | omega | (simp only [List.length_cons, List.length_nil]; omega) | (simp; omega) | simp))) (px (Wi (Vv s_)) p0))) ?_
 refine opn [(true, 2, 1, true, 384000, 5)] ?_
 refine Qe ?_
 exact pz [] (show Zs s_ = (s_, [], 1) from rfl) (fun z => .a [.o 0 z.1, .o 1 z.2.1, .i z.2.2])
def Qq : (List Y5) := [((⟨#[97]⟩, 1) : Y5), ((⟨#[98]⟩, 1) : Y5), ((⟨#[110]⟩, 2) : Y5), ((⟨#[116]⟩, 2) : Y5)]
theorem specl03Usual_a : ACalls Tryz.prog 51 [] (.o 0 Qq) := by
 refine en Qa Tryz.func51 fun w0 F0 hG => ?_
 refine sn Qa [0] [] (p0) ?_
 refine tn Qa [0] [] (p0) ?_
 refine Qe ?_
 exact po0 [] (show Qq = [((⟨#[97]⟩, 1) : Y5), ((⟨#[98]⟩, 1) : Y5), ((⟨#[110]⟩, 2) : Y5), ((⟨#[116]⟩, 2) : Y5)] from rfl)
def Y7 (s_ : Q2) (id : Int) : Q2 × Bool := (bif ((!(Xi (Qh s_))) || decide ((Xe (Qh s_) id) < (0 : Int))) then ((Qh s_), false) else (((Qh s_).1, List.take (Int.toNat (Xe (Qh s_) id)) ((Qh s_).2.1) ++ (List.drop (Int.toNat ((Xe (Qh s_) id) + 1)) ((Qh s_).2.1)), (Qh s_).2.2), true))
theorem specDeleteFile_a (s_ : Q2) (id : Int) : ACalls Tryz.prog 151 [.a [.h s_.1, .h s_.2.1, .i s_.2.2], .i id] (.tup [(true, [.o 0 ((((Y7 s_ id)).1).1), .q 1 ((((Y7 s_ id)).1).2.1), .i ((((Y7 s_ id)).1).2.2)]), (false, [.b (((Y7 s_ id)).2)])]) := by
 refine en Qa Tryz.func151 fun w0 F0 hG => ?_
 refine sn Qa [1, 2, 4, 5] [2, 4] (p0) ?_
 refine tn Qa [1, 2, 4, 5] [2, 4] (pc 1 (specl05Copy_a s_) p0) ?_
 refine tu Qa [(2, .p 2 0), (4, .p 4 0), (5, .b false), (6, .i (Xe (Qh s_) id))] [0, 1] [(2, [.o 512 ((Qh s_).1), .o 513 ((Qh s_).2.1), .i ((Qh s_).2.2)]), (4, [.e 2, .e 5, .i 0])] [] (pc 2 (specl05Place_a (Qh s_) id) p0) ?_
 refine Qd ?_
 refine Qd ?_
 refine jn [(18, .b ((!(Xi (Qh s_))) || decide ((Xe (Qh s_) id) < (0 : Int))))] [] [] [] (!(Xi (Qh s_))) (fun h1 => ?_) (fun h1 => ?_) ?_
 ·
  have h1n : (Xi (Qh s_)) = false := bnot_t h1
  refine rn Qa [2, 4, 5, 6, 18] [2, 4] (pc 1 (cb h1n (Kj (Qh s_))) (pe 2 (show .b (!false) = .b true from rfl) p0)) ?_
  exact ⟨rfl, Qc (by rw [h1]; first | done | kernel_rfl)⟩
 ·
  have h1n : (Xi (Qh s_)) = true := Kg h1
  refine rn Qa [2, 4, 5, 6, 18] [2, 4] (pc 1 (cb h1n (Kj (Qh s_))) (pe 2 (show .b (!true) = .b false from rfl) p0)) ?_
  exact ⟨rfl, Qc (by rw [h1]; first | done | kernel_rfl)⟩
 refine ck ((!(Xi (Qh s_))) || decide ((Xe (Qh s_) id) < (0 : Int))) (fun h2 => ?_) (fun h2 => ?_)
 ·
  refine sn Qa [2, 4, 5, 6] [2, 4] (p0) ?_
  refine awp_demotes [513] rfl ?_
  refine Qe ?_
  exact pz [] (show Y7 s_ id = _ from Q4 h2 (rfl)) (fun z => .tup [(true, [.o 0 z.1.1, .q 1 z.1.2.1, .i z.1.2.2]), (false, [.b z.2])])
 ·
  have h2r : (decide ((Xe (Qh s_) id) < (0 : Int))) = false := or_r h2
  have h2rp := fat_ltS (Qh s_) id
  have h2rd := of_decide_eq_false h2r
  refine Qf ?_
  refine wB 2 1 (.own true 513) ((Qh s_).2.1) (fun hw3 hl4 => ?_)
  have hl5 : List.length (List.take (Int.toNat (Xe (Qh s_) id)) ((Qh s_).2.1)) ≤ 1073741824 := wide_len (wide_take (Int.toNat (Xe (Qh s_) id)) (hw3))
  have hl6 : List.length (List.drop (Int.toNat ((Xe (Qh s_) id) + 1)) ((Qh s_).2.1)) ≤ 1073741824 := wide_len (wide_drop (Int.toNat ((Xe (Qh s_) id) + 1)) (hw3))
  refine awp_weak (weak_freeze [513] rfl) ?_
  refine sU Qa Yr [] [6, 18] [(2, [.o 512 ((Qh s_).1), .slc (.own false 1984) 5 (([] ++ (eL (List.take (Int.toNat (Xe (Qh s_) id)) ((Qh s_).2.1)))) ++ (eL (List.drop (Int.toNat ((Xe (Qh s_) id) + 1)) ((Qh s_).2.1)))), .i ((Qh s_).2.2)])] [2] (pe 4 (av_take .sh 5 (Int.toNat (Xe (Qh s_) id)) (Xe (Qh s_) id) ((Qh s_).2.1) rfl) (px (ob_rng (lo := 0) (hi := (Xe (Qh s_) id)) (n := (List.length (eL ((Qh s_).2.1)))) (rng_of (by omega) (by omega) (by omega))) (px (ob_len (n := (([] : List (List PV)).length + ((eL (List.take (Int.toNat (Xe (Qh s_) id)) ((Qh s_).2.1))) : List (List PV)).length)) (len_of (rfl) (X8 (List.take (Int.toNat (Xe (Qh s_) id)) ((Qh s_).2.1))) (by first | omega | (simp only [List.length_cons, List.length_nil]; omega) | (simp; omega) | simp))) (pe 9 (Zq (IntWalk.i64_in ((Xe (Qh s_) id) + 1) (by omega))) (pe 10 (av_drop .sh 5 (Int.toNat ((Xe (Qh s_) id) + 1)) ((Xe (Qh s_) id) + 1) ((Qh s_).2.1) rfl) (px (ob_rng (lo := ((Xe (Qh s_) id) + 1)) (hi := (((eL ((Qh s_).2.1)) : List (List PV)).length : Int)) (n := (List.length (eL ((Qh s_).2.1)))) (rng_all (by omega) (by omega))) (px (ob_len (n := ((([] ++ (eL (List.take (Int.toNat (Xe (Qh s_) id)) ((Qh s_).2.1)))) : List (List PV)).length + ((eL (List.drop (Int.toNat ((Xe (Qh s_) id) + 1)) ((Qh s_).2.1))) : List (List PV)).length)) (by simp [X8]; omega)) p0))))))) ?_
  refine eqn [] [] [(2, [.o 512 ((Qh s_).1), .q 1984 (List.take (Int.toNat (Xe (Qh s_) id)) ((Qh s_).2.1) ++ (List.drop (Int.toNat ((Xe (Qh s_) id) + 1)) ((Qh s_).2.1))), .i ((Qh s_).2.2)])] [2] (by rw [show (([] ++ (eL (List.take (Int.toNat (Xe (Qh s_) id)) ((Qh s_).2.1)))) ++ (eL (List.drop (Int.toNat ((Xe (Qh s_) id) + 1)) ((Qh s_).2.1)))) = (eL (List.take (Int.toNat (Xe (Qh s_) id)) ((Qh s_).2.1) ++ (List.drop (Int.toNat ((Xe (Qh s_) id) + 1)) ((Qh s_).2.1)))) from Kc (rfl) (rfl)]; first | done | kernel_rfl) ?_
  refine sn Qa [4, 5] [4] (p0) ?_
  refine Qe ?_
  exact pz [] (show Y7 s_ id = _ from Qk h2 (rfl)) (fun z => .tup [(true, [.o 0 z.1.1, .q 1 z.1.2.1, .i z.1.2.2]), (false, [.b z.2])])
end Go.Proofs.YtcnkkobgogmakaaGreat
namespace Go.Proofs.YtcnkkobgogmakaaGreat
open Go.RowKit
structure VS (s : Q2) : Prop where
  sch : Zn s.1 = true
  len : s.2.1.length ≤ 12
  nx1 : 1 ≤ s.2.2
  nx2 : s.2.2 ≤ 61
  file : ∀ (i : Nat) (a : Xy), s.2.1[i]? = some a → Xq s.1 a = true ∧ a.1 < s.2.2
  asc : ∀ (i : Nat) (a b : Xy), s.2.1[i]? = some a → s.2.1[i+1]? = some b → a.1 < b.1
theorem vs_valid {s : Q2} (h : VS s) : Xi s = true := by
  unfold Xi
  rw [forL_of_all (l := s.2.1) (k := 0) (fun i a hi => ?_)]
  · have h1 := h.len
    have h2 := h.nx1
    have h3 := h.nx2
    simp only [Out.on, Q1, h.sch, Bool.true_and]
    rw [decide_eq_true (show (s.2.1.length : Int) ≤ 12 by omega), decide_eq_true (show s.2.2 ≥ 1 from h2), decide_eq_true (show s.2.2 ≤ 61 from h3)]
    rfl
  · obtain ⟨h1, h2⟩ := h.file i a hi
    unfold Kw
    rw [h1, decide_eq_false (show ¬ a.1 ≥ s.2.2 by omega)]
    have e2 : (decide (((0 + i : Nat) : Int) > 0) && decide ((nth s.2.1 (Int.toNat (((0 + i : Nat) : Int) - 1))).1 ≥ a.1)) = false := by
      by_cases hp : 0 < i
      · have hlt : i - 1 < s.2.1.length := by have := (List.getElem?_eq_some_iff.1 hi).1; omega
        have h3 := h.asc (i - 1) _ a (Ur hlt) (by rw [show i - 1 + 1 = i by omega]; exact hi)
        rw [show Int.toNat (((0 + i : Nat) : Int) - 1) = i - 1 by omega, decide_eq_false (show ¬ (nth s.2.1 (i - 1)).1 ≥ a.1 by omega), Bool.and_false]
      · obtain rfl : i = 0 := by omega
        rfl
    rw [e2]
    rfl
theorem copyFilesS (l : List Xy) : ∀ (k : Nat) (s : List Xy), Xp specl05Copy_f0 specl05Copy_e0 l k s = .brk (s ++ l) := fun k s => by
  rw [forL_map (f := specl05Copy_f0) (e := specl05Copy_e0) (g := id) (fun _ _ _ => rfl), List.map_id]
  rfl
theorem copyS (s : Q2) : Qh s = s := by
  unfold Qh
  rw [copyFilesS]
  rfl
theorem vs_push {s : Q2} {f : Xy} (h : VS s) (hl : s.2.1.length < 12) (hn : s.2.2 ≤ 60) (hf : Xq s.1 (s.2.2, f.2) = true) : VS (s.1, s.2.1 ++ [(s.2.2, f.2)], s.2.2 + 1) := by
  have hcase : ∀ (i : Nat) (a : Xy), (s.2.1 ++ [((s.2.2, f.2) : Xy)])[i]? = some a → s.2.1[i]? = some a ∨ (i = s.2.1.length ∧ a = (s.2.2, f.2)) := fun i a hi => by
    rw [List.getElem?_append] at hi
    split at hi
    · exact .inl hi
    · right
      rename_i hge
      have : i - s.2.1.length = 0 := by
        have := (List.getElem?_eq_some_iff.1 hi).1
        simp at this; omega
      rw [this] at hi
      exact ⟨by omega, (Option.some.inj hi).symm⟩
  refine ⟨h.sch, by simp; omega, by have := h.nx1; show 1 ≤ s.2.2 + 1; omega, by show s.2.2 + 1 ≤ 61; omega, fun i a hi => ?_, fun i a b ha hb => ?_⟩
  · show Xq s.1 a = true ∧ a.1 < s.2.2 + 1
    rcases hcase i a hi with hi | ⟨_, rfl⟩
    · obtain ⟨h1, h2⟩ := h.file i a hi
      exact ⟨h1, by omega⟩
    · exact ⟨hf, by show s.2.2 < s.2.2 + 1; omega⟩
  · rcases hcase i a ha with ha | ⟨h1, rfl⟩
    · rcases hcase (i + 1) b hb with hb | ⟨_, rfl⟩
      · exact h.asc i a b ha hb
      · exact (h.file i a ha).2
    · rcases hcase (i + 1) b hb with hb | ⟨h2, _⟩
      · have := (List.getElem?_eq_some_iff.1 hb).1; omega
      · omega
theorem createS {s : Q2} {f : Xy} (h : VS s) (hl : s.2.1.length < 12) (hn : s.2.2 ≤ 60) (hf : Xq s.1 (s.2.2, f.2) = true) : X0 s f = ((s.1, s.2.1 ++ [(s.2.2, f.2)], s.2.2 + 1), s.2.2, true) := by
  unfold X0
  rw [copyS, vs_valid h, decide_eq_false (show ¬ (s.2.1.length : Int) ≥ 12 by omega)]
  have hf' : Xq s.1 (s.2.2, (Ql f).2.1, (Ql f).2.2.1, (Ql f).2.2.2.1, (Ql f).2.2.2.2) = true := hf
  have h1 := h.nx1
  rw [hf', IntWalk.i64_in _ (show _ ∧ _ by omega)]
  rfl
theorem vf_id {s : List Y5} {f : Xy} (h : Xq s f = true) : 1 ≤ f.1 ∧ f.1 ≤ 60 := by
  unfold Xq at h
  cases hl : Xp (Yt s f) Z6 f.2.2.2.2 0 () with
  | brk t =>
    rw [hl] at h
    simp only [Out.on, Bool.and_eq_true, Q1, decide_eq_true_eq] at h
    exact h.2.1
  | ret r =>
    rw [hl] at h
    obtain rfl : r = true := h
    exfalso
    have key : ∀ (l : List AttrD) k, Xp (Yt s f) Z6 l k () ≠ .ret true := by
      intro l
      induction l with
      | nil => intro k h; simp [Xp] at h
      | cons a l ih =>
        intro k h
        simp only [Xp] at h
        unfold Yt at h
        split at h
        · exact ih _ h
        · cases h
        · rename_i r hf; cases h; revert hf; generalize (_ || _ : Bool) = c; cases c <;> simp
    exact key _ _ hl
theorem create_vs {s : Q2} (f : Xy) (h : VS s) : VS (X0 s f).1 ∧ (X0 s f).1.1 = s.1 ∧ (X0 s f).1.2.1.length ≤ s.2.1.length + 1 ∧ s.2.1.length ≤ (X0 s f).1.2.1.length ∧ (X0 s f).1.2.2 ≤ s.2.2 + 1 := by
  by_cases hc : s.2.1.length < 12 ∧ Xq s.1 (s.2.2, f.2) = true
  · have hn : s.2.2 ≤ 60 := (vf_id hc.2).2
    rw [createS h hc.1 hn hc.2]
    exact ⟨vs_push h hc.1 hn hc.2, rfl, by simp, by simp, Int.le_refl _⟩
  · have e : (X0 s f).1 = s := by
      unfold X0
      rw [copyS, vs_valid h]
      by_cases h1 : s.2.1.length < 12
      · have h2 : Xq s.1 (s.2.2, f.2) ≠ true := fun h2 => hc ⟨h1, h2⟩
        have h3 : Xq s.1 (s.2.2, (Ql f).2.1, (Ql f).2.2.1, (Ql f).2.2.2.1, (Ql f).2.2.2.2) = false := Bool.eq_false_iff.2 h2
        rw [h3]
        simp
      · rw [decide_eq_true (show (s.2.1.length : Int) ≥ 12 by omega)]
        simp
    rw [e]
    exact ⟨h, rfl, by omega, by omega, by omega⟩
theorem delete_vs {s : Q2} (id : Int) (h : VS s) : VS (Y7 s id).1 ∧ (Y7 s id).1.1 = s.1 ∧ (Y7 s id).1.2.1.length ≤ s.2.1.length ∧ (Y7 s id).1.2.2 = s.2.2 := by
  unfold Y7
  rw [copyS, vs_valid h]
  by_cases hc : Xe s id < 0
  · rw [decide_eq_true hc]
    exact ⟨h, rfl, Nat.le_refl _, rfl⟩
  · rw [decide_eq_false hc]
    simp only [Bool.not_true, Bool.or_false, cond_false]
    have hb := fat_ltS s id
    generalize Xe s id = p at hc hb
    obtain ⟨k, rfl⟩ : ∃ k : Nat, p = (k : Int) := ⟨p.toNat, by omega⟩
    have e2 : Int.toNat ((k : Int) + 1) = k + 1 := by omega
    rw [e2, Int.toNat_natCast]
    have hk : k < s.2.1.length := by omega
    have hget : ∀ (i : Nat) (a : Xy), (List.take k s.2.1 ++ List.drop (k + 1) s.2.1)[i]? = some a → s.2.1[if i < k then i else i + 1]? = some a := fun i a hi => by
      rw [List.getElem?_append, List.length_take, Nat.min_eq_left (by omega)] at hi
      split at hi
      · rename_i hlt
        rw [if_pos hlt]
        rwa [List.getElem?_take_of_lt hlt] at hi
      · rename_i hge
        rw [if_neg hge]
        rw [List.getElem?_drop] at hi
        rwa [show k + 1 + (i - k) = i + 1 by omega] at hi
    refine ⟨⟨h.sch, ?_, h.nx1, h.nx2, fun i a hi => h.file _ a (hget i a hi), fun i a b ha hb => ?_⟩, trivial, ?_, trivial⟩
    · have := h.len
      show (List.take k s.2.1 ++ List.drop (k + 1) s.2.1).length ≤ 12
      simp; omega
    · have ha := hget i a ha
      have hb := hget (i + 1) b hb
      by_cases h1 : i + 1 < k
      · rw [if_pos (by omega)] at ha
        rw [if_pos h1] at hb
        exact h.asc i a b ha hb
      · rw [if_neg h1] at hb
        by_cases h2 : i < k
        · rw [if_pos h2] at ha
          have hm : k < s.2.1.length := hk
          have h3 := h.asc i a _ ha (by rw [show i + 1 = k by omega]; exact Ur hm)
          have h4 := h.asc k _ b (Ur hm) (by rw [show k + 1 = i + 1 + 1 by omega]; exact hb)
          omega
        · rw [if_neg h2] at ha
          exact h.asc (i + 1) a b ha hb
    · show (List.take k s.2.1 ++ List.drop (k + 1) s.2.1).length ≤ s.2.1.length
      simp; omega
end Go.Proofs.YtcnkkobgogmakaaGreat
namespace Go.Proofs.YtcnkkobgogmakaaGreat
open Go.RowKit
theorem whl_noret {R S T : Type} {f : S → Rd R S T} (hf : ∀ s r, f s ≠ .ret r) : ∀ n s r, whl f n s ≠ some (.ret r)
  | 0, _, _ => by simp [whl]
  | n + 1, s, r => by
    simp only [whl]
    cases h : f s with
    | next s' => exact whl_noret hf n s' r
    | brk t => simp
    | ret r' => exact absurd h (hf s r')
theorem whlD_brk {R S T : Type} [Inhabited T] {f : S → Rd R S T} (hf : ∀ s r, f s ≠ .ret r) (n : Nat) (s : S) : ∃ t, whlD f n s = .brk t := by
  unfold whlD
  cases h : whl f n s with
  | none => exact ⟨default, rfl⟩
  | some o =>
    cases o with
    | brk t => exact ⟨t, rfl⟩
    | ret r => exact absurd h (whl_noret hf n s r)
theorem whl_inv {R S T : Type} {f : S → Rd R S T} (I : S → Prop) (J : T → Prop) (hn : ∀ s s', I s → f s = .next s' → I s') (hb : ∀ s t, I s → f s = .brk t → J t) : ∀ n s t, I s → whl f n s = some (.brk t) → J t
  | 0, _, _, _, h => by simp [whl] at h
  | n + 1, s, t, hi, h => by
    simp only [whl] at h
    cases hs : f s with
    | next s' => rw [hs] at h; exact whl_inv I J hn hb n s' t (hn s s' hi hs) h
    | brk t' =>
      rw [hs] at h
      obtain rfl : t' = t := by simpa using h
      exact hb s t' hi hs
    | ret r => rw [hs] at h; simp at h
theorem whlD_inv {R S T : Type} [Inhabited T] {f : S → Rd R S T} (I : S → Prop) (J : T → Prop) (hn : ∀ s s', I s → f s = .next s' → I s') (hb : ∀ s t, I s → f s = .brk t → J t) {n : Nat} {s : S} {t : T} (hi : I s) (hw : (whl f n s).isSome = true) (h : whlD f n s = .brk t) : J t :=
  whl_inv I J hn hb n s t hi (by rw [whl_some hw, h])
theorem forL_noret {α R S T : Type} {f : Nat → α → S → Rd R S T} {e : Nat → S → T} (hf : ∀ k a s r, f k a s ≠ .ret r) : ∀ (l : List α) (k : Nat) (s : S), ∃ t, Xp f e l k s = .brk t
  | [], k, s => ⟨_, rfl⟩
  | a :: l, k, s => by
    simp only [Xp]
    cases h : f k a s with
    | next s' => exact forL_noret hf l (k + 1) s'
    | brk t => exact ⟨t, rfl⟩
    | ret r => exact absurd h (hf k a s r)
theorem forN_inv {R S T : Type} {f : Nat → S → Rd R S T} {e : Nat → S → T} (I : Nat → S → Prop) (hn : ∀ k s, I k s → ∃ s', f k s = .next s' ∧ I (k + 1) s') : ∀ (n k : Nat) (s : S), I k s → ∃ s', Vw f e n k s = .brk (e (k + n) s') ∧ I (k + n) s'
  | 0, k, s, h => ⟨s, rfl, h⟩
  | n + 1, k, s, h => by
    obtain ⟨s', h1, h2⟩ := hn k s h
    obtain ⟨t, h3, h4⟩ := forN_inv I hn n (k + 1) s' h2
    rw [show k + 1 + n = k + (n + 1) by omega] at h3 h4
    exact ⟨t, by simp only [Vw, h1]; exact h3, h4⟩
theorem whl_upI {R S T : Type} {f : S → Rd R S T} (I : S → Prop) (m : S → Int) (N : Int) (h : ∀ s s', I s → f s = .next s' → m s < N ∧ m s' = m s + 1 ∧ I s') : ∀ (n : Nat) (s : S), I s → N ≤ m s + n → (whl f (n + 1) s).isSome = true
  | 0, s, hi, hn => by
    simp only [whl]
    cases hs : f s with
    | next s' => have := (h s s' hi hs).1; omega
    | brk t => rfl
    | ret r => rfl
  | n + 1, s, hi, hn => by
    rw [whl]
    cases hs : f s with
    | next s' =>
      obtain ⟨h1, h2, h3⟩ := h s s' hi hs
      exact whl_upI I m N h n s' h3 (by omega)
    | brk t => rfl
    | ret r => rfl
theorem lt_any {α R : Type} {t : α} {f : α → R} {P : R → Prop} (Q : α → Prop) (h : Q t) (k : ∀ x, Q x → P (f x)) : P (lt t f) := k t h
open GoE (enc wide)
def Yk (code : (List UInt8)) (ci : Nat) (ch : Int) (n : Int) : Bool × Nat × Int := (lt (α := Int × Nat × Int) (Qg code ci ch n) (fun x1 => ((x1.1 == (0 : Int)), x1.2.1, x1.2.2)))
theorem Km (code : (List UInt8)) (ci : Nat) (ch : Int) (n : Int) : AGive Tryz.prog 114 [.h code, .i ((ci : Nat) : Int), .i ch] [.i n] (.b (((Yk code ci ch n)).1)) [.h code, .i ((((Yk code ci ch n)).2.1 : Nat) : Int), .i (((Yk code ci ch n)).2.2)] := by
 refine Jx (tt := tt) Qa Tryz.func114 (fn := Tryz.f114) rfl (by unfold FnOk; kernel_rfl) (Nat.le_of_ble_eq_true rfl) (Nat.le_of_ble_eq_true rfl) rfl rfl fun w0 F0 hG => ?_
 refine sn Qa [0, 1, 4] [60000] (p0) ?_
 obtain ⟨x1, hx1⟩ : ∃ z : Int × Nat × Int, Qg code ci ch n = z := ⟨_, rfl⟩
 have hbx1 := hx1 ▸ Qt code ci ch n
 refine tn Qa [0, 4] [60000] (po 2 (.give none (.i x1.1) [.h code, .i ((x1.2.1 : Nat) : Int), .i x1.2.2]) (px (Q0 (hx1 ▸ Q3 code ci ch n)) p0)) ?_
 refine Qe ?_
 have hE2 : Yk code ci ch n = ((x1.1 == (0 : Int)), x1.2.1, x1.2.2) := Yh hx1 (rfl)
 exact Uk [] (congrArg (fun z => (.b z.1 : AV)) hE2.symm) (congrArg (fun z => ([.h code, .i ((z.2.1 : Nat) : Int), .i z.2.2] : List C)) hE2.symm)
def Xw (n : Int) : Vp := (1, n, ⟨#[]⟩)
theorem Um (n : Int) : ACalls Tryz.prog 10 [.i n] (.a [.i ((Xw n).1), .i ((Xw n).2.1), .s ((Xw n).2.2)]) := by
 refine en Qa Tryz.func10 fun w0 F0 hG => ?_
 refine sn Qa [0, 2] [2] (p0) ?_
 refine tn Qa [2] [2] (p0) ?_
 refine Qe ?_
 exact pz [] (show Xw n = (1, n, ⟨#[]⟩) from rfl) (fun z => .a [.i z.1, .i z.2.1, .s z.2.2])
def specSetAttr_f0 (name : ByteArray) (_ : Nat) (a0 : AttrD) (s0 : (List AttrD)) : Rd (Xy) ((List AttrD)) ((List AttrD)) := (bif (!(a0.1.toList == name.toList)) then (.next (s0 ++ [a0])) else (.next s0))
def Un (_ : Nat) (s0 : (List AttrD)) : (List AttrD) := s0
def Uo (name : ByteArray) (k1 : Nat) (a1 : AttrD) (_ : Unit) : Rd (Xy) (Unit) (Int) := (bif (Op.bytesLess a1.1.toList name.toList || a1.1.toList == name.toList) then (.next ()) else (.brk ((k1 : Nat) : Int)))
def specSetAttr_e1 (k1 : Nat) (_ : Unit) : Int := ((k1 : Nat) : Int)
def Xb (f : Xy) (name : ByteArray) (v : Vp) : Xy := (Out.on (Xp (specSetAttr_f0 name) Un f.2.2.2.2 0 []) (fun y0 => (bif (v.1 != (0 : Int)) then (Out.on (Xp (Uo name) specSetAttr_e1 y0 0 ()) (fun y1 => (f.1, f.2.1, f.2.2.1, f.2.2.2.1, List.take (Int.toNat y1) y0 ++ [(name, v)] ++ (List.drop (Int.toNat y1) y0)))) else (f.1, f.2.1, f.2.2.1, f.2.2.2.1, y0))))
theorem setAttrS_len (f : Xy) (name : ByteArray) (v : Vp) : List.length (Xb f name v).2.2.2.2 ≤ List.length f.2.2.2.2 + 1 := by
  unfold Xb
  rw [forL_filter (f := specSetAttr_f0 name) (e := Un) (p := fun a => !(a.1.toList == name.toList)) (g := id) (fun _ _ _ => rfl)]
  simp only [Out.on, Un, List.nil_append, List.map_id]
  have hf := List.length_filter_le (fun a : AttrD => !(a.1.toList == name.toList)) f.2.2.2.2
  generalize List.filter (fun a : AttrD => !(a.1.toList == name.toList)) f.2.2.2.2 = l at hf
  cases (v.1 != (0 : Int)) with
  | false => exact Nat.le_succ_of_le hf
  | true =>
    simp only [cond_true]
    obtain ⟨t, ht⟩ := forL_noret (f := Uo name) (e := specSetAttr_e1) (fun k a s r => by
      unfold Uo
      generalize (Op.bytesLess a.1.toList name.toList || a.1.toList == name.toList) = c
      cases c <;> simp) l 0 ()
    rw [ht]
    · show (List.take (Int.toNat t) l ++ [(name, v)] ++ List.drop (Int.toNat t) l).length ≤ _
      simp
      omega
theorem join_attr {c : Bool} {α : Type} {t : α} {F : Xy} {nm : ByteArray} {V : α → Vp} {A : α → Nat × Int} {B : Nat × Int} : List.length (bif c then lt t (fun x => (Xb F nm (V x), A x)) else (F, B)).1.2.2.2.2 ≤ F.2.2.2.2.length + 1 := by
 cases c with
 | true => exact setAttrS_len _ _ _
 | false => exact Nat.le_succ _
theorem specSetAttr_a (f : Xy) (name : ByteArray) (v : Vp) (hp : List.length f.2.2.2.2 ≤ 1073741000) : ACalls Tryz.prog 13 [.a [.i f.1, .i f.2.1, .b f.2.2.1, .i f.2.2.2.1, .h f.2.2.2.2], .s name, .a [.i v.1, .i v.2.1, .s v.2.2]] (.a [.i ((Xb f name v).1), .i ((Xb f name v).2.1), .b ((Xb f name v).2.2.1), .i ((Xb f name v).2.2.2.1), .o 0 ((Xb f name v).2.2.2.2)]) := by
 refine en Qa Tryz.func13 fun w0 F0 hG => ?_
 refine sn Qa [1, 3, 5, 6] [3, 5, 6] (p0) ?_
 refine tn Qa [1, 3, 5, 6, 7] [3, 5, 6] (p0) ?_
 refine Qd ?_
 refine tu Qa [(3, .p 3 0), (5, .p 5 0), (6, .p 6 0), (7, .one (.slc (.own true 704) 4 [])), (8, .i 0)] [0, 2] [(3, [.i f.1, .i f.2.1, .b f.2.2.1, .i f.2.2.2.1, .h f.2.2.2.2]), (5, [.i v.1, .i v.2.1, .s v.2.2]), (6, [.i 0, .i 0, .b false, .i 0, .e 4])] [] (p0) ?_
 refine wB 3 4 .sh f.2.2.2.2 (fun hw1 hl2 => ?_)
 refine blL3 (specSetAttr_f0 name) Un f.2.2.2.2 [] (fun k0 s0 => [(7, .o 147204 s0), (8, .i ((k0 : Nat) : Int))]) [7, 8] (fun y0 => [(7, .o 147354 y0)]) [7, 8] (fun k0 s0 => List.length s0 ≤ k0) (fun y0 => List.length y0 ≤ List.length f.2.2.2.2) (Xx [(704, 147204)] (by kernel_rfl)) (by simp) (fun k0 s0 hk0 hI0 => ?_) (fun k0 s0 hk0 hI0 => ?_) (fun y0 hD0 => ?_)
 ·
  have hA0_0 := hI0.2
  obtain ⟨a0, hx0⟩ := Xl (l := f.2.2.2.2) (i := k0) hk0
  refine Qd ?_
  refine su Qa [(16, .b true)] [] [] [] (pl 3 f.2.2.2.2 (pe 4 (Qs (decide_eq_true (p := ((k0 : Nat) : Int) < (f.2.2.2.2.length : Int)) (by omega))) p0)) ?_
  refine ckT ?_
  refine Qf ?_
  refine Qd ?_
  refine Qr ?_
  refine sn Qa [1, 3, 5, 6, 7, 8, 26] [3, 5, 6] (pn 3 hx0 p0) ?_
  refine ck (!(a0.1.toList == name.toList)) (fun h3 => ?_) (fun h3 => ?_)
  ·
   refine wT 7 0 (.own true 147204) s0 (fun hw4 hl5 => ?_)
   refine qu Qa [(7, .one (.slc (.own true 2176) 4 ((eL s0) ++ [[.s a0.1, .i a0.2.1, .i a0.2.2.1, .s a0.2.2.2]])))] [7, 16] [] [] (pn 4 hx0 (pa s0 [a0] p0)) ?_
   refine eqn [(7, .o 2176 (s0 ++ [a0]))] [7] [] [] (by rw [show ((eL s0) ++ [[.s a0.1, .i a0.2.1, .i a0.2.2.1, .s a0.2.2.2]]) = (eL (s0 ++ [a0])) from Kc (rfl) (rfl)]; first | done | kernel_rfl) ?_
   refine rn Qa [1, 3, 5, 6, 7, 8] [3, 5, 6] (pe 1 (Zq (Qu k0 (by omega))) p0) ?_
   exact Exists.intro (s0 ++ [a0]) (And.intro (Xx [(2176, 147204)] (by kernel_rfl)) ⟨Qv hx0 (Q4 h3 (rfl)) hI0.1, by first | omega | (simp; omega) | simp⟩)
  ·
   refine Qf ?_
   refine qn Qa [1, 3, 5, 6, 7, 8] [3, 5, 6] (pe 1 (Zq (Qu k0 (by omega))) p0) ?_
   exact Exists.intro s0 (And.intro (Qc (by kernel_rfl)) ⟨Qv hx0 (Qk h3 (rfl)) hI0.1, by first | omega | (simp; omega) | simp⟩)
 ·
  have hA0_0 := hI0.2
  refine Qd ?_
  refine su Qa [(16, .b false)] [] [] [] (pl 3 f.2.2.2.2 (pe 4 (Qs (decide_eq_false (p := ((k0 : Nat) : Int) < (f.2.2.2.2.length : Int)) (by omega))) p0)) ?_
  refine ckF ?_
  refine Qz ?_
  exact Exists.intro s0 (And.intro (Xx [(147204, 147354)] (by kernel_rfl)) ⟨Xm hk0 (rfl) hI0.1, by first | omega | (simp only [List.length_set]; omega)⟩)
 ·
  have hD0_0 := hD0.2
  refine Qd ?_
  refine sn Qa [1, 3, 5, 6, 7, 37] [3, 5, 6] (p0) ?_
  refine ck (v.1 != (0 : Int)) (fun h6 => ?_) (fun h6 => ?_)
  ·
   have h6d := ne_of_bne h6
   refine tu Qa [(9, .i 0)] [] [] [] (p0) ?_
   refine Qd ?_
   refine wT 7 0 (.own true 147354) y0 (fun hw7 hl8 => ?_)
   refine blL2 (Uo name) specSetAttr_e1 y0 () (fun k1 _ => [(9, .i ((k1 : Nat) : Int))]) [9] (fun y1 => [(9, .i y1)]) [9] (fun y1 => 0 ≤ y1 ∧ y1 ≤ (y0.length : Int)) (Qc (by kernel_rfl)) (fun k1 s1 hk1 hI1 => ?_) (fun k1 s1 hk1 hI1 => ?_) (fun y1 hD1 => ?_)
   ·
    obtain ⟨a1, hx1⟩ := Xl (l := y0) (i := k1) hk1
    refine Qd ?_
    refine sn Qa [1, 3, 5, 6, 7, 9, 50] [3, 5, 6] (pl 2 y0 (pe 3 (Qs (decide_eq_true (p := ((k1 : Nat) : Int) < (y0.length : Int)) (by omega))) (pN 7 hx1 p0))) ?_
    refine ck (Op.bytesLess a1.1.toList name.toList || a1.1.toList == name.toList) (fun h9 => ?_) (fun h9 => ?_)
    ·
     refine Qf ?_
     refine Qr ?_
     refine qn Qa [1, 3, 5, 6, 7, 9] [3, 5, 6] (pe 1 (Zq (Qu k1 (by omega))) p0) ?_
     exact Exists.intro _ (And.intro (Qc (by kernel_rfl)) (Qv hx1 (Q4 h9 (rfl)) hI1))
    ·
     refine Qz ?_
     exact Exists.intro ((k1 : Nat) : Int) (And.intro (Qc (by kernel_rfl)) ⟨forL_brk hx1 (Qk h9 (rfl)) hI1, by first | omega | (simp only [List.length_set]; omega)⟩)
   ·
    refine Qd ?_
    refine su Qa [(50, .b false)] [] [] [] (pl 2 y0 (pe 3 (Qs (decide_eq_false (p := ((k1 : Nat) : Int) < (y0.length : Int)) (by omega))) p0)) ?_
    refine ckF ?_
    refine Qz ?_
    exact Exists.intro ((k1 : Nat) : Int) (And.intro (Qc (by kernel_rfl)) ⟨Xm hk1 (rfl) hI1, by first | omega | (simp only [List.length_set]; omega)⟩)
   ·
    have hD1_0 := hD1.2
    have hl10 : List.length (List.take (Int.toNat y1) y0) ≤ 1073741824 := wide_len (wide_take (Int.toNat y1) (hw7))
    refine sU Qa Yr [(10, .one (.slc (.own true 3968) 4 (([] ++ (eL (List.take (Int.toNat y1) y0))) ++ [[.s name, .i v.1, .i v.2.1, .s v.2.2]])))] [1, 5] [] [5] (pe 3 (av_take (.vw 147354) 4 (Int.toNat y1) y1 y0 rfl) (px (ob_rng (lo := 0) (hi := y1) (n := (List.length (eL y0))) (rng_of (by omega) (by omega) (by omega))) (po 4 (.flat) (px (ob_len (n := (([] : List (List PV)).length + ((eL (List.take (Int.toNat y1) y0)) : List (List PV)).length)) (len_of (rfl) (X8 (List.take (Int.toNat y1) y0)) (by first | omega | (simp only [List.length_cons, List.length_nil]; omega) | (simp; omega) | simp))) (px (Wi (Vv (List.take (Int.toNat y1) y0))) (px (ob_len (n := ((([] ++ (eL (List.take (Int.toNat y1) y0))) : List (List PV)).length + ([[.s name, .i v.1, .i v.2.1, .s v.2.2]] : List (List PV)).length)) (by simp [X8]; omega)) p0)))))) ?_
    refine eqn [(10, .o 3968 (List.take (Int.toNat y1) y0 ++ [(name, v)]))] [10] [] [] (by rw [show (([] ++ (eL (List.take (Int.toNat y1) y0))) ++ [[.s name, .i v.1, .i v.2.1, .s v.2.2]]) = (eL (List.take (Int.toNat y1) y0 ++ [(name, v)])) from Kc (rfl) (rfl)]; first | done | kernel_rfl) ?_
    refine wT 10 0 (.own true 3968) (List.take (Int.toNat y1) y0 ++ [(name, v)]) (fun hw11 hl12 => ?_)
    have hl13 : List.length (List.drop (Int.toNat y1) y0) ≤ 1073741824 := wide_len (wide_drop (Int.toNat y1) (hw7))
    refine ru Qa [(7, .one (.slc (.own true 4288) 4 ((eL (List.take (Int.toNat y1) y0 ++ [(name, v)])) ++ (eL (List.drop (Int.toNat y1) y0)))))] [7, 9, 10] [] [] (pe 3 (av_drop (.vw 147354) 4 (Int.toNat y1) y1 y0 rfl) (px (ob_rng (lo := y1) (hi := (((eL y0) : List (List PV)).length : Int)) (n := (List.length (eL y0))) (rng_all (by omega) (by omega))) (po 4 (.flat) (pa (List.take (Int.toNat y1) y0 ++ [(name, v)]) (List.drop (Int.toNat y1) y0) (px (Wi (Vv (List.drop (Int.toNat y1) y0))) p0))))) ?_
    refine eqn [(7, .o 4288 (List.take (Int.toNat y1) y0 ++ [(name, v)] ++ (List.drop (Int.toNat y1) y0)))] [7] [] [] (by rw [show ((eL (List.take (Int.toNat y1) y0 ++ [(name, v)])) ++ (eL (List.drop (Int.toNat y1) y0))) = (eL (List.take (Int.toNat y1) y0 ++ [(name, v)] ++ (List.drop (Int.toNat y1) y0))) from Kc (rfl) (rfl)]; first | done | kernel_rfl) ?_
    refine sn Qa [3, 6] [3, 6] (p0) ?_
    refine tn Qa [6] [6] (p0) ?_
    refine Qe ?_
    exact pz [] (show Xb f name v = _ from V2 hD0.1 (Q4 h6 (V2 hD1.1 (rfl)))) (fun z => .a [.i z.1, .i z.2.1, .b z.2.2.1, .i z.2.2.2.1, .o 0 z.2.2.2.2])
  ·
   refine Qf ?_
   refine tn Qa [3, 6] [3, 6] (p0) ?_
   refine tu Qa [] [1, 3, 5, 7] [(6, [.i f.1, .i f.2.1, .b f.2.2.1, .i f.2.2.2.1, .o 147354 y0])] [3, 5, 6] (p0) ?_
   refine Qe ?_
   exact pz [] (show Xb f name v = _ from V2 hD0.1 (Qk h6 (rfl))) (fun z => .a [.i z.1, .i z.2.1, .b z.2.2.1, .i z.2.2.2.1, .o 0 z.2.2.2.2])
def X4 (code : (List UInt8)) (ci : Nat) (ch : Int) (list : (List ByteArray)) : ByteArray × Nat × Int := (lt (α := Int × Nat × Int) (Qg code ci ch (list.length : Int)) (fun x1 => ((nth list (Int.toNat x1.1)), x1.2.1, x1.2.2)))
theorem J6 (code : (List UInt8)) (ci : Nat) (ch : Int) (list : (List ByteArray)) (hp : 0 < List.length list) : AGive Tryz.prog 159 [.h code, .i ((ci : Nat) : Int), .i ch] [.h list] (.s (((X4 code ci ch list)).1)) [.h code, .i ((((X4 code ci ch list)).2.1 : Nat) : Int), .i (((X4 code ci ch list)).2.2)] := by
 refine Jx (tt := tt) Qa Tryz.func159 (fn := Tryz.f159) rfl (by unfold FnOk; kernel_rfl) (Nat.le_of_ble_eq_true rfl) (Nat.le_of_ble_eq_true rfl) rfl rfl fun w0 F0 hG => ?_
 refine sn Qa [0, 1, 4] [60000] (p0) ?_
 obtain ⟨x1, hx1⟩ : ∃ z : Int × Nat × Int, Qg code ci ch (list.length : Int) = z := ⟨_, rfl⟩
 have hbx1 := hx1 ▸ Qt code ci ch (list.length : Int)
 refine wT 1 0 .sh list (fun hw3 hl4 => ?_)
 have hx2 := ng list (Int.toNat x1.1)
 refine tn Qa [0, 4] [60000] (pl 3 list (po 4 (.give none (.i x1.1) [.h code, .i ((x1.2.1 : Nat) : Int), .i x1.2.2]) (px (Q0 (hx1 ▸ Q3 code ci ch (list.length : Int))) (pg 5 x1.1 hx2 p0)))) ?_
 refine Qe ?_
 have hE5 : X4 code ci ch list = ((nth list (Int.toNat x1.1)), x1.2.1, x1.2.2) := Yh hx1 (rfl)
 exact Uk [] (congrArg (fun z => (.s z.1 : AV)) hE5.symm) (congrArg (fun z => ([.h code, .i ((z.2.1 : Nat) : Int), .i z.2.2] : List C)) hE5.symm)
def Q7 (w : ByteArray) : Vp := (2, 0, w)
theorem Ub (w : ByteArray) : ACalls Tryz.prog 195 [.s w] (.a [.i ((Q7 w).1), .i ((Q7 w).2.1), .s ((Q7 w).2.2)]) := by
 refine en Qa Tryz.func195 fun w0 F0 hG => ?_
 refine sn Qa [0, 2] [2] (p0) ?_
 refine tn Qa [2] [2] (p0) ?_
 refine Qe ?_
 exact pz [] (show Q7 w = (2, 0, w) from rfl) (fun z => .a [.i z.1, .i z.2.1, .s z.2.2])
def Zw (code : (List UInt8)) (ci : Nat) (ch : Int) (id : Int) : Xy × Nat × Int := (lt (α := Int × Nat × Int) (Qg code ci ch 3) (fun x1 => (lt (α := Bool × Nat × Int) (Yk code x1.2.1 x1.2.2 2) (fun x2 => (lt (α := Bool × Nat × Int) (Yk code x2.2.1 x2.2.2 2) (fun x3 => (lt (α := Int × Nat × Int) (bif x3.1 then (lt (α := Int × Nat × Int) (Qg code x3.2.1 x3.2.2 7) (fun x4 => (x4.1, x4.2.1, x4.2.2))) else (0, x3.2.1, x3.2.2)) (fun x4 => (lt (α := Bool × Nat × Int) (Yk code x4.2.1 x4.2.2 4) (fun x7 => (lt (α := Xy × Nat × Int) (bif (!x7.1) then (lt (α := Int × Nat × Int) (Qg code x7.2.1 x7.2.2 4) (fun x8 => ((Xb (id, x1.1, x2.1, x4.1, []) ⟨#[97]⟩ (Xw x8.1)), x8.2.1, x8.2.2))) else ((id, x1.1, x2.1, x4.1, []), x7.2.1, x7.2.2)) (fun x8 => (lt (α := Bool × Nat × Int) (Yk code x8.2.1 x8.2.2 2) (fun x11 => (lt (α := Xy × Nat × Int) (bif x11.1 then (lt (α := Int × Nat × Int) (Qg code x11.2.1 x11.2.2 4) (fun x12 => ((Xb x8.1 ⟨#[98]⟩ (Xw x12.1)), x12.2.1, x12.2.2))) else (x8.1, x11.2.1, x11.2.2)) (fun x12 => (lt (α := Bool × Nat × Int) (Yk code x12.2.1 x12.2.2 3) (fun x15 => (lt (α := Xy × Nat × Int) (bif (!x15.1) then (lt (α := ByteArray × Nat × Int) (X4 code x15.2.1 x15.2.2 [⟨#[105, 110, 107]⟩, ⟨#[115, 101, 97]⟩]) (fun x16 => ((Xb x12.1 ⟨#[110]⟩ (Q7 x16.1)), x16.2.1, x16.2.2))) else (x12.1, x15.2.1, x15.2.2)) (fun x16 => (lt (α := Bool × Nat × Int) (Yk code x16.2.1 x16.2.2 2) (fun x19 => (bif x19.1 then (lt (α := ByteArray × Nat × Int) (X4 code x19.2.1 x19.2.2 [⟨#[114, 101, 100]⟩, ⟨#[98, 108, 117, 101]⟩]) (fun x21 => ((Xb x16.1 ⟨#[116]⟩ (Q7 x21.1)), x21.2.1, x21.2.2))) else (x16.1, x19.2.1, x19.2.2))))))))))))))))))))))))
theorem specl04File_a (code : (List UInt8)) (ci : Nat) (ch : Int) (id : Int) : AGive Tryz.prog 150 [.h code, .i ((ci : Nat) : Int), .i ch] [.i id] (.a [.i ((((Zw code ci ch id)).1).1), .i ((((Zw code ci ch id)).1).2.1), .b ((((Zw code ci ch id)).1).2.2.1), .i ((((Zw code ci ch id)).1).2.2.2.1), .o 0 ((((Zw code ci ch id)).1).2.2.2.2)]) [.h code, .i ((((Zw code ci ch id)).2.1 : Nat) : Int), .i (((Zw code ci ch id)).2.2)] := by
 refine Jx (tt := tt) Qa Tryz.func150 (fn := Tryz.f150) rfl (by unfold FnOk; kernel_rfl) (Nat.le_of_ble_eq_true rfl) (Nat.le_of_ble_eq_true rfl) rfl rfl fun w0 F0 hG => ?_
 refine sn Qa [0, 1, 4] [4, 60000] (p0) ?_
 obtain ⟨x1, hx1⟩ : ∃ z : Int × Nat × Int, Qg code ci ch 3 = z := ⟨_, rfl⟩
 have hbx1 := hx1 ▸ Qt code ci ch 3
 obtain ⟨x2, hx2⟩ : ∃ z : Bool × Nat × Int, Yk code x1.2.1 x1.2.2 2 = z := ⟨_, rfl⟩
 refine tn Qa [0, 4, 5] [4, 5, 60000] (po 2 (.give none (.i x1.1) [.h code, .i ((x1.2.1 : Nat) : Int), .i x1.2.2]) (px (Q0 (hx1 ▸ Q3 code ci ch 3)) (po 4 (.give none (.b x2.1) [.h code, .i ((x2.2.1 : Nat) : Int), .i x2.2.2]) (px (Q0 (hx2 ▸ Km code x1.2.1 x1.2.2 2)) p0)))) ?_
 refine Qd ?_
 obtain ⟨x3, hx3⟩ : ∃ z : Bool × Nat × Int, Yk code x2.2.1 x2.2.2 2 = z := ⟨_, rfl⟩
 refine tu Qa [(4, .p 4 0), (5, .p 5 0), (13, .b x3.1)] [1] [(4, [.i 0, .i 0, .b false, .i 0, .e 4]), (5, [.i id, .i x1.1, .b x2.1, .i 0, .e 4]), (60000, [.h code, .i ((x3.2.1 : Nat) : Int), .i x3.2.2])] [60000] (po 1 (.give none (.b x3.1) [.h code, .i ((x3.2.1 : Nat) : Int), .i x3.2.2]) (px (Q0 (hx3 ▸ Km code x2.2.1 x2.2.2 2)) p0)) ?_
 obtain ⟨x4, hx4⟩ : ∃ z : Int × Nat × Int, (bif x3.1 then (lt (α := Int × Nat × Int) (Qg code x3.2.1 x3.2.2 7) (fun x4 => (x4.1, x4.2.1, x4.2.2))) else (0, x3.2.1, x3.2.2)) = z := ⟨_, rfl⟩
 refine jn [] [13] [(5, [.i id, .i x1.1, .b x2.1, .i x4.1, .e 4]), (60000, [.h code, .i ((x4.2.1 : Nat) : Int), .i x4.2.2])] [5, 60000] x3.1 (fun h5 => ?_) (fun h5 => ?_) ?_
 ·
  refine ckt h5 ?_
  obtain ⟨x6, hx6⟩ : ∃ z : Int × Nat × Int, Qg code x3.2.1 x3.2.2 7 = z := ⟨_, rfl⟩
  have hbx6 := hx6 ▸ Qt code x3.2.1 x3.2.2 7
  refine rn Qa [0, 4, 5] [4, 5, 60000] (po 1 (.give none (.i x6.1) [.h code, .i ((x6.2.1 : Nat) : Int), .i x6.2.2]) (px (Q0 (hx6 ▸ Q3 code x3.2.1 x3.2.2 7)) p0)) ?_
  obtain rfl : x4 = (x6.1, x6.2.1, x6.2.2) := hx4.symm.trans (show (bif x3.1 then (lt (α := Int × Nat × Int) (Qg code x3.2.1 x3.2.2 7) (fun x4 => (x4.1, x4.2.1, x4.2.2))) else (0, x3.2.1, x3.2.2)) = (x6.1, x6.2.1, x6.2.2) from Q4 h5 (Yh hx6 (rfl)))
  exact ⟨rfl, Qc (by kernel_rfl)⟩
 ·
  refine ckf h5 ?_
  refine Qf ?_
  obtain rfl : x4 = (0, x3.2.1, x3.2.2) := hx4.symm.trans (show (bif x3.1 then (lt (α := Int × Nat × Int) (Qg code x3.2.1 x3.2.2 7) (fun x4 => (x4.1, x4.2.1, x4.2.2))) else (0, x3.2.1, x3.2.2)) = (0, x3.2.1, x3.2.2) from Qk h5 (rfl))
  exact ⟨rfl, Qc (by kernel_rfl)⟩
 refine Qd ?_
 obtain ⟨x7, hx7⟩ : ∃ z : Bool × Nat × Int, Yk code x4.2.1 x4.2.2 4 = z := ⟨_, rfl⟩
 refine sn Qa [0, 4, 5, 19] [4, 5, 60000] (po 1 (.give none (.b x7.1) [.h code, .i ((x7.2.1 : Nat) : Int), .i x7.2.2]) (px (Q0 (hx7 ▸ Km code x4.2.1 x4.2.2 4)) p0)) ?_
 refine mz [(19, .b (!x7.1))] [] [(60000, [.h code, .i ((x7.2.1 : Nat) : Int), .i x7.2.2])] [60000] ?_
 obtain ⟨x8, hx8⟩ : ∃ z : Xy × Nat × Int, (bif (!x7.1) then (lt (α := Int × Nat × Int) (Qg code x7.2.1 x7.2.2 4) (fun x8 => ((Xb (id, x1.1, x2.1, x4.1, []) ⟨#[97]⟩ (Xw x8.1)), x8.2.1, x8.2.2))) else ((id, x1.1, x2.1, x4.1, []), x7.2.1, x7.2.2)) = z := ⟨_, rfl⟩
 have hjx8 : List.length x8.1.2.2.2.2 ≤ 1 := by rw [← hx8]; exact Nat.le_trans join_attr (by first | omega | simp)
 refine jn [] [19] [(5, [.i x8.1.1, .i x8.1.2.1, .b x8.1.2.2.1, .i x8.1.2.2.2.1, .o 448768 x8.1.2.2.2.2]), (60000, [.h code, .i ((x8.2.1 : Nat) : Int), .i x8.2.2])] [5, 60000] (!x7.1) (fun h9 => ?_) (fun h9 => ?_) ?_
 ·
  refine ckt h9 ?_
  obtain ⟨x10, hx10⟩ : ∃ z : Int × Nat × Int, Qg code x7.2.1 x7.2.2 4 = z := ⟨_, rfl⟩
  have hbx10 := hx10 ▸ Qt code x7.2.1 x7.2.2 4
  refine rN Qa Yr [0, 4, 5] [4, 5, 60000] (po 2 (.give none (.i x10.1) [.h code, .i ((x10.2.1 : Nat) : Int), .i x10.2.2]) (px (Q0 (hx10 ▸ Q3 code x7.2.1 x7.2.2 4)) (pc 3 (Um x10.1) (pc 4 (specSetAttr_a (id, x1.1, x2.1, x4.1, []) ⟨#[97]⟩ (Xw x10.1) (by first | omega | (simp; done) | (simp; omega))) p0)))) ?_
  obtain rfl : x8 = ((Xb (id, x1.1, x2.1, x4.1, []) ⟨#[97]⟩ (Xw x10.1)), x10.2.1, x10.2.2) := hx8.symm.trans (show (bif (!x7.1) then (lt (α := Int × Nat × Int) (Qg code x7.2.1 x7.2.2 4) (fun x8 => ((Xb (id, x1.1, x2.1, x4.1, []) ⟨#[97]⟩ (Xw x8.1)), x8.2.1, x8.2.2))) else ((id, x1.1, x2.1, x4.1, []), x7.2.1, x7.2.2)) = ((Xb (id, x1.1, x2.1, x4.1, []) ⟨#[97]⟩ (Xw x10.1)), x10.2.1, x10.2.2) from Q4 h9 (Yh hx10 (rfl)))
  exact ⟨rfl, Xx [(1536, 448768)] (by kernel_rfl)⟩
 ·
  refine ckf h9 ?_
  refine Qf ?_
  obtain rfl : x8 = ((id, x1.1, x2.1, x4.1, []), x7.2.1, x7.2.2) := hx8.symm.trans (show (bif (!x7.1) then (lt (α := Int × Nat × Int) (Qg code x7.2.1 x7.2.2 4) (fun x8 => ((Xb (id, x1.1, x2.1, x4.1, []) ⟨#[97]⟩ (Xw x8.1)), x8.2.1, x8.2.2))) else ((id, x1.1, x2.1, x4.1, []), x7.2.1, x7.2.2)) = ((id, x1.1, x2.1, x4.1, []), x7.2.1, x7.2.2) from Qk h9 (rfl))
  exact ⟨rfl, weak_gf [(true, 5, 4, true, 320008, 4)] [] [] [(320008, 448768)] (by kernel_rfl)⟩
 refine Qd ?_
 obtain ⟨x11, hx11⟩ : ∃ z : Bool × Nat × Int, Yk code x8.2.1 x8.2.2 2 = z := ⟨_, rfl⟩
 refine sn Qa [0, 4, 5, 26] [4, 5, 60000] (po 1 (.give none (.b x11.1) [.h code, .i ((x11.2.1 : Nat) : Int), .i x11.2.2]) (px (Q0 (hx11 ▸ Km code x8.2.1 x8.2.2 2)) p0)) ?_
 refine mz [(26, .b x11.1)] [] [(60000, [.h code, .i ((x11.2.1 : Nat) : Int), .i x11.2.2])] [60000] ?_
 obtain ⟨x12, hx12⟩ : ∃ z : Xy × Nat × Int, (bif x11.1 then (lt (α := Int × Nat × Int) (Qg code x11.2.1 x11.2.2 4) (fun x12 => ((Xb x8.1 ⟨#[98]⟩ (Xw x12.1)), x12.2.1, x12.2.2))) else (x8.1, x11.2.1, x11.2.2)) = z := ⟨_, rfl⟩
 have hjx12 : List.length x12.1.2.2.2.2 ≤ 2 := by rw [← hx12]; exact Nat.le_trans join_attr (by first | omega | simp)
 refine jn [] [26] [(5, [.i x12.1.1, .i x12.1.2.1, .b x12.1.2.2.1, .i x12.1.2.2.2.1, .o 448768 x12.1.2.2.2.2]), (60000, [.h code, .i ((x12.2.1 : Nat) : Int), .i x12.2.2])] [5, 60000] x11.1 (fun h13 => ?_) (fun h13 => ?_) ?_
 ·
  refine ckt h13 ?_
  obtain ⟨x14, hx14⟩ : ∃ z : Int × Nat × Int, Qg code x11.2.1 x11.2.2 4 = z := ⟨_, rfl⟩
  have hbx14 := hx14 ▸ Qt code x11.2.1 x11.2.2 4
  refine rN Qa Yr [0, 4, 5] [4, 5, 60000] (po 2 (.give none (.i x14.1) [.h code, .i ((x14.2.1 : Nat) : Int), .i x14.2.2]) (px (Q0 (hx14 ▸ Q3 code x11.2.1 x11.2.2 4)) (pc 3 (Um x14.1) (pc 4 (specSetAttr_a x8.1 ⟨#[98]⟩ (Xw x14.1) (by first | omega | (simp; done) | (simp; omega))) p0)))) ?_
  obtain rfl : x12 = ((Xb x8.1 ⟨#[98]⟩ (Xw x14.1)), x14.2.1, x14.2.2) := hx12.symm.trans (show (bif x11.1 then (lt (α := Int × Nat × Int) (Qg code x11.2.1 x11.2.2 4) (fun x12 => ((Xb x8.1 ⟨#[98]⟩ (Xw x12.1)), x12.2.1, x12.2.2))) else (x8.1, x11.2.1, x11.2.2)) = ((Xb x8.1 ⟨#[98]⟩ (Xw x14.1)), x14.2.1, x14.2.2) from Q4 h13 (Yh hx14 (rfl)))
  exact ⟨rfl, Xx [(1984, 448768)] (by kernel_rfl)⟩
 ·
  refine ckf h13 ?_
  refine Qf ?_
  obtain rfl : x12 = (x8.1, x11.2.1, x11.2.2) := hx12.symm.trans (show (bif x11.1 then (lt (α := Int × Nat × Int) (Qg code x11.2.1 x11.2.2 4) (fun x12 => ((Xb x8.1 ⟨#[98]⟩ (Xw x12.1)), x12.2.1, x12.2.2))) else (x8.1, x11.2.1, x11.2.2)) = (x8.1, x11.2.1, x11.2.2) from Qk h13 (rfl))
  exact ⟨rfl, Qc (by kernel_rfl)⟩
 refine Qd ?_
 obtain ⟨x15, hx15⟩ : ∃ z : Bool × Nat × Int, Yk code x12.2.1 x12.2.2 3 = z := ⟨_, rfl⟩
 refine sn Qa [0, 4, 5, 34] [4, 5, 60000] (po 1 (.give none (.b x15.1) [.h code, .i ((x15.2.1 : Nat) : Int), .i x15.2.2]) (px (Q0 (hx15 ▸ Km code x12.2.1 x12.2.2 3)) p0)) ?_
 refine mz [(34, .b (!x15.1))] [] [(60000, [.h code, .i ((x15.2.1 : Nat) : Int), .i x15.2.2])] [60000] ?_
 obtain ⟨x16, hx16⟩ : ∃ z : Xy × Nat × Int, (bif (!x15.1) then (lt (α := ByteArray × Nat × Int) (X4 code x15.2.1 x15.2.2 [⟨#[105, 110, 107]⟩, ⟨#[115, 101, 97]⟩]) (fun x16 => ((Xb x12.1 ⟨#[110]⟩ (Q7 x16.1)), x16.2.1, x16.2.2))) else (x12.1, x15.2.1, x15.2.2)) = z := ⟨_, rfl⟩
 have hjx16 : List.length x16.1.2.2.2.2 ≤ 3 := by rw [← hx16]; exact Nat.le_trans join_attr (by first | omega | simp)
 refine jn [] [34] [(5, [.i x16.1.1, .i x16.1.2.1, .b x16.1.2.2.1, .i x16.1.2.2.2.1, .o 448768 x16.1.2.2.2.2]), (60000, [.h code, .i ((x16.2.1 : Nat) : Int), .i x16.2.2])] [5, 60000] (!x15.1) (fun h17 => ?_) (fun h17 => ?_) ?_
 ·
  refine ckt h17 ?_
  obtain ⟨x18, hx18⟩ : ∃ z : ByteArray × Nat × Int, X4 code x15.2.1 x15.2.2 [⟨#[105, 110, 107]⟩, ⟨#[115, 101, 97]⟩] = z := ⟨_, rfl⟩
  refine rN Qa Yr [0, 4, 5] [4, 5, 60000] (po 3 (.give none (.s x18.1) [.h code, .i ((x18.2.1 : Nat) : Int), .i x18.2.2]) (px (Q0 (hx18 ▸ J6 code x15.2.1 x15.2.2 [⟨#[105, 110, 107]⟩, ⟨#[115, 101, 97]⟩] (Nat.zero_lt_succ _))) (pc 4 (Ub x18.1) (pc 5 (specSetAttr_a x12.1 ⟨#[110]⟩ (Q7 x18.1) (by first | omega | (simp; done) | (simp; omega))) p0)))) ?_
  obtain rfl : x16 = ((Xb x12.1 ⟨#[110]⟩ (Q7 x18.1)), x18.2.1, x18.2.2) := hx16.symm.trans (show (bif (!x15.1) then (lt (α := ByteArray × Nat × Int) (X4 code x15.2.1 x15.2.2 [⟨#[105, 110, 107]⟩, ⟨#[115, 101, 97]⟩]) (fun x16 => ((Xb x12.1 ⟨#[110]⟩ (Q7 x16.1)), x16.2.1, x16.2.2))) else (x12.1, x15.2.1, x15.2.2)) = ((Xb x12.1 ⟨#[110]⟩ (Q7 x18.1)), x18.2.1, x18.2.2) from Q4 h17 (Yh hx18 (rfl)))
  exact ⟨rfl, Xx [(2560, 448768)] (by kernel_rfl)⟩
 ·
  refine ckf h17 ?_
  refine Qf ?_
  obtain rfl : x16 = (x12.1, x15.2.1, x15.2.2) := hx16.symm.trans (show (bif (!x15.1) then (lt (α := ByteArray × Nat × Int) (X4 code x15.2.1 x15.2.2 [⟨#[105, 110, 107]⟩, ⟨#[115, 101, 97]⟩]) (fun x16 => ((Xb x12.1 ⟨#[110]⟩ (Q7 x16.1)), x16.2.1, x16.2.2))) else (x12.1, x15.2.1, x15.2.2)) = (x12.1, x15.2.1, x15.2.2) from Qk h17 (rfl))
  exact ⟨rfl, Qc (by kernel_rfl)⟩
 refine Qd ?_
 obtain ⟨x19, hx19⟩ : ∃ z : Bool × Nat × Int, Yk code x16.2.1 x16.2.2 2 = z := ⟨_, rfl⟩
 refine sn Qa [0, 4, 5, 42] [4, 5, 60000] (po 1 (.give none (.b x19.1) [.h code, .i ((x19.2.1 : Nat) : Int), .i x19.2.2]) (px (Q0 (hx19 ▸ Km code x16.2.1 x16.2.2 2)) p0)) ?_
 refine ck x19.1 (fun h20 => ?_) (fun h20 => ?_)
 ·
  obtain ⟨x21, hx21⟩ : ∃ z : ByteArray × Nat × Int, X4 code x19.2.1 x19.2.2 [⟨#[114, 101, 100]⟩, ⟨#[98, 108, 117, 101]⟩] = z := ⟨_, rfl⟩
  refine qN Qa Yr [0, 4, 5] [4, 5, 60000] (po 3 (.give none (.s x21.1) [.h code, .i ((x21.2.1 : Nat) : Int), .i x21.2.2]) (px (Q0 (hx21 ▸ J6 code x19.2.1 x19.2.2 [⟨#[114, 101, 100]⟩, ⟨#[98, 108, 117, 101]⟩] (Nat.zero_lt_succ _))) (pc 4 (Ub x21.1) (pc 5 (specSetAttr_a x16.1 ⟨#[116]⟩ (Q7 x21.1) (by first | omega | (simp; done) | (simp; omega))) p0)))) ?_
  refine tu Qa [] [5] [(4, [.i ((Xb x16.1 ⟨#[116]⟩ (Q7 x21.1)).1), .i ((Xb x16.1 ⟨#[116]⟩ (Q7 x21.1)).2.1), .b ((Xb x16.1 ⟨#[116]⟩ (Q7 x21.1)).2.2.1), .i ((Xb x16.1 ⟨#[116]⟩ (Q7 x21.1)).2.2.2.1), .o 3072 ((Xb x16.1 ⟨#[116]⟩ (Q7 x21.1)).2.2.2.2)]), (60000, [.h code, .i ((x21.2.1 : Nat) : Int), .i x21.2.2])] [4, 5, 60000] (p0) ?_
  refine Qe ?_
  have hE22 : Zw code ci ch id = ((Xb x16.1 ⟨#[116]⟩ (Q7 x21.1)), x21.2.1, x21.2.2) := Yh hx1 (Yh hx2 (Yh hx3 (Yh hx4 (Yh hx7 (Yh hx8 (Yh hx11 (Yh hx12 (Yh hx15 (Yh hx16 (Yh hx19 (Q4 h20 (Yh hx21 (rfl)))))))))))))
  exact Uk [] (congrArg (fun z => (.a [.i z.1.1, .i z.1.2.1, .b z.1.2.2.1, .i z.1.2.2.2.1, .o 0 z.1.2.2.2.2] : AV)) hE22.symm) (congrArg (fun z => ([.h code, .i ((z.2.1 : Nat) : Int), .i z.2.2] : List C)) hE22.symm)
 ·
  refine Qf ?_
  refine tn Qa [0, 4] [4, 60000] (p0) ?_
  refine Qe ?_
  have hE23 : Zw code ci ch id = (x16.1, x19.2.1, x19.2.2) := Yh hx1 (Yh hx2 (Yh hx3 (Yh hx4 (Yh hx7 (Yh hx8 (Yh hx11 (Yh hx12 (Yh hx15 (Yh hx16 (Yh hx19 (Qk h20 (rfl))))))))))))
  exact Uk [] (congrArg (fun z => (.a [.i z.1.1, .i z.1.2.1, .b z.1.2.2.1, .i z.1.2.2.2.1, .o 0 z.1.2.2.2.2] : AV)) hE23.symm) (congrArg (fun z => ([.h code, .i ((z.2.1 : Nat) : Int), .i z.2.2] : List C)) hE23.symm)
def Jf (code : (List UInt8)) (s0 : Int × Q2 × Nat × Int) : Rd (Q2 × Nat × Int) (Int × Q2 × Nat × Int) (Q2 × Nat × Int) := (lt (α := Int × Nat × Int) (Qg code s0.2.2.1 s0.2.2.2 7) (fun x1 => (bif decide (s0.1 < IntKind.i64.wrap (1 + x1.1)) then (lt (α := Xy × Nat × Int) (Zw code x1.2.1 x1.2.2 1) (fun x3 => (.next (IntKind.i64.wrap (s0.1 + 1), (((X0 s0.2.1 x3.1)).1), x3.2.1, x3.2.2)))) else (.brk (s0.2.1, x1.2.1, x1.2.2)))))
def Y6 (code : (List UInt8)) (ci : Nat) (ch : Int) : Q2 × Nat × Int := (Out.on (whlD (Jf code) 8 (0, (Zs Qq), ci, ch)) (fun y0 => (bif decide ((y0.1.2.1.length : Int) > (2 : Int)) then (lt (α := Bool × Nat × Int) (Yk code y0.2.1 y0.2.2 3) (fun x5 => (bif x5.1 then ((((Y7 y0.1 ((nth y0.1.2.1 1).1))).1), x5.2.1, x5.2.2) else (y0.1, x5.2.1, x5.2.2)))) else (y0.1, y0.2.1, y0.2.2))))
theorem specl05Store_w (code : List UInt8) (ci : Nat) (ch : Int) (s : Q2) : (whl (Jf code) 8 (0, s, ci, ch)).isSome = true :=
  whl_up (fun s => s.1) 7 (fun s s' h0 h => by
    unfold Jf lt at h
    have hb := Qt code s.2.2.1 s.2.2.2 7
    generalize Qg code s.2.2.1 s.2.2.2 7 = x at h hb
    have e : IntKind.i64.wrap (1 + x.1) = 1 + x.1 := IntWalk.i64_in _ (by omega)
    simp only [e] at h
    by_cases hc : s.1 < 1 + x.1
    · simp only [decide_eq_true hc, cond_true] at h
      have h := Rd.next.inj h
      rw [← h]
      exact ⟨by omega, IntWalk.i64_in _ (by omega)⟩
    · simp only [decide_eq_false hc, cond_false] at h
      cases h) 7 _ (Int.le_refl 0) (by show (7 : Int) ≤ 0 + 7; omega)
theorem specl05Store_a (code : (List UInt8)) (ci : Nat) (ch : Int) : AGive Tryz.prog 102 [.h code, .i ((ci : Nat) : Int), .i ch] [] (.a [.o 0 ((((Y6 code ci ch)).1).1), .q 1 ((((Y6 code ci ch)).1).2.1), .i ((((Y6 code ci ch)).1).2.2)]) [.h code, .i ((((Y6 code ci ch)).2.1 : Nat) : Int), .i (((Y6 code ci ch)).2.2)] := by
 refine Jx (tt := tt) Qa Tryz.func102 (fn := Tryz.f102) rfl (by unfold FnOk; kernel_rfl) (Nat.le_of_ble_eq_true rfl) (Nat.le_of_ble_eq_true rfl) rfl rfl fun w0 F0 hG => ?_
 refine sn Qa [0, 2] [2, 60000] (p0) ?_
 refine tn Qa [0, 2, 3] [2, 3, 60000] (pc 0 (specl03Usual_a) (pc 1 (specNewStore_a Qq) p0)) ?_
 refine Qd ?_
 refine tu Qa [(2, .p 2 0), (3, .p 3 0), (4, .i 0)] [] [(2, [.e 2, .e 5, .i 0]), (3, [.o 384 ((Zs Qq).1), .o 385 ((Zs Qq).2.1), .i ((Zs Qq).2.2)])] [] (p0) ?_
 refine blw (fun (s0 : Int × Q2 × Nat × Int) => [(4, .i s0.1)]) [4] (fun s0 => [(3, [.o 147207 s0.2.1.1, .o 147208 s0.2.1.2.1, .i s0.2.1.2.2]), (60000, [.h code, .i ((s0.2.2.1 : Nat) : Int), .i s0.2.2.2])]) [3, 60000] (fun (y0 : Q2 × Nat × Int) => []) [4] (fun y0 => [(3, [.o 147357 y0.1.1, .o 147358 y0.1.2.1, .i y0.1.2.2]), (60000, [.h code, .i ((y0.2.1 : Nat) : Int), .i y0.2.2])]) [3, 60000] (fun (k0 : Nat) (s0 : Int × Q2 × Nat × Int) => whl (Jf code) k0 s0 = some (whlD (Jf code) 8 (0, (Zs Qq), ci, ch))) (fun (y0 : Q2 × Nat × Int) => (whlD (Jf code) 8 (0, (Zs Qq), ci, ch)) = .brk y0) 8 (0, (Zs Qq), ci, ch) (Xx [(384, 147207), (385, 147208)] (by kernel_rfl)) (whl_some (specl05Store_w code ci ch _)) (fun _ h => whl_zero h) (fun k0 s0 hI0 => ?_) (fun y0 hD0 => ?_)
 ·
  refine Qd ?_
  obtain ⟨x1, hx1⟩ : ∃ z : Int × Nat × Int, Qg code s0.2.2.1 s0.2.2.2 7 = z := ⟨_, rfl⟩
  have hbx1 := hx1 ▸ Qt code s0.2.2.1 s0.2.2.2 7
  refine sn Qa [0, 2, 3, 4, 11] [2, 3, 60000] (po 2 (.give none (.i x1.1) [.h code, .i ((x1.2.1 : Nat) : Int), .i x1.2.2]) (px (Q0 (hx1 ▸ Q3 code s0.2.2.1 s0.2.2.2 7)) p0)) ?_
  refine ck (decide (s0.1 < IntKind.i64.wrap (1 + x1.1))) (fun h2 => ?_) (fun h2 => ?_)
  ·
   refine Qf ?_
   refine Qd ?_
   refine Qr ?_
   obtain ⟨x3, hx3⟩ : ∃ z : Xy × Nat × Int, Zw code x1.2.1 x1.2.2 1 = z := ⟨_, rfl⟩
   refine qN Qa Yr [0, 2, 3, 4] [2, 3, 60000] (po 2 (.give none (.a [.i x3.1.1, .i x3.1.2.1, .b x3.1.2.2.1, .i x3.1.2.2.2.1, .o 0 x3.1.2.2.2.2]) [.h code, .i ((x3.2.1 : Nat) : Int), .i x3.2.2]) (px (Q0 (hx3 ▸ specl04File_a code x1.2.1 x1.2.2 1)) (pc 3 (specCreateFile_a s0.2.1 x3.1) p0))) ?_
   refine qu Qa [(4, .i (IntKind.i64.wrap (s0.1 + 1)))] [4] [(3, [.o 1152 ((((X0 s0.2.1 x3.1)).1).1), .o 1153 ((((X0 s0.2.1 x3.1)).1).2.1), .i ((((X0 s0.2.1 x3.1)).1).2.2)]), (60000, [.h code, .i ((x3.2.1 : Nat) : Int), .i x3.2.2])] [3, 60000] (p0) ?_
   exact Exists.intro (IntKind.i64.wrap (s0.1 + 1), (((X0 s0.2.1 x3.1)).1), x3.2.1, x3.2.2) (And.intro (Xx [(1152, 147207), (1153, 147208)] (by kernel_rfl)) (wn hI0 (Yh hx1 (Q4 h2 (Yh hx3 (rfl))))))
  ·
   refine Qz ?_
   exact Exists.intro (s0.2.1, x1.2.1, x1.2.2) (And.intro (Xx [(147207, 147357), (147208, 147358)] (by kernel_rfl)) (wb hI0 (Yh hx1 (Qk h2 (rfl)))))
 ·
  refine Qd ?_
  refine Qd ?_
  refine Xd (decide ((y0.1.2.1.length : Int) > (2 : Int))) (fun h4 => ?_) (fun h4 => ?_)
  ·
   have h4d := of_decide_eq_true h4
   obtain ⟨x5, hx5⟩ : ∃ z : Bool × Nat × Int, Yk code y0.2.1 y0.2.2 3 = z := ⟨_, rfl⟩
   refine rn Qa [0, 2, 3, 29] [2, 3, 60000] (pl 2 y0.1.2.1 (pt 3 h4 (po 6 (.give none (.b x5.1) [.h code, .i ((x5.2.1 : Nat) : Int), .i x5.2.2]) (px (Q0 (hx5 ▸ Km code y0.2.1 y0.2.2 3)) p0)))) ?_
   refine ck x5.1 (fun h6 => ?_) (fun h6 => ?_)
   ·
    refine wB 3 1 (.own true 147358) y0.1.2.1 (fun hw8 hl9 => ?_)
    have hx7 := ng y0.1.2.1 1
    refine qN Qa Yr [0, 2, 3] [2, 3, 60000] (pG 3 1 hx7 (pc 6 (specDeleteFile_a y0.1 ((nth y0.1.2.1 1).1)) p0)) ?_
    refine tu Qa [] [3] [(2, [.o 2368 ((((Y7 y0.1 ((nth y0.1.2.1 1).1))).1).1), .q 2369 ((((Y7 y0.1 ((nth y0.1.2.1 1).1))).1).2.1), .i ((((Y7 y0.1 ((nth y0.1.2.1 1).1))).1).2.2)]), (60000, [.h code, .i ((x5.2.1 : Nat) : Int), .i x5.2.2])] [2, 3, 60000] (p0) ?_
    refine Qe ?_
    have hE10 : Y6 code ci ch = ((((Y7 y0.1 ((nth y0.1.2.1 1).1))).1), x5.2.1, x5.2.2) := V2 hD0 (Q4 h4 (Yh hx5 (Q4 h6 (rfl))))
    exact Uk [] (congrArg (fun z => (.a [.o 0 z.1.1, .q 1 z.1.2.1, .i z.1.2.2] : AV)) hE10.symm) (congrArg (fun z => ([.h code, .i ((z.2.1 : Nat) : Int), .i z.2.2] : List C)) hE10.symm)
   ·
    refine Qf ?_
    refine tn Qa [0, 2] [2, 60000] (p0) ?_
    refine awp_demotes [147358] rfl ?_
    refine Qe ?_
    have hE11 : Y6 code ci ch = (y0.1, x5.2.1, x5.2.2) := V2 hD0 (Q4 h4 (Yh hx5 (Qk h6 (rfl))))
    exact Uk [] (congrArg (fun z => (.a [.o 0 z.1.1, .q 1 z.1.2.1, .i z.1.2.2] : AV)) hE11.symm) (congrArg (fun z => ([.h code, .i ((z.2.1 : Nat) : Int), .i z.2.2] : List C)) hE11.symm)
  ·
   refine ru Qa [(29, .b false)] [] [] [] (pl 2 y0.1.2.1 (pf 3 h4 p0)) ?_
   refine ckF ?_
   refine Qf ?_
   refine sn Qa [0, 2] [2, 60000] (p0) ?_
   refine awp_demotes [147358] rfl ?_
   refine Qe ?_
   have hE12 : Y6 code ci ch = (y0.1, y0.2.1, y0.2.2) := V2 hD0 (Qk h4 (rfl))
   exact Uk [] (congrArg (fun z => (.a [.o 0 z.1.1, .q 1 z.1.2.1, .i z.1.2.2] : AV)) hE12.symm) (congrArg (fun z => ([.h code, .i ((z.2.1 : Nat) : Int), .i z.2.2] : List C)) hE12.symm)
def Vz (code : (List UInt8)) (ci : Nat) (ch : Int) : ByteArray × Nat × Int := (lt (α := ByteArray × Nat × Int) (X4 code ci ch [⟨#[100, 97]⟩, ⟨#[100, 98]⟩, ⟨#[100, 99]⟩, ⟨#[100, 100]⟩, ⟨#[100, 97]⟩, ⟨#[100, 98]⟩, ⟨#[100, 99]⟩]) (fun x1 => (x1.1, x1.2.1, x1.2.2)))
theorem specl09DirName_a (code : (List UInt8)) (ci : Nat) (ch : Int) : AGive Tryz.prog 181 [.h code, .i ((ci : Nat) : Int), .i ch] [] (.s (((Vz code ci ch)).1)) [.h code, .i ((((Vz code ci ch)).2.1 : Nat) : Int), .i (((Vz code ci ch)).2.2)] := by
 refine Jx (tt := tt) Qa Tryz.func181 (fn := Tryz.f181) rfl (by unfold FnOk; kernel_rfl) (Nat.le_of_ble_eq_true rfl) (Nat.le_of_ble_eq_true rfl) rfl rfl fun w0 F0 hG => ?_
 refine sn Qa [0, 2] [60000] (p0) ?_
 obtain ⟨x1, hx1⟩ : ∃ z : ByteArray × Nat × Int, X4 code ci ch [⟨#[100, 97]⟩, ⟨#[100, 98]⟩, ⟨#[100, 99]⟩, ⟨#[100, 100]⟩, ⟨#[100, 97]⟩, ⟨#[100, 98]⟩, ⟨#[100, 99]⟩] = z := ⟨_, rfl⟩
 refine tn Qa [0, 2] [60000] (po 2 (.give none (.s x1.1) [.h code, .i ((x1.2.1 : Nat) : Int), .i x1.2.2]) (px (Q0 (hx1 ▸ J6 code ci ch [⟨#[100, 97]⟩, ⟨#[100, 98]⟩, ⟨#[100, 99]⟩, ⟨#[100, 100]⟩, ⟨#[100, 97]⟩, ⟨#[100, 98]⟩, ⟨#[100, 99]⟩] (Nat.zero_lt_succ _))) p0)) ?_
 refine Qe ?_
 have hE2 : Vz code ci ch = (x1.1, x1.2.1, x1.2.2) := Yh hx1 (rfl)
 exact Uk [] (congrArg (fun z => (.s z.1 : AV)) hE2.symm) (congrArg (fun z => ([.h code, .i ((z.2.1 : Nat) : Int), .i z.2.2] : List C)) hE2.symm)
def Y3 (code : (List UInt8)) (ci : Nat) (ch : Int) : Xv × Nat × Int := (lt (α := Int × Nat × Int) (Qg code ci ch 9) (fun x1 => (bif (x1.1 == (0 : Int)) then ((1, 0, 0, ⟨#[]⟩, (0, 0, ⟨#[]⟩)), x1.2.1, x1.2.2) else (bif (x1.1 == (1 : Int)) then (lt (α := ByteArray × Nat × Int) (X4 code x1.2.1 x1.2.2 [⟨#[97]⟩, ⟨#[98]⟩, ⟨#[110]⟩, ⟨#[116]⟩]) (fun x5 => ((2, 0, 0, x5.1, (0, 0, ⟨#[]⟩)), x5.2.1, x5.2.2))) else (bif (x1.1 == (2 : Int)) then (lt (α := Int × Nat × Int) (Qg code x1.2.1 x1.2.2 4) (fun x8 => ((3, 0, 0, ⟨#[97]⟩, (Xw x8.1)), x8.2.1, x8.2.2))) else (bif (x1.1 == (3 : Int)) then (lt (α := ByteArray × Nat × Int) (X4 code x1.2.1 x1.2.2 [⟨#[114, 101, 100]⟩, ⟨#[98, 108, 117, 101]⟩]) (fun x11 => ((3, 0, 0, ⟨#[116]⟩, (Q7 x11.1)), x11.2.1, x11.2.2))) else (bif (x1.1 == (4 : Int)) then (lt (α := ByteArray × Nat × Int) (X4 code x1.2.1 x1.2.2 [⟨#[97]⟩, ⟨#[98]⟩]) (fun x14 => (lt (α := Int × Nat × Int) (Qg code x14.2.1 x14.2.2 3) (fun x15 => ((4, 0, 0, x14.1, (Xw (IntKind.i64.wrap (1 + x15.1)))), x15.2.1, x15.2.2))))) else (bif (bif (x1.1 == (5 : Int)) then (x1.1 == (5 : Int)) else (x1.1 == (6 : Int))) then (lt (α := ByteArray × Nat × Int) (Vz code x1.2.1 x1.2.2) (fun x19 => ((8, 0, 0, x19.1, (0, 0, ⟨#[]⟩)), x19.2.1, x19.2.2))) else (bif (x1.1 == (7 : Int)) then (lt (α := ByteArray × Nat × Int) (Vz code x1.2.1 x1.2.2) (fun x22 => ((9, 0, 0, x22.1, (0, 0, ⟨#[]⟩)), x22.2.1, x22.2.2))) else (lt (α := Int × Nat × Int) (Qg code x1.2.1 x1.2.2 4) (fun x24 => ((3, 0, 0, ⟨#[98]⟩, (Xw x24.1)), x24.2.1, x24.2.2))))))))))))
theorem specl09Leaf_a (code : (List UInt8)) (ci : Nat) (ch : Int) : AGive Tryz.prog 209 [.h code, .i ((ci : Nat) : Int), .i ch] [] (.a [.i ((((Y3 code ci ch)).1).1), .i ((((Y3 code ci ch)).1).2.1), .i ((((Y3 code ci ch)).1).2.2.1), .s ((((Y3 code ci ch)).1).2.2.2.1), .i ((((Y3 code ci ch)).1).2.2.2.2.1), .i ((((Y3 code ci ch)).1).2.2.2.2.2.1), .s ((((Y3 code ci ch)).1).2.2.2.2.2.2)]) [.h code, .i ((((Y3 code ci ch)).2.1 : Nat) : Int), .i (((Y3 code ci ch)).2.2)] := by
 refine Jx (tt := tt) Qa Tryz.func209 (fn := Tryz.f209) rfl (by unfold FnOk; kernel_rfl) (Nat.le_of_ble_eq_true rfl) (Nat.le_of_ble_eq_true rfl) rfl rfl fun w0 F0 hG => ?_
 refine sn Qa [0, 2] [2, 60000] (p0) ?_
 refine Qd ?_
 obtain ⟨x1, hx1⟩ : ∃ z : Int × Nat × Int, Qg code ci ch 9 = z := ⟨_, rfl⟩
 have hbx1 := hx1 ▸ Qt code ci ch 9
 refine tn Qa [0, 2, 4] [2, 60000] (po 1 (.give none (.i x1.1) [.h code, .i ((x1.2.1 : Nat) : Int), .i x1.2.2]) (px (Q0 (hx1 ▸ Q3 code ci ch 9)) p0)) ?_
 refine Qr ?_
 refine tu Qa [(2, .p 2 0), (4, .i x1.1), (5, .b (x1.1 == (0 : Int)))] [] [(2, [.i 0, .i 0, .i 0, .s ⟨#[]⟩, .i 0, .i 0, .s ⟨#[]⟩]), (60000, [.h code, .i ((x1.2.1 : Nat) : Int), .i x1.2.2])] [60000] (p0) ?_
 refine ck (x1.1 == (0 : Int)) (fun h2 => ?_) (fun h2 => ?_)
 ·
  refine sn Qa [0, 2] [2, 60000] (p0) ?_
  refine Qe ?_
  have hE3 : Y3 code ci ch = ((1, 0, 0, ⟨#[]⟩, (0, 0, ⟨#[]⟩)), x1.2.1, x1.2.2) := Yh hx1 (Q4 h2 (rfl))
  exact Uk [] (congrArg (fun z => (.a [.i z.1.1, .i z.1.2.1, .i z.1.2.2.1, .s z.1.2.2.2.1, .i z.1.2.2.2.2.1, .i z.1.2.2.2.2.2.1, .s z.1.2.2.2.2.2.2] : AV)) hE3.symm) (congrArg (fun z => ([.h code, .i ((z.2.1 : Nat) : Int), .i z.2.2] : List C)) hE3.symm)
 ·
  refine sn Qa [0, 2, 4, 8] [2, 60000] (p0) ?_
  refine ck (x1.1 == (1 : Int)) (fun h4 => ?_) (fun h4 => ?_)
  ·
   obtain ⟨x5, hx5⟩ : ∃ z : ByteArray × Nat × Int, X4 code x1.2.1 x1.2.2 [⟨#[97]⟩, ⟨#[98]⟩, ⟨#[110]⟩, ⟨#[116]⟩] = z := ⟨_, rfl⟩
   refine tn Qa [0, 2] [2, 60000] (po 2 (.give none (.s x5.1) [.h code, .i ((x5.2.1 : Nat) : Int), .i x5.2.2]) (px (Q0 (hx5 ▸ J6 code x1.2.1 x1.2.2 [⟨#[97]⟩, ⟨#[98]⟩, ⟨#[110]⟩, ⟨#[116]⟩] (Nat.zero_lt_succ _))) p0)) ?_
   refine Qe ?_
   have hE6 : Y3 code ci ch = ((2, 0, 0, x5.1, (0, 0, ⟨#[]⟩)), x5.2.1, x5.2.2) := Yh hx1 (Qk h2 (Q4 h4 (Yh hx5 (rfl))))
   exact Uk [] (congrArg (fun z => (.a [.i z.1.1, .i z.1.2.1, .i z.1.2.2.1, .s z.1.2.2.2.1, .i z.1.2.2.2.2.1, .i z.1.2.2.2.2.2.1, .s z.1.2.2.2.2.2.2] : AV)) hE6.symm) (congrArg (fun z => ([.h code, .i ((z.2.1 : Nat) : Int), .i z.2.2] : List C)) hE6.symm)
  ·
   refine tn Qa [0, 2, 4, 14] [2, 60000] (p0) ?_
   refine ck (x1.1 == (2 : Int)) (fun h7 => ?_) (fun h7 => ?_)
   ·
    obtain ⟨x8, hx8⟩ : ∃ z : Int × Nat × Int, Qg code x1.2.1 x1.2.2 4 = z := ⟨_, rfl⟩
    have hbx8 := hx8 ▸ Qt code x1.2.1 x1.2.2 4
    refine tu Qa [] [4, 5] [(2, [.i 3, .i 0, .i 0, .s ⟨#[97]⟩, .i ((Xw x8.1).1), .i ((Xw x8.1).2.1), .s ((Xw x8.1).2.2)]), (60000, [.h code, .i ((x8.2.1 : Nat) : Int), .i x8.2.2])] [2, 60000] (po 1 (.give none (.i x8.1) [.h code, .i ((x8.2.1 : Nat) : Int), .i x8.2.2]) (px (Q0 (hx8 ▸ Q3 code x1.2.1 x1.2.2 4)) (pc 2 (Um x8.1) p0))) ?_
    refine Qe ?_
    have hE9 : Y3 code ci ch = ((3, 0, 0, ⟨#[97]⟩, (Xw x8.1)), x8.2.1, x8.2.2) := Yh hx1 (Qk h2 (Qk h4 (Q4 h7 (Yh hx8 (rfl)))))
    exact Uk [] (congrArg (fun z => (.a [.i z.1.1, .i z.1.2.1, .i z.1.2.2.1, .s z.1.2.2.2.1, .i z.1.2.2.2.2.1, .i z.1.2.2.2.2.2.1, .s z.1.2.2.2.2.2.2] : AV)) hE9.symm) (congrArg (fun z => ([.h code, .i ((z.2.1 : Nat) : Int), .i z.2.2] : List C)) hE9.symm)
   ·
    refine tu Qa [(20, .b (x1.1 == (3 : Int)))] [5] [] [] (p0) ?_
    refine ck (x1.1 == (3 : Int)) (fun h10 => ?_) (fun h10 => ?_)
    ·
     obtain ⟨x11, hx11⟩ : ∃ z : ByteArray × Nat × Int, X4 code x1.2.1 x1.2.2 [⟨#[114, 101, 100]⟩, ⟨#[98, 108, 117, 101]⟩] = z := ⟨_, rfl⟩
     refine sn Qa [0, 2] [2, 60000] (po 2 (.give none (.s x11.1) [.h code, .i ((x11.2.1 : Nat) : Int), .i x11.2.2]) (px (Q0 (hx11 ▸ J6 code x1.2.1 x1.2.2 [⟨#[114, 101, 100]⟩, ⟨#[98, 108, 117, 101]⟩] (Nat.zero_lt_succ _))) (pc 3 (Ub x11.1) p0))) ?_
     refine Qe ?_
     have hE12 : Y3 code ci ch = ((3, 0, 0, ⟨#[116]⟩, (Q7 x11.1)), x11.2.1, x11.2.2) := Yh hx1 (Qk h2 (Qk h4 (Qk h7 (Q4 h10 (Yh hx11 (rfl))))))
     exact Uk [] (congrArg (fun z => (.a [.i z.1.1, .i z.1.2.1, .i z.1.2.2.1, .s z.1.2.2.2.1, .i z.1.2.2.2.2.1, .i z.1.2.2.2.2.2.1, .s z.1.2.2.2.2.2.2] : AV)) hE12.symm) (congrArg (fun z => ([.h code, .i ((z.2.1 : Nat) : Int), .i z.2.2] : List C)) hE12.symm)
    ·
     refine sn Qa [0, 2, 4, 27] [2, 60000] (p0) ?_
     refine ck (x1.1 == (4 : Int)) (fun h13 => ?_) (fun h13 => ?_)
     ·
      obtain ⟨x14, hx14⟩ : ∃ z : ByteArray × Nat × Int, X4 code x1.2.1 x1.2.2 [⟨#[97]⟩, ⟨#[98]⟩] = z := ⟨_, rfl⟩
      obtain ⟨x15, hx15⟩ : ∃ z : Int × Nat × Int, Qg code x14.2.1 x14.2.2 3 = z := ⟨_, rfl⟩
      have hbx15 := hx15 ▸ Qt code x14.2.1 x14.2.2 3
      refine tn Qa [0, 2] [2, 60000] (po 2 (.give none (.s x14.1) [.h code, .i ((x14.2.1 : Nat) : Int), .i x14.2.2]) (px (Q0 (hx14 ▸ J6 code x1.2.1 x1.2.2 [⟨#[97]⟩, ⟨#[98]⟩] (Nat.zero_lt_succ _))) (po 4 (.give none (.i x15.1) [.h code, .i ((x15.2.1 : Nat) : Int), .i x15.2.2]) (px (Q0 (hx15 ▸ Q3 code x14.2.1 x14.2.2 3)) (pc 6 (Um (IntKind.i64.wrap (1 + x15.1))) p0))))) ?_
      refine Qe ?_
      have hE16 : Y3 code ci ch = ((4, 0, 0, x14.1, (Xw (IntKind.i64.wrap (1 + x15.1)))), x15.2.1, x15.2.2) := Yh hx1 (Qk h2 (Qk h4 (Qk h7 (Qk h10 (Q4 h13 (Yh hx14 (Yh hx15 (rfl))))))))
      exact Uk [] (congrArg (fun z => (.a [.i z.1.1, .i z.1.2.1, .i z.1.2.2.1, .s z.1.2.2.2.1, .i z.1.2.2.2.2.1, .i z.1.2.2.2.2.2.1, .s z.1.2.2.2.2.2.2] : AV)) hE16.symm) (congrArg (fun z => ([.h code, .i ((z.2.1 : Nat) : Int), .i z.2.2] : List C)) hE16.symm)
     ·
      refine Qd ?_
      refine tn Qa [0, 2, 4, 37] [2, 60000] (p0) ?_
      refine mz [(37, .b (x1.1 == (5 : Int)))] [20] [] [] ?_
      refine jn [(37, .b (bif (x1.1 == (5 : Int)) then (x1.1 == (5 : Int)) else (x1.1 == (6 : Int))))] [37] [] [] (x1.1 == (5 : Int)) (fun h17 => ?_) (fun h17 => ?_) ?_
      ·
       refine ckt h17 ?_
       refine Qf ?_
       exact ⟨rfl, Qc (by rw [h17]; first | done | kernel_rfl)⟩
      ·
       refine ckf h17 ?_
       refine rn Qa [0, 2, 4, 37] [2, 60000] (p0) ?_
       exact ⟨rfl, Qc (by rw [h17]; first | done | kernel_rfl)⟩
      refine ck (bif (x1.1 == (5 : Int)) then (x1.1 == (5 : Int)) else (x1.1 == (6 : Int))) (fun h18 => ?_) (fun h18 => ?_)
      ·
       obtain ⟨x19, hx19⟩ : ∃ z : ByteArray × Nat × Int, Vz code x1.2.1 x1.2.2 = z := ⟨_, rfl⟩
       refine sn Qa [0, 2] [2, 60000] (po 1 (.give none (.s x19.1) [.h code, .i ((x19.2.1 : Nat) : Int), .i x19.2.2]) (px (Q0 (hx19 ▸ specl09DirName_a code x1.2.1 x1.2.2)) p0)) ?_
       refine Qe ?_
       have hE20 : Y3 code ci ch = ((8, 0, 0, x19.1, (0, 0, ⟨#[]⟩)), x19.2.1, x19.2.2) := Yh hx1 (Qk h2 (Qk h4 (Qk h7 (Qk h10 (Qk h13 (Q4 h18 (Yh hx19 (rfl))))))))
       exact Uk [] (congrArg (fun z => (.a [.i z.1.1, .i z.1.2.1, .i z.1.2.2.1, .s z.1.2.2.2.1, .i z.1.2.2.2.2.1, .i z.1.2.2.2.2.2.1, .s z.1.2.2.2.2.2.2] : AV)) hE20.symm) (congrArg (fun z => ([.h code, .i ((z.2.1 : Nat) : Int), .i z.2.2] : List C)) hE20.symm)
      ·
       refine sn Qa [0, 2, 43] [2, 60000] (p0) ?_
       refine ck (x1.1 == (7 : Int)) (fun h21 => ?_) (fun h21 => ?_)
       ·
        obtain ⟨x22, hx22⟩ : ∃ z : ByteArray × Nat × Int, Vz code x1.2.1 x1.2.2 = z := ⟨_, rfl⟩
        refine tn Qa [0, 2] [2, 60000] (po 1 (.give none (.s x22.1) [.h code, .i ((x22.2.1 : Nat) : Int), .i x22.2.2]) (px (Q0 (hx22 ▸ specl09DirName_a code x1.2.1 x1.2.2)) p0)) ?_
        refine Qe ?_
        have hE23 : Y3 code ci ch = ((9, 0, 0, x22.1, (0, 0, ⟨#[]⟩)), x22.2.1, x22.2.2) := Yh hx1 (Qk h2 (Qk h4 (Qk h7 (Qk h10 (Qk h13 (Qk h18 (Q4 h21 (Yh hx22 (rfl)))))))))
        exact Uk [] (congrArg (fun z => (.a [.i z.1.1, .i z.1.2.1, .i z.1.2.2.1, .s z.1.2.2.2.1, .i z.1.2.2.2.2.1, .i z.1.2.2.2.2.2.1, .s z.1.2.2.2.2.2.2] : AV)) hE23.symm) (congrArg (fun z => ([.h code, .i ((z.2.1 : Nat) : Int), .i z.2.2] : List C)) hE23.symm)
       ·
        refine Qf ?_
        obtain ⟨x24, hx24⟩ : ∃ z : Int × Nat × Int, Qg code x1.2.1 x1.2.2 4 = z := ⟨_, rfl⟩
        have hbx24 := hx24 ▸ Qt code x1.2.1 x1.2.2 4
        refine tn Qa [0, 2] [2, 60000] (po 1 (.give none (.i x24.1) [.h code, .i ((x24.2.1 : Nat) : Int), .i x24.2.2]) (px (Q0 (hx24 ▸ Q3 code x1.2.1 x1.2.2 4)) (pc 2 (Um x24.1) p0))) ?_
        refine Qe ?_
        have hE25 : Y3 code ci ch = ((3, 0, 0, ⟨#[98]⟩, (Xw x24.1)), x24.2.1, x24.2.2) := Yh hx1 (Qk h2 (Qk h4 (Qk h7 (Qk h10 (Qk h13 (Qk h18 (Qk h21 (Yh hx24 (rfl)))))))))
        exact Uk [] (congrArg (fun z => (.a [.i z.1.1, .i z.1.2.1, .i z.1.2.2.1, .s z.1.2.2.2.1, .i z.1.2.2.2.2.1, .i z.1.2.2.2.2.2.1, .s z.1.2.2.2.2.2.2] : AV)) hE25.symm) (congrArg (fun z => ([.h code, .i ((z.2.1 : Nat) : Int), .i z.2.2] : List C)) hE25.symm)
def Zi (n_ : Nat) (code : (List UInt8)) (ci : Nat) (ch : Int) (q : (List Xv)) (deep : Int) (not : Bool) : (List Xv) × Nat × Int := match n_ with
 | 0 => default
 | n_ + 1 => (bif (deep == (0 : Int)) then (lt (α := Xv × Nat × Int) (Y3 code ci ch) (fun x2 => (q ++ [x2.1], x2.2.1, x2.2.2))) else (lt (α := Bool × Nat × Int) (Yk code ci ch 3) (fun x6 => (bif x6.1 then (lt (α := Xv × Nat × Int) (Y3 code x6.2.1 x6.2.2) (fun x8 => (q ++ [x8.1], x8.2.1, x8.2.2))) else (lt (α := Int × Nat × Int) (Qg code x6.2.1 x6.2.2 5) (fun x12 => (bif ((x12.1 == (0 : Int)) && not) then (lt (α := (List Xv) × Nat × Int) (Zi n_ code x12.2.1 x12.2.2 q (deep - 1) true) (fun x15 => (x15.1 ++ [((5, ((x15.1.length : Int) - 1), 0, ⟨#[]⟩, (0, 0, ⟨#[]⟩)) : Xv)], x15.2.1, x15.2.2))) else (lt (α := (List Xv) × Nat × Int) (Zi n_ code x12.2.1 x12.2.2 q (deep - 1) not) (fun x19 => (lt (α := (List Xv) × Nat × Int) (Zi n_ code x19.2.1 x19.2.2 x19.1 0 not) (fun x22 => (bif decide (x12.1 < (3 : Int)) then (x22.1 ++ [((6, ((x19.1.length : Int) - 1), ((x22.1.length : Int) - 1), ⟨#[]⟩, (0, 0, ⟨#[]⟩)) : Xv)], x22.2.1, x22.2.2) else (x22.1 ++ [((7, ((x19.1.length : Int) - 1), ((x22.1.length : Int) - 1), ⟨#[]⟩, (0, 0, ⟨#[]⟩)) : Xv)], x22.2.1, x22.2.2)))))))))))))
theorem grow_len (code : List UInt8) : ∀ (n ci : Nat) (ch : Int) (q : List Xv) (deep : Int) (not_ : Bool), 0 ≤ deep → deep < n → q.length + 1 ≤ (Zi n code ci ch q deep not_).1.length ∧ ((Zi n code ci ch q deep not_).1.length : Int) ≤ q.length + 2 * deep + 1
  | 0, _, _, _, _, _, h0, h1 => by omega
  | n + 1, ci, ch, q, deep, not_, h0, h1 => by
    have ih := grow_len code n
    unfold Zi lt
    by_cases hz : deep = 0
    · rw [beq_iff_eq.2 hz]
      simp only [cond_true, List.length_append, List.length_cons, List.length_nil]
      omega
    · rw [beq_eq_false_iff_ne.2 hz]
      simp only [cond_false]
      generalize Yk code ci ch 3 = x
      cases x.1 with
      | true =>
        simp only [cond_true, List.length_append, List.length_cons, List.length_nil]
        omega
      | false =>
        simp only [cond_false]
        generalize Qg code x.2.1 x.2.2 5 = y
        cases ((y.1 == (0 : Int)) && not_) with
        | true =>
          simp only [cond_true, List.length_append, List.length_cons, List.length_nil]
          have := ih y.2.1 y.2.2 q (deep - 1) true (by omega) (by omega)
          omega
        | false =>
          simp only [cond_false]
          have h2 := ih y.2.1 y.2.2 q (deep - 1) not_ (by omega) (by omega)
          generalize Zi n code y.2.1 y.2.2 q (deep - 1) not_ = z at h2
          have h3 := ih z.2.1 z.2.2 z.1 0 not_ (by omega) (by omega)
          generalize Zi n code z.2.1 z.2.2 z.1 0 not_ = u at h3
          cases decide (y.1 < (3 : Int)) <;> simp only [cond_true, cond_false, List.length_append, List.length_cons, List.length_nil] <;> omega
theorem specl09Grow_a : ∀ (n_ : Nat) (code : (List UInt8)) (ci : Nat) (ch : Int) (q : (List Xv)) (deep : Int) (not : Bool) (hd : 0 ≤ deep) (hn : deep < (n_ : Int)) (hq : (List.length q : Int) + 2 * deep ≤ 1000), AGive Tryz.prog 210 [.h code, .i ((ci : Nat) : Int), .i ch] [.o 63 q, .i deep, .b not] (.o 0 (((Zi n_ code ci ch q deep not)).1)) [.h code, .i ((((Zi n_ code ci ch q deep not)).2.1 : Nat) : Int), .i (((Zi n_ code ci ch q deep not)).2.2)] := by
 intro n_
 induction n_ with
 | zero => intro code ci ch q deep not hd hn hq; exact (by omega : False).elim
 | succ n_ ih =>
  intro code ci ch q deep not hd hn hq
  refine Jx (tt := tt) Qa Tryz.func210 (fn := Tryz.f210) rfl (by unfold FnOk; kernel_rfl) (Nat.le_of_ble_eq_true rfl) (Nat.le_of_ble_eq_true rfl) rfl rfl fun w0 F0 hG => ?_
  refine su Qa [(8, .e 0)] [] [] [] (p0) ?_
  refine Qd ?_
  refine Qd ?_
  refine Xd (deep == (0 : Int)) (fun h1 => ?_) (fun h1 => ?_)
  ·
   have h1d := eq_of_beq h1
   refine ru Qa [(16, .b true)] [] [] [] (pt 1 h1 p0) ?_
   refine ckT ?_
   obtain ⟨x2, hx2⟩ : ∃ z : Xv × Nat × Int, Y3 code ci ch = z := ⟨_, rfl⟩
   refine wT 1 0 (.own true 63) q (fun hw3 hl4 => ?_)
   refine su Qa [(8, .one (.slc (.own true 1344) 7 ((eL q) ++ [[.i x2.1.1, .i x2.1.2.1, .i x2.1.2.2.1, .s x2.1.2.2.2.1, .i x2.1.2.2.2.2.1, .i x2.1.2.2.2.2.2.1, .s x2.1.2.2.2.2.2.2]])))] [1, 8, 16] [(60000, [.h code, .i ((x2.2.1 : Nat) : Int), .i x2.2.2])] [60000] (po 2 (.give none (.a [.i x2.1.1, .i x2.1.2.1, .i x2.1.2.2.1, .s x2.1.2.2.2.1, .i x2.1.2.2.2.2.1, .i x2.1.2.2.2.2.2.1, .s x2.1.2.2.2.2.2.2]) [.h code, .i ((x2.2.1 : Nat) : Int), .i x2.2.2]) (px (Q0 (hx2 ▸ specl09Leaf_a code ci ch)) (pa q [x2.1] p0))) ?_
   refine eqn [(8, .o 1344 (q ++ [x2.1]))] [8] [] [] (by rw [show ((eL q) ++ [[.i x2.1.1, .i x2.1.2.1, .i x2.1.2.2.1, .s x2.1.2.2.2.1, .i x2.1.2.2.2.2.1, .i x2.1.2.2.2.2.2.1, .s x2.1.2.2.2.2.2.2]]) = (eL (q ++ [x2.1])) from Kc (rfl) (rfl)]; first | done | kernel_rfl) ?_
   refine Qe ?_
   have hE5 : Zi (n_ + 1) code ci ch q deep not = (q ++ [x2.1], x2.2.1, x2.2.2) := Q4 h1 (Yh hx2 (rfl))
   exact Uk [] (congrArg (fun z => (.o 0 z.1 : AV)) hE5.symm) (congrArg (fun z => ([.h code, .i ((z.2.1 : Nat) : Int), .i z.2.2] : List C)) hE5.symm)
  ·
   have h1d := X2 h1
   obtain ⟨x6, hx6⟩ : ∃ z : Bool × Nat × Int, Yk code ci ch 3 = z := ⟨_, rfl⟩
   refine rn Qa [0, 1, 2, 3, 8, 16] [60000] (pf 1 h1 (po 4 (.give none (.b x6.1) [.h code, .i ((x6.2.1 : Nat) : Int), .i x6.2.2]) (px (Q0 (hx6 ▸ Km code ci ch 3)) p0))) ?_
   refine ck x6.1 (fun h7 => ?_) (fun h7 => ?_)
   ·
    obtain ⟨x8, hx8⟩ : ∃ z : Xv × Nat × Int, Y3 code x6.2.1 x6.2.2 = z := ⟨_, rfl⟩
    refine wT 1 0 (.own true 63) q (fun hw9 hl10 => ?_)
    refine tu Qa [(8, .one (.slc (.own true 1344) 7 ((eL q) ++ [[.i x8.1.1, .i x8.1.2.1, .i x8.1.2.2.1, .s x8.1.2.2.2.1, .i x8.1.2.2.2.2.1, .i x8.1.2.2.2.2.2.1, .s x8.1.2.2.2.2.2.2]])))] [1, 8] [(60000, [.h code, .i ((x8.2.1 : Nat) : Int), .i x8.2.2])] [60000] (po 2 (.give none (.a [.i x8.1.1, .i x8.1.2.1, .i x8.1.2.2.1, .s x8.1.2.2.2.1, .i x8.1.2.2.2.2.1, .i x8.1.2.2.2.2.2.1, .s x8.1.2.2.2.2.2.2]) [.h code, .i ((x8.2.1 : Nat) : Int), .i x8.2.2]) (px (Q0 (hx8 ▸ specl09Leaf_a code x6.2.1 x6.2.2)) (pa q [x8.1] p0))) ?_
    refine eqn [(8, .o 1344 (q ++ [x8.1]))] [8] [] [] (by rw [show ((eL q) ++ [[.i x8.1.1, .i x8.1.2.1, .i x8.1.2.2.1, .s x8.1.2.2.2.1, .i x8.1.2.2.2.2.1, .i x8.1.2.2.2.2.2.1, .s x8.1.2.2.2.2.2.2]]) = (eL (q ++ [x8.1])) from Kc (rfl) (rfl)]; first | done | kernel_rfl) ?_
    refine Qe ?_
    have hE11 : Zi (n_ + 1) code ci ch q deep not = (q ++ [x8.1], x8.2.1, x8.2.2) := Qk h1 (Yh hx6 (Q4 h7 (Yh hx8 (rfl))))
    exact Uk [] (congrArg (fun z => (.o 0 z.1 : AV)) hE11.symm) (congrArg (fun z => ([.h code, .i ((z.2.1 : Nat) : Int), .i z.2.2] : List C)) hE11.symm)
   ·
    refine Qf ?_
    obtain ⟨x12, hx12⟩ : ∃ z : Int × Nat × Int, Qg code x6.2.1 x6.2.2 5 = z := ⟨_, rfl⟩
    have hbx12 := hx12 ▸ Qt code x6.2.1 x6.2.2 5
    refine tn Qa [0, 1, 2, 3, 8, 9] [60000] (po 1 (.give none (.i x12.1) [.h code, .i ((x12.2.1 : Nat) : Int), .i x12.2.2]) (px (Q0 (hx12 ▸ Q3 code x6.2.1 x6.2.2 5)) p0)) ?_
    refine Qd ?_
    refine Qd ?_
    refine mz [(9, .i x12.1)] [] [(60000, [.h code, .i ((x12.2.1 : Nat) : Int), .i x12.2.2])] [60000] ?_
    refine jn [(28, .b ((x12.1 == (0 : Int)) && not))] [] [] [] (x12.1 == (0 : Int)) (fun h13 => ?_) (fun h13 => ?_) ?_
    ·
     refine ru Qa [(28, .b not)] [] [] [] (pt 1 h13 p0) ?_
     exact ⟨rfl, Qc (by rw [h13]; first | done | kernel_rfl)⟩
    ·
     refine ru Qa [(28, .b false)] [] [] [] (pf 1 h13 p0) ?_
     exact ⟨rfl, Qc (by rw [h13]; first | done | kernel_rfl)⟩
    refine ck ((x12.1 == (0 : Int)) && not) (fun h14 => ?_) (fun h14 => ?_)
    ·
     have h14l : ((x12.1 == (0 : Int))) = true := and_l h14
     have h14ld := eq_of_beq h14l
     have h14r : (not) = true := and_r h14
     obtain ⟨x15, hx15⟩ : ∃ z : (List Xv) × Nat × Int, Zi n_ code x12.2.1 x12.2.2 q (deep - 1) true = z := ⟨_, rfl⟩
     have hbx15 := hx15 ▸ grow_len code n_ x12.2.1 x12.2.2 q (deep - 1) true (by omega) (by omega)
     refine sn Qa [0, 1, 2, 3, 8, 9] [60000] (pe 3 (Zq (IntWalk.i64_in (deep - 1) (by omega))) (pt 4 h14r (po 5 (.give (some 63) (.o 0 x15.1) [.h code, .i ((x15.2.1 : Nat) : Int), .i x15.2.2]) (px (Q0 (hx15 ▸ ih code x12.2.1 x12.2.2 q (deep - 1) true (by omega) (by omega) (by omega))) p0)))) ?_
     refine wT 1 0 (.own true 2176) x15.1 (fun hw16 hl17 => ?_)
     refine tu Qa [(8, .one (.slc (.own true 2624) 7 ((eL x15.1) ++ [[.i 5, .i ((x15.1.length : Int) - 1), .i 0, .s ⟨#[]⟩, .i 0, .i 0, .s ⟨#[]⟩]])))] [1, 8, 28] [(60000, [.h code, .i ((x15.2.1 : Nat) : Int), .i x15.2.2])] [60000] (pl 2 x15.1 (pe 3 (Zq (IntWalk.i64_in ((x15.1.length : Int) - 1) (by omega))) (pa x15.1 [((5, ((x15.1.length : Int) - 1), 0, ⟨#[]⟩, (0, 0, ⟨#[]⟩)) : Xv)] p0))) ?_
     refine eqn [(8, .o 2624 (x15.1 ++ [((5, ((x15.1.length : Int) - 1), 0, ⟨#[]⟩, (0, 0, ⟨#[]⟩)) : Xv)]))] [8] [] [] (by rw [show ((eL x15.1) ++ [[.i 5, .i ((x15.1.length : Int) - 1), .i 0, .s ⟨#[]⟩, .i 0, .i 0, .s ⟨#[]⟩]]) = (eL (x15.1 ++ [((5, ((x15.1.length : Int) - 1), 0, ⟨#[]⟩, (0, 0, ⟨#[]⟩)) : Xv)])) from Kc (rfl) (rfl)]; first | done | kernel_rfl) ?_
     refine Qe ?_
     have hE18 : Zi (n_ + 1) code ci ch q deep not = (x15.1 ++ [((5, ((x15.1.length : Int) - 1), 0, ⟨#[]⟩, (0, 0, ⟨#[]⟩)) : Xv)], x15.2.1, x15.2.2) := Qk h1 (Yh hx6 (Qk h7 (Yh hx12 (Q4 h14 (Yh hx15 (rfl))))))
     exact Uk [] (congrArg (fun z => (.o 0 z.1 : AV)) hE18.symm) (congrArg (fun z => ([.h code, .i ((z.2.1 : Nat) : Int), .i z.2.2] : List C)) hE18.symm)
    ·
     refine Qf ?_
     obtain ⟨x19, hx19⟩ : ∃ z : (List Xv) × Nat × Int, Zi n_ code x12.2.1 x12.2.2 q (deep - 1) not = z := ⟨_, rfl⟩
     have hbx19 := hx19 ▸ grow_len code n_ x12.2.1 x12.2.2 q (deep - 1) not (by omega) (by omega)
     refine sn Qa [0, 1, 3, 8, 9] [60000] (pe 3 (Zq (IntWalk.i64_in (deep - 1) (by omega))) (po 5 (.give (some 63) (.o 0 x19.1) [.h code, .i ((x19.2.1 : Nat) : Int), .i x19.2.2]) (px (Q0 (hx19 ▸ ih code x12.2.1 x12.2.2 q (deep - 1) not (by omega) (by omega) (by omega))) p0))) ?_
     refine wT 1 0 (.own true 3008) x19.1 (fun hw20 hl21 => ?_)
     refine tn Qa [0, 1, 3, 8, 9, 10] [60000] (pl 1 x19.1 (pe 2 (Zq (IntWalk.i64_in ((x19.1.length : Int) - 1) (by omega))) p0)) ?_
     obtain ⟨x22, hx22⟩ : ∃ z : (List Xv) × Nat × Int, Zi n_ code x19.2.1 x19.2.2 x19.1 0 not = z := ⟨_, rfl⟩
     have hbx22 := hx22 ▸ grow_len code n_ x19.2.1 x19.2.2 x19.1 0 not (by omega) (by omega)
     refine tu Qa [(1, .o 3456 x22.1), (10, .i ((x19.1.length : Int) - 1))] [1, 2, 3, 28] [(60000, [.h code, .i ((x22.2.1 : Nat) : Int), .i x22.2.2])] [60000] (po 3 (.give (some 3008) (.o 0 x22.1) [.h code, .i ((x22.2.1 : Nat) : Int), .i x22.2.2]) (px (Q0 (hx22 ▸ ih code x19.2.1 x19.2.2 x19.1 0 not (by omega) (by omega) (by omega))) p0)) ?_
     refine Qd ?_
     refine sn Qa [0, 1, 8, 10, 56] [60000] (p0) ?_
     refine ck (decide (x12.1 < (3 : Int))) (fun h23 => ?_) (fun h23 => ?_)
     ·
      have h23d := of_decide_eq_true h23
      refine wT 1 0 (.own true 3456) x22.1 (fun hw24 hl25 => ?_)
      refine tu Qa [(8, .one (.slc (.own true 4096) 7 ((eL x22.1) ++ [[.i 6, .i ((x19.1.length : Int) - 1), .i ((x22.1.length : Int) - 1), .s ⟨#[]⟩, .i 0, .i 0, .s ⟨#[]⟩]])))] [1, 8, 9] [] [] (pl 3 x22.1 (pe 4 (Zq (IntWalk.i64_in ((x22.1.length : Int) - 1) (by omega))) (pa x22.1 [((6, ((x19.1.length : Int) - 1), ((x22.1.length : Int) - 1), ⟨#[]⟩, (0, 0, ⟨#[]⟩)) : Xv)] p0))) ?_
      refine eqn [(8, .o 4096 (x22.1 ++ [((6, ((x19.1.length : Int) - 1), ((x22.1.length : Int) - 1), ⟨#[]⟩, (0, 0, ⟨#[]⟩)) : Xv)]))] [8] [] [] (by rw [show ((eL x22.1) ++ [[.i 6, .i ((x19.1.length : Int) - 1), .i ((x22.1.length : Int) - 1), .s ⟨#[]⟩, .i 0, .i 0, .s ⟨#[]⟩]]) = (eL (x22.1 ++ [((6, ((x19.1.length : Int) - 1), ((x22.1.length : Int) - 1), ⟨#[]⟩, (0, 0, ⟨#[]⟩)) : Xv)])) from Kc (rfl) (rfl)]; first | done | kernel_rfl) ?_
      refine Qe ?_
      have hE26 : Zi (n_ + 1) code ci ch q deep not = (x22.1 ++ [((6, ((x19.1.length : Int) - 1), ((x22.1.length : Int) - 1), ⟨#[]⟩, (0, 0, ⟨#[]⟩)) : Xv)], x22.2.1, x22.2.2) := Qk h1 (Yh hx6 (Qk h7 (Yh hx12 (Qk h14 (Yh hx19 (Yh hx22 (Q4 h23 (rfl))))))))
      exact Uk [] (congrArg (fun z => (.o 0 z.1 : AV)) hE26.symm) (congrArg (fun z => ([.h code, .i ((z.2.1 : Nat) : Int), .i z.2.2] : List C)) hE26.symm)
     ·
      have h23d := of_decide_eq_false h23
      refine Qf ?_
      refine wT 1 0 (.own true 3456) x22.1 (fun hw27 hl28 => ?_)
      refine tu Qa [(8, .one (.slc (.own true 4608) 7 ((eL x22.1) ++ [[.i 7, .i ((x19.1.length : Int) - 1), .i ((x22.1.length : Int) - 1), .s ⟨#[]⟩, .i 0, .i 0, .s ⟨#[]⟩]])))] [1, 8, 9, 10] [] [] (pl 3 x22.1 (pe 4 (Zq (IntWalk.i64_in ((x22.1.length : Int) - 1) (by omega))) (pa x22.1 [((7, ((x19.1.length : Int) - 1), ((x22.1.length : Int) - 1), ⟨#[]⟩, (0, 0, ⟨#[]⟩)) : Xv)] p0))) ?_
      refine eqn [(8, .o 4608 (x22.1 ++ [((7, ((x19.1.length : Int) - 1), ((x22.1.length : Int) - 1), ⟨#[]⟩, (0, 0, ⟨#[]⟩)) : Xv)]))] [8] [] [] (by rw [show ((eL x22.1) ++ [[.i 7, .i ((x19.1.length : Int) - 1), .i ((x22.1.length : Int) - 1), .s ⟨#[]⟩, .i 0, .i 0, .s ⟨#[]⟩]]) = (eL (x22.1 ++ [((7, ((x19.1.length : Int) - 1), ((x22.1.length : Int) - 1), ⟨#[]⟩, (0, 0, ⟨#[]⟩)) : Xv)])) from Kc (rfl) (rfl)]; first | done | kernel_rfl) ?_
      refine Qe ?_
      have hE29 : Zi (n_ + 1) code ci ch q deep not = (x22.1 ++ [((7, ((x19.1.length : Int) - 1), ((x22.1.length : Int) - 1), ⟨#[]⟩, (0, 0, ⟨#[]⟩)) : Xv)], x22.2.1, x22.2.2) := Qk h1 (Yh hx6 (Qk h7 (Yh hx12 (Qk h14 (Yh hx19 (Yh hx22 (Qk h23 (rfl))))))))
      exact Uk [] (congrArg (fun z => (.o 0 z.1 : AV)) hE29.symm) (congrArg (fun z => ([.h code, .i ((z.2.1 : Nat) : Int), .i z.2.2] : List C)) hE29.symm)
def Zp (code : (List UInt8)) (ci : Nat) (ch : Int) : (List Xv) × Nat × Int := (lt (α := Int × Nat × Int) (Qg code ci ch 4) (fun x1 => (lt (α := (List Xv) × Nat × Int) (Zi (Int.toNat x1.1 + 1) code x1.2.1 x1.2.2 [] x1.1 true) (fun x2 => (x2.1, x2.2.1, x2.2.2)))))
theorem ques_len (code : List UInt8) (ci : Nat) (ch : Int) : 1 ≤ (Zp code ci ch).1.length ∧ (Zp code ci ch).1.length ≤ 7 := by
 unfold Zp lt
 have hb := Qt code ci ch 4
 generalize Qg code ci ch 4 = x at hb
 have h := grow_len code (Int.toNat x.1 + 1) x.2.1 x.2.2 [] x.1 true (by omega) (by omega)
 simp only [List.length_nil] at h
 simp only
 omega
theorem specl09Question_a (code : (List UInt8)) (ci : Nat) (ch : Int) : AGive Tryz.prog 161 [.h code, .i ((ci : Nat) : Int), .i ch] [] (.o 0 (((Zp code ci ch)).1)) [.h code, .i ((((Zp code ci ch)).2.1 : Nat) : Int), .i (((Zp code ci ch)).2.2)] := by
 refine Jx (tt := tt) Qa Tryz.func161 (fn := Tryz.f161) rfl (by unfold FnOk; kernel_rfl) (Nat.le_of_ble_eq_true rfl) (Nat.le_of_ble_eq_true rfl) rfl rfl fun w0 F0 hG => ?_
 refine sn Qa [0, 2] [60000] (p0) ?_
 obtain ⟨x1, hx1⟩ : ∃ z : Int × Nat × Int, Qg code ci ch 4 = z := ⟨_, rfl⟩
 have hbx1 := hx1 ▸ Qt code ci ch 4
 obtain ⟨x2, hx2⟩ : ∃ z : (List Xv) × Nat × Int, Zi (Int.toNat x1.1 + 1) code x1.2.1 x1.2.2 [] x1.1 true = z := ⟨_, rfl⟩
 have hbx2 := hx2 ▸ grow_len code (Int.toNat x1.1 + 1) x1.2.1 x1.2.2 [] x1.1 true (by omega) (by omega)
 refine tn Qa [0, 2] [60000] (po 2 (.give none (.i x1.1) [.h code, .i ((x1.2.1 : Nat) : Int), .i x1.2.2]) (px (Q0 (hx1 ▸ Q3 code ci ch 4)) (po 3 (.give none (.o 0 x2.1) [.h code, .i ((x2.2.1 : Nat) : Int), .i x2.2.2]) (px (Q0 (hx2 ▸ (specl09Grow_a (Int.toNat x1.1 + 1) code x1.2.1 x1.2.2 [] x1.1 true (by omega) (by omega) (by first | omega | (simp; omega))).emp (m := 0) (by simp [AV.cells, C.key, C.bkeys, Tok.key]))) p0)))) ?_
 refine Qe ?_
 have hE3 : Zp code ci ch = (x2.1, x2.2.1, x2.2.2) := Yh hx1 (Yh hx2 (rfl))
 exact Uk [] (congrArg (fun z => (.o 0 z.1 : AV)) hE3.symm) (congrArg (fun z => ([.h code, .i ((z.2.1 : Nat) : Int), .i z.2.2] : List C)) hE3.symm)
def Y8 (code : (List UInt8)) (s0 : (List Yq) × Int × Nat × Int) : Rd ((List Yq) × Nat × Int) ((List Yq) × Int × Nat × Int) ((List Yq) × Nat × Int) := (lt (α := Int × Nat × Int) (Qg code s0.2.2.1 s0.2.2.2 4) (fun x1 => (bif decide (s0.2.1 < (1 + x1.1)) then (lt (α := (List Xv) × Nat × Int) (Zp code x1.2.1 x1.2.2) (fun x4 => (.next (s0.1 ++ [((nth ([⟨#[100, 97]⟩, ⟨#[100, 98]⟩, ⟨#[100, 99]⟩, ⟨#[100, 100]⟩] : (List ByteArray)) (Int.toNat s0.2.1)), x4.1)], (s0.2.1 + 1), x4.2.1, x4.2.2)))) else (.brk (s0.1, x1.2.1, x1.2.2)))))
def J9 (code : (List UInt8)) (ci : Nat) (ch : Int) : (List Yq) × Nat × Int := (Out.on (whlD (Y8 code) 5 ([], 0, ci, ch)) (fun y0 => (y0.1, y0.2.1, y0.2.2)))
theorem specl11Dirs_w (code : List UInt8) (ci : Nat) (ch : Int) : (whl (Y8 code) 5 ([], 0, ci, ch)).isSome = true :=
  whl_up (fun s => s.2.1) 4 (fun s s' h0 h => by
    unfold Y8 lt at h
    have hb := Qt code s.2.2.1 s.2.2.2 4
    generalize Qg code s.2.2.1 s.2.2.2 4 = x at h hb
    by_cases hc : s.2.1 < 1 + x.1
    · simp only [decide_eq_true hc, cond_true] at h
      have h := Rd.next.inj h
      rw [← h]
      exact ⟨by omega, rfl⟩
    · simp only [decide_eq_false hc, cond_false] at h
      cases h) 4 _ (by show (0 : Int) ≤ 0; decide) (by show (4 : Int) ≤ 0 + 4; decide)
theorem specl11Dirs_a (code : (List UInt8)) (ci : Nat) (ch : Int) : AGive Tryz.prog 152 [.h code, .i ((ci : Nat) : Int), .i ch] [] (.o 0 (((J9 code ci ch)).1)) [.h code, .i ((((J9 code ci ch)).2.1 : Nat) : Int), .i (((J9 code ci ch)).2.2)] := by
 refine Jx (tt := tt) Qa Tryz.func152 (fn := Tryz.f152) rfl (by unfold FnOk; kernel_rfl) (Nat.le_of_ble_eq_true rfl) (Nat.le_of_ble_eq_true rfl) rfl rfl fun w0 F0 hG => ?_
 refine sn Qa [0, 2] [60000] (p0) ?_
 refine tn Qa [0, 2, 3] [60000] (p0) ?_
 refine Qd ?_
 refine tu Qa [(2, .e 0), (3, .one (.slc (.own true 320) 2 [])), (4, .i 0)] [] [] [] (p0) ?_
 refine blw (fun (s0 : (List Yq) × Int × Nat × Int) => [(3, .o 147202 s0.1), (4, .i s0.2.1)]) [3, 4] (fun s0 => [(60000, [.h code, .i ((s0.2.2.1 : Nat) : Int), .i s0.2.2.2])]) [60000] (fun (y0 : (List Yq) × Nat × Int) => [(3, .o 147352 y0.1)]) [3, 4] (fun y0 => [(60000, [.h code, .i ((y0.2.1 : Nat) : Int), .i y0.2.2])]) [60000] (fun (k0 : Nat) (s0 : (List Yq) × Int × Nat × Int) => whl (Y8 code) k0 s0 = some (whlD (Y8 code) 5 ([], 0, ci, ch)) ∧ 0 ≤ s0.2.1 ∧ (List.length s0.1 : Int) ≤ s0.2.1) (fun (y0 : (List Yq) × Nat × Int) => (whlD (Y8 code) 5 ([], 0, ci, ch)) = .brk y0) 5 ([], 0, ci, ch) (Xx [(320, 147202)] (by kernel_rfl)) ⟨whl_some (specl11Dirs_w code ci ch), (by first | omega | (simp; done) | (dsimp only; omega)), (by first | omega | (simp; done) | (dsimp only; omega))⟩ (fun _ h => whl_zero h.1) (fun k0 s0 hI0 => ?_) (fun y0 hD0 => ?_)
 ·
  have hA0_0 := hI0.2.1
  have hA0_1 := hI0.2.2
  refine Qd ?_
  obtain ⟨x1, hx1⟩ : ∃ z : Int × Nat × Int, Qg code s0.2.2.1 s0.2.2.2 4 = z := ⟨_, rfl⟩
  have hbx1 := hx1 ▸ Qt code s0.2.2.1 s0.2.2.2 4
  refine sn Qa [0, 2, 3, 4, 10] [60000] (po 2 (.give none (.i x1.1) [.h code, .i ((x1.2.1 : Nat) : Int), .i x1.2.2]) (px (Q0 (hx1 ▸ Q3 code s0.2.2.1 s0.2.2.2 4)) (pe 3 (Zq (IntWalk.i64_in (1 + x1.1) (by omega))) p0))) ?_
  refine ck (decide (s0.2.1 < (1 + x1.1))) (fun h2 => ?_) (fun h2 => ?_)
  ·
   have h2d := of_decide_eq_true h2
   refine Qf ?_
   refine Qd ?_
   refine Qr ?_
   have hx3 := ng ([⟨#[100, 97]⟩, ⟨#[100, 98]⟩, ⟨#[100, 99]⟩, ⟨#[100, 100]⟩] : (List ByteArray)) (Int.toNat s0.2.1) (by simp only [List.length_cons, List.length_nil]; omega)
   obtain ⟨x4, hx4⟩ : ∃ z : (List Xv) × Nat × Int, Zp code x1.2.1 x1.2.2 = z := ⟨_, rfl⟩
   have hbx4 := hx4 ▸ ques_len code x1.2.1 x1.2.2
   refine wT 3 0 (.own true 147202) s0.1 (fun hw5 hl6 => ?_)
   refine qU Qa Yr [(3, .one (.slc (.own true 1408) 2 ((eL s0.1) ++ [[.s (nth ([⟨#[100, 97]⟩, ⟨#[100, 98]⟩, ⟨#[100, 99]⟩, ⟨#[100, 100]⟩] : (List ByteArray)) (Int.toNat s0.2.1)), .h x4.1]])))] [3] [(60000, [.h code, .i ((x4.2.1 : Nat) : Int), .i x4.2.2])] [60000] (pG 3 s0.2.1 hx3 (po 6 (.give none (.o 0 x4.1) [.h code, .i ((x4.2.1 : Nat) : Int), .i x4.2.2]) (px (Q0 (hx4 ▸ specl09Question_a code x1.2.1 x1.2.2)) (pa s0.1 [((nth ([⟨#[100, 97]⟩, ⟨#[100, 98]⟩, ⟨#[100, 99]⟩, ⟨#[100, 100]⟩] : (List ByteArray)) (Int.toNat s0.2.1)), x4.1)] p0)))) ?_
   refine eqn [(3, .o 1408 (s0.1 ++ [((nth ([⟨#[100, 97]⟩, ⟨#[100, 98]⟩, ⟨#[100, 99]⟩, ⟨#[100, 100]⟩] : (List ByteArray)) (Int.toNat s0.2.1)), x4.1)]))] [3] [] [] (by rw [show ((eL s0.1) ++ [[.s (nth ([⟨#[100, 97]⟩, ⟨#[100, 98]⟩, ⟨#[100, 99]⟩, ⟨#[100, 100]⟩] : (List ByteArray)) (Int.toNat s0.2.1)), .h x4.1]]) = (eL (s0.1 ++ [((nth ([⟨#[100, 97]⟩, ⟨#[100, 98]⟩, ⟨#[100, 99]⟩, ⟨#[100, 100]⟩] : (List ByteArray)) (Int.toNat s0.2.1)), x4.1)])) from Kc (rfl) (rfl)]; first | done | kernel_rfl) ?_
   refine rn Qa [0, 2, 3, 4] [60000] (pe 1 (Zq (IntWalk.i64_in (s0.2.1 + 1) (by omega))) p0) ?_
   exact Exists.intro (s0.1 ++ [((nth ([⟨#[100, 97]⟩, ⟨#[100, 98]⟩, ⟨#[100, 99]⟩, ⟨#[100, 100]⟩] : (List ByteArray)) (Int.toNat s0.2.1)), x4.1)], (s0.2.1 + 1), x4.2.1, x4.2.2) (And.intro (Xx [(1408, 147202)] (by kernel_rfl)) ⟨wn hI0.1 (Yh hx1 (Q4 h2 (Yh hx4 (rfl)))), (by first | omega | (simp; omega)), (by first | omega | (simp; omega))⟩)
  ·
   refine Qz ?_
   exact Exists.intro (s0.1, x1.2.1, x1.2.2) (And.intro (Xx [(147202, 147352)] (by kernel_rfl)) (wb hI0.1 (Yh hx1 (Qk h2 (rfl)))))
 ·
  refine sn Qa [0, 2] [60000] (p0) ?_
  refine Qe ?_
  have hE7 : J9 code ci ch = (y0.1, y0.2.1, y0.2.2) := V2 hD0 (rfl)
  exact Uk [] (congrArg (fun z => (.o 0 z.1 : AV)) hE7.symm) (congrArg (fun z => ([.h code, .i ((z.2.1 : Nat) : Int), .i z.2.2] : List C)) hE7.symm)
def Jj (d : (List Yq)) : Bool := ((Xn d)).2
theorem specIsStratified_a (d : (List Yq)) : ACalls Tryz.prog 153 [.h d] (.b (Jj d)) := by
 refine en Qa Tryz.func153 fun w0 F0 hG => ?_
 refine sn Qa [0, 2] [] (p0) ?_
 refine tn Qa [2, 4] [] (pc 1 (specStrata_a d) p0) ?_
 refine tu Qa [(2, .b (((Xn d)).2))] [0] [] [] (p0) ?_
 refine Qe ?_
 exact pb [] (show Jj d = ((Xn d)).2 from rfl)
def Z2 (s0 : (List Yq)) : Rd ((List Yq) × Nat × Int) ((List Yq)) ((List Yq)) := (bif (decide ((s0.length : Int) > (0 : Int)) && (!(Jj s0))) then (.next (List.take (Int.toNat ((s0.length : Int) - 1)) s0)) else (.brk s0))
def Jg (code : (List UInt8)) (ci : Nat) (ch : Int) : (List Yq) × Nat × Int := (lt (α := (List Yq) × Nat × Int) (J9 code ci ch) (fun x1 => (Out.on (whlD Z2 (List.length x1.1 + 1) x1.1) (fun y0 => (bif ((y0.length : Int) == (0 : Int)) then ([((⟨#[100, 97]⟩, [((1, 0, 0, ⟨#[]⟩, (0, 0, ⟨#[]⟩)) : Xv)]) : Yq)], x1.2.1, x1.2.2) else (y0, x1.2.1, x1.2.2))))))
theorem specl13Dirs_w (code : List UInt8) (d : List Yq) : (whl Z2 (List.length d + 1) d).isSome = true :=
  whl_down (fun s => List.length s) (fun s s' h => by
    unfold Z2 at h
    by_cases hc : ((s.length : Int) > 0)
    · simp only [decide_eq_true hc, Bool.true_and, cond_true] at h
      cases hs : Jj s <;> simp only [hs, Bool.not_true, Bool.not_false, cond_true, cond_false] at h
      · have h := Rd.next.inj h
        rw [← h, List.length_take]
        omega
      · cases h
    · simp only [decide_eq_false hc, Bool.false_and, cond_false] at h
      cases h) _ _ (Nat.lt_succ_self _)
theorem l13_ne (code : List UInt8) (ci : Nat) (ch : Int) : 0 < (Jg code ci ch).1.length := by
  unfold Jg lt
  generalize J9 code ci ch = x
  obtain ⟨t, ht⟩ := whlD_brk (f := Z2) (fun s r => by
    unfold Z2
    generalize (decide ((s.length : Int) > (0 : Int)) && (!(Jj s))) = c
    cases c <;> simp) (List.length x.1 + 1) x.1
  simp only [ht, Out.on]
  by_cases h : (t.length : Int) = 0
  · rw [beq_iff_eq.2 h]; exact Nat.zero_lt_one
  · rw [beq_eq_false_iff_ne.2 h]
    show 0 < t.length
    omega
theorem specl13Dirs_a (code : (List UInt8)) (ci : Nat) (ch : Int) : AGive Tryz.prog 103 [.h code, .i ((ci : Nat) : Int), .i ch] [] (.h (((Jg code ci ch)).1)) [.h code, .i ((((Jg code ci ch)).2.1 : Nat) : Int), .i (((Jg code ci ch)).2.2)] := by
 refine Jx (tt := tt) Qa Tryz.func103 (fn := Tryz.f103) rfl (by unfold FnOk; kernel_rfl) (Nat.le_of_ble_eq_true rfl) (Nat.le_of_ble_eq_true rfl) rfl rfl fun w0 F0 hG => ?_
 refine sn Qa [0, 2] [60000] (p0) ?_
 obtain ⟨x1, hx1⟩ : ∃ z : (List Yq) × Nat × Int, J9 code ci ch = z := ⟨_, rfl⟩
 refine tn Qa [0, 2, 3] [60000] (po 1 (.give none (.o 0 x1.1) [.h code, .i ((x1.2.1 : Nat) : Int), .i x1.2.2]) (px (Q0 (hx1 ▸ specl11Dirs_a code ci ch)) p0)) ?_
 refine Qd ?_
 refine mz [(2, .e 0), (3, .o 320 x1.1)] [] [(60000, [.h code, .i ((x1.2.1 : Nat) : Int), .i x1.2.2])] [60000] ?_
 refine blw (fun (s0 : (List Yq)) => [(3, .h s0)]) [3] (fun s0 => []) [] (fun (y0 : (List Yq)) => [(3, .h y0)]) [3] (fun y0 => []) [] (fun (k0 : Nat) (s0 : (List Yq)) => whl Z2 k0 s0 = some (whlD Z2 (List.length x1.1 + 1) x1.1)) (fun (y0 : (List Yq)) => (whlD Z2 (List.length x1.1 + 1) x1.1) = .brk y0) (List.length x1.1 + 1) x1.1 (weak_gf [] [320] [] [] (by kernel_rfl)) (whl_some (specl13Dirs_w code x1.1)) (fun _ h => whl_zero h) (fun k0 s0 hI0 => ?_) (fun y0 hD0 => ?_)
 ·
  refine Qd ?_
  refine Qd ?_
  refine jn [(13, .b (decide ((s0.length : Int) > (0 : Int)) && (!(Jj s0))))] [] [] [] (decide ((s0.length : Int) > (0 : Int))) (fun h2 => ?_) (fun h2 => ?_) ?_
  ·
   refine rn Qa [0, 2, 3, 13] [60000] (pl 1 s0 (pt 2 h2 (pc 5 (specIsStratified_a s0) p0))) ?_
   exact ⟨rfl, Qc (by rw [h2]; first | done | kernel_rfl)⟩
  ·
   refine rn Qa [0, 2, 3, 13] [60000] (pl 1 s0 (pf 2 h2 p0)) ?_
   exact ⟨rfl, Qc (by rw [h2]; first | done | kernel_rfl)⟩
  refine ck (decide ((s0.length : Int) > (0 : Int)) && (!(Jj s0))) (fun h3 => ?_) (fun h3 => ?_)
  ·
   have h3l : (decide ((s0.length : Int) > (0 : Int))) = true := and_l h3
   have h3ld := of_decide_eq_true h3l
   refine Qf ?_
   refine Qr ?_
   refine wT 3 0 .sh s0 (fun hw4 hl5 => ?_)
   refine rn Qa [0, 2, 3] [60000] (pl 2 s0 (pe 3 (Zq (IntWalk.i64_in ((s0.length : Int) - 1) (by omega))) (pe 4 (av_take .sh 2 (Int.toNat ((s0.length : Int) - 1)) ((s0.length : Int) - 1) s0 rfl) (px (ob_rng (lo := 0) (hi := ((s0.length : Int) - 1)) (n := (List.length (eL s0))) (rng_of (by omega) (by omega) (by omega))) p0)))) ?_
   exact Exists.intro _ (And.intro (Qc (by kernel_rfl)) (wn hI0 (Q4 h3 (rfl))))
  ·
   refine Qz ?_
   exact Exists.intro _ (And.intro (Qc (by kernel_rfl)) (wb hI0 (Qk h3 (rfl))))
 ·
  refine Qd ?_
  refine sn Qa [0, 2, 3, 21] [60000] (pl 1 y0 p0) ?_
  refine ck ((y0.length : Int) == (0 : Int)) (fun h6 => ?_) (fun h6 => ?_)
  ·
   refine qn Qa [0, 2, 3] [60000] (p0) ?_
   refine tu Qa [(2, .o 1600 [((⟨#[100, 97]⟩, [((1, 0, 0, ⟨#[]⟩, (0, 0, ⟨#[]⟩)) : Xv)]) : Yq)])] [2, 3] [] [] (p0) ?_
   refine Qe ?_
   have hE7 : Jg code ci ch = ([((⟨#[100, 97]⟩, [((1, 0, 0, ⟨#[]⟩, (0, 0, ⟨#[]⟩)) : Xv)]) : Yq)], x1.2.1, x1.2.2) := Yh hx1 (V2 hD0 (Q4 h6 (rfl)))
   exact Uk [1600] (congrArg (fun z => (.h z.1 : AV)) hE7.symm) (congrArg (fun z => ([.h code, .i ((z.2.1 : Nat) : Int), .i z.2.2] : List C)) hE7.symm)
  ·
   refine Qf ?_
   refine tn Qa [0, 2] [60000] (p0) ?_
   refine Qe ?_
   have hE8 : Jg code ci ch = (y0, x1.2.1, x1.2.2) := Yh hx1 (V2 hD0 (Qk h6 (rfl)))
   exact Uk [] (congrArg (fun z => (.h z.1 : AV)) hE8.symm) (congrArg (fun z => ([.h code, .i ((z.2.1 : Nat) : Int), .i z.2.2] : List C)) hE8.symm)
def specl14Ids_f0 (code : (List UInt8)) (k0 : Nat) (s0 : (List Int) × Nat × Int) : Rd ((List Int) × Nat × Int) ((List Int) × Nat × Int) ((List Int) × Nat × Int) := (lt (α := Bool × Nat × Int) (Yk code s0.2.1 s0.2.2 2) (fun x1 => (bif x1.1 then (.next (s0.1 ++ [((k0 + 1 : Nat) : Int)], x1.2.1, x1.2.2)) else (.next (s0.1, x1.2.1, x1.2.2)))))
def specl14Ids_e0 (_ : Nat) (s0 : (List Int) × Nat × Int) : (List Int) × Nat × Int := (s0.1, s0.2.1, s0.2.2)
def Kx (code : (List UInt8)) (ci : Nat) (ch : Int) : (List Int) × Nat × Int := (Out.on (Vw (specl14Ids_f0 code) specl14Ids_e0 (Int.toNat ((8 : Int) - 1)) 0 ([], ci, ch)) (fun y0 => (y0.1, y0.2.1, y0.2.2)))
theorem specl14Ids_a (code : (List UInt8)) (ci : Nat) (ch : Int) : AGive Tryz.prog 105 [.h code, .i ((ci : Nat) : Int), .i ch] [] (.o 0 (((Kx code ci ch)).1)) [.h code, .i ((((Kx code ci ch)).2.1 : Nat) : Int), .i (((Kx code ci ch)).2.2)] := by
 refine Jx (tt := tt) Qa Tryz.func105 (fn := Tryz.f105) rfl (by unfold FnOk; kernel_rfl) (Nat.le_of_ble_eq_true rfl) (Nat.le_of_ble_eq_true rfl) rfl rfl fun w0 F0 hG => ?_
 refine sn Qa [0, 2] [60000] (p0) ?_
 refine tn Qa [0, 2, 3] [60000] (p0) ?_
 refine Qd ?_
 refine tu Qa [(2, .e 0), (3, .one (.slc (.own true 320) 1 [])), (4, .i 1)] [] [] [] (p0) ?_
 refine blN1b (specl14Ids_f0 code) specl14Ids_e0 (Int.toNat ((8 : Int) - 1)) ([], ci, ch) (fun k0 s0 => [(3, .o 147202 s0.1), (4, .i ((k0 + 1 : Nat) : Int))]) [3, 4] (fun _ s0 => [(60000, [.h code, .i ((s0.2.1 : Nat) : Int), .i s0.2.2])]) [60000] (fun y0 => [(3, .o 147352 y0.1)]) [3, 4] (fun y0 => [(60000, [.h code, .i ((y0.2.1 : Nat) : Int), .i y0.2.2])]) [60000] (fun k0 s0 => List.length s0.1 ≤ k0) (Xx [(320, 147202)] (by kernel_rfl)) (by simp) (fun k0 s0 hk0 hI0 => ?_) (fun k0 s0 hk0 hI0 => ?_) (fun y0 hD0 => ?_)
 ·
  have hA0_0 := hI0.2
  refine Qd ?_
  refine su Qa [(7, .b true)] [] [] [] (pe 1 (Qs (decide_eq_true (p := ((k0 + 1 : Nat) : Int) < (8 : Int)) (by omega))) p0) ?_
  refine ckT ?_
  refine Qf ?_
  refine Qd ?_
  refine Qr ?_
  obtain ⟨x1, hx1⟩ : ∃ z : Bool × Nat × Int, Yk code s0.2.1 s0.2.2 2 = z := ⟨_, rfl⟩
  refine sn Qa [0, 2, 3, 4, 11] [60000] (po 1 (.give none (.b x1.1) [.h code, .i ((x1.2.1 : Nat) : Int), .i x1.2.2]) (px (Q0 (hx1 ▸ Km code s0.2.1 s0.2.2 2)) p0)) ?_
  refine ck x1.1 (fun h2 => ?_) (fun h2 => ?_)
  ·
   refine wT 3 0 (.own true 147202) s0.1 (fun hw3 hl4 => ?_)
   refine qu Qa [(3, .one (.slc (.own true 960) 1 ((eL s0.1) ++ [[.i ((k0 + 1 : Nat) : Int)]])))] [3, 7] [(60000, [.h code, .i ((x1.2.1 : Nat) : Int), .i x1.2.2])] [60000] (pa s0.1 [((k0 + 1 : Nat) : Int)] p0) ?_
   refine eqn [(3, .o 960 (s0.1 ++ [((k0 + 1 : Nat) : Int)]))] [3] [] [] (by rw [show ((eL s0.1) ++ [[.i ((k0 + 1 : Nat) : Int)]]) = (eL (s0.1 ++ [((k0 + 1 : Nat) : Int)])) from Kc (rfl) (rfl)]; first | done | kernel_rfl) ?_
   refine rn Qa [0, 2, 3, 4] [60000] (pe 1 (show .i (IntKind.i64.wrap (((k0 + 1 : Nat) : Int) + 1)) = .i ((k0 + 2 : Nat) : Int) from Zq ((IntWalk.i64_in _ (by omega)).trans (by omega))) p0) ?_
   exact Exists.intro (s0.1 ++ [((k0 + 1 : Nat) : Int)], x1.2.1, x1.2.2) (And.intro (Xx [(960, 147202)] (by kernel_rfl)) ⟨Kf hk0 (Yh hx1 (Q4 h2 (rfl))) hI0.1, by first | omega | (simp; omega) | simp⟩)
  ·
   refine Qf ?_
   refine qn Qa [0, 2, 3, 4] [60000] (pe 1 (show .i (IntKind.i64.wrap (((k0 + 1 : Nat) : Int) + 1)) = .i ((k0 + 2 : Nat) : Int) from Zq ((IntWalk.i64_in _ (by omega)).trans (by omega))) p0) ?_
   exact Exists.intro (s0.1, x1.2.1, x1.2.2) (And.intro (Qc (by kernel_rfl)) ⟨Kf hk0 (Yh hx1 (Qk h2 (rfl))) hI0.1, by first | omega | (simp; omega) | simp⟩)
 ·
  have hA0_0 := hI0.2
  refine Qd ?_
  refine sn Qa [0, 2, 3, 4, 7] [60000] (pe 1 (Qs (decide_eq_false (p := ((k0 + 1 : Nat) : Int) < (8 : Int)) (by omega))) p0) ?_
  refine ckF ?_
  refine Qz ?_
  exact Exists.intro _ (And.intro (Xx [(147202, 147352)] (by kernel_rfl)) (forN_end hk0 (rfl) hI0.1))
 ·
  refine sn Qa [0, 2] [60000] (p0) ?_
  refine Qe ?_
  have hE5 : Kx code ci ch = (y0.1, y0.2.1, y0.2.2) := V2 hD0 (rfl)
  exact Uk [] (congrArg (fun z => (.o 0 z.1 : AV)) hE5.symm) (congrArg (fun z => ([.h code, .i ((z.2.1 : Nat) : Int), .i z.2.2] : List C)) hE5.symm)
def Yw (code : (List UInt8)) (ci : Nat) (ch : Int) (list : (List Int)) : Int × Nat × Int := (lt (α := Int × Nat × Int) (Qg code ci ch (list.length : Int)) (fun x1 => ((nth list (Int.toNat x1.1)), x1.2.1, x1.2.2)))
theorem Vl (code : (List UInt8)) (ci : Nat) (ch : Int) (list : (List Int)) (hp : 0 < List.length list) : AGive Tryz.prog 107 [.h code, .i ((ci : Nat) : Int), .i ch] [.h list] (.i (((Yw code ci ch list)).1)) [.h code, .i ((((Yw code ci ch list)).2.1 : Nat) : Int), .i (((Yw code ci ch list)).2.2)] := by
 refine Jx (tt := tt) Qa Tryz.func107 (fn := Tryz.f107) rfl (by unfold FnOk; kernel_rfl) (Nat.le_of_ble_eq_true rfl) (Nat.le_of_ble_eq_true rfl) rfl rfl fun w0 F0 hG => ?_
 refine sn Qa [0, 1, 4] [60000] (p0) ?_
 obtain ⟨x1, hx1⟩ : ∃ z : Int × Nat × Int, Qg code ci ch (list.length : Int) = z := ⟨_, rfl⟩
 have hbx1 := hx1 ▸ Qt code ci ch (list.length : Int)
 refine wT 1 0 .sh list (fun hw3 hl4 => ?_)
 have hx2 := ng list (Int.toNat x1.1)
 refine tn Qa [0, 4] [60000] (pl 3 list (po 4 (.give none (.i x1.1) [.h code, .i ((x1.2.1 : Nat) : Int), .i x1.2.2]) (px (Q0 (hx1 ▸ Q3 code ci ch (list.length : Int))) (pg 5 x1.1 hx2 p0)))) ?_
 refine Qe ?_
 have hE5 : Yw code ci ch list = ((nth list (Int.toNat x1.1)), x1.2.1, x1.2.2) := Yh hx1 (rfl)
 exact Uk [] (congrArg (fun z => (.i z.1 : AV)) hE5.symm) (congrArg (fun z => ([.h code, .i ((z.2.1 : Nat) : Int), .i z.2.2] : List C)) hE5.symm)
def specl06User (code : (List UInt8)) (ci : Nat) (ch : Int) : Int × Nat × Int := (lt (α := Int × Nat × Int) (Yw code ci ch [0, 1, 2, 0, 1, 3, -1]) (fun x1 => (x1.1, x1.2.1, x1.2.2)))
theorem specl06User_a (code : (List UInt8)) (ci : Nat) (ch : Int) : AGive Tryz.prog 106 [.h code, .i ((ci : Nat) : Int), .i ch] [] (.i (((specl06User code ci ch)).1)) [.h code, .i ((((specl06User code ci ch)).2.1 : Nat) : Int), .i (((specl06User code ci ch)).2.2)] := by
 refine Jx (tt := tt) Qa Tryz.func106 (fn := Tryz.f106) rfl (by unfold FnOk; kernel_rfl) (Nat.le_of_ble_eq_true rfl) (Nat.le_of_ble_eq_true rfl) rfl rfl fun w0 F0 hG => ?_
 refine sn Qa [0, 2] [60000] (p0) ?_
 obtain ⟨x1, hx1⟩ : ∃ z : Int × Nat × Int, Yw code ci ch [0, 1, 2, 0, 1, 3, -1] = z := ⟨_, rfl⟩
 refine tn Qa [0, 2] [60000] (po 2 (.give none (.i x1.1) [.h code, .i ((x1.2.1 : Nat) : Int), .i x1.2.2]) (px (Q0 (hx1 ▸ Vl code ci ch [0, 1, 2, 0, 1, 3, -1] (Nat.zero_lt_succ _))) p0)) ?_
 refine Qe ?_
 have hE2 : specl06User code ci ch = (x1.1, x1.2.1, x1.2.2) := Yh hx1 (rfl)
 exact Uk [] (congrArg (fun z => (.i z.1 : AV)) hE2.symm) (congrArg (fun z => ([.h code, .i ((z.2.1 : Nat) : Int), .i z.2.2] : List C)) hE2.symm)
def Z4 (s_ : Q2) (d : (List Yq)) (u : Int) (name : ByteArray) : Zf := (u, name, (X3 s_ d u name), [])
theorem specNewWatch_a (s_ : Q2) (d : (List Yq)) (u : Int) (name : ByteArray) : ACalls Tryz.prog 104 [.a [.h s_.1, .h s_.2.1, .i s_.2.2], .h d, .i u, .s name] (.a [.i ((Z4 s_ d u name).1), .s ((Z4 s_ d u name).2.1), .o 0 ((Z4 s_ d u name).2.2.1), .o 1 ((Z4 s_ d u name).2.2.2)]) := by
 refine en Qa Tryz.func104 fun w0 F0 hG => ?_
 refine sn Qa [1, 2, 3, 4, 8] [4, 8] (p0) ?_
 refine tn Qa [8] [8] (pc 6 (specListDir_a s_ d u name) p0) ?_
 refine opn [(true, 8, 3, true, 384000, 3)] ?_
 refine Qe ?_
 exact pz [] (show Z4 s_ d u name = (u, name, (X3 s_ d u name), []) from rfl) (fun z => .a [.i z.1, .s z.2.1, .o 0 z.2.2.1, .o 1 z.2.2.2])
end Go.Proofs.YtcnkkobgogmakaaGreat
namespace Go.Proofs.YtcnkkobgogmakaaGreat
open Go.RowKit
def stA (l : List AttrD) (nm : ByteArray) (v : Vp) : List AttrD := (Xb (0, 0, false, 0, l) nm v).2.2.2.2
theorem setAttr_at (f : Xy) (nm : ByteArray) (v : Vp) : Xb f nm v = (f.1, f.2.1, f.2.2.1, f.2.2.2.1, stA f.2.2.2.2 nm v) := by
  obtain ⟨a, b, c, d, l⟩ := f
  unfold stA Xb
  dsimp only
  rw [forL_filter (f := specSetAttr_f0 nm) (e := Un) (p := fun a => !(a.1.toList == nm.toList)) (g := id) (fun _ _ _ => rfl)]
  simp only [Out.on]
  cases (v.1 != (0 : Int)) with
  | false => rfl
  | true =>
    simp only [cond_true]
    generalize Un _ _ = l'
    obtain ⟨t, ht⟩ := forL_noret (f := Uo nm) (e := specSetAttr_e1) (fun k a s r => by
      unfold Uo
      generalize (Op.bytesLess a.1.toList nm.toList || a.1.toList == nm.toList) = c
      cases c <;> simp) l' 0 ()
    rw [ht]
def ints4 : List Int := [0, 1, 2, 3]
def A1 : List (List AttrD) := [] :: ints4.map fun n => stA [] ⟨#[97]⟩ (Xw n)
def A2 : List (List AttrD) := A1 ++ A1.flatMap fun l => ints4.map fun n => stA l ⟨#[98]⟩ (Xw n)
def A3 : List (List AttrD) := A2 ++ A2.flatMap fun l => ([⟨#[105, 110, 107]⟩, ⟨#[115, 101, 97]⟩] : List ByteArray).map fun s => stA l ⟨#[110]⟩ (Q7 s)
def A4 : List (List AttrD) := A3 ++ A3.flatMap fun l => ([⟨#[114, 101, 100]⟩, ⟨#[98, 108, 117, 101]⟩] : List ByteArray).map fun s => stA l ⟨#[116]⟩ (Q7 s)
theorem in4 {x : Int} (h0 : 0 ≤ x) (h1 : x < 4) : x ∈ ints4 := by
  unfold ints4
  simp only [List.mem_cons, List.not_mem_nil, or_false]
  omega
theorem pick_mem (code : List UInt8) (ci : Nat) (ch : Int) {list : List ByteArray} (hp : 0 < list.length) : (X4 code ci ch list).1 ∈ list := by
  unfold X4 lt
  have hb := Qt code ci ch (list.length : Int)
  generalize Qg code ci ch (list.length : Int) = x at hb ⊢
  exact List.mem_of_getElem? (Ur (by omega))
structure FOk (id : Int) (S : List (List AttrD)) (f : Xy) : Prop where
  h1 : f.1 = id
  h2 : 0 ≤ f.2.1
  h3 : f.2.1 ≤ 2
  h4 : 0 ≤ f.2.2.2.1
  h5 : f.2.2.2.1 ≤ 6
  h6 : f.2.2.2.2 ∈ S
theorem fok_set {id : Int} {S S' : List (List AttrD)} {f : Xy} {nm : ByteArray} {v : Vp} (h : FOk id S f) (hm : ∀ l, l ∈ S → stA l nm v ∈ S') : FOk id S' (Xb f nm v) := by
  rw [setAttr_at]
  exact ⟨h.h1, h.h2, h.h3, h.h4, h.h5, hm _ h.h6⟩
theorem fok_sub {id : Int} {S S' : List (List AttrD)} {f : Xy} (h : FOk id S f) (hm : ∀ l, l ∈ S → l ∈ S') : FOk id S' f := ⟨h.h1, h.h2, h.h3, h.h4, h.h5, hm _ h.h6⟩
theorem st_a {x : Int} (h0 : 0 ≤ x) (h1 : x < 4) : ∀ l, l ∈ ([[]] : List (List AttrD)) → stA l ⟨#[97]⟩ (Xw x) ∈ A1 := fun l hl => by
  rw [List.mem_singleton.1 hl]
  exact List.mem_cons_of_mem _ (List.mem_map.2 ⟨x, in4 h0 h1, rfl⟩)
theorem lf {id : Int} {S : List (List AttrD)} {α : Type} {t : α} {f : α → Xy × Nat × Int} (Q : α → Prop) (h : Q t) (k : ∀ x, Q x → FOk id S (f x).1) : FOk id S (lt t f).1 := k t h
theorem l04_ok (code : List UInt8) (ci : Nat) (ch id : Int) : FOk id A4 (Zw code ci ch id).1 := by
  have bd : ∀ (ci : Nat) (ch : Int) (n : Int), 0 < n → 0 ≤ (Qg code ci ch n).1 ∧ (Qg code ci ch n).1 < n := fun ci ch n h => ⟨(Qt code ci ch n).1, (Qt code ci ch n).2.1 h⟩
  unfold Zw
  refine lf (fun x : Int × Nat × Int => 0 ≤ x.1 ∧ x.1 < 3) (bd ci ch 3 (by decide)) fun x1 hx1 => ?_
  refine lf (fun _ => True) trivial fun x2 _ => ?_
  refine lf (fun _ => True) trivial fun x3 _ => ?_
  refine lf (fun x : Int × Nat × Int => 0 ≤ x.1 ∧ x.1 ≤ 6) ?_ fun x4 hx4 => ?_
  · cases x3.1 with
    | true => simp only [cond_true]; exact lt_any (P := fun x : Int × Nat × Int => 0 ≤ x.1 ∧ x.1 ≤ 6) (fun x : Int × Nat × Int => 0 ≤ x.1 ∧ x.1 < 7) (bd _ _ 7 (by decide)) fun x h => ⟨h.1, by have := h.2; show x.1 ≤ 6; omega⟩
    | false => exact ⟨Int.le_refl 0, by show (0 : Int) ≤ 6; decide⟩
  refine lf (fun _ => True) trivial fun x7 _ => ?_
  have f0 : FOk id [[]] (id, x1.1, x2.1, x4.1, []) := ⟨rfl, hx1.1, by have := hx1.2; show x1.1 ≤ 2; omega, hx4.1, hx4.2, by simp⟩
  refine lf (fun z : Xy × Nat × Int => FOk id A1 z.1) ?_ fun x8 hx8 => ?_
  · cases x7.1 with
    | true => exact fok_sub f0 fun l hl => by rw [List.mem_singleton.1 hl]; exact List.mem_cons_self
    | false => simp only [Bool.not_false, cond_true]; exact lf (S := A1) (fun x : Int × Nat × Int => 0 ≤ x.1 ∧ x.1 < 4) (bd _ _ 4 (by decide)) fun y hy => fok_set f0 (st_a hy.1 hy.2)
  refine lf (fun _ => True) trivial fun x11 _ => ?_
  refine lf (fun z : Xy × Nat × Int => FOk id A2 z.1) ?_ fun x12 hx12 => ?_
  · cases x11.1 with
    | false => exact fok_sub hx8 fun l hl => List.mem_append_left _ hl
    | true => simp only [cond_true]; exact lf (S := A2) (fun x : Int × Nat × Int => 0 ≤ x.1 ∧ x.1 < 4) (bd _ _ 4 (by decide)) fun y hy => fok_set hx8 fun l hl => List.mem_append_right _ (List.mem_flatMap.2 ⟨l, hl, List.mem_map.2 ⟨y.1, in4 hy.1 hy.2, rfl⟩⟩)
  refine lf (fun _ => True) trivial fun x15 _ => ?_
  refine lf (fun z : Xy × Nat × Int => FOk id A3 z.1) ?_ fun x16 hx16 => ?_
  · cases x15.1 with
    | true => exact fok_sub hx12 fun l hl => List.mem_append_left _ hl
    | false => simp only [Bool.not_false, cond_true]; exact lf (S := A3) (fun x : ByteArray × Nat × Int => x.1 ∈ ([⟨#[105, 110, 107]⟩, ⟨#[115, 101, 97]⟩] : List ByteArray)) (pick_mem code _ _ (Nat.zero_lt_succ _)) fun y hy => fok_set hx12 fun l hl => List.mem_append_right _ (List.mem_flatMap.2 ⟨l, hl, List.mem_map.2 ⟨y.1, hy, rfl⟩⟩)
  refine lf (fun _ => True) trivial fun x19 _ => ?_
  cases x19.1 with
  | false => exact fok_sub hx16 fun l hl => List.mem_append_left _ hl
  | true => simp only [cond_true]; exact lf (S := A4) (fun x : ByteArray × Nat × Int => x.1 ∈ ([⟨#[114, 101, 100]⟩, ⟨#[98, 108, 117, 101]⟩] : List ByteArray)) (pick_mem code _ _ (Nat.zero_lt_succ _)) fun y hy => fok_set hx16 fun l hl => List.mem_append_right _ (List.mem_flatMap.2 ⟨l, hl, List.mem_map.2 ⟨y.1, hy, rfl⟩⟩)
def okAttrs (l : List AttrD) : Bool := match Xp (Yt Qq (0, 0, false, 0, l)) Z6 l 0 () with
  | .brk _ => true
  | .ret _ => false
theorem all_ok : A4.all okAttrs = true := by kernel_rfl
theorem usual_ok : Zn Qq = true := by kernel_rfl
theorem l04_valid {id i : Int} {f : Xy} (h : FOk id A4 f) (h1 : 1 ≤ i) (h2 : i ≤ 60) : Xq Qq (i, f.2) = true := by
  obtain ⟨a, o, s, x, l⟩ := f
  have hl := List.all_eq_true.1 all_ok l h.h6
  have e : Xp (Yt Qq (i, o, s, x, l)) Z6 l 0 () = .brk () := by
    have e2 : Yt Qq (i, o, s, x, l) = Yt Qq (0, 0, false, 0, l) := rfl
    rw [e2]
    unfold okAttrs at hl
    split at hl
    · rename_i t ht; exact ht
    · cases hl
  have h2' := h.h2
  have h3' := h.h3
  have h4' := h.h4
  have h5' := h.h5
  dsimp only at h2' h3' h4' h5'
  show Out.on (Xp (Yt Qq (i, o, s, x, l)) Z6 l 0 ()) _ = true
  rw [e]
  simp only [Out.on, usual_ok, Q1, Bool.true_and]
  rw [decide_eq_true (show i ≥ 1 from h1), decide_eq_true (show i ≤ 60 from h2), decide_eq_true (show o ≥ 0 from h2'), decide_eq_true (show o ≤ 2 from h3'), decide_eq_true (show x ≥ 0 from h4'), decide_eq_true (show x ≤ 60 by omega)]
  rfl
structure S5 (s : Q2) : Prop where
  vs : VS s
  sch : s.1 = Qq
  nx : s.2.2 ≤ 8 + s.2.1.length
theorem s5_push {s : Q2} {id : Int} {f : Xy} (h : S5 s) (hl : s.2.1.length < 12) (hf : FOk id A4 f) : (X0 s f).1.2.1.length = s.2.1.length + 1 ∧ S5 (X0 s f).1 := by
  have hn : s.2.2 ≤ 60 := by have := h.nx; omega
  have hv : Xq s.1 (s.2.2, f.2) = true := by rw [h.sch]; exact l04_valid hf h.vs.nx1 hn
  rw [createS h.vs hl hn hv]
  exact ⟨by simp, vs_push h.vs hl hn hv, h.sch, by have := h.nx; simp; omega⟩
theorem l05_ok (code : List UInt8) (ci : Nat) (ch : Int) : S5 (Y6 code ci ch).1 ∧ (Y6 code ci ch).1.2.1.length ≤ 7 := by
  unfold Y6
  obtain ⟨t, ht⟩ := whlD_brk (f := Jf code) (fun s r => by
    unfold Jf lt
    dsimp only
    generalize decide (_ < IntKind.i64.wrap _) = c
    cases c <;> simp) 8 (0, (Zs Qq), ci, ch)
  have hj : VS t.1 ∧ t.1.1 = Qq ∧ t.1.2.2 ≤ 8 ∧ t.1.2.1.length ≤ 7 := whlD_inv (f := Jf code) (I := fun s => VS s.2.1 ∧ s.2.1.1 = Qq ∧ s.2.1.2.2 ≤ 1 + s.1 ∧ (s.2.1.2.1.length : Int) ≤ s.1 ∧ 0 ≤ s.1 ∧ s.1 ≤ 7) (J := fun t => VS t.1 ∧ t.1.1 = Qq ∧ t.1.2.2 ≤ 8 ∧ t.1.2.1.length ≤ 7) (fun s s' hi h => by
    unfold Jf lt at h
    have hb := Qt code s.2.2.1 s.2.2.2 7
    generalize Qg code s.2.2.1 s.2.2.2 7 = x at h hb
    have e : IntKind.i64.wrap (1 + x.1) = 1 + x.1 := IntWalk.i64_in _ (by omega)
    simp only [e] at h
    obtain ⟨i1, i2, i3, i4, i5, i6⟩ := hi
    by_cases hc : s.1 < 1 + x.1
    · simp only [decide_eq_true hc, cond_true] at h
      have h := Rd.next.inj h
      have e3 : IntKind.i64.wrap (s.1 + 1) = s.1 + 1 := IntWalk.i64_in _ (by omega)
      rw [← h, e3]
      obtain ⟨c1, c2, c3, c4, c5⟩ := create_vs (Zw code x.2.1 x.2.2 1).1 i1
      refine ⟨c1, c2.trans i2, ?_, ?_, ?_, ?_⟩ <;> dsimp only <;> omega
    · simp only [decide_eq_false hc, cond_false] at h
      cases h) (fun s t hi h => by
    unfold Jf lt at h
    generalize Qg code s.2.2.1 s.2.2.2 7 = x at h
    obtain ⟨i1, i2, i3, i4, i5, i6⟩ := hi
    by_cases hc : s.1 < IntKind.i64.wrap (1 + x.1)
    · simp only [decide_eq_true hc, cond_true] at h
      cases h
    · simp only [decide_eq_false hc, cond_false] at h
      have h := Rd.brk.inj h
      rw [← h]
      exact ⟨i1, i2, by dsimp only; omega, by dsimp only; omega⟩) (by
    refine ⟨⟨usual_ok, by simp [Zs], by simp [Zs], by simp [Zs], fun i a h => by simp [Zs] at h, fun i a b h => by simp [Zs] at h⟩, rfl, ?_, ?_, ?_, ?_⟩
    · show (1 : Int) ≤ 1 + 0; decide
    · show ((0 : Nat) : Int) ≤ 0; decide
    · show (0 : Int) ≤ 0; decide
    · show (0 : Int) ≤ 7; decide) (specl05Store_w code ci ch _) ht
  rw [ht]
  simp only [Out.on]
  obtain ⟨j1, j2, j3, j4⟩ := hj
  have fin : S5 t.1 ∧ t.1.2.1.length ≤ 7 := ⟨⟨j1, j2, by omega⟩, j4⟩
  cases decide ((t.1.2.1.length : Int) > (2 : Int)) with
  | false => exact fin
  | true =>
    simp only [cond_true]
    refine lt_any (P := fun z : Q2 × Nat × Int => S5 z.1 ∧ z.1.2.1.length ≤ 7) (fun _ => True) trivial fun x5 _ => ?_
    cases x5.1 with
    | false => exact fin
    | true =>
      obtain ⟨d1, d2, d3, d4⟩ := delete_vs ((nth t.1.2.1 1).1) j1
      exact ⟨⟨d1, d2.trans j2, by show _ ≤ _; dsimp only [cond_true]; omega⟩, by dsimp only [cond_true]; omega⟩
theorem all_len : A4.all (fun l => decide (l.length ≤ 4)) = true := by kernel_rfl
theorem l04_len (code : List UInt8) (ci : Nat) (ch id : Int) : List.length (Zw code ci ch id).1.2.2.2.2 ≤ 4 := of_decide_eq_true (List.all_eq_true.1 all_len _ (l04_ok code ci ch id).h6)
theorem l11_len (code : List UInt8) (ci : Nat) (ch : Int) : 1 ≤ (J9 code ci ch).1.length ∧ (J9 code ci ch).1.length ≤ 4 := by
  unfold J9
  obtain ⟨t, ht⟩ := whlD_brk (f := Y8 code) (fun s r => by
    unfold Y8 lt
    generalize Qg code s.2.2.1 s.2.2.2 4 = x
    simp only
    generalize decide (s.2.1 < 1 + x.1) = c
    cases c <;> simp) 5 ([], 0, ci, ch)
  have := whlD_inv (f := Y8 code) (I := fun s => (s.1.length : Int) = s.2.1 ∧ s.2.1 ≤ 4) (J := fun t => 1 ≤ t.1.length ∧ t.1.length ≤ 4) (fun s s' hi h => by
    unfold Y8 lt at h
    have hb := Qt code s.2.2.1 s.2.2.2 4
    generalize Qg code s.2.2.1 s.2.2.2 4 = x at h hb
    by_cases hc : s.2.1 < 1 + x.1
    · simp only [decide_eq_true hc, cond_true] at h
      have h := Rd.next.inj h
      rw [← h]
      refine ⟨?_, ?_⟩
      · simp; omega
      · show s.2.1 + 1 ≤ 4; omega
    · simp only [decide_eq_false hc, cond_false] at h
      cases h) (fun s t hi h => by
    unfold Y8 lt at h
    have hb := Qt code s.2.2.1 s.2.2.2 4
    generalize Qg code s.2.2.1 s.2.2.2 4 = x at h hb
    by_cases hc : s.2.1 < 1 + x.1
    · simp only [decide_eq_true hc, cond_true] at h
      cases h
    · simp only [decide_eq_false hc, cond_false] at h
      have h := Rd.brk.inj h
      rw [← h]
      dsimp only
      omega) (n := 5) (s := ([], 0, ci, ch)) (t := t) ⟨rfl, by show (0 : Int) ≤ 4; decide⟩ (specl11Dirs_w code ci ch) ht
  rw [ht]
  exact this
open GoE (enc wide)
def V0 (code : (List UInt8)) (ci : Nat) (ch : Int) : Vp × Nat × Int := (lt (α := Int × Nat × Int) (Qg code ci ch 5) (fun x1 => (bif (x1.1 == (0 : Int)) then ((0, 0, ⟨#[]⟩), x1.2.1, x1.2.2) else (lt (α := Bool) (bif (x1.1 == (1 : Int)) then (x1.1 == (1 : Int)) else (x1.1 == (2 : Int))) (fun x4 => (bif x4 then (lt (α := Int × Nat × Int) (Qg code x1.2.1 x1.2.2 5) (fun x7 => ((Xw x7.1), x7.2.1, x7.2.2))) else (lt (α := ByteArray × Nat × Int) (X4 code x1.2.1 x1.2.2 [⟨#[114, 101, 100]⟩, ⟨#[98, 108, 117, 101]⟩, ⟨#[105, 110, 107]⟩]) (fun x9 => ((Q7 x9.1), x9.2.1, x9.2.2)))))))))
theorem specl02Value_a (code : (List UInt8)) (ci : Nat) (ch : Int) : AGive Tryz.prog 247 [.h code, .i ((ci : Nat) : Int), .i ch] [] (.a [.i ((((V0 code ci ch)).1).1), .i ((((V0 code ci ch)).1).2.1), .s ((((V0 code ci ch)).1).2.2)]) [.h code, .i ((((V0 code ci ch)).2.1 : Nat) : Int), .i (((V0 code ci ch)).2.2)] := by
 refine Jx (tt := tt) Qa Tryz.func247 (fn := Tryz.f247) rfl (by unfold FnOk; kernel_rfl) (Nat.le_of_ble_eq_true rfl) (Nat.le_of_ble_eq_true rfl) rfl rfl fun w0 F0 hG => ?_
 refine sn Qa [0, 2] [2, 60000] (p0) ?_
 refine Qd ?_
 obtain ⟨x1, hx1⟩ : ∃ z : Int × Nat × Int, Qg code ci ch 5 = z := ⟨_, rfl⟩
 have hbx1 := hx1 ▸ Qt code ci ch 5
 refine tn Qa [0, 2, 4] [2, 60000] (po 1 (.give none (.i x1.1) [.h code, .i ((x1.2.1 : Nat) : Int), .i x1.2.2]) (px (Q0 (hx1 ▸ Q3 code ci ch 5)) p0)) ?_
 refine Qr ?_
 refine tu Qa [(2, .p 2 0), (4, .i x1.1), (5, .b (x1.1 == (0 : Int)))] [] [(2, [.i 0, .i 0, .s ⟨#[]⟩]), (60000, [.h code, .i ((x1.2.1 : Nat) : Int), .i x1.2.2])] [60000] (p0) ?_
 refine ck (x1.1 == (0 : Int)) (fun h2 => ?_) (fun h2 => ?_)
 ·
  refine su Qa [] [4, 5] [] [] (p0) ?_
  refine Qe ?_
  have hE3 : V0 code ci ch = ((0, 0, ⟨#[]⟩), x1.2.1, x1.2.2) := Yh hx1 (Q4 h2 (rfl))
  exact Uk [] (congrArg (fun z => (.a [.i z.1.1, .i z.1.2.1, .s z.1.2.2] : AV)) hE3.symm) (congrArg (fun z => ([.h code, .i ((z.2.1 : Nat) : Int), .i z.2.2] : List C)) hE3.symm)
 ·
  refine Qd ?_
  refine sn Qa [0, 2, 4, 8] [2, 60000] (p0) ?_
  refine mz [(8, .b (x1.1 == (1 : Int)))] [5] [] [] ?_
  obtain ⟨x4, hx4⟩ : ∃ z : Bool, (bif (x1.1 == (1 : Int)) then (x1.1 == (1 : Int)) else (x1.1 == (2 : Int))) = z := ⟨_, rfl⟩
  refine jn [(8, .b x4)] [4, 8] [] [] (x1.1 == (1 : Int)) (fun h5 => ?_) (fun h5 => ?_) ?_
  ·
   refine ckt h5 ?_
   refine Qf ?_
   obtain rfl : x4 = (x1.1 == (1 : Int)) := hx4.symm.trans (show (bif (x1.1 == (1 : Int)) then (x1.1 == (1 : Int)) else (x1.1 == (2 : Int))) = (x1.1 == (1 : Int)) from Q4 h5 (rfl))
   exact ⟨rfl, Qc (by kernel_rfl)⟩
  ·
   refine ckf h5 ?_
   refine rn Qa [0, 2, 8] [2, 60000] (p0) ?_
   obtain rfl : x4 = (x1.1 == (2 : Int)) := hx4.symm.trans (show (bif (x1.1 == (1 : Int)) then (x1.1 == (1 : Int)) else (x1.1 == (2 : Int))) = (x1.1 == (2 : Int)) from Qk h5 (rfl))
   exact ⟨rfl, Qc (by kernel_rfl)⟩
  refine ck x4 (fun h6 => ?_) (fun h6 => ?_)
  ·
   obtain ⟨x7, hx7⟩ : ∃ z : Int × Nat × Int, Qg code x1.2.1 x1.2.2 5 = z := ⟨_, rfl⟩
   have hbx7 := hx7 ▸ Qt code x1.2.1 x1.2.2 5
   refine sn Qa [0, 2] [2, 60000] (po 1 (.give none (.i x7.1) [.h code, .i ((x7.2.1 : Nat) : Int), .i x7.2.2]) (px (Q0 (hx7 ▸ Q3 code x1.2.1 x1.2.2 5)) (pc 2 (Um x7.1) p0))) ?_
   refine Qe ?_
   have hE8 : V0 code ci ch = ((Xw x7.1), x7.2.1, x7.2.2) := Yh hx1 (Qk h2 (Yh hx4 (Q4 h6 (Yh hx7 (rfl)))))
   exact Uk [] (congrArg (fun z => (.a [.i z.1.1, .i z.1.2.1, .s z.1.2.2] : AV)) hE8.symm) (congrArg (fun z => ([.h code, .i ((z.2.1 : Nat) : Int), .i z.2.2] : List C)) hE8.symm)
  ·
   refine Qf ?_
   obtain ⟨x9, hx9⟩ : ∃ z : ByteArray × Nat × Int, X4 code x1.2.1 x1.2.2 [⟨#[114, 101, 100]⟩, ⟨#[98, 108, 117, 101]⟩, ⟨#[105, 110, 107]⟩] = z := ⟨_, rfl⟩
   refine sn Qa [0, 2] [2, 60000] (po 2 (.give none (.s x9.1) [.h code, .i ((x9.2.1 : Nat) : Int), .i x9.2.2]) (px (Q0 (hx9 ▸ J6 code x1.2.1 x1.2.2 [⟨#[114, 101, 100]⟩, ⟨#[98, 108, 117, 101]⟩, ⟨#[105, 110, 107]⟩] (Nat.zero_lt_succ _))) (pc 3 (Ub x9.1) p0))) ?_
   refine Qe ?_
   have hE10 : V0 code ci ch = ((Q7 x9.1), x9.2.1, x9.2.2) := Yh hx1 (Qk h2 (Yh hx4 (Qk h6 (Yh hx9 (rfl)))))
   exact Uk [] (congrArg (fun z => (.a [.i z.1.1, .i z.1.2.1, .s z.1.2.2] : AV)) hE10.symm) (congrArg (fun z => ([.h code, .i ((z.2.1 : Nat) : Int), .i z.2.2] : List C)) hE10.symm)
def V6 (code : (List UInt8)) (ci : Nat) (ch : Int) : Vp × Nat × Int := (lt (α := Vp × Nat × Int) (V0 code ci ch) (fun x1 => (lt (α := Int × Nat × Int) (Qg code x1.2.1 x1.2.2 10) (fun x2 => (bif (x2.1 == (0 : Int)) then (lt (α := Int × Nat × Int) (Qg code x2.2.1 x2.2.2 5) (fun x4 => (((x4.1 - 1), x1.1.2.1, x1.1.2.2), x4.2.1, x4.2.2))) else (bif (x2.1 == (1 : Int)) then (lt (α := Int × Nat × Int) (Yw code x2.2.1 x2.2.2 [-1, 0, 999, 1000, 9223372036854775807]) (fun x7 => ((x1.1.1, x7.1, x1.1.2.2), x7.2.1, x7.2.2))) else (bif (x2.1 == (2 : Int)) then (lt (α := ByteArray × Nat × Int) (X4 code x2.2.1 x2.2.2 [⟨#[]⟩, ⟨#[65]⟩, ⟨#[97, 98, 99, 100, 101, 102, 103]⟩, ⟨#[97, 98, 99, 100, 101, 102]⟩, ⟨#[97, 32, 98]⟩]) (fun x10 => ((x1.1.1, x1.1.2.1, x10.1), x10.2.1, x10.2.2))) else (x1.1, x2.2.1, x2.2.2))))))))
theorem specl02Any_a (code : (List UInt8)) (ci : Nat) (ch : Int) : AGive Tryz.prog 208 [.h code, .i ((ci : Nat) : Int), .i ch] [] (.a [.i ((((V6 code ci ch)).1).1), .i ((((V6 code ci ch)).1).2.1), .s ((((V6 code ci ch)).1).2.2)]) [.h code, .i ((((V6 code ci ch)).2.1 : Nat) : Int), .i (((V6 code ci ch)).2.2)] := by
 refine Jx (tt := tt) Qa Tryz.func208 (fn := Tryz.f208) rfl (by unfold FnOk; kernel_rfl) (Nat.le_of_ble_eq_true rfl) (Nat.le_of_ble_eq_true rfl) rfl rfl fun w0 F0 hG => ?_
 refine sn Qa [0, 2] [2, 60000] (p0) ?_
 obtain ⟨x1, hx1⟩ : ∃ z : Vp × Nat × Int, V0 code ci ch = z := ⟨_, rfl⟩
 refine tn Qa [0, 2, 3] [2, 3, 60000] (po 1 (.give none (.a [.i x1.1.1, .i x1.1.2.1, .s x1.1.2.2]) [.h code, .i ((x1.2.1 : Nat) : Int), .i x1.2.2]) (px (Q0 (hx1 ▸ specl02Value_a code ci ch)) p0)) ?_
 refine Qd ?_
 obtain ⟨x2, hx2⟩ : ∃ z : Int × Nat × Int, Qg code x1.2.1 x1.2.2 10 = z := ⟨_, rfl⟩
 have hbx2 := hx2 ▸ Qt code x1.2.1 x1.2.2 10
 refine tu Qa [(2, .p 2 0), (3, .p 3 0), (7, .i x2.1)] [] [(2, [.i 0, .i 0, .s ⟨#[]⟩]), (3, [.i x1.1.1, .i x1.1.2.1, .s x1.1.2.2]), (60000, [.h code, .i ((x2.2.1 : Nat) : Int), .i x2.2.2])] [60000] (po 1 (.give none (.i x2.1) [.h code, .i ((x2.2.1 : Nat) : Int), .i x2.2.2]) (px (Q0 (hx2 ▸ Q3 code x1.2.1 x1.2.2 10)) p0)) ?_
 refine Qr ?_
 refine sn Qa [0, 2, 3, 7, 8] [2, 3, 60000] (p0) ?_
 refine ck (x2.1 == (0 : Int)) (fun h3 => ?_) (fun h3 => ?_)
 ·
  have h3d := eq_of_beq h3
  obtain ⟨x4, hx4⟩ : ∃ z : Int × Nat × Int, Qg code x2.2.1 x2.2.2 5 = z := ⟨_, rfl⟩
  have hbx4 := hx4 ▸ Qt code x2.2.1 x2.2.2 5
  refine qn Qa [0, 2, 3] [2, 3, 60000] (po 1 (.give none (.i x4.1) [.h code, .i ((x4.2.1 : Nat) : Int), .i x4.2.2]) (px (Q0 (hx4 ▸ Q3 code x2.2.1 x2.2.2 5)) (pe 2 (Zq (IntWalk.i64_in (x4.1 - 1) (by omega))) p0))) ?_
  refine tu Qa [] [3, 7] [(2, [.i (x4.1 - 1), .i x1.1.2.1, .s x1.1.2.2]), (60000, [.h code, .i ((x4.2.1 : Nat) : Int), .i x4.2.2])] [2, 3, 60000] (p0) ?_
  refine Qe ?_
  have hE5 : V6 code ci ch = (((x4.1 - 1), x1.1.2.1, x1.1.2.2), x4.2.1, x4.2.2) := Yh hx1 (Yh hx2 (Q4 h3 (Yh hx4 (rfl))))
  exact Uk [] (congrArg (fun z => (.a [.i z.1.1, .i z.1.2.1, .s z.1.2.2] : AV)) hE5.symm) (congrArg (fun z => ([.h code, .i ((z.2.1 : Nat) : Int), .i z.2.2] : List C)) hE5.symm)
 ·
  refine tn Qa [0, 2, 3, 7, 14] [2, 3, 60000] (p0) ?_
  refine ck (x2.1 == (1 : Int)) (fun h6 => ?_) (fun h6 => ?_)
  ·
   obtain ⟨x7, hx7⟩ : ∃ z : Int × Nat × Int, Yw code x2.2.1 x2.2.2 [-1, 0, 999, 1000, 9223372036854775807] = z := ⟨_, rfl⟩
   refine qu Qa [] [7] [(3, [.i x1.1.1, .i x7.1, .s x1.1.2.2]), (60000, [.h code, .i ((x7.2.1 : Nat) : Int), .i x7.2.2])] [3, 60000] (po 2 (.give none (.i x7.1) [.h code, .i ((x7.2.1 : Nat) : Int), .i x7.2.2]) (px (Q0 (hx7 ▸ Vl code x2.2.1 x2.2.2 [-1, 0, 999, 1000, 9223372036854775807] (Nat.zero_lt_succ _))) p0)) ?_
   refine sn Qa [0, 2] [2, 60000] (p0) ?_
   refine Qe ?_
   have hE8 : V6 code ci ch = ((x1.1.1, x7.1, x1.1.2.2), x7.2.1, x7.2.2) := Yh hx1 (Yh hx2 (Qk h3 (Q4 h6 (Yh hx7 (rfl)))))
   exact Uk [] (congrArg (fun z => (.a [.i z.1.1, .i z.1.2.1, .s z.1.2.2] : AV)) hE8.symm) (congrArg (fun z => ([.h code, .i ((z.2.1 : Nat) : Int), .i z.2.2] : List C)) hE8.symm)
  ·
   refine tu Qa [(20, .b (x2.1 == (2 : Int)))] [7] [] [] (p0) ?_
   refine ck (x2.1 == (2 : Int)) (fun h9 => ?_) (fun h9 => ?_)
   ·
    obtain ⟨x10, hx10⟩ : ∃ z : ByteArray × Nat × Int, X4 code x2.2.1 x2.2.2 [⟨#[]⟩, ⟨#[65]⟩, ⟨#[97, 98, 99, 100, 101, 102, 103]⟩, ⟨#[97, 98, 99, 100, 101, 102]⟩, ⟨#[97, 32, 98]⟩] = z := ⟨_, rfl⟩
    refine rn Qa [0, 2, 3] [2, 3, 60000] (po 2 (.give none (.s x10.1) [.h code, .i ((x10.2.1 : Nat) : Int), .i x10.2.2]) (px (Q0 (hx10 ▸ J6 code x2.2.1 x2.2.2 [⟨#[]⟩, ⟨#[65]⟩, ⟨#[97, 98, 99, 100, 101, 102, 103]⟩, ⟨#[97, 98, 99, 100, 101, 102]⟩, ⟨#[97, 32, 98]⟩] (Nat.zero_lt_succ _))) p0)) ?_
    refine tn Qa [0, 2] [2, 60000] (p0) ?_
    refine Qe ?_
    have hE11 : V6 code ci ch = ((x1.1.1, x1.1.2.1, x10.1), x10.2.1, x10.2.2) := Yh hx1 (Yh hx2 (Qk h3 (Qk h6 (Q4 h9 (Yh hx10 (rfl))))))
    exact Uk [] (congrArg (fun z => (.a [.i z.1.1, .i z.1.2.1, .s z.1.2.2] : AV)) hE11.symm) (congrArg (fun z => ([.h code, .i ((z.2.1 : Nat) : Int), .i z.2.2] : List C)) hE11.symm)
   ·
    refine Qf ?_
    refine sn Qa [0, 2] [2, 60000] (p0) ?_
    refine Qe ?_
    have hE12 : V6 code ci ch = (x1.1, x2.2.1, x2.2.2) := Yh hx1 (Yh hx2 (Qk h3 (Qk h6 (Qk h9 (rfl)))))
    exact Uk [] (congrArg (fun z => (.a [.i z.1.1, .i z.1.2.1, .s z.1.2.2] : AV)) hE12.symm) (congrArg (fun z => ([.h code, .i ((z.2.1 : Nat) : Int), .i z.2.2] : List C)) hE12.symm)
def specl03Name (code : (List UInt8)) (ci : Nat) (ch : Int) : ByteArray × Nat × Int := (lt (α := ByteArray × Nat × Int) (X4 code ci ch [⟨#[97]⟩, ⟨#[98]⟩, ⟨#[110]⟩, ⟨#[116]⟩, ⟨#[97]⟩, ⟨#[98]⟩, ⟨#[116]⟩, ⟨#[122]⟩, ⟨#[65]⟩, ⟨#[]⟩]) (fun x1 => (x1.1, x1.2.1, x1.2.2)))
theorem specl03Name_a (code : (List UInt8)) (ci : Nat) (ch : Int) : AGive Tryz.prog 207 [.h code, .i ((ci : Nat) : Int), .i ch] [] (.s (((specl03Name code ci ch)).1)) [.h code, .i ((((specl03Name code ci ch)).2.1 : Nat) : Int), .i (((specl03Name code ci ch)).2.2)] := by
 refine Jx (tt := tt) Qa Tryz.func207 (fn := Tryz.f207) rfl (by unfold FnOk; kernel_rfl) (Nat.le_of_ble_eq_true rfl) (Nat.le_of_ble_eq_true rfl) rfl rfl fun w0 F0 hG => ?_
 refine sn Qa [0, 2] [60000] (p0) ?_
 obtain ⟨x1, hx1⟩ : ∃ z : ByteArray × Nat × Int, X4 code ci ch [⟨#[97]⟩, ⟨#[98]⟩, ⟨#[110]⟩, ⟨#[116]⟩, ⟨#[97]⟩, ⟨#[98]⟩, ⟨#[116]⟩, ⟨#[122]⟩, ⟨#[65]⟩, ⟨#[]⟩] = z := ⟨_, rfl⟩
 refine tn Qa [0, 2] [60000] (po 2 (.give none (.s x1.1) [.h code, .i ((x1.2.1 : Nat) : Int), .i x1.2.2]) (px (Q0 (hx1 ▸ J6 code ci ch [⟨#[97]⟩, ⟨#[98]⟩, ⟨#[110]⟩, ⟨#[116]⟩, ⟨#[97]⟩, ⟨#[98]⟩, ⟨#[116]⟩, ⟨#[122]⟩, ⟨#[65]⟩, ⟨#[]⟩] (Nat.zero_lt_succ _))) p0)) ?_
 refine Qe ?_
 have hE2 : specl03Name code ci ch = (x1.1, x1.2.1, x1.2.2) := Yh hx1 (rfl)
 exact Uk [] (congrArg (fun z => (.s z.1 : AV)) hE2.symm) (congrArg (fun z => ([.h code, .i ((z.2.1 : Nat) : Int), .i z.2.2] : List C)) hE2.symm)
def Uc (code : (List UInt8)) (ci : Nat) (ch : Int) : (List Y5) × Nat × Int := (lt (α := Int × Nat × Int) (Qg code ci ch 8) (fun x1 => (bif (x1.1 == (0 : Int)) then (lt (α := Int × Nat × Int) (Qg code x1.2.1 x1.2.2 4) (fun x3 => (List.take (Int.toNat x3.1) Qq, x3.2.1, x3.2.2))) else (bif (x1.1 == (1 : Int)) then (lt (α := Int × Nat × Int) (Qg code x1.2.1 x1.2.2 4) (fun x8 => (lt (α := Int × Nat × Int) (Qg code x8.2.1 x8.2.2 5) (fun x9 => (List.set Qq (Int.toNat x8.1) ((nth Qq (Int.toNat x8.1)).1, (x9.1 - 1)), x9.2.1, x9.2.2))))) else (bif (x1.1 == (2 : Int)) then (lt (α := Int × Nat × Int) (Qg code x1.2.1 x1.2.2 4) (fun x15 => (lt (α := ByteArray × Nat × Int) (specl03Name code x15.2.1 x15.2.2) (fun x16 => (List.set Qq (Int.toNat x15.1) (x16.1, (nth Qq (Int.toNat x15.1)).2), x16.2.1, x16.2.2))))) else (bif (x1.1 == (3 : Int)) then (lt (α := ByteArray × Nat × Int) (X4 code x1.2.1 x1.2.2 [⟨#[117]⟩, ⟨#[122]⟩, ⟨#[97]⟩]) (fun x22 => (Qq ++ [((x22.1, 1) : Y5)], x22.2.1, x22.2.2))) else (bif (x1.1 == (4 : Int)) then (Qq ++ [((⟨#[117]⟩, 1) : Y5), ((⟨#[118]⟩, 2) : Y5)], x1.2.1, x1.2.2) else (Qq, x1.2.1, x1.2.2))))))))
theorem specl03Any_a (code : (List UInt8)) (ci : Nat) (ch : Int) : AGive Tryz.prog 158 [.h code, .i ((ci : Nat) : Int), .i ch] [] (.h (((Uc code ci ch)).1)) [.h code, .i ((((Uc code ci ch)).2.1 : Nat) : Int), .i (((Uc code ci ch)).2.2)] := by
 refine Jx (tt := tt) Qa Tryz.func158 (fn := Tryz.f158) rfl (by unfold FnOk; kernel_rfl) (Nat.le_of_ble_eq_true rfl) (Nat.le_of_ble_eq_true rfl) rfl rfl fun w0 F0 hG => ?_
 have hu4 : List.length Qq = 4 := rfl
 refine sn Qa [0, 2] [60000] (p0) ?_
 refine tn Qa [0, 2, 3] [60000] (pc 0 (specl03Usual_a) p0) ?_
 refine Qd ?_
 obtain ⟨x1, hx1⟩ : ∃ z : Int × Nat × Int, Qg code ci ch 8 = z := ⟨_, rfl⟩
 have hbx1 := hx1 ▸ Qt code ci ch 8
 refine tu Qa [(2, .e 0), (3, .o 256 Qq), (6, .i x1.1)] [] [(60000, [.h code, .i ((x1.2.1 : Nat) : Int), .i x1.2.2])] [60000] (po 1 (.give none (.i x1.1) [.h code, .i ((x1.2.1 : Nat) : Int), .i x1.2.2]) (px (Q0 (hx1 ▸ Q3 code ci ch 8)) p0)) ?_
 refine Qr ?_
 refine sn Qa [0, 2, 3, 6, 7] [60000] (p0) ?_
 refine ck (x1.1 == (0 : Int)) (fun h2 => ?_) (fun h2 => ?_)
 ·
  have h2d := eq_of_beq h2
  obtain ⟨x3, hx3⟩ : ∃ z : Int × Nat × Int, Qg code x1.2.1 x1.2.2 4 = z := ⟨_, rfl⟩
  have hbx3 := hx3 ▸ Qt code x1.2.1 x1.2.2 4
  refine wT 3 0 (.own true 256) Qq (fun hw4 hl5 => ?_)
  refine qn Qa [0, 2, 3] [60000] (po 2 (.give none (.i x3.1) [.h code, .i ((x3.2.1 : Nat) : Int), .i x3.2.2]) (px (Q0 (hx3 ▸ Q3 code x1.2.1 x1.2.2 4)) (pe 3 (av_take (.vw 256) 2 (Int.toNat x3.1) x3.1 Qq rfl) (px (ob_rng (lo := 0) (hi := x3.1) (n := (List.length (eL Qq))) (rng_of (by omega) (by omega) (by omega))) p0)))) ?_
  refine tu Qa [(2, .v 256 (List.take (Int.toNat x3.1) Qq))] [2, 3, 6] [(60000, [.h code, .i ((x3.2.1 : Nat) : Int), .i x3.2.2])] [60000] (p0) ?_
  refine Qe ?_
  have hE6 : Uc code ci ch = (List.take (Int.toNat x3.1) Qq, x3.2.1, x3.2.2) := Yh hx1 (Q4 h2 (Yh hx3 (rfl)))
  exact Uk [256] (congrArg (fun z => (.h z.1 : AV)) hE6.symm) (congrArg (fun z => ([.h code, .i ((z.2.1 : Nat) : Int), .i z.2.2] : List C)) hE6.symm)
 ·
  have h2d := X2 h2
  refine tn Qa [0, 2, 3, 6, 13] [60000] (p0) ?_
  refine ck (x1.1 == (1 : Int)) (fun h7 => ?_) (fun h7 => ?_)
  ·
   have h7d := eq_of_beq h7
   obtain ⟨x8, hx8⟩ : ∃ z : Int × Nat × Int, Qg code x1.2.1 x1.2.2 4 = z := ⟨_, rfl⟩
   have hbx8 := hx8 ▸ Qt code x1.2.1 x1.2.2 4
   obtain ⟨x9, hx9⟩ : ∃ z : Int × Nat × Int, Qg code x8.2.1 x8.2.2 5 = z := ⟨_, rfl⟩
   have hbx9 := hx9 ▸ Qt code x8.2.1 x8.2.2 5
   refine wT 3 0 (.own true 256) Qq (fun hw11 hl12 => ?_)
   have hx10 := ng Qq (Int.toNat x8.1)
   refine qu Qa [(3, .one (.slc (.own true 256) 2 (setRow (eL Qq) (Int.toNat x8.1) 1 [.i (x9.1 - 1)])))] [3, 6] [(60000, [.h code, .i ((x9.2.1 : Nat) : Int), .i x9.2.2])] [60000] (po 2 (.give none (.i x8.1) [.h code, .i ((x8.2.1 : Nat) : Int), .i x8.2.2]) (px (Q0 (hx8 ▸ Q3 code x1.2.1 x1.2.2 4)) (po 4 (.give none (.i x9.1) [.h code, .i ((x9.2.1 : Nat) : Int), .i x9.2.2]) (px (Q0 (hx9 ▸ Q3 code x8.2.1 x8.2.2 5)) (pe 5 (Zq (IntWalk.i64_in (x9.1 - 1) (by omega))) (pG 6 x8.1 hx10 p0)))))) ?_
   refine eqn [(3, .o 256 (List.set Qq (Int.toNat x8.1) ((nth Qq (Int.toNat x8.1)).1, (x9.1 - 1))))] [3] [] [] (by rw [Zd (y := ((nth Qq (Int.toNat x8.1)).1, (x9.1 - 1))) hx10 rfl]; first | done | kernel_rfl) ?_
   refine sn Qa [0, 2] [60000] (p0) ?_
   refine Qe ?_
   have hE13 : Uc code ci ch = (List.set Qq (Int.toNat x8.1) ((nth Qq (Int.toNat x8.1)).1, (x9.1 - 1)), x9.2.1, x9.2.2) := Yh hx1 (Qk h2 (Q4 h7 (Yh hx8 (Yh hx9 (rfl)))))
   exact Uk [256] (congrArg (fun z => (.h z.1 : AV)) hE13.symm) (congrArg (fun z => ([.h code, .i ((z.2.1 : Nat) : Int), .i z.2.2] : List C)) hE13.symm)
  ·
   have h7d := X2 h7
   refine tu Qa [(23, .b (x1.1 == (2 : Int)))] [] [] [] (p0) ?_
   refine ck (x1.1 == (2 : Int)) (fun h14 => ?_) (fun h14 => ?_)
   ·
    have h14d := eq_of_beq h14
    obtain ⟨x15, hx15⟩ : ∃ z : Int × Nat × Int, Qg code x1.2.1 x1.2.2 4 = z := ⟨_, rfl⟩
    have hbx15 := hx15 ▸ Qt code x1.2.1 x1.2.2 4
    obtain ⟨x16, hx16⟩ : ∃ z : ByteArray × Nat × Int, specl03Name code x15.2.1 x15.2.2 = z := ⟨_, rfl⟩
    refine wT 3 0 (.own true 256) Qq (fun hw18 hl19 => ?_)
    have hx17 := ng Qq (Int.toNat x15.1)
    refine ru Qa [(3, .one (.slc (.own true 256) 2 (setRow (eL Qq) (Int.toNat x15.1) 0 [.s x16.1])))] [3, 6, 23] [(60000, [.h code, .i ((x16.2.1 : Nat) : Int), .i x16.2.2])] [60000] (po 2 (.give none (.i x15.1) [.h code, .i ((x15.2.1 : Nat) : Int), .i x15.2.2]) (px (Q0 (hx15 ▸ Q3 code x1.2.1 x1.2.2 4)) (po 4 (.give none (.s x16.1) [.h code, .i ((x16.2.1 : Nat) : Int), .i x16.2.2]) (px (Q0 (hx16 ▸ specl03Name_a code x15.2.1 x15.2.2)) (pG 5 x15.1 hx17 p0))))) ?_
    refine eqn [(3, .o 256 (List.set Qq (Int.toNat x15.1) (x16.1, (nth Qq (Int.toNat x15.1)).2)))] [3] [] [] (by rw [Zd (y := (x16.1, (nth Qq (Int.toNat x15.1)).2)) hx17 rfl]; first | done | kernel_rfl) ?_
    refine sn Qa [0, 2] [60000] (p0) ?_
    refine Qe ?_
    have hE20 : Uc code ci ch = (List.set Qq (Int.toNat x15.1) (x16.1, (nth Qq (Int.toNat x15.1)).2), x16.2.1, x16.2.2) := Yh hx1 (Qk h2 (Qk h7 (Q4 h14 (Yh hx15 (Yh hx16 (rfl))))))
    exact Uk [256] (congrArg (fun z => (.h z.1 : AV)) hE20.symm) (congrArg (fun z => ([.h code, .i ((z.2.1 : Nat) : Int), .i z.2.2] : List C)) hE20.symm)
   ·
    have h14d := X2 h14
    refine sn Qa [0, 2, 3, 6, 32] [60000] (p0) ?_
    refine ck (x1.1 == (3 : Int)) (fun h21 => ?_) (fun h21 => ?_)
    ·
     have h21d := eq_of_beq h21
     obtain ⟨x22, hx22⟩ : ∃ z : ByteArray × Nat × Int, X4 code x1.2.1 x1.2.2 [⟨#[117]⟩, ⟨#[122]⟩, ⟨#[97]⟩] = z := ⟨_, rfl⟩
     refine wT 3 0 (.own true 256) Qq (fun hw23 hl24 => ?_)
     refine qu Qa [(3, .one (.slc (.own true 2560) 2 ((eL Qq) ++ [[.s x22.1, .i 1]])))] [3, 6, 23] [(60000, [.h code, .i ((x22.2.1 : Nat) : Int), .i x22.2.2])] [60000] (po 3 (.give none (.s x22.1) [.h code, .i ((x22.2.1 : Nat) : Int), .i x22.2.2]) (px (Q0 (hx22 ▸ J6 code x1.2.1 x1.2.2 [⟨#[117]⟩, ⟨#[122]⟩, ⟨#[97]⟩] (Nat.zero_lt_succ _))) (pa Qq [((x22.1, 1) : Y5)] p0))) ?_
     refine eqn [(3, .o 2560 (Qq ++ [((x22.1, 1) : Y5)]))] [3] [] [] (by rw [show ((eL Qq) ++ [[.s x22.1, .i 1]]) = (eL (Qq ++ [((x22.1, 1) : Y5)])) from Kc (rfl) (rfl)]; first | done | kernel_rfl) ?_
     refine sn Qa [0, 2] [60000] (p0) ?_
     refine Qe ?_
     have hE25 : Uc code ci ch = (Qq ++ [((x22.1, 1) : Y5)], x22.2.1, x22.2.2) := Yh hx1 (Qk h2 (Qk h7 (Qk h14 (Q4 h21 (Yh hx22 (rfl))))))
     exact Uk [2560] (congrArg (fun z => (.h z.1 : AV)) hE25.symm) (congrArg (fun z => ([.h code, .i ((z.2.1 : Nat) : Int), .i z.2.2] : List C)) hE25.symm)
    ·
     have h21d := X2 h21
     refine tn Qa [0, 2, 3, 41] [60000] (p0) ?_
     refine ck (x1.1 == (4 : Int)) (fun h26 => ?_) (fun h26 => ?_)
     ·
      have h26d := eq_of_beq h26
      refine wT 3 0 (.own true 256) Qq (fun hw27 hl28 => ?_)
      refine qu Qa [(3, .one (.slc (.own true 3008) 2 ((eL Qq) ++ [[.s ⟨#[117]⟩, .i 1], [.s ⟨#[118]⟩, .i 2]])))] [3, 6, 23] [] [] (pa Qq [((⟨#[117]⟩, 1) : Y5), ((⟨#[118]⟩, 2) : Y5)] p0) ?_
      refine eqn [(3, .o 3008 (Qq ++ [((⟨#[117]⟩, 1) : Y5), ((⟨#[118]⟩, 2) : Y5)]))] [3] [] [] (by rw [show ((eL Qq) ++ [[.s ⟨#[117]⟩, .i 1], [.s ⟨#[118]⟩, .i 2]]) = (eL (Qq ++ [((⟨#[117]⟩, 1) : Y5), ((⟨#[118]⟩, 2) : Y5)])) from Kc (rfl) (rfl)]; first | done | kernel_rfl) ?_
      refine sn Qa [0, 2] [60000] (p0) ?_
      refine Qe ?_
      have hE29 : Uc code ci ch = (Qq ++ [((⟨#[117]⟩, 1) : Y5), ((⟨#[118]⟩, 2) : Y5)], x1.2.1, x1.2.2) := Yh hx1 (Qk h2 (Qk h7 (Qk h14 (Qk h21 (Q4 h26 (rfl))))))
      exact Uk [3008] (congrArg (fun z => (.h z.1 : AV)) hE29.symm) (congrArg (fun z => ([.h code, .i ((z.2.1 : Nat) : Int), .i z.2.2] : List C)) hE29.symm)
     ·
      refine Qf ?_
      refine tu Qa [(2, .o 256 Qq)] [2, 3, 6, 23] [] [] (p0) ?_
      refine Qe ?_
      have hE30 : Uc code ci ch = (Qq, x1.2.1, x1.2.2) := Yh hx1 (Qk h2 (Qk h7 (Qk h14 (Qk h21 (Qk h26 (rfl))))))
      exact Uk [256] (congrArg (fun z => (.h z.1 : AV)) hE30.symm) (congrArg (fun z => ([.h code, .i ((z.2.1 : Nat) : Int), .i z.2.2] : List C)) hE30.symm)
def Ky (code : (List UInt8)) (ci : Nat) (ch : Int) : Xy × Nat × Int := (lt (α := Int × Nat × Int) (Qg code ci ch 7) (fun x1 => (lt (α := Xy × Nat × Int) (Zw code x1.2.1 x1.2.2 (1 + x1.1)) (fun x2 => (lt (α := Int × Nat × Int) (Qg code x2.2.1 x2.2.2 14) (fun x3 => (bif (x3.1 == (0 : Int)) then (lt (α := Int × Nat × Int) (Yw code x3.2.1 x3.2.2 [0, 60, 61, -1]) (fun x5 => ((x5.1, x2.1.2.1, x2.1.2.2.1, x2.1.2.2.2.1, x2.1.2.2.2.2), x5.2.1, x5.2.2))) else (bif (x3.1 == (1 : Int)) then (lt (α := Int × Nat × Int) (Yw code x3.2.1 x3.2.2 [-1, 2, 3]) (fun x8 => ((x2.1.1, x8.1, x2.1.2.2.1, x2.1.2.2.2.1, x2.1.2.2.2.2), x8.2.1, x8.2.2))) else (bif (x3.1 == (2 : Int)) then (lt (α := Int × Nat × Int) (Yw code x3.2.1 x3.2.2 [-1, 60, 61, 9223372036854775807]) (fun x11 => ((x2.1.1, x2.1.2.1, x2.1.2.2.1, x11.1, x2.1.2.2.2.2), x11.2.1, x11.2.2))) else (bif (x3.1 == (3 : Int)) then (lt (α := ByteArray × Nat × Int) (specl03Name code x3.2.1 x3.2.2) (fun x14 => (lt (α := Vp × Nat × Int) (V6 code x14.2.1 x14.2.2) (fun x15 => ((x2.1.1, x2.1.2.1, x2.1.2.2.1, x2.1.2.2.2.1, x2.1.2.2.2.2 ++ [(x14.1, x15.1)]), x15.2.1, x15.2.2))))) else (bif (x3.1 == (4 : Int)) then ((Xb x2.1 ⟨#[97]⟩ (Q7 ⟨#[114, 101, 100]⟩)), x3.2.1, x3.2.2) else (x2.1, x3.2.1, x3.2.2))))))))))))
theorem specl04Any_a (code : (List UInt8)) (ci : Nat) (ch : Int) : AGive Tryz.prog 157 [.h code, .i ((ci : Nat) : Int), .i ch] [] (.a [.i ((((Ky code ci ch)).1).1), .i ((((Ky code ci ch)).1).2.1), .b ((((Ky code ci ch)).1).2.2.1), .i ((((Ky code ci ch)).1).2.2.2.1), .o 0 ((((Ky code ci ch)).1).2.2.2.2)]) [.h code, .i ((((Ky code ci ch)).2.1 : Nat) : Int), .i (((Ky code ci ch)).2.2)] := by
 refine Jx (tt := tt) Qa Tryz.func157 (fn := Tryz.f157) rfl (by unfold FnOk; kernel_rfl) (Nat.le_of_ble_eq_true rfl) (Nat.le_of_ble_eq_true rfl) rfl rfl fun w0 F0 hG => ?_
 refine sn Qa [0, 2] [2, 60000] (p0) ?_
 obtain ⟨x1, hx1⟩ : ∃ z : Int × Nat × Int, Qg code ci ch 7 = z := ⟨_, rfl⟩
 have hbx1 := hx1 ▸ Qt code ci ch 7
 obtain ⟨x2, hx2⟩ : ∃ z : Xy × Nat × Int, Zw code x1.2.1 x1.2.2 (1 + x1.1) = z := ⟨_, rfl⟩
 have hlx2 := l04_len code x1.2.1 x1.2.2 (1 + x1.1)
 rw [hx2] at hlx2
 refine tn Qa [0, 2, 3] [2, 3, 60000] (po 2 (.give none (.i x1.1) [.h code, .i ((x1.2.1 : Nat) : Int), .i x1.2.2]) (px (Q0 (hx1 ▸ Q3 code ci ch 7)) (pe 3 (Zq (IntWalk.i64_in (1 + x1.1) (by omega))) (po 4 (.give none (.a [.i x2.1.1, .i x2.1.2.1, .b x2.1.2.2.1, .i x2.1.2.2.2.1, .o 0 x2.1.2.2.2.2]) [.h code, .i ((x2.2.1 : Nat) : Int), .i x2.2.2]) (px (Q0 (hx2 ▸ specl04File_a code x1.2.1 x1.2.2 (1 + x1.1))) p0))))) ?_
 refine Qd ?_
 obtain ⟨x3, hx3⟩ : ∃ z : Int × Nat × Int, Qg code x2.2.1 x2.2.2 14 = z := ⟨_, rfl⟩
 have hbx3 := hx3 ▸ Qt code x2.2.1 x2.2.2 14
 refine tu Qa [(2, .p 2 0), (3, .p 3 0), (10, .i x3.1)] [] [(2, [.i 0, .i 0, .b false, .i 0, .e 4]), (3, [.i x2.1.1, .i x2.1.2.1, .b x2.1.2.2.1, .i x2.1.2.2.2.1, .o 512 x2.1.2.2.2.2]), (60000, [.h code, .i ((x3.2.1 : Nat) : Int), .i x3.2.2])] [60000] (po 1 (.give none (.i x3.1) [.h code, .i ((x3.2.1 : Nat) : Int), .i x3.2.2]) (px (Q0 (hx3 ▸ Q3 code x2.2.1 x2.2.2 14)) p0)) ?_
 refine Qr ?_
 refine sn Qa [0, 2, 3, 10, 11] [2, 3, 60000] (p0) ?_
 refine ck (x3.1 == (0 : Int)) (fun h4 => ?_) (fun h4 => ?_)
 ·
  obtain ⟨x5, hx5⟩ : ∃ z : Int × Nat × Int, Yw code x3.2.1 x3.2.2 [0, 60, 61, -1] = z := ⟨_, rfl⟩
  refine qn Qa [0, 2, 3] [2, 3, 60000] (po 2 (.give none (.i x5.1) [.h code, .i ((x5.2.1 : Nat) : Int), .i x5.2.2]) (px (Q0 (hx5 ▸ Vl code x3.2.1 x3.2.2 [0, 60, 61, -1] (Nat.zero_lt_succ _))) p0)) ?_
  refine tu Qa [] [3, 10] [(2, [.i x5.1, .i x2.1.2.1, .b x2.1.2.2.1, .i x2.1.2.2.2.1, .o 512 x2.1.2.2.2.2]), (60000, [.h code, .i ((x5.2.1 : Nat) : Int), .i x5.2.2])] [2, 3, 60000] (p0) ?_
  refine Qe ?_
  have hE6 : Ky code ci ch = ((x5.1, x2.1.2.1, x2.1.2.2.1, x2.1.2.2.2.1, x2.1.2.2.2.2), x5.2.1, x5.2.2) := Yh hx1 (Yh hx2 (Yh hx3 (Q4 h4 (Yh hx5 (rfl)))))
  exact Uk [] (congrArg (fun z => (.a [.i z.1.1, .i z.1.2.1, .b z.1.2.2.1, .i z.1.2.2.2.1, .o 0 z.1.2.2.2.2] : AV)) hE6.symm) (congrArg (fun z => ([.h code, .i ((z.2.1 : Nat) : Int), .i z.2.2] : List C)) hE6.symm)
 ·
  have h4d := X2 h4
  refine tn Qa [0, 2, 3, 10, 17] [2, 3, 60000] (p0) ?_
  refine ck (x3.1 == (1 : Int)) (fun h7 => ?_) (fun h7 => ?_)
  ·
   obtain ⟨x8, hx8⟩ : ∃ z : Int × Nat × Int, Yw code x3.2.1 x3.2.2 [-1, 2, 3] = z := ⟨_, rfl⟩
   refine qu Qa [] [10] [(3, [.i x2.1.1, .i x8.1, .b x2.1.2.2.1, .i x2.1.2.2.2.1, .o 512 x2.1.2.2.2.2]), (60000, [.h code, .i ((x8.2.1 : Nat) : Int), .i x8.2.2])] [3, 60000] (po 2 (.give none (.i x8.1) [.h code, .i ((x8.2.1 : Nat) : Int), .i x8.2.2]) (px (Q0 (hx8 ▸ Vl code x3.2.1 x3.2.2 [-1, 2, 3] (Nat.zero_lt_succ _))) p0)) ?_
   refine sn Qa [0, 2] [2, 60000] (p0) ?_
   refine Qe ?_
   have hE9 : Ky code ci ch = ((x2.1.1, x8.1, x2.1.2.2.1, x2.1.2.2.2.1, x2.1.2.2.2.2), x8.2.1, x8.2.2) := Yh hx1 (Yh hx2 (Yh hx3 (Qk h4 (Q4 h7 (Yh hx8 (rfl))))))
   exact Uk [] (congrArg (fun z => (.a [.i z.1.1, .i z.1.2.1, .b z.1.2.2.1, .i z.1.2.2.2.1, .o 0 z.1.2.2.2.2] : AV)) hE9.symm) (congrArg (fun z => ([.h code, .i ((z.2.1 : Nat) : Int), .i z.2.2] : List C)) hE9.symm)
  ·
   have h7d := X2 h7
   refine tu Qa [(23, .b (x3.1 == (2 : Int)))] [] [] [] (p0) ?_
   refine ck (x3.1 == (2 : Int)) (fun h10 => ?_) (fun h10 => ?_)
   ·
    obtain ⟨x11, hx11⟩ : ∃ z : Int × Nat × Int, Yw code x3.2.1 x3.2.2 [-1, 60, 61, 9223372036854775807] = z := ⟨_, rfl⟩
    refine rn Qa [0, 2, 3] [2, 3, 60000] (po 2 (.give none (.i x11.1) [.h code, .i ((x11.2.1 : Nat) : Int), .i x11.2.2]) (px (Q0 (hx11 ▸ Vl code x3.2.1 x3.2.2 [-1, 60, 61, 9223372036854775807] (Nat.zero_lt_succ _))) p0)) ?_
    refine tn Qa [0, 2] [2, 60000] (p0) ?_
    refine Qe ?_
    have hE12 : Ky code ci ch = ((x2.1.1, x2.1.2.1, x2.1.2.2.1, x11.1, x2.1.2.2.2.2), x11.2.1, x11.2.2) := Yh hx1 (Yh hx2 (Yh hx3 (Qk h4 (Qk h7 (Q4 h10 (Yh hx11 (rfl)))))))
    exact Uk [] (congrArg (fun z => (.a [.i z.1.1, .i z.1.2.1, .b z.1.2.2.1, .i z.1.2.2.2.1, .o 0 z.1.2.2.2.2] : AV)) hE12.symm) (congrArg (fun z => ([.h code, .i ((z.2.1 : Nat) : Int), .i z.2.2] : List C)) hE12.symm)
   ·
    have h10d := X2 h10
    refine sn Qa [0, 2, 3, 10, 29] [2, 3, 60000] (p0) ?_
    refine ck (x3.1 == (3 : Int)) (fun h13 => ?_) (fun h13 => ?_)
    ·
     have h13d := eq_of_beq h13
     obtain ⟨x14, hx14⟩ : ∃ z : ByteArray × Nat × Int, specl03Name code x3.2.1 x3.2.2 = z := ⟨_, rfl⟩
     obtain ⟨x15, hx15⟩ : ∃ z : Vp × Nat × Int, V6 code x14.2.1 x14.2.2 = z := ⟨_, rfl⟩
     refine wB 3 4 (.own true 512) x2.1.2.2.2.2 (fun hw16 hl17 => ?_)
     refine qU Qa Yr [] [10, 23] [(3, [.i x2.1.1, .i x2.1.2.1, .b x2.1.2.2.1, .i x2.1.2.2.2.1, .slc (.own true 2496) 4 ((eL x2.1.2.2.2.2) ++ [[.s x14.1, .i x15.1.1, .i x15.1.2.1, .s x15.1.2.2]])]), (60000, [.h code, .i ((x15.2.1 : Nat) : Int), .i x15.2.2])] [3, 60000] (po 3 (.give none (.s x14.1) [.h code, .i ((x14.2.1 : Nat) : Int), .i x14.2.2]) (px (Q0 (hx14 ▸ specl03Name_a code x3.2.1 x3.2.2)) (po 5 (.give none (.a [.i x15.1.1, .i x15.1.2.1, .s x15.1.2.2]) [.h code, .i ((x15.2.1 : Nat) : Int), .i x15.2.2]) (px (Q0 (hx15 ▸ specl02Any_a code x14.2.1 x14.2.2)) (pa x2.1.2.2.2.2 [(x14.1, x15.1)] p0))))) ?_
     refine eqn [] [] [(3, [.i x2.1.1, .i x2.1.2.1, .b x2.1.2.2.1, .i x2.1.2.2.2.1, .o 2496 (x2.1.2.2.2.2 ++ [(x14.1, x15.1)])])] [3] (by rw [show ((eL x2.1.2.2.2.2) ++ [[.s x14.1, .i x15.1.1, .i x15.1.2.1, .s x15.1.2.2]]) = (eL (x2.1.2.2.2.2 ++ [(x14.1, x15.1)])) from Kc (rfl) (rfl)]; first | done | kernel_rfl) ?_
     refine sn Qa [0, 2] [2, 60000] (p0) ?_
     refine Qe ?_
     have hE18 : Ky code ci ch = ((x2.1.1, x2.1.2.1, x2.1.2.2.1, x2.1.2.2.2.1, x2.1.2.2.2.2 ++ [(x14.1, x15.1)]), x15.2.1, x15.2.2) := Yh hx1 (Yh hx2 (Yh hx3 (Qk h4 (Qk h7 (Qk h10 (Q4 h13 (Yh hx14 (Yh hx15 (rfl)))))))))
     exact Uk [] (congrArg (fun z => (.a [.i z.1.1, .i z.1.2.1, .b z.1.2.2.1, .i z.1.2.2.2.1, .o 0 z.1.2.2.2.2] : AV)) hE18.symm) (congrArg (fun z => ([.h code, .i ((z.2.1 : Nat) : Int), .i z.2.2] : List C)) hE18.symm)
    ·
     have h13d := X2 h13
     refine tn Qa [0, 2, 3, 41] [2, 3, 60000] (p0) ?_
     refine ck (x3.1 == (4 : Int)) (fun h19 => ?_) (fun h19 => ?_)
     ·
      have h19d := eq_of_beq h19
      refine qU Qa Yr [] [10, 23] [(3, [.i ((Xb x2.1 ⟨#[97]⟩ (Q7 ⟨#[114, 101, 100]⟩)).1), .i ((Xb x2.1 ⟨#[97]⟩ (Q7 ⟨#[114, 101, 100]⟩)).2.1), .b ((Xb x2.1 ⟨#[97]⟩ (Q7 ⟨#[114, 101, 100]⟩)).2.2.1), .i ((Xb x2.1 ⟨#[97]⟩ (Q7 ⟨#[114, 101, 100]⟩)).2.2.2.1), .o 2880 ((Xb x2.1 ⟨#[97]⟩ (Q7 ⟨#[114, 101, 100]⟩)).2.2.2.2)])] [3] (pc 1 (Ub ⟨#[114, 101, 100]⟩) (pc 2 (specSetAttr_a x2.1 ⟨#[97]⟩ (Q7 ⟨#[114, 101, 100]⟩) (by first | omega | (simp; done) | (simp; omega))) p0)) ?_
      refine sn Qa [0, 2] [2, 60000] (p0) ?_
      refine Qe ?_
      have hE20 : Ky code ci ch = ((Xb x2.1 ⟨#[97]⟩ (Q7 ⟨#[114, 101, 100]⟩)), x3.2.1, x3.2.2) := Yh hx1 (Yh hx2 (Yh hx3 (Qk h4 (Qk h7 (Qk h10 (Qk h13 (Q4 h19 (rfl))))))))
      exact Uk [] (congrArg (fun z => (.a [.i z.1.1, .i z.1.2.1, .b z.1.2.2.1, .i z.1.2.2.2.1, .o 0 z.1.2.2.2.2] : AV)) hE20.symm) (congrArg (fun z => ([.h code, .i ((z.2.1 : Nat) : Int), .i z.2.2] : List C)) hE20.symm)
     ·
      refine Qf ?_
      refine tu Qa [] [3, 10, 23] [(2, [.i x2.1.1, .i x2.1.2.1, .b x2.1.2.2.1, .i x2.1.2.2.2.1, .o 512 x2.1.2.2.2.2])] [2, 3] (p0) ?_
      refine Qe ?_
      have hE21 : Ky code ci ch = (x2.1, x3.2.1, x3.2.2) := Yh hx1 (Yh hx2 (Yh hx3 (Qk h4 (Qk h7 (Qk h10 (Qk h13 (Qk h19 (rfl))))))))
      exact Uk [] (congrArg (fun z => (.a [.i z.1.1, .i z.1.2.1, .b z.1.2.2.1, .i z.1.2.2.2.1, .o 0 z.1.2.2.2.2] : AV)) hE21.symm) (congrArg (fun z => ([.h code, .i ((z.2.1 : Nat) : Int), .i z.2.2] : List C)) hE21.symm)
def specl05Any_f0 (code : (List UInt8)) (s0 : Q2 × Nat × Int) : Rd (Q2 × Nat × Int) (Q2 × Nat × Int) (Q2 × Nat × Int) := (bif decide ((s0.1.2.1.length : Int) < (12 : Int)) then (lt (α := Xy × Nat × Int) (Zw code s0.2.1 s0.2.2 1) (fun x16 => (.next ((((X0 s0.1 x16.1)).1), x16.2.1, x16.2.2)))) else (.brk (s0.1, s0.2.1, s0.2.2)))
def Kz (code : (List UInt8)) (ci : Nat) (ch : Int) : Q2 × Nat × Int := (lt (α := Q2 × Nat × Int) (Y6 code ci ch) (fun x1 => (lt (α := Int × Nat × Int) (Qg code x1.2.1 x1.2.2 14) (fun x2 => (bif (x2.1 == (0 : Int)) then (lt (α := Int × Nat × Int) (Yw code x2.2.1 x2.2.2 [0, 60, 61, 62]) (fun x4 => ((x1.1.1, x1.1.2.1, x4.1), x4.2.1, x4.2.2))) else (bif (x2.1 == (1 : Int)) then (lt (α := Xy × Nat × Int) (Ky code x2.2.1 x2.2.2) (fun x7 => ((x1.1.1, x1.1.2.1 ++ [x7.1], x1.1.2.2), x7.2.1, x7.2.2))) else (bif (x2.1 == (2 : Int)) then (lt (α := (List Y5) × Nat × Int) (Uc code x2.2.1 x2.2.2) (fun x12 => ((x12.1, x1.1.2.1, x1.1.2.2), x12.2.1, x12.2.2))) else (bif (x2.1 == (3 : Int)) then (Out.on (whlD (specl05Any_f0 code) 13 (x1.1, x2.2.1, x2.2.2)) (fun y0 => (y0.1, y0.2.1, y0.2.2))) else (x1.1, x2.2.1, x2.2.2)))))))))
theorem specl05Any_w (code : List UInt8) (ci : Nat) (ch : Int) {s : Q2} (h : S5 s) : (whl (specl05Any_f0 code) 13 (s, ci, ch)).isSome = true :=
  whl_upI (fun s => S5 s.1) (fun s => (s.1.2.1.length : Int)) 12 (fun s s' hi h => by
    unfold specl05Any_f0 lt at h
    by_cases hc : (s.1.2.1.length : Int) < 12
    · simp only [decide_eq_true hc, cond_true] at h
      have h := Rd.next.inj h
      obtain ⟨h1, h2⟩ := s5_push hi (by omega) (l04_ok code s.2.1 s.2.2 1)
      rw [← h]
      exact ⟨hc, by dsimp only; omega, h2⟩
    · simp only [decide_eq_false hc, cond_false] at h
      cases h) 12 _ h (by show (12 : Int) ≤ (s.2.1.length : Int) + 12; omega)
theorem specl05Any_a (code : (List UInt8)) (ci : Nat) (ch : Int) : AGive Tryz.prog 115 [.h code, .i ((ci : Nat) : Int), .i ch] [] (.a [.h ((((Kz code ci ch)).1).1), .q 0 ((((Kz code ci ch)).1).2.1), .i ((((Kz code ci ch)).1).2.2)]) [.h code, .i ((((Kz code ci ch)).2.1 : Nat) : Int), .i (((Kz code ci ch)).2.2)] := by
 refine Jx (tt := tt) Qa Tryz.func115 (fn := Tryz.f115) rfl (by unfold FnOk; kernel_rfl) (Nat.le_of_ble_eq_true rfl) (Nat.le_of_ble_eq_true rfl) rfl rfl fun w0 F0 hG => ?_
 refine sn Qa [0, 2] [2, 60000] (p0) ?_
 obtain ⟨x1, hx1⟩ : ∃ z : Q2 × Nat × Int, Y6 code ci ch = z := ⟨_, rfl⟩
 have hsx1 := l05_ok code ci ch
 rw [hx1] at hsx1
 refine tn Qa [0, 2, 3] [2, 3, 60000] (po 1 (.give none (.a [.o 0 x1.1.1, .q 1 x1.1.2.1, .i x1.1.2.2]) [.h code, .i ((x1.2.1 : Nat) : Int), .i x1.2.2]) (px (Q0 (hx1 ▸ specl05Store_a code ci ch)) p0)) ?_
 refine Qd ?_
 obtain ⟨x2, hx2⟩ : ∃ z : Int × Nat × Int, Qg code x1.2.1 x1.2.2 14 = z := ⟨_, rfl⟩
 have hbx2 := hx2 ▸ Qt code x1.2.1 x1.2.2 14
 refine tu Qa [(2, .p 2 0), (3, .p 3 0), (7, .i x2.1)] [] [(2, [.e 2, .e 5, .i 0]), (3, [.o 320 x1.1.1, .q 321 x1.1.2.1, .i x1.1.2.2]), (60000, [.h code, .i ((x2.2.1 : Nat) : Int), .i x2.2.2])] [60000] (po 1 (.give none (.i x2.1) [.h code, .i ((x2.2.1 : Nat) : Int), .i x2.2.2]) (px (Q0 (hx2 ▸ Q3 code x1.2.1 x1.2.2 14)) p0)) ?_
 refine Qr ?_
 refine sn Qa [0, 2, 3, 7, 8] [2, 3, 60000] (p0) ?_
 refine ck (x2.1 == (0 : Int)) (fun h3 => ?_) (fun h3 => ?_)
 ·
  obtain ⟨x4, hx4⟩ : ∃ z : Int × Nat × Int, Yw code x2.2.1 x2.2.2 [0, 60, 61, 62] = z := ⟨_, rfl⟩
  refine qn Qa [0, 2, 3] [2, 3, 60000] (po 2 (.give none (.i x4.1) [.h code, .i ((x4.2.1 : Nat) : Int), .i x4.2.2]) (px (Q0 (hx4 ▸ Vl code x2.2.1 x2.2.2 [0, 60, 61, 62] (Nat.zero_lt_succ _))) p0)) ?_
  refine tu Qa [] [3, 7] [(2, [.o 320 x1.1.1, .q 321 x1.1.2.1, .i x4.1]), (60000, [.h code, .i ((x4.2.1 : Nat) : Int), .i x4.2.2])] [2, 3, 60000] (p0) ?_
  refine Qe ?_
  have hE5 : Kz code ci ch = ((x1.1.1, x1.1.2.1, x4.1), x4.2.1, x4.2.2) := Yh hx1 (Yh hx2 (Q4 h3 (Yh hx4 (rfl))))
  exact Uk [320] (congrArg (fun z => (.a [.h z.1.1, .q 0 z.1.2.1, .i z.1.2.2] : AV)) hE5.symm) (congrArg (fun z => ([.h code, .i ((z.2.1 : Nat) : Int), .i z.2.2] : List C)) hE5.symm)
 ·
  have h3d := X2 h3
  refine tn Qa [0, 2, 3, 7, 14] [2, 3, 60000] (p0) ?_
  refine ck (x2.1 == (1 : Int)) (fun h6 => ?_) (fun h6 => ?_)
  ·
   have h6d := eq_of_beq h6
   obtain ⟨x7, hx7⟩ : ∃ z : Xy × Nat × Int, Ky code x2.2.1 x2.2.2 = z := ⟨_, rfl⟩
   refine wB 3 1 (.own false 321) x1.1.2.1 (fun hw8 hl9 => ?_)
   refine qU Qa Yr [] [7] [(3, [.o 320 x1.1.1, .slc (.own false 1344) 5 ((eL x1.1.2.1) ++ [[.i x7.1.1, .i x7.1.2.1, .b x7.1.2.2.1, .i x7.1.2.2.2.1, .h x7.1.2.2.2.2]]), .i x1.1.2.2]), (60000, [.h code, .i ((x7.2.1 : Nat) : Int), .i x7.2.2])] [3, 60000] (po 3 (.give none (.a [.i x7.1.1, .i x7.1.2.1, .b x7.1.2.2.1, .i x7.1.2.2.2.1, .o 0 x7.1.2.2.2.2]) [.h code, .i ((x7.2.1 : Nat) : Int), .i x7.2.2]) (px (Q0 (hx7 ▸ specl04Any_a code x2.2.1 x2.2.2)) (pa x1.1.2.1 [x7.1] p0))) ?_
   refine eqn [] [] [(3, [.o 320 x1.1.1, .q 1344 (x1.1.2.1 ++ [x7.1]), .i x1.1.2.2])] [3] (by rw [show ((eL x1.1.2.1) ++ [[.i x7.1.1, .i x7.1.2.1, .b x7.1.2.2.1, .i x7.1.2.2.2.1, .h x7.1.2.2.2.2]]) = (eL (x1.1.2.1 ++ [x7.1])) from Kc (rfl) (rfl)]; first | done | kernel_rfl) ?_
   refine sn Qa [0, 2] [2, 60000] (p0) ?_
   refine Qe ?_
   have hE10 : Kz code ci ch = ((x1.1.1, x1.1.2.1 ++ [x7.1], x1.1.2.2), x7.2.1, x7.2.2) := Yh hx1 (Yh hx2 (Qk h3 (Q4 h6 (Yh hx7 (rfl)))))
   exact Uk [320] (congrArg (fun z => (.a [.h z.1.1, .q 0 z.1.2.1, .i z.1.2.2] : AV)) hE10.symm) (congrArg (fun z => ([.h code, .i ((z.2.1 : Nat) : Int), .i z.2.2] : List C)) hE10.symm)
  ·
   refine tu Qa [(23, .b (x2.1 == (2 : Int)))] [] [] [] (p0) ?_
   refine ck (x2.1 == (2 : Int)) (fun h11 => ?_) (fun h11 => ?_)
   ·
    obtain ⟨x12, hx12⟩ : ∃ z : (List Y5) × Nat × Int, Uc code x2.2.1 x2.2.2 = z := ⟨_, rfl⟩
    refine rn Qa [0, 2, 3] [2, 3, 60000] (po 1 (.give none (.h x12.1) [.h code, .i ((x12.2.1 : Nat) : Int), .i x12.2.2]) (px (Q0 (hx12 ▸ specl03Any_a code x2.2.1 x2.2.2)) p0)) ?_
    refine tn Qa [0, 2] [2, 60000] (p0) ?_
    refine Qe ?_
    have hE13 : Kz code ci ch = ((x12.1, x1.1.2.1, x1.1.2.2), x12.2.1, x12.2.2) := Yh hx1 (Yh hx2 (Qk h3 (Qk h6 (Q4 h11 (Yh hx12 (rfl))))))
    exact Uk [] (congrArg (fun z => (.a [.h z.1.1, .q 0 z.1.2.1, .i z.1.2.2] : AV)) hE13.symm) (congrArg (fun z => ([.h code, .i ((z.2.1 : Nat) : Int), .i z.2.2] : List C)) hE13.symm)
   ·
    refine sn Qa [0, 2, 3, 28] [2, 3, 60000] (p0) ?_
    refine ck (x2.1 == (3 : Int)) (fun h14 => ?_) (fun h14 => ?_)
    ·
     refine mz [(28, .b (x2.1 == (3 : Int)))] [7, 23] [] [] ?_
     refine blw (fun (s0 : Q2 × Nat × Int) => []) [28] (fun s0 => [(3, [.o 147206 s0.1.1, .q 147207 s0.1.2.1, .i s0.1.2.2]), (60000, [.h code, .i ((s0.2.1 : Nat) : Int), .i s0.2.2])]) [3, 60000] (fun (y0 : Q2 × Nat × Int) => []) [28] (fun y0 => [(3, [.o 147356 y0.1.1, .q 147357 y0.1.2.1, .i y0.1.2.2]), (60000, [.h code, .i ((y0.2.1 : Nat) : Int), .i y0.2.2])]) [3, 60000] (fun (k0 : Nat) (s0 : Q2 × Nat × Int) => whl (specl05Any_f0 code) k0 s0 = some (whlD (specl05Any_f0 code) 13 (x1.1, x2.2.1, x2.2.2))) (fun (y0 : Q2 × Nat × Int) => (whlD (specl05Any_f0 code) 13 (x1.1, x2.2.1, x2.2.2)) = .brk y0) 13 (x1.1, x2.2.1, x2.2.2) (Xx [(320, 147206), (321, 147207)] (by kernel_rfl)) (whl_some (specl05Any_w code _ _ hsx1.1)) (fun _ h => whl_zero h) (fun k0 s0 hI0 => ?_) (fun y0 hD0 => ?_)
     ·
      refine Qd ?_
      refine sn Qa [0, 2, 3, 33] [2, 3, 60000] (pl 2 s0.1.2.1 p0) ?_
      refine ck (decide ((s0.1.2.1.length : Int) < (12 : Int))) (fun h15 => ?_) (fun h15 => ?_)
      ·
       refine Qf ?_
       refine Qr ?_
       obtain ⟨x16, hx16⟩ : ∃ z : Xy × Nat × Int, Zw code s0.2.1 s0.2.2 1 = z := ⟨_, rfl⟩
       refine qN Qa Yr [0, 2, 3] [2, 3, 60000] (po 2 (.give none (.a [.i x16.1.1, .i x16.1.2.1, .b x16.1.2.2.1, .i x16.1.2.2.2.1, .o 0 x16.1.2.2.2.2]) [.h code, .i ((x16.2.1 : Nat) : Int), .i x16.2.2]) (px (Q0 (hx16 ▸ specl04File_a code s0.2.1 s0.2.2 1)) (pc 3 (specCreateFile_a s0.1 x16.1) p0))) ?_
       exact Exists.intro ((((X0 s0.1 x16.1)).1), x16.2.1, x16.2.2) (And.intro (weak_gf [] [] [2433] [(2432, 147206), (2433, 147207)] (by kernel_rfl)) (wn hI0 (Q4 h15 (Yh hx16 (rfl)))))
      ·
       refine Qz ?_
       exact Exists.intro _ (And.intro (Xx [(147206, 147356), (147207, 147357)] (by kernel_rfl)) (wb hI0 (Qk h15 (rfl))))
     ·
      refine sn Qa [0, 2] [2, 60000] (p0) ?_
      refine Qe ?_
      have hE17 : Kz code ci ch = (y0.1, y0.2.1, y0.2.2) := Yh hx1 (Yh hx2 (Qk h3 (Qk h6 (Qk h11 (Q4 h14 (V2 hD0 (rfl)))))))
      exact Uk [147356] (congrArg (fun z => (.a [.h z.1.1, .q 0 z.1.2.1, .i z.1.2.2] : AV)) hE17.symm) (congrArg (fun z => ([.h code, .i ((z.2.1 : Nat) : Int), .i z.2.2] : List C)) hE17.symm)
    ·
     refine Qf ?_
     refine tn Qa [0, 2] [2, 60000] (p0) ?_
     refine Qe ?_
     have hE18 : Kz code ci ch = (x1.1, x2.2.1, x2.2.2) := Yh hx1 (Yh hx2 (Qk h3 (Qk h6 (Qk h11 (Qk h14 (rfl))))))
     exact Uk [320] (congrArg (fun z => (.a [.h z.1.1, .q 0 z.1.2.1, .i z.1.2.2] : AV)) hE18.symm) (congrArg (fun z => ([.h code, .i ((z.2.1 : Nat) : Int), .i z.2.2] : List C)) hE18.symm)
def Wm (code : (List UInt8)) (ci : Nat) (ch : Int) : (List Xv) × Nat × Int := (lt (α := (List Xv) × Nat × Int) (Zp code ci ch) (fun x1 => (lt (α := Int × Nat × Int) (Qg code x1.2.1 x1.2.2 (x1.1.length : Int)) (fun x2 => (lt (α := Int × Nat × Int) (Qg code x2.2.1 x2.2.2 10) (fun x3 => (bif (x3.1 == (0 : Int)) then (lt (α := Int × Nat × Int) (Qg code x3.2.1 x3.2.2 12) (fun x5 => (List.set x1.1 (Int.toNat x2.1) ((x5.1 - 1), (nth x1.1 (Int.toNat x2.1)).2.1, (nth x1.1 (Int.toNat x2.1)).2.2.1, (nth x1.1 (Int.toNat x2.1)).2.2.2.1, ((nth x1.1 (Int.toNat x2.1)).2.2.2.2.1, (nth x1.1 (Int.toNat x2.1)).2.2.2.2.2.1, (nth x1.1 (Int.toNat x2.1)).2.2.2.2.2.2)), x5.2.1, x5.2.2))) else (bif (x3.1 == (1 : Int)) then (lt (α := Int × Nat × Int) (Yw code x3.2.1 x3.2.2 [-1, 0, x2.1, 8, 9223372036854775807]) (fun x11 => (List.set x1.1 (Int.toNat x2.1) ((nth x1.1 (Int.toNat x2.1)).1, x11.1, (nth x1.1 (Int.toNat x2.1)).2.2.1, (nth x1.1 (Int.toNat x2.1)).2.2.2.1, ((nth x1.1 (Int.toNat x2.1)).2.2.2.2.1, (nth x1.1 (Int.toNat x2.1)).2.2.2.2.2.1, (nth x1.1 (Int.toNat x2.1)).2.2.2.2.2.2)), x11.2.1, x11.2.2))) else (bif (x3.1 == (2 : Int)) then (lt (α := ByteArray × Nat × Int) (X4 code x3.2.1 x3.2.2 [⟨#[]⟩, ⟨#[97]⟩, ⟨#[100, 97]⟩, ⟨#[97, 98, 99, 100, 101, 102, 103]⟩, ⟨#[65]⟩]) (fun x17 => (List.set x1.1 (Int.toNat x2.1) ((nth x1.1 (Int.toNat x2.1)).1, (nth x1.1 (Int.toNat x2.1)).2.1, (nth x1.1 (Int.toNat x2.1)).2.2.1, x17.1, ((nth x1.1 (Int.toNat x2.1)).2.2.2.2.1, (nth x1.1 (Int.toNat x2.1)).2.2.2.2.2.1, (nth x1.1 (Int.toNat x2.1)).2.2.2.2.2.2)), x17.2.1, x17.2.2))) else (bif (x3.1 == (3 : Int)) then (lt (α := Xv × Nat × Int) (Y3 code x3.2.1 x3.2.2) (fun x23 => (x1.1 ++ [x23.1], x23.2.1, x23.2.2))) else (bif (x3.1 == (4 : Int)) then (lt (α := Vp × Nat × Int) (V6 code x3.2.1 x3.2.2) (fun x28 => (List.set x1.1 (Int.toNat x2.1) ((nth x1.1 (Int.toNat x2.1)).1, (nth x1.1 (Int.toNat x2.1)).2.1, (nth x1.1 (Int.toNat x2.1)).2.2.1, (nth x1.1 (Int.toNat x2.1)).2.2.2.1, x28.1), x28.2.1, x28.2.2))) else (bif (x3.1 == (5 : Int)) then ([], x3.2.1, x3.2.2) else (x1.1, x3.2.1, x3.2.2)))))))))))))
theorem specl09Any_a (code : (List UInt8)) (ci : Nat) (ch : Int) : AGive Tryz.prog 160 [.h code, .i ((ci : Nat) : Int), .i ch] [] (.o 0 (((Wm code ci ch)).1)) [.h code, .i ((((Wm code ci ch)).2.1 : Nat) : Int), .i (((Wm code ci ch)).2.2)] := by
 refine Jx (tt := tt) Qa Tryz.func160 (fn := Tryz.f160) rfl (by unfold FnOk; kernel_rfl) (Nat.le_of_ble_eq_true rfl) (Nat.le_of_ble_eq_true rfl) rfl rfl fun w0 F0 hG => ?_
 refine sn Qa [0, 2] [60000] (p0) ?_
 obtain ⟨x1, hx1⟩ : ∃ z : (List Xv) × Nat × Int, Zp code ci ch = z := ⟨_, rfl⟩
 have hbx1 := hx1 ▸ ques_len code ci ch
 refine tn Qa [0, 2, 3] [60000] (po 1 (.give none (.o 0 x1.1) [.h code, .i ((x1.2.1 : Nat) : Int), .i x1.2.2]) (px (Q0 (hx1 ▸ specl09Question_a code ci ch)) p0)) ?_
 obtain ⟨x2, hx2⟩ : ∃ z : Int × Nat × Int, Qg code x1.2.1 x1.2.2 (x1.1.length : Int) = z := ⟨_, rfl⟩
 have hbx2 := hx2 ▸ Qt code x1.2.1 x1.2.2 (x1.1.length : Int)
 refine tu Qa [(2, .e 0), (3, .o 384 x1.1), (4, .i x2.1)] [] [(60000, [.h code, .i ((x2.2.1 : Nat) : Int), .i x2.2.2])] [60000] (pl 2 x1.1 (po 3 (.give none (.i x2.1) [.h code, .i ((x2.2.1 : Nat) : Int), .i x2.2.2]) (px (Q0 (hx2 ▸ Q3 code x1.2.1 x1.2.2 (x1.1.length : Int))) p0))) ?_
 refine Qd ?_
 obtain ⟨x3, hx3⟩ : ∃ z : Int × Nat × Int, Qg code x2.2.1 x2.2.2 10 = z := ⟨_, rfl⟩
 have hbx3 := hx3 ▸ Qt code x2.2.1 x2.2.2 10
 refine sn Qa [0, 2, 3, 4, 12] [60000] (po 1 (.give none (.i x3.1) [.h code, .i ((x3.2.1 : Nat) : Int), .i x3.2.2]) (px (Q0 (hx3 ▸ Q3 code x2.2.1 x2.2.2 10)) p0)) ?_
 refine Qr ?_
 refine tn Qa [0, 2, 3, 4, 12, 13] [60000] (p0) ?_
 refine ck (x3.1 == (0 : Int)) (fun h4 => ?_) (fun h4 => ?_)
 ·
  have h4d := eq_of_beq h4
  obtain ⟨x5, hx5⟩ : ∃ z : Int × Nat × Int, Qg code x3.2.1 x3.2.2 12 = z := ⟨_, rfl⟩
  have hbx5 := hx5 ▸ Qt code x3.2.1 x3.2.2 12
  refine wT 3 0 (.own true 384) x1.1 (fun hw7 hl8 => ?_)
  have hx6 := ng x1.1 (Int.toNat x2.1)
  refine qu Qa [(3, .one (.slc (.own true 384) 7 (setRow (eL x1.1) (Int.toNat x2.1) 0 [.i (x5.1 - 1)])))] [3, 4] [(60000, [.h code, .i ((x5.2.1 : Nat) : Int), .i x5.2.2])] [60000] (po 3 (.give none (.i x5.1) [.h code, .i ((x5.2.1 : Nat) : Int), .i x5.2.2]) (px (Q0 (hx5 ▸ Q3 code x3.2.1 x3.2.2 12)) (pe 4 (Zq (IntWalk.i64_in (x5.1 - 1) (by omega))) (pG 5 x2.1 hx6 p0)))) ?_
  refine eqn [(3, .o 384 (List.set x1.1 (Int.toNat x2.1) ((x5.1 - 1), (nth x1.1 (Int.toNat x2.1)).2.1, (nth x1.1 (Int.toNat x2.1)).2.2.1, (nth x1.1 (Int.toNat x2.1)).2.2.2.1, ((nth x1.1 (Int.toNat x2.1)).2.2.2.2.1, (nth x1.1 (Int.toNat x2.1)).2.2.2.2.2.1, (nth x1.1 (Int.toNat x2.1)).2.2.2.2.2.2))))] [3] [] [] (by rw [Zd (y := ((x5.1 - 1), (nth x1.1 (Int.toNat x2.1)).2.1, (nth x1.1 (Int.toNat x2.1)).2.2.1, (nth x1.1 (Int.toNat x2.1)).2.2.2.1, ((nth x1.1 (Int.toNat x2.1)).2.2.2.2.1, (nth x1.1 (Int.toNat x2.1)).2.2.2.2.2.1, (nth x1.1 (Int.toNat x2.1)).2.2.2.2.2.2))) hx6 rfl]; first | done | kernel_rfl) ?_
  refine sn Qa [0, 2] [60000] (p0) ?_
  refine Qe ?_
  have hE9 : Wm code ci ch = (List.set x1.1 (Int.toNat x2.1) ((x5.1 - 1), (nth x1.1 (Int.toNat x2.1)).2.1, (nth x1.1 (Int.toNat x2.1)).2.2.1, (nth x1.1 (Int.toNat x2.1)).2.2.2.1, ((nth x1.1 (Int.toNat x2.1)).2.2.2.2.1, (nth x1.1 (Int.toNat x2.1)).2.2.2.2.2.1, (nth x1.1 (Int.toNat x2.1)).2.2.2.2.2.2)), x5.2.1, x5.2.2) := Yh hx1 (Yh hx2 (Yh hx3 (Q4 h4 (Yh hx5 (rfl)))))
  exact Uk [] (congrArg (fun z => (.o 0 z.1 : AV)) hE9.symm) (congrArg (fun z => ([.h code, .i ((z.2.1 : Nat) : Int), .i z.2.2] : List C)) hE9.symm)
 ·
  have h4d := X2 h4
  refine tu Qa [(12, .i x3.1), (22, .b (x3.1 == (1 : Int)))] [] [(60000, [.h code, .i ((x3.2.1 : Nat) : Int), .i x3.2.2])] [60000] (p0) ?_
  refine ck (x3.1 == (1 : Int)) (fun h10 => ?_) (fun h10 => ?_)
  ·
   have h10d := eq_of_beq h10
   obtain ⟨x11, hx11⟩ : ∃ z : Int × Nat × Int, Yw code x3.2.1 x3.2.2 [-1, 0, x2.1, 8, 9223372036854775807] = z := ⟨_, rfl⟩
   refine wT 3 0 (.own true 384) x1.1 (fun hw13 hl14 => ?_)
   have hx12 := ng x1.1 (Int.toNat x2.1)
   refine ru Qa [(3, .one (.slc (.own true 384) 7 (setRow (eL x1.1) (Int.toNat x2.1) 1 [.i x11.1])))] [3, 4, 12, 22] [(60000, [.h code, .i ((x11.2.1 : Nat) : Int), .i x11.2.2])] [60000] (po 5 (.give none (.i x11.1) [.h code, .i ((x11.2.1 : Nat) : Int), .i x11.2.2]) (px (Q0 (hx11 ▸ Vl code x3.2.1 x3.2.2 [-1, 0, x2.1, 8, 9223372036854775807] (Nat.zero_lt_succ _))) (pG 6 x2.1 hx12 p0))) ?_
   refine eqn [(3, .o 384 (List.set x1.1 (Int.toNat x2.1) ((nth x1.1 (Int.toNat x2.1)).1, x11.1, (nth x1.1 (Int.toNat x2.1)).2.2.1, (nth x1.1 (Int.toNat x2.1)).2.2.2.1, ((nth x1.1 (Int.toNat x2.1)).2.2.2.2.1, (nth x1.1 (Int.toNat x2.1)).2.2.2.2.2.1, (nth x1.1 (Int.toNat x2.1)).2.2.2.2.2.2))))] [3] [] [] (by rw [Zd (y := ((nth x1.1 (Int.toNat x2.1)).1, x11.1, (nth x1.1 (Int.toNat x2.1)).2.2.1, (nth x1.1 (Int.toNat x2.1)).2.2.2.1, ((nth x1.1 (Int.toNat x2.1)).2.2.2.2.1, (nth x1.1 (Int.toNat x2.1)).2.2.2.2.2.1, (nth x1.1 (Int.toNat x2.1)).2.2.2.2.2.2))) hx12 rfl]; first | done | kernel_rfl) ?_
   refine sn Qa [0, 2] [60000] (p0) ?_
   refine Qe ?_
   have hE15 : Wm code ci ch = (List.set x1.1 (Int.toNat x2.1) ((nth x1.1 (Int.toNat x2.1)).1, x11.1, (nth x1.1 (Int.toNat x2.1)).2.2.1, (nth x1.1 (Int.toNat x2.1)).2.2.2.1, ((nth x1.1 (Int.toNat x2.1)).2.2.2.2.1, (nth x1.1 (Int.toNat x2.1)).2.2.2.2.2.1, (nth x1.1 (Int.toNat x2.1)).2.2.2.2.2.2)), x11.2.1, x11.2.2) := Yh hx1 (Yh hx2 (Yh hx3 (Qk h4 (Q4 h10 (Yh hx11 (rfl))))))
   exact Uk [] (congrArg (fun z => (.o 0 z.1 : AV)) hE15.symm) (congrArg (fun z => ([.h code, .i ((z.2.1 : Nat) : Int), .i z.2.2] : List C)) hE15.symm)
  ·
   have h10d := X2 h10
   refine sn Qa [0, 2, 3, 4, 12, 32] [60000] (p0) ?_
   refine ck (x3.1 == (2 : Int)) (fun h16 => ?_) (fun h16 => ?_)
   ·
    have h16d := eq_of_beq h16
    obtain ⟨x17, hx17⟩ : ∃ z : ByteArray × Nat × Int, X4 code x3.2.1 x3.2.2 [⟨#[]⟩, ⟨#[97]⟩, ⟨#[100, 97]⟩, ⟨#[97, 98, 99, 100, 101, 102, 103]⟩, ⟨#[65]⟩] = z := ⟨_, rfl⟩
    refine wT 3 0 (.own true 384) x1.1 (fun hw19 hl20 => ?_)
    have hx18 := ng x1.1 (Int.toNat x2.1)
    refine qu Qa [(3, .one (.slc (.own true 384) 7 (setRow (eL x1.1) (Int.toNat x2.1) 3 [.s x17.1])))] [3, 4, 12, 22] [(60000, [.h code, .i ((x17.2.1 : Nat) : Int), .i x17.2.2])] [60000] (po 4 (.give none (.s x17.1) [.h code, .i ((x17.2.1 : Nat) : Int), .i x17.2.2]) (px (Q0 (hx17 ▸ J6 code x3.2.1 x3.2.2 [⟨#[]⟩, ⟨#[97]⟩, ⟨#[100, 97]⟩, ⟨#[97, 98, 99, 100, 101, 102, 103]⟩, ⟨#[65]⟩] (Nat.zero_lt_succ _))) (pG 5 x2.1 hx18 p0))) ?_
    refine eqn [(3, .o 384 (List.set x1.1 (Int.toNat x2.1) ((nth x1.1 (Int.toNat x2.1)).1, (nth x1.1 (Int.toNat x2.1)).2.1, (nth x1.1 (Int.toNat x2.1)).2.2.1, x17.1, ((nth x1.1 (Int.toNat x2.1)).2.2.2.2.1, (nth x1.1 (Int.toNat x2.1)).2.2.2.2.2.1, (nth x1.1 (Int.toNat x2.1)).2.2.2.2.2.2))))] [3] [] [] (by rw [Zd (y := ((nth x1.1 (Int.toNat x2.1)).1, (nth x1.1 (Int.toNat x2.1)).2.1, (nth x1.1 (Int.toNat x2.1)).2.2.1, x17.1, ((nth x1.1 (Int.toNat x2.1)).2.2.2.2.1, (nth x1.1 (Int.toNat x2.1)).2.2.2.2.2.1, (nth x1.1 (Int.toNat x2.1)).2.2.2.2.2.2))) hx18 rfl]; first | done | kernel_rfl) ?_
    refine sn Qa [0, 2] [60000] (p0) ?_
    refine Qe ?_
    have hE21 : Wm code ci ch = (List.set x1.1 (Int.toNat x2.1) ((nth x1.1 (Int.toNat x2.1)).1, (nth x1.1 (Int.toNat x2.1)).2.1, (nth x1.1 (Int.toNat x2.1)).2.2.1, x17.1, ((nth x1.1 (Int.toNat x2.1)).2.2.2.2.1, (nth x1.1 (Int.toNat x2.1)).2.2.2.2.2.1, (nth x1.1 (Int.toNat x2.1)).2.2.2.2.2.2)), x17.2.1, x17.2.2) := Yh hx1 (Yh hx2 (Yh hx3 (Qk h4 (Qk h10 (Q4 h16 (Yh hx17 (rfl)))))))
    exact Uk [] (congrArg (fun z => (.o 0 z.1 : AV)) hE21.symm) (congrArg (fun z => ([.h code, .i ((z.2.1 : Nat) : Int), .i z.2.2] : List C)) hE21.symm)
   ·
    have h16d := X2 h16
    refine tn Qa [0, 2, 3, 4, 12, 41] [60000] (p0) ?_
    refine ck (x3.1 == (3 : Int)) (fun h22 => ?_) (fun h22 => ?_)
    ·
     have h22d := eq_of_beq h22
     obtain ⟨x23, hx23⟩ : ∃ z : Xv × Nat × Int, Y3 code x3.2.1 x3.2.2 = z := ⟨_, rfl⟩
     refine wT 3 0 (.own true 384) x1.1 (fun hw24 hl25 => ?_)
     refine qu Qa [(3, .one (.slc (.own true 3008) 7 ((eL x1.1) ++ [[.i x23.1.1, .i x23.1.2.1, .i x23.1.2.2.1, .s x23.1.2.2.2.1, .i x23.1.2.2.2.2.1, .i x23.1.2.2.2.2.2.1, .s x23.1.2.2.2.2.2.2]])))] [3, 4, 12, 22] [(60000, [.h code, .i ((x23.2.1 : Nat) : Int), .i x23.2.2])] [60000] (po 2 (.give none (.a [.i x23.1.1, .i x23.1.2.1, .i x23.1.2.2.1, .s x23.1.2.2.2.1, .i x23.1.2.2.2.2.1, .i x23.1.2.2.2.2.2.1, .s x23.1.2.2.2.2.2.2]) [.h code, .i ((x23.2.1 : Nat) : Int), .i x23.2.2]) (px (Q0 (hx23 ▸ specl09Leaf_a code x3.2.1 x3.2.2)) (pa x1.1 [x23.1] p0))) ?_
     refine eqn [(3, .o 3008 (x1.1 ++ [x23.1]))] [3] [] [] (by rw [show ((eL x1.1) ++ [[.i x23.1.1, .i x23.1.2.1, .i x23.1.2.2.1, .s x23.1.2.2.2.1, .i x23.1.2.2.2.2.1, .i x23.1.2.2.2.2.2.1, .s x23.1.2.2.2.2.2.2]]) = (eL (x1.1 ++ [x23.1])) from Kc (rfl) (rfl)]; first | done | kernel_rfl) ?_
     refine sn Qa [0, 2] [60000] (p0) ?_
     refine Qe ?_
     have hE26 : Wm code ci ch = (x1.1 ++ [x23.1], x23.2.1, x23.2.2) := Yh hx1 (Yh hx2 (Yh hx3 (Qk h4 (Qk h10 (Qk h16 (Q4 h22 (Yh hx23 (rfl))))))))
     exact Uk [] (congrArg (fun z => (.o 0 z.1 : AV)) hE26.symm) (congrArg (fun z => ([.h code, .i ((z.2.1 : Nat) : Int), .i z.2.2] : List C)) hE26.symm)
    ·
     have h22d := X2 h22
     refine tu Qa [(48, .b (x3.1 == (4 : Int)))] [22] [] [] (p0) ?_
     refine ck (x3.1 == (4 : Int)) (fun h27 => ?_) (fun h27 => ?_)
     ·
      have h27d := eq_of_beq h27
      obtain ⟨x28, hx28⟩ : ∃ z : Vp × Nat × Int, V6 code x3.2.1 x3.2.2 = z := ⟨_, rfl⟩
      refine wT 3 0 (.own true 384) x1.1 (fun hw30 hl31 => ?_)
      have hx29 := ng x1.1 (Int.toNat x2.1)
      refine ru Qa [(3, .one (.slc (.own true 384) 7 (setRow (eL x1.1) (Int.toNat x2.1) 4 [.i x28.1.1, .i x28.1.2.1, .s x28.1.2.2])))] [3, 4, 12, 48] [(60000, [.h code, .i ((x28.2.1 : Nat) : Int), .i x28.2.2])] [60000] (po 3 (.give none (.a [.i x28.1.1, .i x28.1.2.1, .s x28.1.2.2]) [.h code, .i ((x28.2.1 : Nat) : Int), .i x28.2.2]) (px (Q0 (hx28 ▸ specl02Any_a code x3.2.1 x3.2.2)) (pG 4 x2.1 hx29 p0))) ?_
      refine eqn [(3, .o 384 (List.set x1.1 (Int.toNat x2.1) ((nth x1.1 (Int.toNat x2.1)).1, (nth x1.1 (Int.toNat x2.1)).2.1, (nth x1.1 (Int.toNat x2.1)).2.2.1, (nth x1.1 (Int.toNat x2.1)).2.2.2.1, x28.1)))] [3] [] [] (by rw [Zd (y := ((nth x1.1 (Int.toNat x2.1)).1, (nth x1.1 (Int.toNat x2.1)).2.1, (nth x1.1 (Int.toNat x2.1)).2.2.1, (nth x1.1 (Int.toNat x2.1)).2.2.2.1, x28.1)) hx29 rfl]; first | done | kernel_rfl) ?_
      refine sn Qa [0, 2] [60000] (p0) ?_
      refine Qe ?_
      have hE32 : Wm code ci ch = (List.set x1.1 (Int.toNat x2.1) ((nth x1.1 (Int.toNat x2.1)).1, (nth x1.1 (Int.toNat x2.1)).2.1, (nth x1.1 (Int.toNat x2.1)).2.2.1, (nth x1.1 (Int.toNat x2.1)).2.2.2.1, x28.1), x28.2.1, x28.2.2) := Yh hx1 (Yh hx2 (Yh hx3 (Qk h4 (Qk h10 (Qk h16 (Qk h22 (Q4 h27 (Yh hx28 (rfl)))))))))
      exact Uk [] (congrArg (fun z => (.o 0 z.1 : AV)) hE32.symm) (congrArg (fun z => ([.h code, .i ((z.2.1 : Nat) : Int), .i z.2.2] : List C)) hE32.symm)
     ·
      refine sn Qa [0, 2, 3, 56] [60000] (p0) ?_
      refine ck (x3.1 == (5 : Int)) (fun h33 => ?_) (fun h33 => ?_)
      ·
       refine qn Qa [0, 2, 3] [60000] (p0) ?_
       refine tu Qa [] [3, 4, 12, 48] [] [] (p0) ?_
       refine opn [(false, 2, 0, true, 384000, 7)] ?_
       refine Qe ?_
       have hE34 : Wm code ci ch = ([], x3.2.1, x3.2.2) := Yh hx1 (Yh hx2 (Yh hx3 (Qk h4 (Qk h10 (Qk h16 (Qk h22 (Qk h27 (Q4 h33 (rfl)))))))))
       exact Uk [] (congrArg (fun z => (.o 0 z.1 : AV)) hE34.symm) (congrArg (fun z => ([.h code, .i ((z.2.1 : Nat) : Int), .i z.2.2] : List C)) hE34.symm)
      ·
       refine Qf ?_
       refine tn Qa [0, 2] [60000] (p0) ?_
       refine Qe ?_
       have hE35 : Wm code ci ch = (x1.1, x3.2.1, x3.2.2) := Yh hx1 (Yh hx2 (Yh hx3 (Qk h4 (Qk h10 (Qk h16 (Qk h22 (Qk h27 (Qk h33 (rfl)))))))))
       exact Uk [] (congrArg (fun z => (.o 0 z.1 : AV)) hE35.symm) (congrArg (fun z => ([.h code, .i ((z.2.1 : Nat) : Int), .i z.2.2] : List C)) hE35.symm)
def specl11Any_f0 (code : (List UInt8)) (s0 : (List Yq) × Nat × Int) : Rd ((List Yq) × Nat × Int) ((List Yq) × Nat × Int) ((List Yq) × Nat × Int) := (lt (α := Int × Nat × Int) (Qg code s0.2.1 s0.2.2 2) (fun x17 => (bif decide ((s0.1.length : Int) < (5 + x17.1)) then (lt (α := (List Xv) × Nat × Int) (Zp code x17.2.1 x17.2.2) (fun x20 => (.next (s0.1 ++ [((nth ([⟨#[100, 97]⟩, ⟨#[100, 98]⟩, ⟨#[100, 99]⟩, ⟨#[100, 100]⟩, ⟨#[100, 101]⟩, ⟨#[100, 102]⟩] : (List ByteArray)) (Int.toNat (s0.1.length : Int))), x20.1)], x20.2.1, x20.2.2)))) else (.brk (s0.1, x17.2.1, x17.2.2)))))
def Up (code : (List UInt8)) (ci : Nat) (ch : Int) : (List Yq) × Nat × Int := (lt (α := (List Yq) × Nat × Int) (J9 code ci ch) (fun x1 => (lt (α := Int × Nat × Int) (Qg code x1.2.1 x1.2.2 (x1.1.length : Int)) (fun x2 => (lt (α := Int × Nat × Int) (Qg code x2.2.1 x2.2.2 10) (fun x3 => (bif (x3.1 == (0 : Int)) then (lt (α := ByteArray × Nat × Int) (X4 code x3.2.1 x3.2.2 [⟨#[]⟩, ⟨#[65]⟩, ⟨#[122, 122]⟩, ⟨#[97, 98, 99, 100, 101, 102, 103]⟩]) (fun x5 => (List.set x1.1 (Int.toNat x2.1) (x5.1, (nth x1.1 (Int.toNat x2.1)).2), x5.2.1, x5.2.2))) else (bif (x3.1 == (1 : Int)) then (lt (α := (List Xv) × Nat × Int) (Wm code x3.2.1 x3.2.2) (fun x11 => (List.set x1.1 (Int.toNat x2.1) ((nth x1.1 (Int.toNat x2.1)).1, x11.1), x11.2.1, x11.2.2))) else (bif (x3.1 == (2 : Int)) then (Out.on (whlD (specl11Any_f0 code) 7 (x1.1, x3.2.1, x3.2.2)) (fun y0 => (y0.1, y0.2.1, y0.2.2))) else (bif (x3.1 == (3 : Int)) then ([], x3.2.1, x3.2.2) else (x1.1, x3.2.1, x3.2.2)))))))))))
theorem specl11Any_w (code : List UInt8) (d : List Yq) (ci : Nat) (ch : Int) : (whl (specl11Any_f0 code) 7 (d, ci, ch)).isSome = true :=
  whl_upI (fun _ => True) (fun s => (s.1.length : Int)) 6 (fun s s' _ h => by
    unfold specl11Any_f0 lt at h
    have hb := Qt code s.2.1 s.2.2 2
    generalize Qg code s.2.1 s.2.2 2 = x at h hb
    by_cases hc : (s.1.length : Int) < 5 + x.1
    · simp only [decide_eq_true hc, cond_true] at h
      have h := Rd.next.inj h
      rw [← h]
      refine ⟨by omega, by simp, trivial⟩
    · simp only [decide_eq_false hc, cond_false] at h
      cases h) 6 _ trivial (by show (6 : Int) ≤ (d.length : Int) + 6; omega)
theorem specl11Any_a (code : (List UInt8)) (ci : Nat) (ch : Int) : AGive Tryz.prog 116 [.h code, .i ((ci : Nat) : Int), .i ch] [] (.o 0 (((Up code ci ch)).1)) [.h code, .i ((((Up code ci ch)).2.1 : Nat) : Int), .i (((Up code ci ch)).2.2)] := by
 refine Jx (tt := tt) Qa Tryz.func116 (fn := Tryz.f116) rfl (by unfold FnOk; kernel_rfl) (Nat.le_of_ble_eq_true rfl) (Nat.le_of_ble_eq_true rfl) rfl rfl fun w0 F0 hG => ?_
 refine sn Qa [0, 2] [60000] (p0) ?_
 obtain ⟨x1, hx1⟩ : ∃ z : (List Yq) × Nat × Int, J9 code ci ch = z := ⟨_, rfl⟩
 have hlx1 := l11_len code ci ch
 rw [hx1] at hlx1
 refine tn Qa [0, 2, 3] [60000] (po 1 (.give none (.o 0 x1.1) [.h code, .i ((x1.2.1 : Nat) : Int), .i x1.2.2]) (px (Q0 (hx1 ▸ specl11Dirs_a code ci ch)) p0)) ?_
 obtain ⟨x2, hx2⟩ : ∃ z : Int × Nat × Int, Qg code x1.2.1 x1.2.2 (x1.1.length : Int) = z := ⟨_, rfl⟩
 have hbx2 := hx2 ▸ Qt code x1.2.1 x1.2.2 (x1.1.length : Int)
 refine tu Qa [(2, .e 0), (3, .o 384 x1.1), (4, .i x2.1)] [] [(60000, [.h code, .i ((x2.2.1 : Nat) : Int), .i x2.2.2])] [60000] (pl 2 x1.1 (po 3 (.give none (.i x2.1) [.h code, .i ((x2.2.1 : Nat) : Int), .i x2.2.2]) (px (Q0 (hx2 ▸ Q3 code x1.2.1 x1.2.2 (x1.1.length : Int))) p0))) ?_
 refine Qd ?_
 obtain ⟨x3, hx3⟩ : ∃ z : Int × Nat × Int, Qg code x2.2.1 x2.2.2 10 = z := ⟨_, rfl⟩
 have hbx3 := hx3 ▸ Qt code x2.2.1 x2.2.2 10
 refine sn Qa [0, 2, 3, 4, 12] [60000] (po 1 (.give none (.i x3.1) [.h code, .i ((x3.2.1 : Nat) : Int), .i x3.2.2]) (px (Q0 (hx3 ▸ Q3 code x2.2.1 x2.2.2 10)) p0)) ?_
 refine Qr ?_
 refine tn Qa [0, 2, 3, 4, 12, 13] [60000] (p0) ?_
 refine ck (x3.1 == (0 : Int)) (fun h4 => ?_) (fun h4 => ?_)
 ·
  have h4d := eq_of_beq h4
  obtain ⟨x5, hx5⟩ : ∃ z : ByteArray × Nat × Int, X4 code x3.2.1 x3.2.2 [⟨#[]⟩, ⟨#[65]⟩, ⟨#[122, 122]⟩, ⟨#[97, 98, 99, 100, 101, 102, 103]⟩] = z := ⟨_, rfl⟩
  refine wT 3 0 (.own true 384) x1.1 (fun hw7 hl8 => ?_)
  have hx6 := ng x1.1 (Int.toNat x2.1)
  refine qu Qa [(3, .one (.slc (.own true 384) 2 (setRow (eL x1.1) (Int.toNat x2.1) 0 [.s x5.1])))] [3, 4] [(60000, [.h code, .i ((x5.2.1 : Nat) : Int), .i x5.2.2])] [60000] (po 4 (.give none (.s x5.1) [.h code, .i ((x5.2.1 : Nat) : Int), .i x5.2.2]) (px (Q0 (hx5 ▸ J6 code x3.2.1 x3.2.2 [⟨#[]⟩, ⟨#[65]⟩, ⟨#[122, 122]⟩, ⟨#[97, 98, 99, 100, 101, 102, 103]⟩] (Nat.zero_lt_succ _))) (pG 5 x2.1 hx6 p0))) ?_
  refine eqn [(3, .o 384 (List.set x1.1 (Int.toNat x2.1) (x5.1, (nth x1.1 (Int.toNat x2.1)).2)))] [3] [] [] (by rw [Zd (y := (x5.1, (nth x1.1 (Int.toNat x2.1)).2)) hx6 rfl]; first | done | kernel_rfl) ?_
  refine sn Qa [0, 2] [60000] (p0) ?_
  refine Qe ?_
  have hE9 : Up code ci ch = (List.set x1.1 (Int.toNat x2.1) (x5.1, (nth x1.1 (Int.toNat x2.1)).2), x5.2.1, x5.2.2) := Yh hx1 (Yh hx2 (Yh hx3 (Q4 h4 (Yh hx5 (rfl)))))
  exact Uk [] (congrArg (fun z => (.o 0 z.1 : AV)) hE9.symm) (congrArg (fun z => ([.h code, .i ((z.2.1 : Nat) : Int), .i z.2.2] : List C)) hE9.symm)
 ·
  have h4d := X2 h4
  refine tu Qa [(12, .i x3.1), (22, .b (x3.1 == (1 : Int)))] [] [(60000, [.h code, .i ((x3.2.1 : Nat) : Int), .i x3.2.2])] [60000] (p0) ?_
  refine ck (x3.1 == (1 : Int)) (fun h10 => ?_) (fun h10 => ?_)
  ·
   have h10d := eq_of_beq h10
   obtain ⟨x11, hx11⟩ : ∃ z : (List Xv) × Nat × Int, Wm code x3.2.1 x3.2.2 = z := ⟨_, rfl⟩
   refine wT 3 0 (.own true 384) x1.1 (fun hw13 hl14 => ?_)
   have hx12 := ng x1.1 (Int.toNat x2.1)
   refine ru Qa [(3, .one (.slc (.own true 384) 2 (setRow (eL x1.1) (Int.toNat x2.1) 1 [.h x11.1])))] [3, 4, 12, 22] [(60000, [.h code, .i ((x11.2.1 : Nat) : Int), .i x11.2.2])] [60000] (po 3 (.give none (.o 0 x11.1) [.h code, .i ((x11.2.1 : Nat) : Int), .i x11.2.2]) (px (Q0 (hx11 ▸ specl09Any_a code x3.2.1 x3.2.2)) (pG 4 x2.1 hx12 p0))) ?_
   refine eqn [(3, .o 384 (List.set x1.1 (Int.toNat x2.1) ((nth x1.1 (Int.toNat x2.1)).1, x11.1)))] [3] [] [] (by rw [Zd (y := ((nth x1.1 (Int.toNat x2.1)).1, x11.1)) hx12 rfl]; first | done | kernel_rfl) ?_
   refine sn Qa [0, 2] [60000] (p0) ?_
   refine Qe ?_
   have hE15 : Up code ci ch = (List.set x1.1 (Int.toNat x2.1) ((nth x1.1 (Int.toNat x2.1)).1, x11.1), x11.2.1, x11.2.2) := Yh hx1 (Yh hx2 (Yh hx3 (Qk h4 (Q4 h10 (Yh hx11 (rfl))))))
   exact Uk [] (congrArg (fun z => (.o 0 z.1 : AV)) hE15.symm) (congrArg (fun z => ([.h code, .i ((z.2.1 : Nat) : Int), .i z.2.2] : List C)) hE15.symm)
  ·
   have h10d := X2 h10
   refine sn Qa [0, 2, 3, 12, 30] [60000] (p0) ?_
   refine ck (x3.1 == (2 : Int)) (fun h16 => ?_) (fun h16 => ?_)
   ·
    have h16d := eq_of_beq h16
    refine mz [(30, .b (x3.1 == (2 : Int)))] [4, 22] [] [] ?_
    refine blw (fun (s0 : (List Yq) × Nat × Int) => [(3, .o 147202 s0.1)]) [3, 12, 30] (fun s0 => [(60000, [.h code, .i ((s0.2.1 : Nat) : Int), .i s0.2.2])]) [60000] (fun (y0 : (List Yq) × Nat × Int) => [(3, .o 147352 y0.1)]) [3, 12, 30] (fun y0 => [(60000, [.h code, .i ((y0.2.1 : Nat) : Int), .i y0.2.2])]) [60000] (fun (k0 : Nat) (s0 : (List Yq) × Nat × Int) => whl (specl11Any_f0 code) k0 s0 = some (whlD (specl11Any_f0 code) 7 (x1.1, x3.2.1, x3.2.2))) (fun (y0 : (List Yq) × Nat × Int) => (whlD (specl11Any_f0 code) 7 (x1.1, x3.2.1, x3.2.2)) = .brk y0) 7 (x1.1, x3.2.1, x3.2.2) (Xx [(384, 147202)] (by kernel_rfl)) (whl_some (specl11Any_w code _ _ _)) (fun _ h => whl_zero h) (fun k0 s0 hI0 => ?_) (fun y0 hD0 => ?_)
    ·
     refine Qd ?_
     obtain ⟨x17, hx17⟩ : ∃ z : Int × Nat × Int, Qg code s0.2.1 s0.2.2 2 = z := ⟨_, rfl⟩
     have hbx17 := hx17 ▸ Qt code s0.2.1 s0.2.2 2
     refine sn Qa [0, 2, 3, 37] [60000] (pl 1 s0.1 (po 3 (.give none (.i x17.1) [.h code, .i ((x17.2.1 : Nat) : Int), .i x17.2.2]) (px (Q0 (hx17 ▸ Q3 code s0.2.1 s0.2.2 2)) (pe 4 (Zq (IntWalk.i64_in (5 + x17.1) (by omega))) p0)))) ?_
     refine ck (decide ((s0.1.length : Int) < (5 + x17.1))) (fun h18 => ?_) (fun h18 => ?_)
     ·
      have h18d := of_decide_eq_true h18
      refine Qf ?_
      refine Qr ?_
      have hx19 := ng ([⟨#[100, 97]⟩, ⟨#[100, 98]⟩, ⟨#[100, 99]⟩, ⟨#[100, 100]⟩, ⟨#[100, 101]⟩, ⟨#[100, 102]⟩] : (List ByteArray)) (Int.toNat (s0.1.length : Int)) (by simp only [List.length_cons, List.length_nil]; omega)
      obtain ⟨x20, hx20⟩ : ∃ z : (List Xv) × Nat × Int, Zp code x17.2.1 x17.2.2 = z := ⟨_, rfl⟩
      have hbx20 := hx20 ▸ ques_len code x17.2.1 x17.2.2
      refine wT 3 0 (.own true 147202) s0.1 (fun hw21 hl22 => ?_)
      refine qU Qa Yr [(3, .one (.slc (.own true 3072) 2 ((eL s0.1) ++ [[.s (nth ([⟨#[100, 97]⟩, ⟨#[100, 98]⟩, ⟨#[100, 99]⟩, ⟨#[100, 100]⟩, ⟨#[100, 101]⟩, ⟨#[100, 102]⟩] : (List ByteArray)) (Int.toNat (s0.1.length : Int))), .h x20.1]])))] [3] [(60000, [.h code, .i ((x20.2.1 : Nat) : Int), .i x20.2.2])] [60000] (pl 3 s0.1 (pG 4 (s0.1.length : Int) hx19 (po 7 (.give none (.o 0 x20.1) [.h code, .i ((x20.2.1 : Nat) : Int), .i x20.2.2]) (px (Q0 (hx20 ▸ specl09Question_a code x17.2.1 x17.2.2)) (pa s0.1 [((nth ([⟨#[100, 97]⟩, ⟨#[100, 98]⟩, ⟨#[100, 99]⟩, ⟨#[100, 100]⟩, ⟨#[100, 101]⟩, ⟨#[100, 102]⟩] : (List ByteArray)) (Int.toNat (s0.1.length : Int))), x20.1)] p0))))) ?_
      exact Exists.intro (s0.1 ++ [((nth ([⟨#[100, 97]⟩, ⟨#[100, 98]⟩, ⟨#[100, 99]⟩, ⟨#[100, 100]⟩, ⟨#[100, 101]⟩, ⟨#[100, 102]⟩] : (List ByteArray)) (Int.toNat (s0.1.length : Int))), x20.1)], x20.2.1, x20.2.2) (And.intro (Xx [(3072, 147202)] (by rw [show ((eL s0.1) ++ [[.s (nth ([⟨#[100, 97]⟩, ⟨#[100, 98]⟩, ⟨#[100, 99]⟩, ⟨#[100, 100]⟩, ⟨#[100, 101]⟩, ⟨#[100, 102]⟩] : (List ByteArray)) (Int.toNat (s0.1.length : Int))), .h x20.1]]) = (eL (s0.1 ++ [((nth ([⟨#[100, 97]⟩, ⟨#[100, 98]⟩, ⟨#[100, 99]⟩, ⟨#[100, 100]⟩, ⟨#[100, 101]⟩, ⟨#[100, 102]⟩] : (List ByteArray)) (Int.toNat (s0.1.length : Int))), x20.1)])) from Kc (rfl) (rfl)]; first | done | kernel_rfl)) (wn hI0 (Yh hx17 (Q4 h18 (Yh hx20 (rfl))))))
     ·
      refine Qz ?_
      exact Exists.intro (s0.1, x17.2.1, x17.2.2) (And.intro (Xx [(147202, 147352)] (by kernel_rfl)) (wb hI0 (Yh hx17 (Qk h18 (rfl)))))
    ·
     refine sn Qa [0, 2] [60000] (p0) ?_
     refine Qe ?_
     have hE23 : Up code ci ch = (y0.1, y0.2.1, y0.2.2) := Yh hx1 (Yh hx2 (Yh hx3 (Qk h4 (Qk h10 (Q4 h16 (V2 hD0 (rfl)))))))
     exact Uk [] (congrArg (fun z => (.o 0 z.1 : AV)) hE23.symm) (congrArg (fun z => ([.h code, .i ((z.2.1 : Nat) : Int), .i z.2.2] : List C)) hE23.symm)
   ·
    refine tn Qa [0, 2, 3, 49] [60000] (p0) ?_
    refine ck (x3.1 == (3 : Int)) (fun h24 => ?_) (fun h24 => ?_)
    ·
     refine qu Qa [(3, .e 0)] [3, 4, 12, 22] [] [] (p0) ?_
     refine su Qa [] [3] [] [] (p0) ?_
     refine opn [(false, 2, 0, true, 384000, 2)] ?_
     refine Qe ?_
     have hE25 : Up code ci ch = ([], x3.2.1, x3.2.2) := Yh hx1 (Yh hx2 (Yh hx3 (Qk h4 (Qk h10 (Qk h16 (Q4 h24 (rfl)))))))
     exact Uk [] (congrArg (fun z => (.o 0 z.1 : AV)) hE25.symm) (congrArg (fun z => ([.h code, .i ((z.2.1 : Nat) : Int), .i z.2.2] : List C)) hE25.symm)
    ·
     refine Qf ?_
     refine tu Qa [(2, .o 384 x1.1)] [2, 3, 4, 12, 22] [] [] (p0) ?_
     refine Qe ?_
     have hE26 : Up code ci ch = (x1.1, x3.2.1, x3.2.2) := Yh hx1 (Yh hx2 (Yh hx3 (Qk h4 (Qk h10 (Qk h16 (Qk h24 (rfl)))))))
     exact Uk [] (congrArg (fun z => (.o 0 z.1 : AV)) hE26.symm) (congrArg (fun z => ([.h code, .i ((z.2.1 : Nat) : Int), .i z.2.2] : List C)) hE26.symm)
def W1 (code : (List UInt8)) (ci : Nat) (ch : Int) : Q2 × (List Yq) × Nat × Int := (lt (α := Q2 × Nat × Int) (Y6 code ci ch) (fun x1 => (lt (α := Bool × Nat × Int) (Yk code x1.2.1 x1.2.2 12) (fun x2 => (lt (α := Q2 × Nat × Int) (bif x2.1 then (lt (α := Q2 × Nat × Int) (Kz code x2.2.1 x2.2.2) (fun x3 => (x3.1, x3.2.1, x3.2.2))) else (x1.1, x2.2.1, x2.2.2)) (fun x3 => (lt (α := Bool × Nat × Int) (Yk code x3.2.1 x3.2.2 5) (fun x6 => (bif x6.1 then (lt (α := (List Yq) × Nat × Int) (Up code x6.2.1 x6.2.2) (fun x8 => (x3.1, x8.1, x8.2.1, x8.2.2))) else (lt (α := (List Yq) × Nat × Int) (Jg code x6.2.1 x6.2.2) (fun x10 => (x3.1, x10.1, x10.2.1, x10.2.2))))))))))))
theorem specl15Case_a (code : (List UInt8)) (ci : Nat) (ch : Int) : AGive Tryz.prog 74 [.h code, .i ((ci : Nat) : Int), .i ch] [] (.tup [(true, [.h ((((W1 code ci ch)).1).1), .q 0 ((((W1 code ci ch)).1).2.1), .i ((((W1 code ci ch)).1).2.2)]), (false, [.h (((W1 code ci ch)).2.1)])]) [.h code, .i ((((W1 code ci ch)).2.2.1 : Nat) : Int), .i (((W1 code ci ch)).2.2.2)] := by
 refine Jx (tt := tt) Qa Tryz.func74 (fn := Tryz.f74) rfl (by unfold FnOk; kernel_rfl) (Nat.le_of_ble_eq_true rfl) (Nat.le_of_ble_eq_true rfl) rfl rfl fun w0 F0 hG => ?_
 refine sn Qa [0, 2, 3] [2, 60000] (p0) ?_
 obtain ⟨x1, hx1⟩ : ∃ z : Q2 × Nat × Int, Y6 code ci ch = z := ⟨_, rfl⟩
 refine tn Qa [0, 2, 3, 4] [2, 4, 60000] (po 1 (.give none (.a [.o 0 x1.1.1, .q 1 x1.1.2.1, .i x1.1.2.2]) [.h code, .i ((x1.2.1 : Nat) : Int), .i x1.2.2]) (px (Q0 (hx1 ▸ specl05Store_a code ci ch)) p0)) ?_
 refine Qd ?_
 obtain ⟨x2, hx2⟩ : ∃ z : Bool × Nat × Int, Yk code x1.2.1 x1.2.2 12 = z := ⟨_, rfl⟩
 refine tu Qa [(2, .p 2 0), (3, .e 0), (4, .p 4 0), (8, .b x2.1)] [] [(2, [.e 2, .e 5, .i 0]), (4, [.o 384 x1.1.1, .q 385 x1.1.2.1, .i x1.1.2.2]), (60000, [.h code, .i ((x2.2.1 : Nat) : Int), .i x2.2.2])] [60000] (po 1 (.give none (.b x2.1) [.h code, .i ((x2.2.1 : Nat) : Int), .i x2.2.2]) (px (Q0 (hx2 ▸ Km code x1.2.1 x1.2.2 12)) p0)) ?_
 obtain ⟨x3, hx3⟩ : ∃ z : Q2 × Nat × Int, (bif x2.1 then (lt (α := Q2 × Nat × Int) (Kz code x2.2.1 x2.2.2) (fun x3 => (x3.1, x3.2.1, x3.2.2))) else (x1.1, x2.2.1, x2.2.2)) = z := ⟨_, rfl⟩
 refine jn [] [8] [(4, [.h x3.1.1, .q 448512 x3.1.2.1, .i x3.1.2.2]), (60000, [.h code, .i ((x3.2.1 : Nat) : Int), .i x3.2.2])] [4, 60000] x2.1 (fun h4 => ?_) (fun h4 => ?_) ?_
 ·
  refine ckt h4 ?_
  obtain ⟨x5, hx5⟩ : ∃ z : Q2 × Nat × Int, Kz code x2.2.1 x2.2.2 = z := ⟨_, rfl⟩
  refine rn Qa [0, 2, 3, 4] [2, 4, 60000] (po 1 (.give none (.a [.h x5.1.1, .q 0 x5.1.2.1, .i x5.1.2.2]) [.h code, .i ((x5.2.1 : Nat) : Int), .i x5.2.2]) (px (Q0 (hx5 ▸ specl05Any_a code x2.2.1 x2.2.2)) p0)) ?_
  obtain rfl : x3 = (x5.1, x5.2.1, x5.2.2) := hx3.symm.trans (show (bif x2.1 then (lt (α := Q2 × Nat × Int) (Kz code x2.2.1 x2.2.2) (fun x3 => (x3.1, x3.2.1, x3.2.2))) else (x1.1, x2.2.1, x2.2.2)) = (x5.1, x5.2.1, x5.2.2) from Q4 h4 (Yh hx5 (rfl)))
  exact ⟨rfl, Xx [(640, 448512)] (by kernel_rfl)⟩
 ·
  refine ckf h4 ?_
  refine Qf ?_
  obtain rfl : x3 = (x1.1, x2.2.1, x2.2.2) := hx3.symm.trans (show (bif x2.1 then (lt (α := Q2 × Nat × Int) (Kz code x2.2.1 x2.2.2) (fun x3 => (x3.1, x3.2.1, x3.2.2))) else (x1.1, x2.2.1, x2.2.2)) = (x1.1, x2.2.1, x2.2.2) from Qk h4 (rfl))
  exact ⟨rfl, weak_gf [] [384] [] [(385, 448512)] (by kernel_rfl)⟩
 refine Qd ?_
 obtain ⟨x6, hx6⟩ : ∃ z : Bool × Nat × Int, Yk code x3.2.1 x3.2.2 5 = z := ⟨_, rfl⟩
 refine sn Qa [0, 2, 3, 4, 12] [2, 4, 60000] (po 1 (.give none (.b x6.1) [.h code, .i ((x6.2.1 : Nat) : Int), .i x6.2.2]) (px (Q0 (hx6 ▸ Km code x3.2.1 x3.2.2 5)) p0)) ?_
 refine ck x6.1 (fun h7 => ?_) (fun h7 => ?_)
 ·
  obtain ⟨x8, hx8⟩ : ∃ z : (List Yq) × Nat × Int, Up code x6.2.1 x6.2.2 = z := ⟨_, rfl⟩
  refine tN Qa Yr [0, 2, 3, 4] [2, 4, 60000] (po 2 (.give none (.o 0 x8.1) [.h code, .i ((x8.2.1 : Nat) : Int), .i x8.2.2]) (px (Q0 (hx8 ▸ specl11Any_a code x6.2.1 x6.2.2)) p0)) ?_
  refine Qe ?_
  have hE9 : W1 code ci ch = (x3.1, x8.1, x8.2.1, x8.2.2) := Yh hx1 (Yh hx2 (Yh hx3 (Yh hx6 (Q4 h7 (Yh hx8 (rfl))))))
  exact Uk [960] (congrArg (fun z => (.tup [(true, [.h z.1.1, .q 0 z.1.2.1, .i z.1.2.2]), (false, [.h z.2.1])] : AV)) hE9.symm) (congrArg (fun z => ([.h code, .i ((z.2.2.1 : Nat) : Int), .i z.2.2.2] : List C)) hE9.symm)
 ·
  refine Qf ?_
  obtain ⟨x10, hx10⟩ : ∃ z : (List Yq) × Nat × Int, Jg code x6.2.1 x6.2.2 = z := ⟨_, rfl⟩
  have hbx10 := hx10 ▸ l13_ne code x6.2.1 x6.2.2
  refine tN Qa Yr [0, 2, 3] [2, 60000] (po 2 (.give none (.h x10.1) [.h code, .i ((x10.2.1 : Nat) : Int), .i x10.2.2]) (px (Q0 (hx10 ▸ specl13Dirs_a code x6.2.1 x6.2.2)) p0)) ?_
  refine Qe ?_
  have hE11 : W1 code ci ch = (x3.1, x10.1, x10.2.1, x10.2.2) := Yh hx1 (Yh hx2 (Yh hx3 (Yh hx6 (Qk h7 (Yh hx10 (rfl))))))
  exact Uk [] (congrArg (fun z => (.tup [(true, [.h z.1.1, .q 0 z.1.2.1, .i z.1.2.2]), (false, [.h z.2.1])] : AV)) hE11.symm) (congrArg (fun z => ([.h code, .i ((z.2.2.1 : Nat) : Int), .i z.2.2.2] : List C)) hE11.symm)
open GoE (enc wide)
def specl07PutId_f0 (n : Int) (k0 : Nat) (a0 : Int) (_ : Unit) : Rd ((List Int)) (Unit) (Int) := (bif decide (a0 < n) then (.next ()) else (.brk ((k0 : Nat) : Int)))
def specl07PutId_e0 (k0 : Nat) (_ : Unit) : Int := ((k0 : Nat) : Int)
def V1 (list : (List Int)) (n : Int) : (List Int) := (Out.on (Xp (specl07PutId_f0 n) specl07PutId_e0 list 0 ()) (fun y0 => (bif (decide (y0 < (list.length : Int)) && ((nth list (Int.toNat y0)) == n)) then list else List.take (Int.toNat y0) list ++ [n] ++ (List.drop (Int.toNat y0) list))))
theorem specl07PutId_a (list : (List Int)) (n : Int) (hp : list.length < 1073741824) : ACalls Tryz.prog 138 [.h list, .i n] (.h (V1 list n)) := by
 refine en Qa Tryz.func138 fun w0 F0 hG => ?_
 refine sn Qa [0, 1, 4] [] (p0) ?_
 refine tn Qa [0, 1, 4, 5] [] (p0) ?_
 refine Qd ?_
 refine mz [(4, .e 0), (5, .i 0)] [] [] [] ?_
 refine wT 0 0 .sh list (fun hw1 hl2 => ?_)
 refine blL2 (specl07PutId_f0 n) specl07PutId_e0 list () (fun k0 _ => [(5, .i ((k0 : Nat) : Int))]) [5] (fun y0 => [(5, .i y0)]) [5] (fun y0 => 0 ≤ y0 ∧ y0 ≤ (list.length : Int)) (Qc (by kernel_rfl)) (fun k0 s0 hk0 hI0 => ?_) (fun k0 s0 hk0 hI0 => ?_) (fun y0 hD0 => ?_)
 ·
  obtain ⟨a0, hx0⟩ := Xl (l := list) (i := k0) hk0
  refine Qd ?_
  refine sn Qa [0, 1, 4, 5, 18] [] (pl 2 list (pe 3 (Qs (decide_eq_true (p := ((k0 : Nat) : Int) < (list.length : Int)) (by omega))) (pn 7 hx0 p0))) ?_
  refine ck (decide (a0 < n)) (fun h3 => ?_) (fun h3 => ?_)
  ·
   have h3d := of_decide_eq_true h3
   refine Qf ?_
   refine Qr ?_
   refine qn Qa [0, 1, 4, 5] [] (pe 1 (Zq (Qu k0 (by omega))) p0) ?_
   exact Exists.intro _ (And.intro (Qc (by kernel_rfl)) (Qv hx0 (Q4 h3 (rfl)) hI0))
  ·
   have h3d := of_decide_eq_false h3
   refine Qz ?_
   exact Exists.intro ((k0 : Nat) : Int) (And.intro (Qc (by kernel_rfl)) ⟨forL_brk hx0 (Qk h3 (rfl)) hI0, by first | omega | (simp only [List.length_set]; omega)⟩)
 ·
  refine Qd ?_
  refine sn Qa [0, 1, 4, 5, 18] [] (pl 2 list (pe 3 (Qs (decide_eq_false (p := ((k0 : Nat) : Int) < (list.length : Int)) (by omega))) p0)) ?_
  refine ckF ?_
  refine Qz ?_
  exact Exists.intro ((k0 : Nat) : Int) (And.intro (Qc (by kernel_rfl)) ⟨Xm hk0 (rfl) hI0, by first | omega | (simp only [List.length_set]; omega)⟩)
 ·
  have hD0_0 := hD0.2
  refine Qd ?_
  refine Qd ?_
  refine jn [(32, .b (decide (y0 < (list.length : Int)) && ((nth list (Int.toNat y0)) == n)))] [] [] [] (decide (y0 < (list.length : Int))) (fun h4 => ?_) (fun h4 => ?_) ?_
  ·
   have h4d := of_decide_eq_true h4
   have hx5 := ng list (Int.toNat y0)
   refine rn Qa [0, 1, 4, 5, 32] [] (pl 2 list (pt 3 h4 (pg 7 y0 hx5 p0))) ?_
   exact ⟨rfl, Qc (by rw [h4]; first | done | kernel_rfl)⟩
  ·
   refine rn Qa [0, 1, 4, 5, 32] [] (pl 2 list (pf 3 h4 p0)) ?_
   exact ⟨rfl, Qc (by rw [h4]; first | done | kernel_rfl)⟩
  refine ck (decide (y0 < (list.length : Int)) && ((nth list (Int.toNat y0)) == n)) (fun h6 => ?_) (fun h6 => ?_)
  ·
   refine sn Qa [0, 1, 4, 5] [] (p0) ?_
   refine Qe ?_
   exact ph0 [] (V2 hD0.1 (Q4 h6 (rfl)))
  ·
   refine Qf ?_
   have hl7 : List.length (List.take (Int.toNat y0) list) ≤ 1073741824 := wide_len (wide_take (Int.toNat y0) (hw1))
   refine su Qa [(6, .one (.slc (.own true 2624) 1 (([] ++ (eL (List.take (Int.toNat y0) list))) ++ [[.i n]])))] [1, 32] [] [] (pe 3 (av_take .sh 1 (Int.toNat y0) y0 list rfl) (px (ob_rng (lo := 0) (hi := y0) (n := (List.length (eL list))) (rng_of (by omega) (by omega) (by omega))) (po 4 (.flat) (px (ob_len (n := (([] : List (List PV)).length + ((eL (List.take (Int.toNat y0) list)) : List (List PV)).length)) (len_of (rfl) (X8 (List.take (Int.toNat y0) list)) (by first | omega | (simp only [List.length_cons, List.length_nil]; omega) | (simp; omega) | simp))) (px (Wi (Vv (List.take (Int.toNat y0) list))) (px (ob_len (n := ((([] ++ (eL (List.take (Int.toNat y0) list))) : List (List PV)).length + ([[.i n]] : List (List PV)).length)) (by simp [X8]; omega)) p0)))))) ?_
   refine eqn [(6, .o 2624 (List.take (Int.toNat y0) list ++ [n]))] [6] [] [] (by rw [show (([] ++ (eL (List.take (Int.toNat y0) list))) ++ [[.i n]]) = (eL (List.take (Int.toNat y0) list ++ [n])) from Kc (rfl) (rfl)]; first | done | kernel_rfl) ?_
   refine wT 6 0 (.own true 2624) (List.take (Int.toNat y0) list ++ [n]) (fun hw8 hl9 => ?_)
   have hl10 : List.length (List.drop (Int.toNat y0) list) ≤ 1073741824 := wide_len (wide_drop (Int.toNat y0) (hw1))
   refine su Qa [(4, .one (.slc (.own true 2944) 1 ((eL (List.take (Int.toNat y0) list ++ [n])) ++ (eL (List.drop (Int.toNat y0) list)))))] [0, 4, 5, 6] [] [] (pe 3 (av_drop .sh 1 (Int.toNat y0) y0 list rfl) (px (ob_rng (lo := y0) (hi := (((eL list) : List (List PV)).length : Int)) (n := (List.length (eL list))) (rng_all (by omega) (by omega))) (po 4 (.flat) (pa (List.take (Int.toNat y0) list ++ [n]) (List.drop (Int.toNat y0) list) (px (Wi (Vv (List.drop (Int.toNat y0) list))) p0))))) ?_
   refine eqn [(4, .o 2944 (List.take (Int.toNat y0) list ++ [n] ++ (List.drop (Int.toNat y0) list)))] [4] [] [] (by rw [show ((eL (List.take (Int.toNat y0) list ++ [n])) ++ (eL (List.drop (Int.toNat y0) list))) = (eL (List.take (Int.toNat y0) list ++ [n] ++ (List.drop (Int.toNat y0) list))) from Kc (rfl) (rfl)]; first | done | kernel_rfl) ?_
   refine Qe ?_
   exact ph0 [2944] (V2 hD0.1 (Qk h6 (rfl)))
def Jm (id : Int) (q0 : (List Int)) : Bool := (Z8 q0 id)
theorem implwithout_1_a (id : Int) (q0 : (List Int)) : ACalls Tryz.prog 111 [.i id, .one (.rptr .sh [.h q0])] (.b (Jm id q0)) := by
 refine en Qa Tryz.func111 fun w0 F0 hG => ?_
 refine sn Qa [0, 1, 3] [] (p0) ?_
 refine tn Qa [3] [] (pc 2 (slicesContains_int_a q0 id) p0) ?_
 refine Qe ?_
 exact pb [] (show Jm id q0 = (Z8 q0 id) from rfl)
def Ju (c0 : (List Int)) (k0 : Nat) (a0 : Int) (_ : Unit) : Rd (Int) (Unit) (Unit) := (bif (Jm a0 c0) then (.ret ((k0 : Nat) : Int)) else (.next ()))
def Jv (_ : Nat) (_ : Unit) : Unit := ()
def Qn (s_ : (List Int)) (c0 : (List Int)) : Int := (Out.on (Xp (Ju c0) Jv s_ 0 ()) (fun _ => -1))
theorem Jw (s_ : (List Int)) (c0 : (List Int)) : Qn s_ c0 = ixF (fun a => Jm a c0) s_ := idx_eq (fun _ _ _ => rfl) s_
theorem slicesIndexFunc_int_implwithout_1_bd (s_ : (List Int)) (c0 : (List Int)) : -1 ≤ Qn s_ c0 ∧ Qn s_ c0 < (List.length s_ : Int) := by rw [Jw]; exact ixF_bd _ _
theorem slicesIndexFunc_int_implwithout_1_a (s_ : (List Int)) (c0 : (List Int)) : ACalls Tryz.prog 154 [.h s_, .one (.fnr 111 [[.h c0]])] (.i (Qn s_ c0)) := by
 refine en Qa Tryz.func154 fun w0 F0 hG => ?_
 refine sn Qa [0, 1, 4] [] (p0) ?_
 refine Qd ?_
 refine tn Qa [0, 1, 4, 7, 8] [] (pl 1 s_ p0) ?_
 refine mz [(4, .i 0), (7, .i (s_.length : Int)), (8, .i 0)] [] [] [] ?_
 refine wT 0 0 .sh s_ (fun hw1 hl2 => ?_)
 refine blL0 (Ju c0) Jv s_ () (fun k0 _ => [(8, .i ((k0 : Nat) : Int))]) [8] (fun _ => []) [0, 1, 7, 8] (Qc (by kernel_rfl)) (fun k0 s0 hk0 hI0 => ?_) (fun k0 s0 hk0 hI0 => ?_) (fun y0 hD0 => ?_)
 ·
  obtain ⟨a0, hx0⟩ := Xl (l := s_) (i := k0) hk0
  refine sn Qa [0, 1, 4, 7, 8, 9] [] (pe 0 (Qs (decide_eq_true (p := ((k0 : Nat) : Int) < (s_.length : Int)) (by omega))) p0) ?_
  refine Qd ?_
  refine ckT ?_
  refine Qf ?_
  refine Qd ?_
  refine Qr ?_
  refine tn Qa [0, 1, 4, 5, 7, 8] [] (p0) ?_
  refine tu Qa [(5, .i ((k0 : Nat) : Int)), (16, .b (Jm a0 c0))] [] [] [] (pn 3 hx0 (pc 5 (implwithout_1_a a0 c0) p0)) ?_
  refine ck (Jm a0 c0) (fun h3 => ?_) (fun h3 => ?_)
  ·
   refine sn Qa [0, 1, 4, 7, 8] [] (p0) ?_
   refine Qe ?_
   have hr4 : (Xp (Ju c0) Jv s_ 0 ()) = .ret ((k0 : Nat) : Int) := Zj hx0 (Q4 h3 (rfl)) hI0
   exact pi [] (on_r hr4)
  ·
   refine Qf ?_
   refine rn Qa [0, 1, 4, 7, 8] [] (pe 0 (Zq (Qu k0 (by omega))) p0) ?_
   exact Exists.intro _ (And.intro (Qc (by kernel_rfl)) (Qv hx0 (Qk h3 (rfl)) hI0))
 ·
  refine sn Qa [0, 1, 4, 7, 8, 9] [] (pe 0 (Qs (decide_eq_false (p := ((k0 : Nat) : Int) < (s_.length : Int)) (by omega))) p0) ?_
  refine Qd ?_
  refine ckF ?_
  refine Qz ?_
  exact Exists.intro _ (And.intro (Qc (by kernel_rfl)) (Xm hk0 (rfl) hI0))
 ·
  refine sn Qa [4] [] (p0) ?_
  refine Qe ?_
  exact pi [] (V2 hD0 (rfl))
def X5 (c0 : (List Int)) (s0 : (List Int) × Int × Int) : Rd ((List Int)) ((List Int) × Int × Int) ((List Int) × Int) := (bif decide (s0.2.2 < (s0.1.length : Int)) then (bif (!(Jm (nth s0.1 (Int.toNat s0.2.2)) c0)) then (.next (List.set s0.1 (Int.toNat s0.2.1) (nth s0.1 (Int.toNat s0.2.2)), (s0.2.1 + 1), (s0.2.2 + 1))) else (.next (s0.1, s0.2.1, (s0.2.2 + 1)))) else (.brk (s0.1, s0.2.1)))
def Xf (s_ : (List Int)) (c0 : (List Int)) : (List Int) := (bif ((Qn s_ c0) == (-1 : Int)) then s_ else (Out.on (whlD (X5 c0) (List.length s_ + 1) (s_, (Qn s_ c0), ((Qn s_ c0) + 1))) (fun y0 => List.take (Int.toNat y0.2) y0.1)))
theorem Vt (c0 : (List Int)) : DelStep (X5 c0) (fun a => Jm a c0) := by
 intro s i j hij hj
 unfold X5
 by_cases h : (j : Int) < (s.length : Int) <;> cases hp : Jm (nth s j) c0 <;> simp [h, hp]
theorem slicesDeleteFunc_int_implwithout_1_w (s_ : (List Int)) (c0 : (List Int)) (hp : List.length s_ ≤ 1073741824) (h : Qn s_ c0 ≠ -1) : (whl (X5 c0) (List.length s_ + 1) (s_, Qn s_ c0, Qn s_ c0 + 1)).isSome = true := del_some (Vt c0) hp (Jw s_ c0) h
theorem Vu (s_ : (List Int)) (c0 : (List Int)) (hp : List.length s_ ≤ 1073741824) : Xf s_ c0 = s_.filter (fun a => !(Jm a c0)) := by
 unfold Xf
 exact del_eq (Vt c0) hp (Jw s_ c0)
theorem slicesDeleteFunc_int_implwithout_1_le (s_ : (List Int)) (c0 : (List Int)) (hp : List.length s_ ≤ 1073741824) : List.length (Xf s_ c0) ≤ List.length s_ := by rw [Vu _ _ hp]; exact List.length_filter_le _ _
theorem slicesDeleteFunc_int_implwithout_1_a (s_ : (List Int)) (c0 : (List Int)) : ATake Tryz.prog 110 1 (eL s_) [.one (.fnr 111 [[.h c0]])] true false (eL (Xf s_ c0)) := by
 refine atake_of (tt := tt) Qa Tryz.func110 (fn := Tryz.f110) rfl (by unfold FnOk; kernel_rfl) (Nat.le_of_ble_eq_true rfl) (by simp [AV.cells, C.key, C.bkeys]) (t := 4) rfl fun w0 F0 hG => ?_
 refine wT 0 0 (.own false 63) s_ (fun hw1 hl2 => ?_)
 have hix := slicesIndexFunc_int_implwithout_1_bd s_ c0
 refine sn Qa [0, 1, 4] [] (p0) ?_
 refine tn Qa [0, 1, 4, 5] [] (pc 2 (slicesIndexFunc_int_implwithout_1_a s_ c0) p0) ?_
 refine Qd ?_
 refine tu Qa [(4, .e 0), (5, .i (Qn s_ c0)), (12, .b ((Qn s_ c0) == (-1 : Int)))] [] [] [] (p0) ?_
 refine ck ((Qn s_ c0) == (-1 : Int)) (fun h3 => ?_) (fun h3 => ?_)
 ·
  refine sn Qa [0, 1, 4, 5] [] (p0) ?_
  refine Qe ?_
  have hE4 : Xf s_ c0 = s_ := Q4 h3 (rfl)
  exact ⟨.inl rfl, 63, by rw [hE4]; kernel_rfl⟩
 ·
  have h3d := X2 h3
  refine Qf ?_
  refine Qd ?_
  refine sn Qa [0, 1, 4, 5, 6] [] (pe 1 (Zq (IntWalk.i64_in ((Qn s_ c0) + 1) (by omega))) p0) ?_
  refine mz [(6, .i ((Qn s_ c0) + 1))] [12] [] [] ?_
  refine blw (fun (s0 : (List Int) × Int × Int) => [(0, .q 63 s0.1), (5, .i s0.2.1), (6, .i s0.2.2)]) [0, 5, 6] (fun s0 => []) [] (fun (y0 : (List Int) × Int) => [(0, .q 63 y0.1), (5, .i y0.2)]) [0, 1, 5, 6] (fun y0 => []) [] (fun (k0 : Nat) (s0 : (List Int) × Int × Int) => whl (X5 c0) k0 s0 = some (whlD (X5 c0) (List.length s_ + 1) (s_, (Qn s_ c0), ((Qn s_ c0) + 1))) ∧ 0 ≤ s0.2.1 ∧ s0.2.1 < s0.2.2 ∧ s0.2.2 ≤ (List.length s0.1 : Int) ∧ List.length s0.1 = List.length s_) (fun (y0 : (List Int) × Int) => (whlD (X5 c0) (List.length s_ + 1) (s_, (Qn s_ c0), ((Qn s_ c0) + 1))) = .brk y0 ∧ 0 ≤ y0.2 ∧ y0.2 < (List.length y0.1 : Int) ∧ List.length y0.1 = List.length s_) (List.length s_ + 1) (s_, (Qn s_ c0), ((Qn s_ c0) + 1)) (Qc (by kernel_rfl)) ⟨whl_some (slicesDeleteFunc_int_implwithout_1_w s_ c0 hl2 h3d), (by first | omega | (dsimp only; omega) | rfl), (by first | omega | (dsimp only; omega) | rfl), (by first | omega | (dsimp only; omega) | rfl), (by first | omega | (dsimp only; omega) | rfl)⟩ (fun _ h => whl_zero h.1) (fun k0 s0 hI0 => ?_) (fun y0 hD0 => ?_)
  ·
   have hA0_0 := hI0.2.1
   have hA0_1 := hI0.2.2.1
   have hA0_2 := hI0.2.2.2.1
   have hA0_3 := hI0.2.2.2.2
   refine Qd ?_
   refine sn Qa [0, 1, 4, 5, 6, 19] [] (pl 2 s0.1 p0) ?_
   refine ck (decide (s0.2.2 < (s0.1.length : Int))) (fun h5 => ?_) (fun h5 => ?_)
   ·
    have h5d := of_decide_eq_true h5
    refine Qf ?_
    refine Qd ?_
    refine Qr ?_
    refine wT 0 0 (.own false 63) s0.1 (fun hw7 hl8 => ?_)
    have hx6 := ng s0.1 (Int.toNat s0.2.2)
    refine tn Qa [0, 1, 4, 5, 6, 7] [] (pG 2 s0.2.2 hx6 p0) ?_
    refine tu Qa [(7, .i (nth s0.1 (Int.toNat s0.2.2))), (29, .b (!(Jm (nth s0.1 (Int.toNat s0.2.2)) c0)))] [] [] [] (pc 2 (implwithout_1_a (nth s0.1 (Int.toNat s0.2.2)) c0) p0) ?_
    refine ck (!(Jm (nth s0.1 (Int.toNat s0.2.2)) c0)) (fun h9 => ?_) (fun h9 => ?_)
    ·
     have hx10 := ng s0.1 (Int.toNat s0.2.1)
     refine su Qa [(0, .one (.slc (.own false 63) 1 (setRow (eL s0.1) (Int.toNat s0.2.1) 0 [.i (nth s0.1 (Int.toNat s0.2.2))])))] [0, 7, 29] [] [] (pG 3 s0.2.1 hx10 p0) ?_
     refine eqn [(0, .q 63 (List.set s0.1 (Int.toNat s0.2.1) (nth s0.1 (Int.toNat s0.2.2))))] [0] [] [] (by rw [Zd (y := (nth s0.1 (Int.toNat s0.2.2))) hx10 rfl]; first | done | kernel_rfl) ?_
     refine rn Qa [0, 1, 4, 5, 6] [] (pe 1 (Zq (IntWalk.i64_in (s0.2.1 + 1) (by omega))) p0) ?_
     refine qn Qa [0, 1, 4, 5, 6] [] (pe 1 (Zq (IntWalk.i64_in (s0.2.2 + 1) (by omega))) p0) ?_
     exact Exists.intro (List.set s0.1 (Int.toNat s0.2.1) (nth s0.1 (Int.toNat s0.2.2)), (s0.2.1 + 1), (s0.2.2 + 1)) (And.intro (Qc (by kernel_rfl)) ⟨wn hI0.1 (Q4 h5 (Q4 h9 (rfl))), (by first | omega | (dsimp only; omega) | (simp only [List.length_set]; omega)), (by first | omega | (dsimp only; omega) | (simp only [List.length_set]; omega)), (by first | omega | (dsimp only; omega) | (simp only [List.length_set]; omega)), (by first | omega | (dsimp only; omega) | (simp only [List.length_set]; omega))⟩)
    ·
     refine Qf ?_
     refine rn Qa [0, 1, 4, 5, 6] [] (pe 1 (Zq (IntWalk.i64_in (s0.2.2 + 1) (by omega))) p0) ?_
     exact Exists.intro (s0.1, s0.2.1, (s0.2.2 + 1)) (And.intro (Qc (by kernel_rfl)) ⟨wn hI0.1 (Q4 h5 (Qk h9 (rfl))), (by first | omega | (dsimp only; omega) | (simp only [List.length_set]; omega)), (by first | omega | (dsimp only; omega) | (simp only [List.length_set]; omega)), (by first | omega | (dsimp only; omega) | (simp only [List.length_set]; omega)), (by first | omega | (dsimp only; omega) | (simp only [List.length_set]; omega))⟩)
   ·
    have h5d := of_decide_eq_false h5
    refine Qz ?_
    exact Exists.intro (s0.1, s0.2.1) (And.intro (Qc (by kernel_rfl)) ⟨wb hI0.1 (Qk h5 (rfl)), by first | omega | (simp only [List.length_set]; omega), by first | omega | (simp only [List.length_set]; omega), by first | omega | (simp only [List.length_set]; omega)⟩)
  ·
   have hD0_0 := hD0.2.1
   have hD0_1 := hD0.2.2.1
   have hD0_2 := hD0.2.2.2
   refine Qd ?_
   refine awp_clear Qa rfl (by kernel_rfl) rfl rfl rfl rfl rfl (by omega) (by rw [X8]; omega) (fun lc11 hllc11 htlc11 => ?_)
   refine sn Qa [4] [] (po 2 (.cut (eL (List.take (Int.toNat y0.2) y0.1))) (px (ob_eq (show .one (.slc (.own false 0) 1 ((lc11.take (Int.toNat y0.2)).drop (Int.toNat 0))) = .q 0 (List.take (Int.toNat y0.2) y0.1) from (congrArg (fun z => AV.one (.slc (.own false 0) 1 (z.drop (Int.toNat 0)))) htlc11).trans (av_take (.own false 0) 1 (Int.toNat y0.2) y0.2 y0.1 rfl))) (px (ob_rng (lo := 0) (hi := y0.2) (n := (List.length lc11)) (rng_lc (by omega) (by rw [hllc11, X8]; omega))) p0))) ?_
   refine Qe ?_
   have hE12 : Xf s_ c0 = List.take (Int.toNat y0.2) y0.1 := Qk h3 (V2 hD0.1 (rfl))
   exact ⟨.inl rfl, 0, by rw [hE12]; kernel_rfl⟩
def implwithout (a_ : (List Int)) (b : (List Int)) : (List Int) := Xf a_ b
theorem implwithout_a (a_ : (List Int)) (b : (List Int)) : ACalls Tryz.prog 70 [.h a_, .h b] (.o 0 (implwithout a_ b)) := by
 refine en Qa Tryz.func70 fun w0 F0 hG => ?_
 refine sn Qa [0, 3, 4] [3] (p0) ?_
 refine wT 0 0 .sh a_ (fun hw1 hl2 => ?_)
 have hq3 := slicesDeleteFunc_int_implwithout_1_le a_ b hl2
 refine tn Qa [4] [] (pc 1 (cloneInt_a a_) (po 3 (.take false false (eL (Xf a_ b))) (px (ob_take (atake_flat (slicesDeleteFunc_int_implwithout_1_a a_ b) (Vv _))) (px (Wi (Vv a_)) (px (Wi (Vv (Xf a_ b))) p0))))) ?_
 refine Qe ?_
 exact po0 [] (show implwithout a_ b = Xf a_ b from rfl)
end Go.Proofs.YtcnkkobgogmakaaGreat
namespace Go.Proofs.YtcnkkobgogmakaaGreat
open Go.RowKit
theorem asc_ext : ∀ (a b : List Int), a.Pairwise (· < ·) → b.Pairwise (· < ·) → (∀ x, x ∈ a ↔ x ∈ b) → a = b
  | [], [], _, _, _ => rfl
  | [], y :: b, _, _, h => by have := (h y).2 (by simp); simp at this
  | x :: a, [], _, _, h => by have := (h x).1 (by simp); simp at this
  | x :: a, y :: b, ha, hb, h => by
    rw [List.pairwise_cons] at ha hb
    have h1 : x = y := by
      have hx := (h x).1 (by simp)
      have hy := (h y).2 (by simp)
      simp only [List.mem_cons] at hx hy
      rcases hx with e | hx
      · exact e
      · rcases hy with e | hy
        · exact e.symm
        · have h1 := ha.1 y hy
          have h2 := hb.1 x hx
          omega
    subst h1
    congr 1
    refine asc_ext a b ha.2 hb.2 fun z => ?_
    have hz := h z
    simp only [List.mem_cons] at hz
    constructor
    · intro hm
      have hlt := ha.1 z hm
      rcases hz.1 (.inr hm) with e | e
      · omega
      · exact e
    · intro hm
      have hlt := hb.1 z hm
      rcases hz.2 (.inr hm) with e | e
      · omega
      · exact e
def putId : List Int → Int → List Int
  | [], n => [n]
  | x :: l, n => if x < n then x :: putId l n else if x = n then x :: l else n :: x :: l
theorem mem_putId (n x : Int) : ∀ l : List Int, x ∈ putId l n ↔ x = n ∨ x ∈ l
  | [] => by simp [putId]
  | y :: l => by
    unfold putId
    by_cases h1 : y < n
    · rw [if_pos h1, List.mem_cons, mem_putId n x l, List.mem_cons]
      constructor
      · rintro (h | h | h)
        · exact .inr (.inl h)
        · exact .inl h
        · exact .inr (.inr h)
      · rintro (h | h | h)
        · exact .inr (.inl h)
        · exact .inl h
        · exact .inr (.inr h)
    · rw [if_neg h1]
      by_cases h2 : y = n
      · rw [if_pos h2, h2]; simp
      · rw [if_neg h2]; simp
theorem asc_putId (n : Int) : ∀ l : List Int, l.Pairwise (· < ·) → (putId l n).Pairwise (· < ·)
  | [], _ => by simp [putId]
  | y :: l, h => by
    rw [List.pairwise_cons] at h
    unfold putId
    by_cases h1 : y < n
    · rw [if_pos h1, List.pairwise_cons]
      refine ⟨fun z hz => ?_, asc_putId n l h.2⟩
      rcases (mem_putId n z l).1 hz with e | e
      · omega
      · exact h.1 z e
    · rw [if_neg h1]
      by_cases h2 : y = n
      · rw [if_pos h2, List.pairwise_cons]; exact h
      · rw [if_neg h2, List.pairwise_cons, List.pairwise_cons]
        refine ⟨fun z hz => ?_, h⟩
        rcases List.mem_cons.1 hz with e | e
        · omega
        · have := h.1 z e; omega
theorem len_putId (n : Int) : ∀ l : List Int, (putId l n).length ≤ l.length + 1
  | [] => by simp [putId]
  | y :: l => by
    have h := len_putId n l
    unfold putId
    split
    · simp only [List.length_cons]; omega
    · split
      · simp
      · simp
def W2 (l : List Int) (n : Int) : Nat := (l.takeWhile (fun x => decide (x < n))).length
theorem putId_eq (n : Int) : ∀ l : List Int, putId l n = if l[W2 l n]? = some n then l else l.take (W2 l n) ++ [n] ++ l.drop (W2 l n)
  | [] => by simp [putId, W2]
  | y :: l => by
    have ih := putId_eq n l
    unfold putId W2
    by_cases h1 : y < n
    · rw [if_pos h1, ih]
      simp only [List.takeWhile_cons, h1, decide_true, if_true, List.length_cons, List.getElem?_cons_succ, List.take_succ_cons, List.drop_succ_cons]
      unfold W2
      split <;> simp
    · rw [if_neg h1]
      simp only [List.takeWhile_cons, h1, decide_false, List.length_nil, List.getElem?_cons_zero, Option.some.injEq, List.take_zero, List.drop_zero]
      by_cases h2 : y = n
      · rw [if_pos h2]; simp [h2]
      · rw [if_neg h2]; simp [h2]
def putAll (l : List Int) (xs : List Int) : List Int := xs.foldl putId l
theorem mem_putAll (x : Int) : ∀ (xs l : List Int), x ∈ putAll l xs ↔ x ∈ xs ∨ x ∈ l
  | [], l => by simp [putAll]
  | n :: xs, l => by
    have h := mem_putAll x xs (putId l n)
    unfold putAll at h ⊢
    rw [List.foldl_cons, h, mem_putId, List.mem_cons]
    constructor
    · rintro (h | h | h)
      · exact .inl (.inr h)
      · exact .inl (.inl h)
      · exact .inr h
    · rintro ((h | h) | h)
      · exact .inr (.inl h)
      · exact .inl h
      · exact .inr (.inr h)
theorem asc_putAll : ∀ (xs l : List Int), l.Pairwise (· < ·) → (putAll l xs).Pairwise (· < ·)
  | [], _, h => h
  | n :: xs, l, h => asc_putAll xs (putId l n) (asc_putId n l h)
def less (ids removed : List Int) : List Int := ids.filter (fun x => !removed.contains x)
def replay1 (ids added removed : List Int) : List Int := putAll (putAll [] (less ids removed)) added
theorem less_len (ids removed : List Int) : (less ids removed).length ≤ ids.length := List.length_filter_le _ _
theorem compact_asc (d : Array Int) (hs : ∀ i j, i ≤ j → j < d.size → d[i]! ≤ d[j]!) : ∀ m, m ≤ d.size → (Lib.compactUpTo d m).Pairwise (· < ·) ∧ ∀ x, x ∈ Lib.compactUpTo d m ↔ ∃ j, j < m ∧ d[j]! = x
  | 0, _ => by simp [Lib.compactUpTo]
  | m + 1, hm => by
    obtain ⟨h1, h2⟩ := compact_asc d hs m (by omega)
    rw [Lib.compactUpTo_succ]
    by_cases hk : Lib.keeps d m = true
    · rw [if_pos hk]
      refine ⟨?_, fun x => ?_⟩
      · rw [List.pairwise_append]
        refine ⟨h1, by simp, fun a ha b hb => ?_⟩
        obtain ⟨j, hj, rfl⟩ := (h2 a).1 ha
        obtain rfl : b = d[m]! := by simpa using hb
        have hle := hs j (m - 1) (by omega) (by omega)
        have hle2 := hs (m - 1) m (by omega) (by omega)
        have hne : d[m]! ≠ d[m - 1]! := by
          unfold Lib.keeps at hk
          simp only [Bool.or_eq_true, beq_iff_eq, bne_iff_ne, decide_eq_true_eq] at hk
          rcases hk with h | h
          · omega
          · exact h
        omega
      · rw [List.mem_append, h2 x]
        constructor
        · rintro (⟨j, hj, e⟩ | h)
          · exact ⟨j, by omega, e⟩
          · exact ⟨m, by omega, by simpa using (by simpa using h : x = d[m]!).symm⟩
        · rintro ⟨j, hj, e⟩
          by_cases hjm : j = m
          · subst hjm; exact .inr (by simp [e])
          · exact .inl ⟨j, by omega, e⟩
    · rw [if_neg hk, List.append_nil]
      refine ⟨h1, fun x => ?_⟩
      rw [h2 x]
      have hm0 : m ≠ 0 ∧ d[m]! = d[m - 1]! := by
        unfold Lib.keeps at hk
        simp only [Bool.or_eq_true, beq_iff_eq, bne_iff_ne, decide_eq_true_eq, not_or, Decidable.not_not] at hk
        exact hk
      constructor
      · rintro ⟨j, hj, e⟩; exact ⟨j, by omega, e⟩
      · rintro ⟨j, hj, e⟩
        by_cases hjm : j = m
        · subst hjm; exact ⟨j - 1, by omega, hm0.2 ▸ e⟩
        · exact ⟨j, by omega, e⟩
theorem compact_sort (l : List Int) (a : List Int) (ha : a.Pairwise (· < ·)) (hm : ∀ x, x ∈ a ↔ x ∈ l) : Lib.compact (l.mergeSort fun x y => decide (x ≤ y)) = a := by
  have hp := List.mergeSort_perm l (fun x y => decide (x ≤ y))
  have hs := List.pairwise_mergeSort (le := fun (x y : Int) => decide (x ≤ y)) (fun a b c h1 h2 => by simp at h1 h2 ⊢; omega) (fun a b => by simp; omega) l
  generalize (l.mergeSort fun x y => decide (x ≤ y)) = s at hp hs
  have hsz : s.toArray.size = s.length := by simp
  have hget : ∀ j, j < s.length → s.toArray[j]! = s[j]! := fun j hj => by simp
  have hmono : ∀ i j, i ≤ j → j < s.toArray.size → s.toArray[i]! ≤ s.toArray[j]! := fun i j hij hj => by
    rw [hsz] at hj
    rw [hget i (by omega), hget j hj, getElem!_pos s i (by omega), getElem!_pos s j hj]
    by_cases e : i = j
    · subst e; exact Int.le_refl _
    · have := List.pairwise_iff_getElem.1 hs i j (by omega) hj (by omega)
      simpa using this
  obtain ⟨h1, h2⟩ := compact_asc s.toArray hmono s.length (by omega)
  refine asc_ext _ _ h1 ha fun x => ?_
  show x ∈ Lib.compactUpTo s.toArray s.length ↔ _
  rw [h2 x, hm x, ← hp.mem_iff]
  constructor
  · rintro ⟨j, hj, e⟩
    rw [hget j hj, getElem!_pos s j hj] at e
    exact e ▸ List.getElem_mem hj
  · intro h
    obtain ⟨j, hj, e⟩ := List.getElem_of_mem h
    exact ⟨j, hj, by rw [hget j hj, getElem!_pos s j hj]; exact e⟩
theorem replay1_eq (ids added removed : List Int) : Lib.compact ((less ids removed ++ added).mergeSort fun x y => decide (x ≤ y)) = replay1 ids added removed :=
  compact_sort _ _ (asc_putAll _ _ (asc_putAll _ _ (by simp))) fun x => by
    unfold replay1
    rw [mem_putAll, mem_putAll, List.mem_append]
    simp only [List.not_mem_nil, or_false]
    exact Or.comm
end Go.Proofs.YtcnkkobgogmakaaGreat
namespace Go.Proofs.YtcnkkobgogmakaaGreat
open Go.RowKit
theorem putI_loop (n : Int) : ∀ (l : List Int) (k : Nat), Xp (specl07PutId_f0 n) specl07PutId_e0 l k () = .brk (((k + W2 l n : Nat)) : Int)
  | [], k => by simp [Xp, specl07PutId_e0, W2]
  | a :: l, k => by
    simp only [Xp, specl07PutId_f0]
    by_cases h : a < n
    · have e : W2 (a :: l) n = W2 l n + 1 := by simp [W2, h]
      rw [decide_eq_true h, e]
      simp only [cond_true]
      rw [putI_loop n l (k + 1), show k + 1 + W2 l n = k + (W2 l n + 1) by omega]
    · have e : W2 (a :: l) n = 0 := by simp [W2, h]
      rw [decide_eq_false h, e]
      rfl
theorem l07Put_eq (l : List Int) (n : Int) : V1 l n = putId l n := by
  unfold V1
  rw [putI_loop, putId_eq]
  simp only [Out.on, Nat.zero_add, Int.toNat_natCast]
  by_cases h : l[W2 l n]? = some n
  · obtain ⟨hlt, _⟩ := List.getElem?_eq_some_iff.1 h
    rw [if_pos h, decide_eq_true (by omega : ((W2 l n : Nat) : Int) < (l.length : Int)), nth_of h]
    simp
  · rw [if_neg h]
    have hc : (decide (((W2 l n : Nat) : Int) < (l.length : Int)) && (nth l (W2 l n) == n)) = false := by
      by_cases hlt : W2 l n < l.length
      · have : nth l (W2 l n) ≠ n := fun e => h (by rw [Ur hlt, e])
        rw [beq_eq_false_iff_ne.2 this, Bool.and_false]
      · rw [decide_eq_false (by omega), Bool.false_and]
    rw [hc, cond_false]
theorem putI_len (l : List Int) (n : Int) : List.length (V1 l n) ≤ List.length l + 1 := by rw [l07Put_eq]; exact len_putId n l
end Go.Proofs.YtcnkkobgogmakaaGreat
namespace Go.Proofs.YtcnkkobgogmakaaGreat
open Go.RowKit
theorem without_less {a b : List Int} (hp : List.length a ≤ 1073741824) : implwithout a b = less a b := by
  unfold implwithout
  rw [Vu a b hp]
  unfold less
  refine List.filter_congr fun x _ => ?_
  have h : Jm x b = b.contains x := by
    rw [Bool.eq_iff_iff]
    have := cid_iff b x
    unfold Kd at this
    show Z8 b x = true ↔ _
    rw [this]
    simp
  rw [h]
open GoE (enc wide)
def Zt (ids : (List Int)) (added : (List Int)) (removed : (List Int)) : (List Int) := compI (sortI (less ids removed ++ added))
theorem implreplayed_a (ids : (List Int)) (added : (List Int)) (removed : (List Int)) (hp : List.length ids + List.length added ≤ 536870912) : ACalls Tryz.prog 72 [.h ids, .h added, .h removed] (.o 0 (Zt ids added removed)) := by
 refine en Qa Tryz.func72 fun w0 F0 hG => ?_
 have hll := less_len ids removed
 refine sn Qa [0, 1, 2, 6] [] (p0) ?_
 refine wT 0 0 .sh ids (fun hw1 hl2 => ?_)
 refine wT 1 0 .sh added (fun hw3 hl4 => ?_)
 refine tu Qa [(6, .e 0), (7, .one (.slc (.own true 768) 1 ((eL (less ids removed)) ++ (eL added))))] [0, 1, 2] [] [] (pc 2 ((without_less hl2) ▸ implwithout_a ids removed) (po 4 (.flat) (pa (less ids removed) added (px (Wi (Vv added)) p0)))) ?_
 refine eqn [(7, .o 768 (less ids removed ++ added))] [7] [] [] (by rw [show ((eL (less ids removed)) ++ (eL added)) = (eL (less ids removed ++ added)) from Kc (rfl) (rfl)]; first | done | kernel_rfl) ?_
 refine awp_demotes [768] rfl ?_
 refine su Qa [(7, .one (.slc (.own false 768) 1 (putR (eL (less ids removed ++ added)) 0 4294967296 (List.flatten (eL (sortI (less ids removed ++ added)))))))] [7] [] [] (po 1 (.take false true (eL (sortI (less ids removed ++ added)))) (px (ob_take (sortI_a (less ids removed ++ added))) p0)) ?_
 refine eqn [(7, .q 768 (sortI (less ids removed ++ added)))] [7] [] [] (by rw [putR_all (fun _ => rfl) (sortI_len _)]; first | done | kernel_rfl) ?_
 refine sn Qa [6] [] (po 1 (.take false false (eL (compI (sortI (less ids removed ++ added))))) (px (ob_take (compI_a (sortI (less ids removed ++ added)))) p0)) ?_
 refine awp_promote 6 (k := 1024) (n := 1) (by kernel_rfl) (Vv (compI (sortI (less ids removed ++ added)))) ?_
 refine Qe ?_
 exact po0 [] (show Zt ids added removed = compI (sortI (less ids removed ++ added)) from rfl)
def Ww (d : DiffD) (_ : Nat) (a0 : Int) (s0 : (List Int)) : Rd ((List Int)) ((List Int)) ((List Int)) := (bif (!(Yv d.2.2 a0)) then (.next (V1 s0 a0)) else (.next s0))
def specApplyDiffToIDs_e0 (_ : Nat) (s0 : (List Int)) : (List Int) := s0
def Wx (_ : Nat) (a1 : Int) (s1 : (List Int)) : Rd ((List Int)) ((List Int)) ((List Int)) := (.next (V1 s1 a1))
def specApplyDiffToIDs_e1 (_ : Nat) (s1 : (List Int)) : (List Int) := s1
def Kn (ids : (List Int)) (d : DiffD) : (List Int) := (Out.on (Xp (Ww d) specApplyDiffToIDs_e0 ids 0 []) (fun y0 => (Out.on (Xp Wx specApplyDiffToIDs_e1 d.2.1 0 y0) (fun y1 => y1))))
theorem specApplyDiffToIDs_a (ids : (List Int)) (d : DiffD) (hp : List.length ids + List.length d.2.1 ≤ 536870912) : ACalls Tryz.prog 91 [.h ids, .a [.s d.1, .h d.2.1, .h d.2.2]] (.o 0 (Kn ids d)) := by
 refine en Qa Tryz.func91 fun w0 F0 hG => ?_
 refine sn Qa [0, 3, 4] [3] (p0) ?_
 refine tn Qa [0, 3, 4, 5] [3] (p0) ?_
 refine Qd ?_
 refine tu Qa [(3, .p 3 0), (4, .e 0), (5, .one (.slc (.own true 512) 1 [])), (6, .i 0)] [1] [(3, [.s d.1, .h d.2.1, .h d.2.2])] [] (p0) ?_
 refine wT 0 0 .sh ids (fun hw1 hl2 => ?_)
 refine blL3 (Ww d) specApplyDiffToIDs_e0 ids [] (fun k0 s0 => [(5, .h s0), (6, .i ((k0 : Nat) : Int))]) [5, 6] (fun y0 => [(5, .h y0)]) [0, 5, 6] (fun k0 s0 => List.length s0 ≤ k0) (fun y0 => List.length y0 ≤ List.length ids) (weak_gf [] [512] [] [] (by kernel_rfl)) (by simp) (fun k0 s0 hk0 hI0 => ?_) (fun k0 s0 hk0 hI0 => ?_) (fun y0 hD0 => ?_)
 ·
  have hA0_0 := hI0.2
  obtain ⟨a0, hx0⟩ := Xl (l := ids) (i := k0) hk0
  refine Qd ?_
  refine sn Qa [0, 3, 4, 5, 6, 12] [3] (pl 2 ids (pe 3 (Qs (decide_eq_true (p := ((k0 : Nat) : Int) < (ids.length : Int)) (by omega))) p0)) ?_
  refine ckT ?_
  refine Qf ?_
  refine Qd ?_
  refine Qr ?_
  refine tN Qa Yr [0, 3, 4, 5, 6, 22] [3] (pn 4 hx0 (pc 6 (Vk d.2.2 a0) p0)) ?_
  refine ck (!(Yv d.2.2 a0)) (fun h3 => ?_) (fun h3 => ?_)
  ·
   refine qu Qa [(5, .h (V1 s0 a0))] [5] [] [] (pn 3 hx0 (pc 5 (specl07PutId_a s0 a0 (by omega)) p0)) ?_
   refine rn Qa [0, 3, 4, 5, 6] [3] (pe 1 (Zq (Qu k0 (by omega))) p0) ?_
   exact Exists.intro (V1 s0 a0) (And.intro (Qc (by kernel_rfl)) ⟨Qv hx0 (Q4 h3 (rfl)) hI0.1, (by first | omega | (have hz := putI_len s0 a0; omega))⟩)
  ·
   refine Qf ?_
   refine qu Qa [(6, .i ((k0 + 1 : Nat) : Int))] [6] [] [] (pe 1 (Zq (Qu k0 (by omega))) p0) ?_
   exact Exists.intro s0 (And.intro (Qc (by kernel_rfl)) ⟨Qv hx0 (Qk h3 (rfl)) hI0.1, (by first | omega | (have hz := putI_len s0 a0; omega))⟩)
 ·
  have hA0_0 := hI0.2
  refine Qd ?_
  refine sn Qa [0, 3, 4, 5, 6, 12] [3] (pl 2 ids (pe 3 (Qs (decide_eq_false (p := ((k0 : Nat) : Int) < (ids.length : Int)) (by omega))) p0)) ?_
  refine ckF ?_
  refine Qz ?_
  exact Exists.intro s0 (And.intro (Qc (by kernel_rfl)) ⟨Xm hk0 (rfl) hI0.1, by first | omega | (simp only [List.length_set]; omega)⟩)
 ·
  have hD0_0 := hD0.2
  refine Qd ?_
  refine sn Qa [3, 4, 5, 7] [3] (p0) ?_
  refine mz [(7, .i 0)] [] [] [] ?_
  refine wB 3 1 .sh d.2.1 (fun hw4 hl5 => ?_)
  refine blL1b Wx specApplyDiffToIDs_e1 d.2.1 y0 (fun k1 s1 => [(5, .h s1), (7, .i ((k1 : Nat) : Int))]) [5, 7] (fun _ _ => []) [] (fun y1 => [(5, .h y1)]) [3, 5, 7] (fun _ => []) [3] (fun k1 s1 => List.length s1 ≤ List.length ids + k1) (Qc (by kernel_rfl)) (by first | omega | (simp; omega)) (fun k1 s1 hk1 hI1 => ?_) (fun k1 s1 hk1 hI1 => ?_) (fun y1 hD1 => ?_)
  ·
   have hA1_0 := hI1.2
   obtain ⟨a1, hx1⟩ := Xl (l := d.2.1) (i := k1) hk1
   refine Qd ?_
   refine sn Qa [3, 4, 5, 7, 33] [3] (pl 3 d.2.1 (pe 4 (Qs (decide_eq_true (p := ((k1 : Nat) : Int) < (d.2.1.length : Int)) (by omega))) p0)) ?_
   refine ckT ?_
   refine Qf ?_
   refine Qd ?_
   refine Qr ?_
   refine qn Qa [3, 4, 5, 7] [3] (pn 4 hx1 (pc 6 (specl07PutId_a s1 a1 (by omega)) p0)) ?_
   refine qu Qa [(5, .h (V1 s1 a1)), (7, .i ((k1 + 1 : Nat) : Int))] [5, 7] [] [] (pe 1 (Zq (Qu k1 (by omega))) p0) ?_
   exact Exists.intro (V1 s1 a1) (And.intro (Qc (by kernel_rfl)) ⟨Qv hx1 (rfl) hI1.1, (by first | omega | (have hz := putI_len s1 a1; omega))⟩)
  ·
   have hA1_0 := hI1.2
   refine Qd ?_
   refine sn Qa [3, 4, 5, 7, 33] [3] (pl 3 d.2.1 (pe 4 (Qs (decide_eq_false (p := ((k1 : Nat) : Int) < (d.2.1.length : Int)) (by omega))) p0)) ?_
   refine ckF ?_
   refine Qz ?_
   exact Exists.intro _ (And.intro (Qc (by kernel_rfl)) (Xm hk1 (rfl) hI1.1))
  ·
   refine wT 5 0 .sh y1 (fun hw6 hl7 => ?_)
   refine sn Qa [4] [] (po 2 (.flat) (px (ob_len (n := (([] : List (List PV)).length + ((eL y1) : List (List PV)).length)) (len_of (rfl) (X8 y1) (by first | omega | (simp only [List.length_cons, List.length_nil]; omega) | (simp; omega) | simp))) (px (Wi (Vv y1)) p0))) ?_
   refine Qe ?_
   exact po0 [] (V2 hD0.1 (V2 hD1 (rfl)))
end Go.Proofs.YtcnkkobgogmakaaGreat
namespace Go.Proofs.YtcnkkobgogmakaaGreat
open Go.RowKit
theorem cidS_eq (l : List Int) (x : Int) : Yv l x = l.contains x := by
  rw [← cid_eq, Bool.eq_iff_iff, cid_iff]
  simp
theorem apply_f0 (d : DiffD) : ∀ (l : List Int) (k : Nat) (s : List Int), Xp (Ww d) specApplyDiffToIDs_e0 l k s = .brk (putAll s (less l d.2.2))
  | [], k, s => rfl
  | a :: l, k, s => by
    simp only [Xp, Ww, cidS_eq]
    cases h : d.2.2.contains a with
    | true =>
      have e : less (a :: l) d.2.2 = less l d.2.2 := by
        show List.filter _ (a :: l) = _
        rw [List.filter_cons, h]; rfl
      rw [e]
      exact apply_f0 d l (k + 1) s
    | false =>
      have e : less (a :: l) d.2.2 = a :: less l d.2.2 := by
        show List.filter _ (a :: l) = _
        rw [List.filter_cons, h]; rfl
      rw [e, l07Put_eq]
      exact apply_f0 d l (k + 1) (putId s a)
theorem apply_f1 : ∀ (l : List Int) (k : Nat) (s : List Int), Xp Wx specApplyDiffToIDs_e1 l k s = .brk (putAll s l)
  | [], k, s => rfl
  | a :: l, k, s => by
    simp only [Xp, Wx, l07Put_eq]
    exact apply_f1 l (k + 1) (putId s a)
theorem apply_eq (ids : List Int) (d : DiffD) : Kn ids d = Zt ids d.2.1 d.2.2 := by
  unfold Kn Zt
  rw [apply_f0]
  simp only [Out.on]
  rw [apply_f1]
  exact (replay1_eq ids d.2.1 d.2.2).symm
theorem replayed_len (ids a r : List Int) : List.length (Zt ids a r) ≤ List.length ids + List.length a := by
  unfold Zt
  have h1 := compI_len (sortI (less ids r ++ a))
  rw [sortI_len, List.length_append] at h1
  have h2 := less_len ids r
  omega
theorem apply_len (ids : List Int) (d : DiffD) : List.length (Kn ids d) ≤ List.length ids + List.length d.2.1 := by rw [apply_eq]; exact replayed_len ids d.2.1 d.2.2
theorem size_app {α : Type} [GoD α] (l m : List α) : GoD.size (l ++ m) = GoD.size l + GoD.size m := by
  simp only [size_list, List.length_append, List.map_append, List.sum_append]
  omega
theorem size_one {α : Type} [GoD α] (a : α) : GoD.size [a] = 1 + GoD.size a := by simp [size_list]
theorem size_take1 {α : Type} [GoD α] {l : List α} {k : Nat} {x : α} (h : l[k]? = some x) : GoD.size (List.take (k + 1) l) = GoD.size (List.take k l) + (1 + GoD.size x) := by
  rw [List.take_add_one, h, size_app]
  show _ + GoD.size [x] = _
  rw [size_one]
theorem size_take_le {α : Type} [GoD α] (l : List α) (k : Nat) : GoD.size (List.take k l) ≤ GoD.size l := by
  conv => rhs; rw [← List.take_append_drop k l, size_app]
  exact Nat.le_add_right _ _
theorem event_size (e : Zr) : List.length e.2.1 ≤ GoD.size e := by
  have h : GoD.size e = 0 + (GoD.size e.2.1 + GoD.size e.2.2) := rfl
  rw [ints_size] at h
  omega
theorem replay_step {ids : List Int} {l : List Zr} {k : Nat} {x : Zr} {s : List Int} {n : Nat} (hx : l[k]? = some x) (hs : List.length s ≤ List.length ids + GoD.size (List.take k l)) (hn : n ≤ List.length s + List.length x.2.1) : n ≤ List.length ids + GoD.size (List.take (k + 1) l) := by
  rw [size_take1 hx]
  have := event_size x
  omega
theorem replay_room {ids : List Int} {l : List Zr} {k : Nat} {x : Zr} {s : List Int} (hx : l[k]? = some x) (hs : List.length s ≤ List.length ids + GoD.size (List.take k l)) (hp : List.length ids + GoD.size l ≤ 536870912) : List.length s + List.length x.2.1 ≤ 536870912 := by
  have h1 := replay_step (n := List.length s + List.length x.2.1) hx hs (Nat.le_refl _)
  have h2 := size_take_le l (k + 1)
  omega
theorem Wn (w : Zf) : GoD.size w = w.2.1.size + (List.length w.2.2.1 + GoD.size w.2.2.2) := by
  have h : GoD.size w = 0 + (w.2.1.size + (GoD.size w.2.2.1 + GoD.size w.2.2.2)) := rfl
  rw [ints_size] at h
  omega
open GoE (enc wide)
def Ka (_ : Nat) (a0 : Zr) (s0 : (List Int)) : Rd ((List Int)) ((List Int)) ((List Int)) := (.next (Zt s0 a0.2.1 a0.2.2))
def Wd (_ : Nat) (s0 : (List Int)) : (List Int) := s0
def Z0 (ids : (List Int)) (events : (List Zr)) : (List Int) := (Out.on (Xp Ka Wd events 0 ids) (fun y0 => y0))
theorem implReplayEvents_a (ids : (List Int)) (events : (List Zr)) (hp : List.length ids + GoD.size events ≤ 536870912) : ACalls Tryz.prog 25 [.h ids, .h events] (.o 0 (Z0 ids events)) := by
 refine en Qa Tryz.func25 fun w0 F0 hG => ?_
 refine sn Qa [0, 1, 4] [] (p0) ?_
 refine tn Qa [1, 4, 5] [] (pc 1 (cloneInt_a ids) p0) ?_
 refine Qd ?_
 refine tu Qa [(4, .e 0), (5, .o 576 ids), (10, .h events), (11, .i (events.length : Int)), (12, .i 0)] [0, 1] [] [] (pl 1 events p0) ?_
 refine wT 10 0 .sh events (fun hw1 hl2 => ?_)
 refine blL1 Ka Wd events ids (fun k0 s0 => [(5, .o 147201 s0), (12, .i ((k0 : Nat) : Int))]) [5, 12] (fun y0 => [(5, .o 147351 y0)]) [5, 10, 11, 12] (fun k0 s0 => List.length s0 ≤ List.length ids + GoD.size (List.take k0 events)) (Xx [(576, 147201)] (by kernel_rfl)) (by simp) (fun k0 s0 hk0 hI0 => ?_) (fun k0 s0 hk0 hI0 => ?_) (fun y0 hD0 => ?_)
 ·
  have hA0_0 := hI0.2
  obtain ⟨a0, hx0⟩ := Xl (l := events) (i := k0) hk0
  refine su Qa [(13, .b true)] [] [] [] (pe 0 (Qs (decide_eq_true (p := ((k0 : Nat) : Int) < (events.length : Int)) (by omega))) p0) ?_
  refine Qd ?_
  refine ckT ?_
  refine Qf ?_
  refine Qd ?_
  refine Qr ?_
  refine sn Qa [4, 5, 7, 10, 11, 12] [7] (pn 0 hx0 p0) ?_
  refine qn Qa [4, 5, 10, 11, 12] [] (pc 5 (implreplayed_a s0 a0.2.1 a0.2.2 (replay_room hx0 hA0_0 hp)) p0) ?_
  refine qu Qa [(5, .o 1344 (Zt s0 a0.2.1 a0.2.2)), (12, .i ((k0 + 1 : Nat) : Int))] [5, 12, 13] [] [] (pe 0 (Zq (Qu k0 (by omega))) p0) ?_
  exact Exists.intro (Zt s0 a0.2.1 a0.2.2) (And.intro (Xx [(1344, 147201)] (by kernel_rfl)) ⟨Qv hx0 (rfl) hI0.1, (by first | exact replay_step hx0 hA0_0 (replayed_len _ _ _) | exact replay_step hx0 hA0_0 (apply_len _ _))⟩)
 ·
  have hA0_0 := hI0.2
  refine su Qa [(13, .b false)] [] [] [] (pe 0 (Qs (decide_eq_false (p := ((k0 : Nat) : Int) < (events.length : Int)) (by omega))) p0) ?_
  refine Qd ?_
  refine ckF ?_
  refine Qz ?_
  exact Exists.intro _ (And.intro (Xx [(147201, 147351)] (by kernel_rfl)) (Xm hk0 (rfl) hI0.1))
 ·
  refine sn Qa [4] [] (p0) ?_
  refine Qe ?_
  exact po0 [] (V2 hD0 (rfl))
def Qj (w : Zf) : (List Int) := (Z0 w.2.2.1 w.2.2.2)
theorem implWatchListing_a (w : Zf) (hp : GoD.size w ≤ 536870912) : ACalls Tryz.prog 27 [.a [.i w.1, .s w.2.1, .h w.2.2.1, .h w.2.2.2]] (.o 0 (Qj w)) := by
 refine en Qa Tryz.func27 fun w0 F0 hG => ?_
 refine sn Qa [1, 2] [1] (p0) ?_
 refine tn Qa [2] [] (pc 4 (implReplayEvents_a w.2.2.1 w.2.2.2 (by have hz := Wn w; omega)) p0) ?_
 refine Qe ?_
 exact po0 [] (show Qj w = (Z0 w.2.2.1 w.2.2.2) from rfl)
def Ui (_ : Nat) (a0 : Zr) (s0 : (List Int)) : Rd ((List Int)) ((List Int)) ((List Int)) := (.next (Kn s0 (⟨#[]⟩, a0.2.1, a0.2.2)))
def specReplayEvents_e0 (_ : Nat) (s0 : (List Int)) : (List Int) := s0
def Kr (ids : (List Int)) (list : (List Zr)) : (List Int) := (Out.on (Xp Ui specReplayEvents_e0 list 0 ids) (fun y0 => y0))
theorem specReplayEvents_a (ids : (List Int)) (list : (List Zr)) (hp : List.length ids + GoD.size list ≤ 536870912) : ACalls Tryz.prog 65 [.h ids, .h list] (.o 0 (Kr ids list)) := by
 refine en Qa Tryz.func65 fun w0 F0 hG => ?_
 refine sn Qa [0, 1, 4] [] (p0) ?_
 refine wT 0 0 .sh ids (fun hw1 hl2 => ?_)
 refine tn Qa [1, 4, 5] [] (po 2 (.flat) (px (ob_len (n := (([] : List (List PV)).length + ((eL ids) : List (List PV)).length)) (len_of (rfl) (X8 ids) (by first | omega | (simp only [List.length_cons, List.length_nil]; omega) | (simp; omega) | simp))) (px (Wi (Vv ids)) p0))) ?_
 refine Qd ?_
 refine tu Qa [(4, .e 0), (5, .o 576 ids), (6, .i 0)] [0] [] [] (p0) ?_
 refine wT 1 0 .sh list (fun hw3 hl4 => ?_)
 refine blL1 Ui specReplayEvents_e0 list ids (fun k0 s0 => [(5, .o 147202 s0), (6, .i ((k0 : Nat) : Int))]) [5, 6] (fun y0 => [(5, .o 147352 y0)]) [1, 5, 6] (fun k0 s0 => List.length s0 ≤ List.length ids + GoD.size (List.take k0 list)) (Xx [(576, 147202)] (by kernel_rfl)) (by simp) (fun k0 s0 hk0 hI0 => ?_) (fun k0 s0 hk0 hI0 => ?_) (fun y0 hD0 => ?_)
 ·
  have hA0_0 := hI0.2
  obtain ⟨a0, hx0⟩ := Xl (l := list) (i := k0) hk0
  refine Qd ?_
  refine sn Qa [1, 4, 5, 6, 13] [] (pl 2 list (pe 3 (Qs (decide_eq_true (p := ((k0 : Nat) : Int) < (list.length : Int)) (by omega))) p0)) ?_
  refine ckT ?_
  refine Qf ?_
  refine Qd ?_
  refine Qr ?_
  refine qN Qa Yr [1, 4, 5, 6] [] (pn 3 hx0 (pn 8 hx0 (pc 12 (specApplyDiffToIDs_a s0 (⟨#[]⟩, a0.2.1, a0.2.2) (replay_room hx0 hA0_0 hp)) p0))) ?_
  refine qu Qa [(5, .o 1792 (Kn s0 (⟨#[]⟩, a0.2.1, a0.2.2))), (6, .i ((k0 + 1 : Nat) : Int))] [5, 6] [] [] (pe 1 (Zq (Qu k0 (by omega))) p0) ?_
  exact Exists.intro (Kn s0 (⟨#[]⟩, a0.2.1, a0.2.2)) (And.intro (Xx [(1792, 147202)] (by kernel_rfl)) ⟨Qv hx0 (rfl) hI0.1, (by first | exact replay_step hx0 hA0_0 (replayed_len _ _ _) | exact replay_step hx0 hA0_0 (apply_len _ _))⟩)
 ·
  have hA0_0 := hI0.2
  refine Qd ?_
  refine sn Qa [1, 4, 5, 6, 13] [] (pl 2 list (pe 3 (Qs (decide_eq_false (p := ((k0 : Nat) : Int) < (list.length : Int)) (by omega))) p0)) ?_
  refine ckF ?_
  refine Qz ?_
  exact Exists.intro _ (And.intro (Xx [(147202, 147352)] (by kernel_rfl)) (Xm hk0 (rfl) hI0.1))
 ·
  refine sn Qa [4] [] (p0) ?_
  refine Qe ?_
  exact po0 [] (V2 hD0 (rfl))
def Xa (w : Zf) : (List Int) := (Kr w.2.2.1 w.2.2.2)
theorem specWatchListing_a (w : Zf) (hp : GoD.size w ≤ 536870912) : ACalls Tryz.prog 80 [.a [.i w.1, .s w.2.1, .h w.2.2.1, .h w.2.2.2]] (.o 0 (Xa w)) := by
 refine en Qa Tryz.func80 fun w0 F0 hG => ?_
 refine sn Qa [1, 2] [1] (p0) ?_
 refine tn Qa [2] [] (pc 4 (specReplayEvents_a w.2.2.1 w.2.2.2 (by have hz := Wn w; omega)) p0) ?_
 refine Qe ?_
 exact po0 [] (show Xa w = (Kr w.2.2.1 w.2.2.2) from rfl)
def Y4 (e_ : Zr) : Zr := e_
theorem implcopyEvent_a (e_ : Zr) : ACalls Tryz.prog 73 [.a [.i e_.1, .h e_.2.1, .h e_.2.2]] (.a [.i ((Y4 e_).1), .o 0 ((Y4 e_).2.1), .o 1 ((Y4 e_).2.2)]) := by
 refine en Qa Tryz.func73 fun w0 F0 hG => ?_
 refine sn Qa [1, 2] [1, 2] (p0) ?_
 refine tN Qa Yr [2] [2] (pc 4 (cloneInt_a e_.2.1) (pc 7 (cloneInt_a e_.2.2) p0)) ?_
 refine Qe ?_
 exact pz [] (show Y4 e_ = e_ from rfl) (fun z => .a [.i z.1, .o 0 z.2.1, .o 1 z.2.2])
def implcopyWatch_f0 (_ : Nat) (a0 : Zr) (s0 : (List Zr)) : Rd (Zf) ((List Zr)) ((List Zr)) := (.next (s0 ++ [(Y4 a0)]))
def implcopyWatch_e0 (_ : Nat) (s0 : (List Zr)) : (List Zr) := s0
def Xu (w : Zf) : Zf := (Out.on (Xp implcopyWatch_f0 implcopyWatch_e0 w.2.2.2 0 []) (fun y0 => (w.1, w.2.1, w.2.2.1, y0)))
theorem implcopyWatch_a (w : Zf) : ACalls Tryz.prog 75 [.a [.i w.1, .s w.2.1, .h w.2.2.1, .h w.2.2.2]] (.a [.i ((Xu w).1), .s ((Xu w).2.1), .o 0 ((Xu w).2.2.1), .o 1 ((Xu w).2.2.2)]) := by
 refine en Qa Tryz.func75 fun w0 F0 hG => ?_
 refine sn Qa [1, 2] [1, 2] (p0) ?_
 refine tn Qa [1, 2, 3] [1, 2] (p0) ?_
 refine Qd ?_
 refine tu Qa [(1, .p 1 0), (2, .p 2 0), (3, .one (.slc (.own true 384) 3 [])), (8, .h w.2.2.2), (9, .i (w.2.2.2.length : Int)), (10, .i 0)] [0] [(1, [.i w.1, .s w.2.1, .h w.2.2.1, .h w.2.2.2]), (2, [.i 0, .s ⟨#[]⟩, .e 1, .e 3])] [] (pl 2 w.2.2.2 p0) ?_
 refine wT 8 0 .sh w.2.2.2 (fun hw1 hl2 => ?_)
 refine blL1 implcopyWatch_f0 implcopyWatch_e0 w.2.2.2 [] (fun k0 s0 => [(3, .o 147202 s0), (10, .i ((k0 : Nat) : Int))]) [3, 10] (fun y0 => [(3, .o 147352 y0)]) [3, 8, 9, 10] (fun k0 s0 => List.length s0 ≤ k0) (Xx [(384, 147202)] (by kernel_rfl)) (by simp) (fun k0 s0 hk0 hI0 => ?_) (fun k0 s0 hk0 hI0 => ?_) (fun y0 hD0 => ?_)
 ·
  have hA0_0 := hI0.2
  obtain ⟨a0, hx0⟩ := Xl (l := w.2.2.2) (i := k0) hk0
  refine su Qa [(11, .b true)] [] [] [] (pe 0 (Qs (decide_eq_true (p := ((k0 : Nat) : Int) < (w.2.2.2.length : Int)) (by omega))) p0) ?_
  refine Qd ?_
  refine ckT ?_
  refine Qf ?_
  refine Qd ?_
  refine Qr ?_
  refine sn Qa [1, 2, 3, 5, 8, 9, 10] [1, 2, 5] (pn 0 hx0 p0) ?_
  refine wT 3 0 (.own true 147202) s0 (fun hw3 hl4 => ?_)
  refine qu Qa [(3, .one (.slc (.own true 1152) 3 ((eL s0) ++ [[.i ((Y4 a0).1), .h ((Y4 a0).2.1), .h ((Y4 a0).2.2)]])))] [3, 11] [] [] (pc 2 (implcopyEvent_a a0) (pa s0 [(Y4 a0)] p0)) ?_
  refine eqn [(3, .o 1152 (s0 ++ [(Y4 a0)]))] [3] [] [] (by rw [show ((eL s0) ++ [[.i ((Y4 a0).1), .h ((Y4 a0).2.1), .h ((Y4 a0).2.2)]]) = (eL (s0 ++ [(Y4 a0)])) from Kc (rfl) (rfl)]; first | done | kernel_rfl) ?_
  refine rn Qa [1, 2, 3, 8, 9, 10] [1, 2] (pe 0 (Zq (Qu k0 (by omega))) p0) ?_
  exact Exists.intro (s0 ++ [(Y4 a0)]) (And.intro (Xx [(1152, 147202)] (by kernel_rfl)) ⟨Qv hx0 (rfl) hI0.1, by first | omega | (simp; omega) | simp⟩)
 ·
  have hA0_0 := hI0.2
  refine su Qa [(11, .b false)] [] [] [] (pe 0 (Qs (decide_eq_false (p := ((k0 : Nat) : Int) < (w.2.2.2.length : Int)) (by omega))) p0) ?_
  refine Qd ?_
  refine ckF ?_
  refine Qz ?_
  exact Exists.intro _ (And.intro (Xx [(147202, 147352)] (by kernel_rfl)) (Xm hk0 (rfl) hI0.1))
 ·
  refine sn Qa [1, 2, 3] [1, 2] (pc 2 (cloneInt_a w.2.2.1) p0) ?_
  refine tn Qa [1, 2] [1, 2] (p0) ?_
  refine tu Qa [] [1, 3] [(2, [.i w.1, .s w.2.1, .o 1408 w.2.2.1, .o 147352 y0])] [1, 2] (p0) ?_
  refine Qe ?_
  exact pz [] (show Xu w = _ from V2 hD0 (rfl)) (fun z => .a [.i z.1, .s z.2.1, .o 0 z.2.2.1, .o 1 z.2.2.2])
def specl29Events_f0 (_ : Nat) (a0 : Zr) (s0 : (List Zr)) : Rd ((List Zr)) ((List Zr)) ((List Zr)) := (.next (s0 ++ [a0]))
def specl29Events_e0 (_ : Nat) (s0 : (List Zr)) : (List Zr) := s0
def specl29Events (list : (List Zr)) : (List Zr) := (Out.on (Xp specl29Events_f0 specl29Events_e0 list 0 []) (fun y0 => y0))
theorem specl29Events_a (list : (List Zr)) : ACalls Tryz.prog 118 [.h list] (.o 0 (specl29Events list)) := by
 refine en Qa Tryz.func118 fun w0 F0 hG => ?_
 refine sn Qa [0, 2] [] (p0) ?_
 refine tn Qa [0, 2, 3] [] (p0) ?_
 refine Qd ?_
 refine tu Qa [(2, .e 0), (3, .one (.slc (.own true 320) 3 [])), (4, .i 0)] [] [] [] (p0) ?_
 refine wT 0 0 .sh list (fun hw1 hl2 => ?_)
 refine blL1 specl29Events_f0 specl29Events_e0 list [] (fun k0 s0 => [(3, .o 147202 s0), (4, .i ((k0 : Nat) : Int))]) [3, 4] (fun y0 => [(3, .o 147352 y0)]) [0, 3, 4] (fun k0 s0 => List.length s0 ≤ k0) (Xx [(320, 147202)] (by kernel_rfl)) (by simp) (fun k0 s0 hk0 hI0 => ?_) (fun k0 s0 hk0 hI0 => ?_) (fun y0 hD0 => ?_)
 ·
  have hA0_0 := hI0.2
  obtain ⟨a0, hx0⟩ := Xl (l := list) (i := k0) hk0
  refine Qd ?_
  refine sn Qa [0, 2, 3, 4, 9] [] (pl 2 list (pe 3 (Qs (decide_eq_true (p := ((k0 : Nat) : Int) < (list.length : Int)) (by omega))) p0)) ?_
  refine ckT ?_
  refine Qf ?_
  refine Qd ?_
  refine Qr ?_
  have hl3 : List.length a0.2.1 ≤ 1073741824 := wide_len (wide_fst (wide_snd (wide_get hx0 (hw1))))
  have hl4 : List.length a0.2.2 ≤ 1073741824 := wide_len (wide_snd (wide_snd (wide_get hx0 (hw1))))
  refine wT 3 0 (.own true 147202) s0 (fun hw5 hl6 => ?_)
  refine qU Qa Yr [(3, .one (.slc (.own true 2176) 3 ((eL s0) ++ [[.i a0.1, .slc 1 ([] ++ (eL a0.2.1)), .slc 1 ([] ++ (eL a0.2.2))]])))] [3] [] [] (pn 3 hx0 (pn 9 hx0 (po 12 (.flat) (px (ob_len (n := (([] : List (List PV)).length + ((eL a0.2.1) : List (List PV)).length)) (len_of (rfl) (X8 a0.2.1) (by first | omega | (simp only [List.length_cons, List.length_nil]; omega) | (simp; omega) | simp))) (px (Wi (Vv a0.2.1)) (pn 16 hx0 (po 19 (.flat) (px (ob_len (n := (([] : List (List PV)).length + ((eL a0.2.2) : List (List PV)).length)) (len_of (rfl) (X8 a0.2.2) (by first | omega | (simp only [List.length_cons, List.length_nil]; omega) | (simp; omega) | simp))) (px (Wi (Vv a0.2.2)) (px (ob_len (n := (((eL s0) : List (List PV)).length + ([[.i a0.1, .slc 1 ([] ++ (eL a0.2.1)), .slc 1 ([] ++ (eL a0.2.2))]] : List (List PV)).length)) (len_of (X8 s0) (rfl) (by first | omega | (simp only [List.length_cons, List.length_nil]; omega) | (simp; omega) | simp))) p0)))))))))) ?_
  refine eqn [(3, .o 2176 (s0 ++ [a0]))] [3] [] [] (by rw [show ((eL s0) ++ [[.i a0.1, .slc 1 ([] ++ (eL a0.2.1)), .slc 1 ([] ++ (eL a0.2.2))]]) = (eL (s0 ++ [a0])) from Kc (rfl) (rfl)]; first | done | kernel_rfl) ?_
  refine rn Qa [0, 2, 3, 4] [] (pe 1 (Zq (Qu k0 (by omega))) p0) ?_
  exact Exists.intro (s0 ++ [a0]) (And.intro (Xx [(2176, 147202)] (by kernel_rfl)) ⟨Qv hx0 (rfl) hI0.1, by first | omega | (simp; omega) | simp⟩)
 ·
  have hA0_0 := hI0.2
  refine Qd ?_
  refine sn Qa [0, 2, 3, 4, 9] [] (pl 2 list (pe 3 (Qs (decide_eq_false (p := ((k0 : Nat) : Int) < (list.length : Int)) (by omega))) p0)) ?_
  refine ckF ?_
  refine Qz ?_
  exact Exists.intro _ (And.intro (Xx [(147202, 147352)] (by kernel_rfl)) (Xm hk0 (rfl) hI0.1))
 ·
  refine sn Qa [2] [] (p0) ?_
  refine Qe ?_
  exact po0 [] (V2 hD0 (rfl))
def Qi (w : Zf) : Zf := (w.1, w.2.1, w.2.2.1, (specl29Events w.2.2.2))
theorem specl29Copy_a (w : Zf) : ACalls Tryz.prog 78 [.a [.i w.1, .s w.2.1, .h w.2.2.1, .h w.2.2.2]] (.a [.i ((Qi w).1), .s ((Qi w).2.1), .o 0 ((Qi w).2.2.1), .o 1 ((Qi w).2.2.2)]) := by
 refine en Qa Tryz.func78 fun w0 F0 hG => ?_
 refine sn Qa [1, 2] [1, 2] (p0) ?_
 refine wB 1 2 .sh w.2.2.1 (fun hw1 hl2 => ?_)
 refine tN Qa Yr [2] [2] (po 7 (.flat) (px (ob_len (n := (([] : List (List PV)).length + ((eL w.2.2.1) : List (List PV)).length)) (len_of (rfl) (X8 w.2.2.1) (by first | omega | (simp only [List.length_cons, List.length_nil]; omega) | (simp; omega) | simp))) (px (Wi (Vv w.2.2.1)) (pc 10 (specl29Events_a w.2.2.2) p0)))) ?_
 refine Qe ?_
 exact pz [] (show Qi w = (w.1, w.2.1, w.2.2.1, (specl29Events w.2.2.2)) from rfl) (fun z => .a [.i z.1, .s z.2.1, .o 0 z.2.2.1, .o 1 z.2.2.2])
def Yf (a_ : (List Int)) (b : (List Int)) : (List Int) × (List Int) := ((less b a_), (less a_ b))
theorem implDiffIDs_a (a_ : (List Int)) (b : (List Int)) : ACalls Tryz.prog 76 [.h a_, .h b] (.tup [(false, [.o 0 (((Yf a_ b)).1)]), (false, [.o 1 (((Yf a_ b)).2)])]) := by
 refine en Qa Tryz.func76 fun w0 F0 hG => ?_
 refine sn Qa [0, 1, 4, 5] [] (p0) ?_
 refine wT 1 0 .sh b (fun hw1 hl2 => ?_)
 refine wT 0 0 .sh a_ (fun hw3 hl4 => ?_)
 refine tn Qa [4, 5] [] (pc 2 ((without_less hl2) ▸ implwithout_a b a_) (pc 5 ((without_less hl4) ▸ implwithout_a a_ b) p0)) ?_
 refine Qe ?_
 exact pz [] (show Yf a_ b = ((less b a_), (less a_ b)) from rfl) (fun z => .tup [(false, [.o 0 z.1]), (false, [.o 1 z.2])])
def specDiffIDs_f0 (a_ : (List Int)) (_ : Nat) (a0 : Int) (s0 : (List Int)) : Rd ((List Int) × (List Int)) ((List Int)) ((List Int)) := (bif (!(Yv a_ a0)) then (.next (s0 ++ [a0])) else (.next s0))
def specDiffIDs_e0 (_ : Nat) (s0 : (List Int)) : (List Int) := s0
def specDiffIDs_f1 (b : (List Int)) (_ : Nat) (a1 : Int) (s1 : (List Int)) : Rd ((List Int) × (List Int)) ((List Int)) ((List Int)) := (bif (!(Yv b a1)) then (.next (s1 ++ [a1])) else (.next s1))
def specDiffIDs_e1 (_ : Nat) (s1 : (List Int)) : (List Int) := s1
def Yg (a_ : (List Int)) (b : (List Int)) : (List Int) × (List Int) := (Out.on (Xp (specDiffIDs_f0 a_) specDiffIDs_e0 b 0 []) (fun y0 => (Out.on (Xp (specDiffIDs_f1 b) specDiffIDs_e1 a_ 0 []) (fun y1 => (y0, y1)))))
theorem specDiffIDs_a (a_ : (List Int)) (b : (List Int)) : ACalls Tryz.prog 79 [.h a_, .h b] (.tup [(false, [.o 0 (((Yg a_ b)).1)]), (false, [.o 1 (((Yg a_ b)).2)])]) := by
 refine en Qa Tryz.func79 fun w0 F0 hG => ?_
 refine sn Qa [0, 1, 4, 5] [] (p0) ?_
 refine tn Qa [0, 1, 4, 5, 6] [] (p0) ?_
 refine tu Qa [(4, .e 0), (5, .e 0), (6, .one (.slc (.own true 640) 1 [])), (7, .one (.slc (.own true 704) 1 []))] [] [] [] (p0) ?_
 refine Qd ?_
 refine su Qa [(8, .i 0)] [] [] [] (p0) ?_
 refine wT 1 0 .sh b (fun hw1 hl2 => ?_)
 refine blL1 (specDiffIDs_f0 a_) specDiffIDs_e0 b [] (fun k0 s0 => [(6, .o 147204 s0), (8, .i ((k0 : Nat) : Int))]) [6, 8] (fun y0 => [(6, .o 147354 y0)]) [6, 8] (fun k0 s0 => List.length s0 ≤ k0) (Xx [(640, 147204)] (by kernel_rfl)) (by simp) (fun k0 s0 hk0 hI0 => ?_) (fun k0 s0 hk0 hI0 => ?_) (fun y0 hD0 => ?_)
 ·
  have hA0_0 := hI0.2
  obtain ⟨a0, hx0⟩ := Xl (l := b) (i := k0) hk0
  refine Qd ?_
  refine su Qa [(15, .b true)] [] [] [] (pl 2 b (pe 3 (Qs (decide_eq_true (p := ((k0 : Nat) : Int) < (b.length : Int)) (by omega))) p0)) ?_
  refine ckT ?_
  refine Qf ?_
  refine Qd ?_
  refine Qr ?_
  refine sn Qa [0, 1, 4, 5, 6, 7, 8, 24] [] (pn 3 hx0 (pc 5 (Vk a_ a0) p0)) ?_
  refine ck (!(Yv a_ a0)) (fun h3 => ?_) (fun h3 => ?_)
  ·
   refine wT 6 0 (.own true 147204) s0 (fun hw4 hl5 => ?_)
   refine qu Qa [(6, .one (.slc (.own true 1984) 1 ((eL s0) ++ [[.i a0]])))] [6, 15] [] [] (pn 3 hx0 (pa s0 [a0] p0)) ?_
   refine eqn [(6, .o 1984 (s0 ++ [a0]))] [6] [] [] (by rw [show ((eL s0) ++ [[.i a0]]) = (eL (s0 ++ [a0])) from Kc (rfl) (rfl)]; first | done | kernel_rfl) ?_
   refine rn Qa [0, 1, 4, 5, 6, 7, 8] [] (pe 1 (Zq (Qu k0 (by omega))) p0) ?_
   exact Exists.intro (s0 ++ [a0]) (And.intro (Xx [(1984, 147204)] (by kernel_rfl)) ⟨Qv hx0 (Q4 h3 (rfl)) hI0.1, by first | omega | (simp; omega) | simp⟩)
  ·
   refine Qf ?_
   refine qn Qa [0, 1, 4, 5, 6, 7, 8] [] (pe 1 (Zq (Qu k0 (by omega))) p0) ?_
   exact Exists.intro s0 (And.intro (Qc (by kernel_rfl)) ⟨Qv hx0 (Qk h3 (rfl)) hI0.1, by first | omega | (simp; omega) | simp⟩)
 ·
  have hA0_0 := hI0.2
  refine Qd ?_
  refine su Qa [(15, .b false)] [] [] [] (pl 2 b (pe 3 (Qs (decide_eq_false (p := ((k0 : Nat) : Int) < (b.length : Int)) (by omega))) p0)) ?_
  refine ckF ?_
  refine Qz ?_
  exact Exists.intro _ (And.intro (Xx [(147204, 147354)] (by kernel_rfl)) (Xm hk0 (rfl) hI0.1))
 ·
  refine Qd ?_
  refine su Qa [(9, .i 0)] [] [] [] (p0) ?_
  refine wT 0 0 .sh a_ (fun hw6 hl7 => ?_)
  refine blL1 (specDiffIDs_f1 b) specDiffIDs_e1 a_ [] (fun k1 s1 => [(7, .o 147205 s1), (9, .i ((k1 : Nat) : Int))]) [7, 9] (fun y1 => [(7, .o 147355 y1)]) [0, 1, 7, 9] (fun k1 s1 => List.length s1 ≤ k1) (Xx [(704, 147205)] (by kernel_rfl)) (by simp) (fun k1 s1 hk1 hI1 => ?_) (fun k1 s1 hk1 hI1 => ?_) (fun y1 hD1 => ?_)
  ·
   have hA1_0 := hI1.2
   obtain ⟨a1, hx1⟩ := Xl (l := a_) (i := k1) hk1
   refine Qd ?_
   refine su Qa [(35, .b true)] [] [] [] (pl 2 a_ (pe 3 (Qs (decide_eq_true (p := ((k1 : Nat) : Int) < (a_.length : Int)) (by omega))) p0)) ?_
   refine ckT ?_
   refine Qf ?_
   refine Qd ?_
   refine Qr ?_
   refine sn Qa [0, 1, 4, 5, 6, 7, 9, 44] [] (pn 3 hx1 (pc 5 (Vk b a1) p0)) ?_
   refine ck (!(Yv b a1)) (fun h8 => ?_) (fun h8 => ?_)
   ·
    refine wT 7 0 (.own true 147205) s1 (fun hw9 hl10 => ?_)
    refine qu Qa [(7, .one (.slc (.own true 3264) 1 ((eL s1) ++ [[.i a1]])))] [7, 35] [] [] (pn 3 hx1 (pa s1 [a1] p0)) ?_
    refine eqn [(7, .o 3264 (s1 ++ [a1]))] [7] [] [] (by rw [show ((eL s1) ++ [[.i a1]]) = (eL (s1 ++ [a1])) from Kc (rfl) (rfl)]; first | done | kernel_rfl) ?_
    refine rn Qa [0, 1, 4, 5, 6, 7, 9] [] (pe 1 (Zq (Qu k1 (by omega))) p0) ?_
    exact Exists.intro (s1 ++ [a1]) (And.intro (Xx [(3264, 147205)] (by kernel_rfl)) ⟨Qv hx1 (Q4 h8 (rfl)) hI1.1, by first | omega | (simp; omega) | simp⟩)
   ·
    refine Qf ?_
    refine qn Qa [0, 1, 4, 5, 6, 7, 9] [] (pe 1 (Zq (Qu k1 (by omega))) p0) ?_
    exact Exists.intro s1 (And.intro (Qc (by kernel_rfl)) ⟨Qv hx1 (Qk h8 (rfl)) hI1.1, by first | omega | (simp; omega) | simp⟩)
  ·
   have hA1_0 := hI1.2
   refine Qd ?_
   refine su Qa [(35, .b false)] [] [] [] (pl 2 a_ (pe 3 (Qs (decide_eq_false (p := ((k1 : Nat) : Int) < (a_.length : Int)) (by omega))) p0)) ?_
   refine ckF ?_
   refine Qz ?_
   exact Exists.intro _ (And.intro (Xx [(147205, 147355)] (by kernel_rfl)) (Xm hk1 (rfl) hI1.1))
  ·
   refine sn Qa [4, 5] [] (p0) ?_
   refine Qe ?_
   exact pz [] (show Yg a_ b = _ from V2 hD0 (V2 hD1 (rfl))) (fun z => .tup [(false, [.o 0 z.1]), (false, [.o 1 z.2])])
end Go.Proofs.YtcnkkobgogmakaaGreat
namespace Go.Proofs.YtcnkkobgogmakaaGreat
open Go.RowKit
theorem replay_eq (ids : List Int) (l : List Zr) : Kr ids l = Z0 ids l := by
  unfold Kr Z0
  rw [forL_congr (f := Ui) (g := Ka) (e := specReplayEvents_e0) (e' := Wd) (fun _ _ => rfl) l 0 _ (fun i a t _ => by
    unfold Ui Ka
    rw [apply_eq])]
theorem listing_eq (w : Zf) : Xa w = Qj w := replay_eq w.2.2.1 w.2.2.2
theorem copyWatch_id (w : Zf) : Xu w = w := by
  unfold Xu
  rw [forL_map (f := implcopyWatch_f0) (g := Y4) (fun _ _ _ => rfl)]
  show (w.1, w.2.1, w.2.2.1, [] ++ w.2.2.2.map Y4) = w
  rw [show Y4 = id from rfl, List.map_id]
  rfl
theorem l29Copy_id (w : Zf) : Qi w = w := by
  unfold Qi specl29Events
  rw [forL_map (f := specl29Events_f0) (g := id) (fun _ _ _ => rfl)]
  show (w.1, w.2.1, w.2.2.1, [] ++ w.2.2.2.map id) = w
  rw [List.map_id]
  rfl
theorem copyWatch_len (w : Zf) : List.length ((Xu w)).2.2.2 = List.length w.2.2.2 := by rw [copyWatch_id]
theorem l29Copy_len (w : Zf) : List.length ((Qi w)).2.2.2 = List.length w.2.2.2 := by rw [l29Copy_id]
theorem sz_events (w : Zf) : List.length w.2.2.2 ≤ GoD.size w := by
  have h := Wn w
  have h2 : List.length w.2.2.2 ≤ GoD.size w.2.2.2 := by rw [size_list]; omega
  omega
open GoE (enc wide)
def Qx (w : Zf) (version : Int) (s_ : Q2) (d : (List Yq)) : Zf := (bif decide (IntKind.i64.wrap (((((Yf (Qj w) (Qy s_ d w.1 w.2.1))).1).length : Int) + ((((Yf (Qj w) (Qy s_ d w.1 w.2.1))).2).length : Int)) > (0 : Int)) then ((Xu w).1, (Xu w).2.1, (Xu w).2.2.1, (Xu w).2.2.2 ++ [(version, ((Yf (Qj w) (Qy s_ d w.1 w.2.1))).1, ((Yf (Qj w) (Qy s_ d w.1 w.2.1))).2)]) else (Xu w))
theorem implNotify_a (w : Zf) (version : Int) (s_ : Q2) (d : (List Yq)) (hp : GoD.size w ≤ 536870912) : ACalls Tryz.prog 29 [.a [.i w.1, .s w.2.1, .h w.2.2.1, .h w.2.2.2], .i version, .a [.h s_.1, .h s_.2.1, .i s_.2.2], .h d] (.a [.i ((Qx w version s_ d).1), .s ((Qx w version s_ d).2.1), .o 0 ((Qx w version s_ d).2.2.1), .o 1 ((Qx w version s_ d).2.2.2)]) := by
 refine en Qa Tryz.func29 fun w0 F0 hG => ?_
 have hcl := copyWatch_len w
 have hse := sz_events w
 refine sn Qa [1, 3, 4, 6, 8] [4, 6, 8] (p0) ?_
 refine tn Qa [1, 3, 4, 6, 8, 9] [4, 6, 8, 9] (pc 1 (implcopyWatch_a w) p0) ?_
 refine tU Qa Yr [(8, .p 8 0), (9, .p 9 0), (10, .o 1536 (((Yf (Qj w) (Qy s_ d w.1 w.2.1))).1)), (11, .o 1537 (((Yf (Qj w) (Qy s_ d w.1 w.2.1))).2))] [0, 2, 3] [(8, [.i 0, .s ⟨#[]⟩, .e 1, .e 3]), (9, [.i ((Xu w).1), .s ((Xu w).2.1), .o 832 ((Xu w).2.2.1), .o 833 ((Xu w).2.2.2)])] [] (pc 1 (implWatchListing_a w (by first | omega | (rw [l29Copy_id]; omega) | exact Nat.le_trans (findWatch_size x i) hp | exact Nat.le_trans (findWatch_sizeS x i) hp)) (pc 8 (implListDir_a s_ d w.1 w.2.1) (pc 9 (implDiffIDs_a (Qj w) (Qy s_ d w.1 w.2.1)) p0))) ?_
 refine Qd ?_
 refine sn Qa [1, 8, 9, 10, 11, 32] [8, 9] (pl 1 (((Yf (Qj w) (Qy s_ d w.1 w.2.1))).1) (pl 3 (((Yf (Qj w) (Qy s_ d w.1 w.2.1))).2) p0)) ?_
 refine ck (decide (IntKind.i64.wrap (((((Yf (Qj w) (Qy s_ d w.1 w.2.1))).1).length : Int) + ((((Yf (Qj w) (Qy s_ d w.1 w.2.1))).2).length : Int)) > (0 : Int))) (fun h1 => ?_) (fun h1 => ?_)
 ·
  have h1d := of_decide_eq_true h1
  refine wB 9 3 (.own true 833) ((Xu w).2.2.2) (fun hw2 hl3 => ?_)
  refine qu Qa [] [1, 10, 11] [(9, [.i ((Xu w).1), .s ((Xu w).2.1), .o 832 ((Xu w).2.2.1), .slc (.own true 2560) 3 ((eL ((Xu w).2.2.2)) ++ [[.i version, .h (((Yf (Qj w) (Qy s_ d w.1 w.2.1))).1), .h (((Yf (Qj w) (Qy s_ d w.1 w.2.1))).2)]])])] [9] (pa ((Xu w).2.2.2) [(version, ((Yf (Qj w) (Qy s_ d w.1 w.2.1))).1, ((Yf (Qj w) (Qy s_ d w.1 w.2.1))).2)] p0) ?_
  refine eqn [] [] [(9, [.i ((Xu w).1), .s ((Xu w).2.1), .o 832 ((Xu w).2.2.1), .o 2560 ((Xu w).2.2.2 ++ [(version, ((Yf (Qj w) (Qy s_ d w.1 w.2.1))).1, ((Yf (Qj w) (Qy s_ d w.1 w.2.1))).2)])])] [9] (by rw [show ((eL ((Xu w).2.2.2)) ++ [[.i version, .h (((Yf (Qj w) (Qy s_ d w.1 w.2.1))).1), .h (((Yf (Qj w) (Qy s_ d w.1 w.2.1))).2)]]) = (eL ((Xu w).2.2.2 ++ [(version, ((Yf (Qj w) (Qy s_ d w.1 w.2.1))).1, ((Yf (Qj w) (Qy s_ d w.1 w.2.1))).2)])) from Kc (rfl) (rfl)]; first | done | kernel_rfl) ?_
  refine sn Qa [8] [8] (p0) ?_
  refine Qe ?_
  exact pz [] (show Qx w version s_ d = _ from Q4 h1 (rfl)) (fun z => .a [.i z.1, .s z.2.1, .o 0 z.2.2.1, .o 1 z.2.2.2])
 ·
  refine Qf ?_
  refine tn Qa [8] [8] (p0) ?_
  refine Qe ?_
  exact pz [] (show Qx w version s_ d = _ from Qk h1 (rfl)) (fun z => .a [.i z.1, .s z.2.1, .o 0 z.2.2.1, .o 1 z.2.2.2])
def Y0 (w : Zf) (version : Int) (s_ : Q2) (d : (List Yq)) : Zf := (bif (decide (((((Yg (Xa (Qi w)) (X3 s_ d ((Qi w).1) ((Qi w).2.1)))).1).length : Int) > (0 : Int)) || decide (((((Yg (Xa (Qi w)) (X3 s_ d ((Qi w).1) ((Qi w).2.1)))).2).length : Int) > (0 : Int))) then ((Qi w).1, (Qi w).2.1, (Qi w).2.2.1, (Qi w).2.2.2 ++ [(version, ((Yg (Xa (Qi w)) (X3 s_ d ((Qi w).1) ((Qi w).2.1)))).1, ((Yg (Xa (Qi w)) (X3 s_ d ((Qi w).1) ((Qi w).2.1)))).2)]) else (Qi w))
theorem specNotify_a (w : Zf) (version : Int) (s_ : Q2) (d : (List Yq)) (hp : GoD.size w ≤ 536870912) : ACalls Tryz.prog 30 [.a [.i w.1, .s w.2.1, .h w.2.2.1, .h w.2.2.2], .i version, .a [.h s_.1, .h s_.2.1, .i s_.2.2], .h d] (.a [.i ((Y0 w version s_ d).1), .s ((Y0 w version s_ d).2.1), .o 0 ((Y0 w version s_ d).2.2.1), .o 1 ((Y0 w version s_ d).2.2.2)]) := by
 refine en Qa Tryz.func30 fun w0 F0 hG => ?_
 have hcl := l29Copy_len w
 have hse := sz_events w
 refine sn Qa [1, 3, 4, 6, 8] [4, 6, 8] (p0) ?_
 refine tn Qa [1, 3, 4, 6, 8] [4, 6, 8] (pc 1 (specl29Copy_a w) p0) ?_
 refine tU Qa Yr [(4, .p 4 0), (8, .p 8 0), (9, .o 1472 (((Yg (Xa (Qi w)) (X3 s_ d ((Qi w).1) ((Qi w).2.1)))).1)), (10, .o 1473 (((Yg (Xa (Qi w)) (X3 s_ d ((Qi w).1) ((Qi w).2.1)))).2))] [0, 2, 3] [(4, [.i ((Qi w).1), .s ((Qi w).2.1), .o 768 ((Qi w).2.2.1), .o 769 ((Qi w).2.2.2)]), (8, [.i 0, .s ⟨#[]⟩, .e 1, .e 3])] [] (pc 1 (specWatchListing_a (Qi w) (by first | omega | (rw [l29Copy_id]; omega) | exact Nat.le_trans (findWatch_size x i) hp | exact Nat.le_trans (findWatch_sizeS x i) hp)) (pc 8 (specListDir_a s_ d ((Qi w).1) ((Qi w).2.1)) (pc 9 (specDiffIDs_a (Xa (Qi w)) (X3 s_ d ((Qi w).1) ((Qi w).2.1))) p0))) ?_
 refine Qd ?_
 refine Qd ?_
 refine jn [(33, .b (decide (((((Yg (Xa (Qi w)) (X3 s_ d ((Qi w).1) ((Qi w).2.1)))).1).length : Int) > (0 : Int)) || decide (((((Yg (Xa (Qi w)) (X3 s_ d ((Qi w).1) ((Qi w).2.1)))).2).length : Int) > (0 : Int))))] [] [] [] (decide (((((Yg (Xa (Qi w)) (X3 s_ d ((Qi w).1) ((Qi w).2.1)))).1).length : Int) > (0 : Int))) (fun h1 => ?_) (fun h1 => ?_) ?_
 ·
  refine ru Qa [(33, .b true)] [] [] [] (pl 1 (((Yg (Xa (Qi w)) (X3 s_ d ((Qi w).1) ((Qi w).2.1)))).1) (pt 2 h1 p0)) ?_
  exact ⟨rfl, Qc (by rw [h1]; first | done | kernel_rfl)⟩
 ·
  refine rn Qa [1, 4, 8, 9, 10, 33] [4, 8] (pl 1 (((Yg (Xa (Qi w)) (X3 s_ d ((Qi w).1) ((Qi w).2.1)))).1) (pf 2 h1 (pl 5 (((Yg (Xa (Qi w)) (X3 s_ d ((Qi w).1) ((Qi w).2.1)))).2) p0))) ?_
  exact ⟨rfl, Qc (by rw [h1]; first | done | kernel_rfl)⟩
 refine ck (decide (((((Yg (Xa (Qi w)) (X3 s_ d ((Qi w).1) ((Qi w).2.1)))).1).length : Int) > (0 : Int)) || decide (((((Yg (Xa (Qi w)) (X3 s_ d ((Qi w).1) ((Qi w).2.1)))).2).length : Int) > (0 : Int))) (fun h2 => ?_) (fun h2 => ?_)
 ·
  refine wB 4 3 (.own true 769) ((Qi w).2.2.2) (fun hw3 hl4 => ?_)
  refine ru Qa [] [1, 9, 10, 33] [(4, [.i ((Qi w).1), .s ((Qi w).2.1), .o 768 ((Qi w).2.2.1), .slc (.own true 2624) 3 ((eL ((Qi w).2.2.2)) ++ [[.i version, .h (((Yg (Xa (Qi w)) (X3 s_ d ((Qi w).1) ((Qi w).2.1)))).1), .h (((Yg (Xa (Qi w)) (X3 s_ d ((Qi w).1) ((Qi w).2.1)))).2)]])])] [4] (pa ((Qi w).2.2.2) [(version, ((Yg (Xa (Qi w)) (X3 s_ d ((Qi w).1) ((Qi w).2.1)))).1, ((Yg (Xa (Qi w)) (X3 s_ d ((Qi w).1) ((Qi w).2.1)))).2)] p0) ?_
  refine eqn [] [] [(4, [.i ((Qi w).1), .s ((Qi w).2.1), .o 768 ((Qi w).2.2.1), .o 2624 ((Qi w).2.2.2 ++ [(version, ((Yg (Xa (Qi w)) (X3 s_ d ((Qi w).1) ((Qi w).2.1)))).1, ((Yg (Xa (Qi w)) (X3 s_ d ((Qi w).1) ((Qi w).2.1)))).2)])])] [4] (by rw [show ((eL ((Qi w).2.2.2)) ++ [[.i version, .h (((Yg (Xa (Qi w)) (X3 s_ d ((Qi w).1) ((Qi w).2.1)))).1), .h (((Yg (Xa (Qi w)) (X3 s_ d ((Qi w).1) ((Qi w).2.1)))).2)]]) = (eL ((Qi w).2.2.2 ++ [(version, ((Yg (Xa (Qi w)) (X3 s_ d ((Qi w).1) ((Qi w).2.1)))).1, ((Yg (Xa (Qi w)) (X3 s_ d ((Qi w).1) ((Qi w).2.1)))).2)])) from Kc (rfl) (rfl)]; first | done | kernel_rfl) ?_
  refine sn Qa [8] [8] (p0) ?_
  refine Qe ?_
  exact pz [] (show Y0 w version s_ d = _ from Q4 h2 (rfl)) (fun z => .a [.i z.1, .s z.2.1, .o 0 z.2.2.1, .o 1 z.2.2.2])
 ·
  refine Qf ?_
  refine sn Qa [8] [8] (p0) ?_
  refine Qe ?_
  exact pz [] (show Y0 w version s_ d = _ from Qk h2 (rfl)) (fun z => .a [.i z.1, .s z.2.1, .o 0 z.2.2.1, .o 1 z.2.2.2])
end Go.Proofs.YtcnkkobgogmakaaGreat
namespace Go.Proofs.YtcnkkobgogmakaaGreat
open Go.RowKit
theorem less_eq {R : Type} {f : Nat → Int → List Int → Rd R (List Int) (List Int)} {e : Nat → List Int → List Int} {b : List Int} (hf : ∀ k a s, f k a s = bif (!(Yv b a)) then .next (s ++ [a]) else .next s) (he : ∀ k s, e k s = s) (l : List Int) : Xp f e l 0 [] = .brk (less l b) := by
  rw [forL_filter (p := fun x => !b.contains x) (g := fun x => x) (fun k a s => by rw [hf, cidS_eq])]
  rw [he, List.nil_append, List.map_id']
  rfl
theorem diffIDs_eq (a b : List Int) : Yg a b = Yf a b := by
  unfold Yg Yf
  rw [less_eq (f := specDiffIDs_f0 a) (e := specDiffIDs_e0) (b := a) (fun _ _ _ => rfl) (fun _ _ => rfl), less_eq (f := specDiffIDs_f1 b) (e := specDiffIDs_e1) (b := b) (fun _ _ _ => rfl) (fun _ _ => rfl)]
  rfl
theorem replay_grow : ∀ (l : List Zr) (k : Nat) (s : List Int), ∃ t, Xp Ka Wd l k s = .brk t ∧ t.length ≤ s.length + GoD.size l
  | [], k, s => ⟨s, rfl, Nat.le_add_right _ _⟩
  | x :: l, k, s => by
    obtain ⟨t, h1, h2⟩ := replay_grow l (k + 1) (Zt s x.2.1 x.2.2)
    refine ⟨t, h1, ?_⟩
    have h3 := replayed_len s x.2.1 x.2.2
    have h4 := event_size x
    have h5 : GoD.size (x :: l) = GoD.size [x] + GoD.size l := size_app [x] l
    rw [size_one] at h5
    omega
theorem listing_len (w : Zf) : List.length (Qj w) ≤ GoD.size w := by
  have hw := Wn w
  unfold Qj Z0
  obtain ⟨t, h1, h2⟩ := replay_grow w.2.2.2 0 w.2.2.1
  rw [h1]
  simp only [Out.on]
  omega
theorem notify_eq (w : Zf) (v : Int) (s : Q2) (d : List Yq) (hp : GoD.size w ≤ 536870912) : Y0 w v s d = Qx w v s d := by
  unfold Y0 Qx
  rw [l29Copy_id, copyWatch_id, listing_eq, listDir_eq, diffIDs_eq]
  have h1 := listing_len w
  have h2 := listDir_short s d w.1 w.2.1
  unfold Yf
  have h3 := less_len (Qy s d w.1 w.2.1) (Qj w)
  have h4 := less_len (Qj w) (Qy s d w.1 w.2.1)
  generalize less (Qy s d w.1 w.2.1) (Qj w) = a at h3 ⊢
  generalize less (Qj w) (Qy s d w.1 w.2.1) = b at h4 ⊢
  have hw : IntKind.i64.wrap ((a.length : Int) + (b.length : Int)) = (a.length : Int) + (b.length : Int) := IntWalk.i64_in _ (by omega)
  simp only [hw]
  have hc : (decide ((a.length : Int) > (0 : Int)) || decide ((b.length : Int) > (0 : Int))) = decide ((a.length : Int) + (b.length : Int) > (0 : Int)) := by
    rw [Bool.eq_iff_iff]; simp only [Bool.or_eq_true, decide_eq_true_eq]; omega
  rw [hc]
theorem notify_size (w : Zf) (v : Int) (s : Q2) (d : List Yq) : GoD.size (Qx w v s d) ≤ 2 * GoD.size w + 13 := by
  unfold Qx
  rw [copyWatch_id]
  have h1 := listing_len w
  have h2 := listDir_short s d w.1 w.2.1
  unfold Yf
  have h3 := less_len (Qy s d w.1 w.2.1) (Qj w)
  have h4 := less_len (Qj w) (Qy s d w.1 w.2.1)
  generalize less (Qy s d w.1 w.2.1) (Qj w) = a at h3 ⊢
  generalize less (Qj w) (Qy s d w.1 w.2.1) = b at h4 ⊢
  cases decide (IntKind.i64.wrap ((a.length : Int) + (b.length : Int)) > (0 : Int)) with
  | false => simp only [cond_false]; omega
  | true =>
    simp only [cond_true]
    have hw := Wn w
    rw [Wn]
    show w.2.1.size + (List.length w.2.2.1 + GoD.size (w.2.2.2 ++ [((v, a, b) : Zr)])) ≤ _
    rw [size_app, size_one]
    have he : GoD.size ((v, a, b) : Zr) = 0 + (GoD.size a + GoD.size b) := rfl
    rw [ints_size, ints_size] at he
    omega
end Go.Proofs.YtcnkkobgogmakaaGreat
