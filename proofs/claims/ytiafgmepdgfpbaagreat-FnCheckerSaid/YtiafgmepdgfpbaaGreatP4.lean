/- Texts of this proof, put together by a program: Ckb, Nga, Ngb, Zd, Sh, Ts, Dpa, Dpb, Dpc, Dpd, Sta, Stb, Stc, Stg, Sth, Std, Ste, Isa, Isb, Ckc, Slb. -/
import Derived.Test.YtiafgmepdgfpbaaGreatP3
import Derived.KernelRfl
import Derived.Sort.EncStr
import Derived.Sort.Grow
import Derived.Lib.SlicesCompact
import Derived.Sort.Walk0
import Derived.Shelf.Small.Bits
import Derived.Shelf.Strconv.Itoa0
import Derived.Shelf.Sort.Plain
import Derived.Shelf.Slices.Turned
import Derived.Shelf.Slices.Reverse
import Derived.Ground.Names2Prog
import Derived.Shelf.Slices.Clone
import Derived.Shelf.Slices.CompactS
import Derived.Shelf.Slices.SearchI
import Derived.Shelf.Slices.Cells
import Derived.Shelf.Slices.In.SortNone
import Derived.Ground.SlgnProg
import Derived.Shelf.SlicesE.Equal
import Derived.Shelf.SlicesE.Compact
import Derived.Shelf.SlicesE.Clone
import Derived.Ground.SlgfProg
import Derived.Shelf.SlicesE.IndexFunc
import Derived.Test.YtiafgmepdgfpbaaGreatProg
set_option linter.unusedVariables false
set_option linter.unusedSimpArgs false
namespace Go.Proofs.YtiafgmepdgfpbaaGreat
section
open Go.RowKit
theorem KK (a b c : Int) : Xw a b c = Xg a b c := rfl
theorem By {a b c : Int} : Xw a b c = true ↔ b ≤ a ∧ a ≤ c := by simp [Xw]
theorem F1 {a b c : Int} : Xg a b c = true ↔ b ≤ a ∧ a ≤ c := by simp [Xg]
theorem FM (s : ByteArray) : Yt s = X2 s := rfl
theorem AA (s : ByteArray) : Yd s = Xl s := by
  unfold Yd Xl Cw
  by_cases h : s.size = 1
  · simp only [h, Int.toNat_natCast, Ha, Uk]
    by_cases h1 : Ah s 0 < 97 <;> by_cases h2 : Ah s 0 > 122 <;> simp [h1, h2, Out.on, Xg, Hk] <;> omega
  have h1 : ((s.size : Int) == 1) = false := by simpa using fun e : (s.size : Int) = 1 => h (by omega)
  have h2 : Xg (s.size : Int) 1 1 = false := by simp [Xg]; omega
  rw [h1, h2, Bool.false_and]
  cases hf : Ha (Uk s) Hk (Int.toNat (s.size : Int)) 0 () with
  | brk t => rfl
  | ret r =>
    have key : ∀ n k, ∀ r, Ha (Uk s) Hk n k () = .ret r → r = false := by
      intro n
      induction n with
      | zero => intro k r h; simp [Ha] at h
      | succ n ih =>
        intro k r h
        simp only [Ha, Uk] at h
        cases hc : (decide (Ah s ((k : Nat) : Int) < (97 : Int)) || decide (Ah s ((k : Nat) : Int) > (122 : Int))) with
        | true => rw [hc] at h; simp only [cond_true] at h; cases h; rfl
        | false => rw [hc] at h; exact ih _ _ h
    exact (key _ _ _ hf).symm
theorem FN (v : Jc) : J9 v = Zv v := rfl
theorem vnode_eq (n : X7) (k : Int) : Zf n k = Ku n k := by
  unfold Zf Ku
  rw [AA, FN, FM]
  simp only [KK]
  by_cases h1 : n.1 = 1
  · simp [h1]
  by_cases h2 : n.1 = 2
  · simp [h1, h2, Bool.and_comm]
  by_cases h3 : n.1 = 3
  · simp [h1, h2, h3]; ac_rfl
  by_cases h4 : n.1 = 4
  · simp [h1, h2, h3, h4]; cases h : (n.2.2.2.2.1 == 1) <;> simp_all <;> ac_rfl
  by_cases h5 : n.1 = 5
  · simp [h1, h2, h3, h4, h5]; ac_rfl
  by_cases h6 : n.1 = 6
  · simp [h1, h2, h3, h4, h5, h6]; ac_rfl
  by_cases h7 : n.1 = 7
  · simp [h1, h2, h3, h4, h5, h6, h7]; ac_rfl
  by_cases h8 : n.1 = 8
  · simp [h1, h2, h3, h4, h5, h6, h7, h8, Bool.and_comm]
  by_cases h9 : n.1 = 9
  · simp [h1, h2, h3, h4, h5, h6, h7, h8, h9, Bool.and_comm]
  simp only [beq_eq_false_iff_ne.2 h1, beq_eq_false_iff_ne.2 h2, beq_eq_false_iff_ne.2 h3, beq_eq_false_iff_ne.2 h4, beq_eq_false_iff_ne.2 h5, beq_eq_false_iff_ne.2 h6, beq_eq_false_iff_ne.2 h7, beq_eq_false_iff_ne.2 h8, beq_eq_false_iff_ne.2 h9, cond_false]
theorem refs_eq (q : List X7) (k : Int) : Z7 q k = K7 q k := by
  unfold Z7 K7
  rw [D5 (f := Ji k) (g := W2 k) (e := W0) (e' := Hr) (fun i a s => by
    unfold Ji W2
    cases (a.2.1 == k) <;> cases (a.2.2.1 == k) <;> cases (a.1 == 6) <;> cases (a.1 == 7) <;> cases (a.1 == 5) <;> rfl) (fun _ _ => rfl)]
theorem vq_eq (q : List X7) : Qv q = Yi q := by
  unfold Qv Yi
  rw [D5 (f := Yu q) (g := Wq q) (e := Ki) (e' := U3) (fun i a s => by
    unfold Yu Wq
    rw [vnode_eq, refs_eq]) (fun _ _ => rfl)]
  rfl
theorem M6 {q : List X7} (h : Yi q = true) : Qv q = true := (vq_eq q).trans h
theorem FO {q : List X7} (h : Qv q = true) : (∃ t, Xp (Yu q) Ki q 0 () = .brk t) ∧ Xw (q.length : Int) 1 9 = true := by
  unfold Qv at h
  cases hf : Xp (Yu q) Ki q 0 () with
  | brk t => rw [hf] at h; exact ⟨⟨t, rfl⟩, h⟩
  | ret r =>
    rw [hf] at h
    obtain rfl : r = true := h
    exfalso
    have key : ∀ (l : List X7) k, Xp (Yu q) Ki l k () ≠ .ret true := by
      intro l
      induction l with
      | nil => intro k h; simp [Xp] at h
      | cons a l ih =>
        intro k h
        simp only [Xp] at h
        unfold Yu at h
        split at h
        · rename_i hf; exact ih _ h
        · cases h
        rename_i r hf; cases h; revert hf; generalize (_ || _ : Bool) = c; cases c <;> simp
    exact key _ _ hf
theorem Rf {q : List X7} (h : Qv q = true) : 1 ≤ q.length ∧ q.length ≤ 9 := by
  have := By.1 (FO h).2
  omega
theorem ZH {q : List X7} (h : Qv q = true) {i : Nat} {n : X7} (hi : q[i]? = some n) : Zf n (i : Int) = true := by
  obtain ⟨⟨t, ht⟩, _⟩ := FO h
  have := N4 (fun k a t => by unfold Yu; generalize (_ || _ : Bool) = c; cases c <;> simp) ht i n hi
  unfold Yu at this
  rw [Nat.zero_add] at this
  cases hn : Zf n (i : Int) with
  | true => rfl
  | false => rw [hn] at this; simp at this
theorem vn_kids {n : X7} {k : Int} (h : Zf n k = true) (hk : 0 ≤ k ∧ k < 4611686018427387904) : (n.1 = 5 ∨ n.1 = 6 ∨ n.1 = 7 → 0 ≤ n.2.1 ∧ n.2.1 < k) ∧ (n.1 = 6 ∨ n.1 = 7 → 0 ≤ n.2.2.1 ∧ n.2.2.1 < k) := by
  have hw : IntKind.i64.wrap (k - 1) = k - 1 := IntWalk.i64_in _ (by omega)
  unfold Zf at h
  rw [hw] at h
  refine ⟨fun h5 => ?_, fun h5 => ?_⟩
  · rcases h5 with h5 | h5 | h5 <;> (simp [h5, Xw] at h; omega)
  rcases h5 with h5 | h5 <;> (simp [h5, Xw] at h; omega)
theorem Cz {q : List X7} (h : Qv q = true) {k : Int} (ha : 0 ≤ k) (hb : k < (q.length : Int)) :
    ((nth q (Int.toNat k)).1 = 5 ∨ (nth q (Int.toNat k)).1 = 6 ∨ (nth q (Int.toNat k)).1 = 7 → 0 ≤ (nth q (Int.toNat k)).2.1 ∧ (nth q (Int.toNat k)).2.1 < k) ∧ ((nth q (Int.toNat k)).1 = 6 ∨ (nth q (Int.toNat k)).1 = 7 → 0 ≤ (nth q (Int.toNat k)).2.2.1 ∧ (nth q (Int.toNat k)).2.2.1 < k) := by
  have hi : q[Int.toNat k]? = some (nth q (Int.toNat k)) := Kh (by omega)
  have := ZH h hi
  rw [Int.toNat_of_nonneg ha] at this
  exact vn_kids this ⟨ha, by have := (Rf h).2; omega⟩
section
variable {q : List X7} {k : Int} (h : Qv q = true) (ha : 0 ≤ k) (hb : k < (q.length : Int))
include h ha hb
theorem ql_a (h5 : ((nth q (Int.toNat k)).1 == (5 : Int)) = true) : 0 ≤ (nth q (Int.toNat k)).2.1 ∧ (nth q (Int.toNat k)).2.1 < k := (Cz h ha hb).1 (.inl (eq_of_beq h5))
theorem AB (h5 : ((nth q (Int.toNat k)).1 == (6 : Int)) = true) : 0 ≤ (nth q (Int.toNat k)).2.1 ∧ (nth q (Int.toNat k)).2.1 < k := (Cz h ha hb).1 (.inr (.inl (eq_of_beq h5)))
theorem CG (h5 : ((nth q (Int.toNat k)).1 == (7 : Int)) = true) : 0 ≤ (nth q (Int.toNat k)).2.1 ∧ (nth q (Int.toNat k)).2.1 < k := (Cz h ha hb).1 (.inr (.inr (eq_of_beq h5)))
theorem qr_b (h5 : ((nth q (Int.toNat k)).1 == (6 : Int)) = true) : 0 ≤ (nth q (Int.toNat k)).2.2.1 ∧ (nth q (Int.toNat k)).2.2.1 < k := (Cz h ha hb).2 (.inl (eq_of_beq h5))
theorem qr_c (h5 : ((nth q (Int.toNat k)).1 == (7 : Int)) = true) : 0 ≤ (nth q (Int.toNat k)).2.2.1 ∧ (nth q (Int.toNat k)).2.2.1 < k := (Cz h ha hb).2 (.inr (eq_of_beq h5))
theorem qlr_bc (h5 : (((nth q (Int.toNat k)).1 == (6 : Int)) || ((nth q (Int.toNat k)).1 == (7 : Int))) = true) : (0 ≤ (nth q (Int.toNat k)).2.1 ∧ (nth q (Int.toNat k)).2.1 < k) ∧ (0 ≤ (nth q (Int.toNat k)).2.2.1 ∧ (nth q (Int.toNat k)).2.2.1 < k) := by
  have h6 : (nth q (Int.toNat k)).1 = 6 ∨ (nth q (Int.toNat k)).1 = 7 := by simpa using h5
  exact ⟨(Cz h ha hb).1 (.inr h6), (Cz h ha hb).2 h6⟩
end
open GoE (enc wide)
def Y3 (q : (List X7)) (k0 : Nat) (s0 : (List Bool)) : Rd ((List Bool)) ((List Bool)) ((List Bool)) := (bif ((nth q (Int.toNat (dn ((q.length : Int) - 1) k0))).1 == (5 : Int)) then (.next (List.set s0 (Int.toNat ((nth q (Int.toNat (dn ((q.length : Int) - 1) k0))).2.1)) ((nth s0 (Int.toNat (dn ((q.length : Int) - 1) k0))) || ((nth q (Int.toNat (dn ((q.length : Int) - 1) k0))).1 == (5 : Int))))) else (bif ((nth q (Int.toNat (dn ((q.length : Int) - 1) k0))).1 == (6 : Int)) then (.next (List.set (List.set s0 (Int.toNat ((nth q (Int.toNat (dn ((q.length : Int) - 1) k0))).2.1)) ((nth s0 (Int.toNat (dn ((q.length : Int) - 1) k0))) || ((nth q (Int.toNat (dn ((q.length : Int) - 1) k0))).1 == (5 : Int)))) (Int.toNat ((nth q (Int.toNat (dn ((q.length : Int) - 1) k0))).2.2.1)) ((nth s0 (Int.toNat (dn ((q.length : Int) - 1) k0))) || ((nth q (Int.toNat (dn ((q.length : Int) - 1) k0))).1 == (5 : Int))))) else (bif ((nth q (Int.toNat (dn ((q.length : Int) - 1) k0))).1 == (7 : Int)) then (.next (List.set (List.set s0 (Int.toNat ((nth q (Int.toNat (dn ((q.length : Int) - 1) k0))).2.1)) ((nth s0 (Int.toNat (dn ((q.length : Int) - 1) k0))) || ((nth q (Int.toNat (dn ((q.length : Int) - 1) k0))).1 == (5 : Int)))) (Int.toNat ((nth q (Int.toNat (dn ((q.length : Int) - 1) k0))).2.2.1)) ((nth s0 (Int.toNat (dn ((q.length : Int) - 1) k0))) || ((nth q (Int.toNat (dn ((q.length : Int) - 1) k0))).1 == (5 : Int))))) else (.next s0))))
def Wr (_ : Nat) (s0 : (List Bool)) : (List Bool) := s0
def Xd (q : (List X7)) : (List Bool) := (bif (!(Qv q)) then [] else (Out.on (Ha (Y3 q) Wr (List.length q) 0 (List.replicate (Int.toNat (q.length : Int)) false)) (fun y0 => y0)))
theorem N8 (q : (List X7)) : ACalls Tryz.prog 160 [.h q] (.o 0 (Xd q)) := by
 refine en Qa Tryz.func160 fun w0 F0 hG => ?_
 refine sn Qa [0, 2] [] (p0) ?_
 refine Qc ?_
 refine tn Qa [0, 2, 8] [] (pc 1 (W9 q) p0) ?_
 refine ck (!(Qv q)) (fun h1 => ?_) (fun h1 => ?_)
 ·
  refine tu Qa [(2, .e 0)] [] [] [] (p0) ?_
  refine opn [(false, 2, 0, true, 384000, 1)] ?_
  refine Qe ?_
  exact po0 [] (Q1 h1 (rfl))
 have h1n : (Qv q) = true := Vd h1
 refine Qh ?_
 refine wT 0 0 .sh q (fun hw2 hl3 => ?_)
 refine tu Qa [(2, .e 0), (3, .one (.slc (.own true 704) 1 (List.replicate (Int.toNat (q.length : Int)) [.b false])))] [] [] [] (pl 1 q (px (Cs (lo := 0) (hi := (q.length : Int)) (n := 1073741824) (⟨by omega, by omega, by omega⟩)) p0)) ?_
 refine eqn [(3, .o 704 (List.replicate (Int.toNat (q.length : Int)) false))] [3] [] [] (by rw [show (List.replicate (Int.toNat (q.length : Int)) [.b false]) = (eL (List.replicate (Int.toNat (q.length : Int)) false)) from mk_eL _ false]; first | done | kernel_rfl) ?_
 refine Qc ?_
 refine sn Qa [0, 2, 3, 4] [] (pl 1 q (pe 2 (Jw (IntWalk.i64_in ((q.length : Int) - 1) (by omega))) p0)) ?_
 refine mz [(4, .i ((q.length : Int) - 1))] [] [] [] ?_
 refine blN3 (Y3 q) Wr (List.length q) (List.replicate (Int.toNat (q.length : Int)) false) (fun k0 s0 => [(3, .o 704 s0), (4, .i (dn ((q.length : Int) - 1) k0))]) [3, 4] (fun y0 => [(3, .o 704 y0)]) [0, 3, 4] (fun _ s0 => List.length s0 = (Int.toNat (q.length : Int))) (fun y0 => List.length y0 = (Int.toNat (q.length : Int))) wf0 (by simp) (fun k0 s0 hk0 hI0 => ?_) (fun k0 s0 hk0 hI0 => ?_) (fun y0 hD0 => ?_)
 ·
  have hA0_0 := hI0.2
  have hdn0 := UG ((q.length : Int) - 1) k0
  refine Qc ?_
  refine sn Qa [0, 2, 3, 4, 16] [] (pe 1 (Qw (decide_eq_true (p := (dn ((q.length : Int) - 1) k0) ≥ (0 : Int)) (by omega))) p0) ?_
  refine ckT ?_
  refine Qh ?_
  refine Qc ?_
  refine Qt ?_
  refine Qc ?_
  refine mz [(16, .b true)] [] [] [] ?_
  refine jn [(5, .b ((nth s0 (Int.toNat (dn ((q.length : Int) - 1) k0))) || ((nth q (Int.toNat (dn ((q.length : Int) - 1) k0))).1 == (5 : Int))))] [16] [] [] (nth s0 (Int.toNat (dn ((q.length : Int) - 1) k0))) (fun h4 => ?_) (fun h4 => ?_) ?_
  ·
   refine wT 3 0 (.own true 704) s0 (fun hw6 hl7 => ?_)
   have hx5 := ng s0 (Int.toNat (dn ((q.length : Int) - 1) k0))
   refine rn Qa [0, 2, 3, 4, 5] [] (pG 2 (dn ((q.length : Int) - 1) k0) hx5 (pt 3 h4 p0)) ?_
   exact ⟨rfl, Qf (by rw [h4] <;> kernel_rfl)⟩
  ·
   refine wT 3 0 (.own true 704) s0 (fun hw9 hl10 => ?_)
   have hx8 := ng s0 (Int.toNat (dn ((q.length : Int) - 1) k0))
   have hx11 := ng q (Int.toNat (dn ((q.length : Int) - 1) k0))
   refine rn Qa [0, 2, 3, 4, 5] [] (pG 2 (dn ((q.length : Int) - 1) k0) hx8 (pf 3 h4 (pg 7 (dn ((q.length : Int) - 1) k0) hx11 p0))) ?_
   exact ⟨rfl, Qf (by rw [h4] <;> kernel_rfl)⟩
  have hx12 := ng q (Int.toNat (dn ((q.length : Int) - 1) k0))
  refine sn Qa [0, 2, 3, 4, 5, 35] [] (pg 2 (dn ((q.length : Int) - 1) k0) hx12 p0) ?_
  refine Qt ?_
  refine tn Qa [0, 2, 3, 4, 5, 35, 36] [] (p0) ?_
  refine ck ((nth q (Int.toNat (dn ((q.length : Int) - 1) k0))).1 == (5 : Int)) (fun h13 => ?_) (fun h13 => ?_)
  ·
   have h13k := ql_a h1n (by omega) (by omega) h13
   have h13d := eq_of_beq h13
   refine wT 3 0 (.own true 704) s0 (fun hw15 hl16 => ?_)
   have hx14 := ng s0 (Int.toNat ((nth q (Int.toNat (dn ((q.length : Int) - 1) k0))).2.1))
   refine qu Qa [(3, .one (.slc (.own true 704) 1 (setRow (eL s0) (Int.toNat ((nth q (Int.toNat (dn ((q.length : Int) - 1) k0))).2.1)) 0 [.b ((nth s0 (Int.toNat (dn ((q.length : Int) - 1) k0))) || ((nth q (Int.toNat (dn ((q.length : Int) - 1) k0))).1 == (5 : Int)))])))] [3, 5] [] [] (pg 3 (dn ((q.length : Int) - 1) k0) hx12 (pG 7 ((nth q (Int.toNat (dn ((q.length : Int) - 1) k0))).2.1) hx14 p0)) ?_
   refine eqn [(3, .o 704 (List.set s0 (Int.toNat ((nth q (Int.toNat (dn ((q.length : Int) - 1) k0))).2.1)) ((nth s0 (Int.toNat (dn ((q.length : Int) - 1) k0))) || ((nth q (Int.toNat (dn ((q.length : Int) - 1) k0))).1 == (5 : Int)))))] [3] [] [] (by rw [Zx (y := ((nth s0 (Int.toNat (dn ((q.length : Int) - 1) k0))) || ((nth q (Int.toNat (dn ((q.length : Int) - 1) k0))).1 == (5 : Int)))) hx14 rfl] <;> kernel_rfl) ?_
   refine rn Qa [0, 2, 3, 4] [] (pe 1 (show .i (IntKind.i64.wrap ((dn ((q.length : Int) - 1) k0) - 1)) = .i (dn ((q.length : Int) - 1) (k0 + 1)) from Jw (show IntKind.i64.wrap ((dn ((q.length : Int) - 1) k0) - 1) = (dn ((q.length : Int) - 1) (k0 + 1)) from IntWalk.i64_in ((dn ((q.length : Int) - 1) k0) - 1) (by omega))) p0) ?_
   exact xw (List.set s0 (Int.toNat ((nth q (Int.toNat (dn ((q.length : Int) - 1) k0))).2.1)) ((nth s0 (Int.toNat (dn ((q.length : Int) - 1) k0))) || ((nth q (Int.toNat (dn ((q.length : Int) - 1) k0))).1 == (5 : Int)))) ⟨W8 hk0 (Q1 h13 (rfl)) hI0.1, (by first | omega | (simp only [List.length_set]; omega))⟩
  have h13d := Ym h13
  refine Qc ?_
  refine tu Qa [(35, .i ((nth q (Int.toNat (dn ((q.length : Int) - 1) k0))).1)), (46, .b ((nth q (Int.toNat (dn ((q.length : Int) - 1) k0))).1 == (6 : Int)))] [] [] [] (p0) ?_
  refine ck ((nth q (Int.toNat (dn ((q.length : Int) - 1) k0))).1 == (6 : Int)) (fun h17 => ?_) (fun h17 => ?_)
  ·
   have h17k := AB h1n (by omega) (by omega) h17; have h17m := qr_b h1n (by omega) (by omega) h17
   have h17d := eq_of_beq h17
   refine Qh ?_
   refine ckt h17 ?_
   refine wT 3 0 (.own true 704) s0 (fun hw19 hl20 => ?_)
   have hx18 := ng s0 (Int.toNat ((nth q (Int.toNat (dn ((q.length : Int) - 1) k0))).2.1))
   have hx21 : (List.set s0 (Int.toNat ((nth q (Int.toNat (dn ((q.length : Int) - 1) k0))).2.1)) ((nth s0 (Int.toNat (dn ((q.length : Int) - 1) k0))) || ((nth q (Int.toNat (dn ((q.length : Int) - 1) k0))).1 == (5 : Int))))[(Int.toNat ((nth q (Int.toNat (dn ((q.length : Int) - 1) k0))).2.2.1))]? = some (nth (List.set s0 (Int.toNat ((nth q (Int.toNat (dn ((q.length : Int) - 1) k0))).2.1)) ((nth s0 (Int.toNat (dn ((q.length : Int) - 1) k0))) || ((nth q (Int.toNat (dn ((q.length : Int) - 1) k0))).1 == (5 : Int)))) (Int.toNat ((nth q (Int.toNat (dn ((q.length : Int) - 1) k0))).2.2.1))) := Kh (by first | omega | (simp only [List.length_set]; omega))
   refine rU Qa Yc [(3, .one (.slc (.own true 704) 1 (setRow (setRow (eL s0) (Int.toNat ((nth q (Int.toNat (dn ((q.length : Int) - 1) k0))).2.1)) 0 [.b ((nth s0 (Int.toNat (dn ((q.length : Int) - 1) k0))) || ((nth q (Int.toNat (dn ((q.length : Int) - 1) k0))).1 == (5 : Int)))]) (Int.toNat ((nth q (Int.toNat (dn ((q.length : Int) - 1) k0))).2.2.1)) 0 [.b ((nth s0 (Int.toNat (dn ((q.length : Int) - 1) k0))) || ((nth q (Int.toNat (dn ((q.length : Int) - 1) k0))).1 == (5 : Int)))])))] [3, 5, 35, 46] [] [] (pg 3 (dn ((q.length : Int) - 1) k0) hx12 (pg 9 (dn ((q.length : Int) - 1) k0) hx12 (pG 14 ((nth q (Int.toNat (dn ((q.length : Int) - 1) k0))).2.1) hx18 (pR 16 (l := (setRow (eL s0) (Int.toNat ((nth q (Int.toNat (dn ((q.length : Int) - 1) k0))).2.1)) 0 [.b ((nth s0 (Int.toNat (dn ((q.length : Int) - 1) k0))) || ((nth q (Int.toNat (dn ((q.length : Int) - 1) k0))).1 == (5 : Int)))])) (j := ((nth q (Int.toNat (dn ((q.length : Int) - 1) k0))).2.2.1)) (r := [.b (nth (List.set s0 (Int.toNat ((nth q (Int.toNat (dn ((q.length : Int) - 1) k0))).2.1)) ((nth s0 (Int.toNat (dn ((q.length : Int) - 1) k0))) || ((nth q (Int.toNat (dn ((q.length : Int) - 1) k0))).1 == (5 : Int)))) (Int.toNat ((nth q (Int.toNat (dn ((q.length : Int) - 1) k0))).2.2.1)))]) (by rw [Zx (y := ((nth s0 (Int.toNat (dn ((q.length : Int) - 1) k0))) || ((nth q (Int.toNat (dn ((q.length : Int) - 1) k0))).1 == (5 : Int)))) hx18 rfl]; exact KJ (by omega) rfl hx21) p0)))) ?_
   refine eqn [(3, .o 704 (List.set (List.set s0 (Int.toNat ((nth q (Int.toNat (dn ((q.length : Int) - 1) k0))).2.1)) ((nth s0 (Int.toNat (dn ((q.length : Int) - 1) k0))) || ((nth q (Int.toNat (dn ((q.length : Int) - 1) k0))).1 == (5 : Int)))) (Int.toNat ((nth q (Int.toNat (dn ((q.length : Int) - 1) k0))).2.2.1)) ((nth s0 (Int.toNat (dn ((q.length : Int) - 1) k0))) || ((nth q (Int.toNat (dn ((q.length : Int) - 1) k0))).1 == (5 : Int)))))] [3] [] [] (by rw [Zx (y := ((nth s0 (Int.toNat (dn ((q.length : Int) - 1) k0))) || ((nth q (Int.toNat (dn ((q.length : Int) - 1) k0))).1 == (5 : Int)))) hx18 rfl, Zx (y := ((nth s0 (Int.toNat (dn ((q.length : Int) - 1) k0))) || ((nth q (Int.toNat (dn ((q.length : Int) - 1) k0))).1 == (5 : Int)))) hx21 rfl] <;> kernel_rfl) ?_
   refine rn Qa [0, 2, 3, 4] [] (pe 1 (show .i (IntKind.i64.wrap ((dn ((q.length : Int) - 1) k0) - 1)) = .i (dn ((q.length : Int) - 1) (k0 + 1)) from Jw (show IntKind.i64.wrap ((dn ((q.length : Int) - 1) k0) - 1) = (dn ((q.length : Int) - 1) (k0 + 1)) from IntWalk.i64_in ((dn ((q.length : Int) - 1) k0) - 1) (by omega))) p0) ?_
   exact xw (List.set (List.set s0 (Int.toNat ((nth q (Int.toNat (dn ((q.length : Int) - 1) k0))).2.1)) ((nth s0 (Int.toNat (dn ((q.length : Int) - 1) k0))) || ((nth q (Int.toNat (dn ((q.length : Int) - 1) k0))).1 == (5 : Int)))) (Int.toNat ((nth q (Int.toNat (dn ((q.length : Int) - 1) k0))).2.2.1)) ((nth s0 (Int.toNat (dn ((q.length : Int) - 1) k0))) || ((nth q (Int.toNat (dn ((q.length : Int) - 1) k0))).1 == (5 : Int)))) ⟨W8 hk0 (Ql h13 (Q1 h17 (rfl))) hI0.1, (by first | omega | (simp only [List.length_set]; omega))⟩
  have h17d := Ym h17
  refine rn Qa [0, 2, 3, 4, 5, 46] [] (p0) ?_
  refine ck ((nth q (Int.toNat (dn ((q.length : Int) - 1) k0))).1 == (7 : Int)) (fun h22 => ?_) (fun h22 => ?_)
  ·
   have h22k := CG h1n (by omega) (by omega) h22; have h22m := qr_c h1n (by omega) (by omega) h22
   have h22d := eq_of_beq h22
   refine wT 3 0 (.own true 704) s0 (fun hw24 hl25 => ?_)
   have hx23 := ng s0 (Int.toNat ((nth q (Int.toNat (dn ((q.length : Int) - 1) k0))).2.1))
   have hx26 : (List.set s0 (Int.toNat ((nth q (Int.toNat (dn ((q.length : Int) - 1) k0))).2.1)) ((nth s0 (Int.toNat (dn ((q.length : Int) - 1) k0))) || ((nth q (Int.toNat (dn ((q.length : Int) - 1) k0))).1 == (5 : Int))))[(Int.toNat ((nth q (Int.toNat (dn ((q.length : Int) - 1) k0))).2.2.1))]? = some (nth (List.set s0 (Int.toNat ((nth q (Int.toNat (dn ((q.length : Int) - 1) k0))).2.1)) ((nth s0 (Int.toNat (dn ((q.length : Int) - 1) k0))) || ((nth q (Int.toNat (dn ((q.length : Int) - 1) k0))).1 == (5 : Int)))) (Int.toNat ((nth q (Int.toNat (dn ((q.length : Int) - 1) k0))).2.2.1))) := Kh (by first | omega | (simp only [List.length_set]; omega))
   refine qU Qa Yc [(3, .one (.slc (.own true 704) 1 (setRow (setRow (eL s0) (Int.toNat ((nth q (Int.toNat (dn ((q.length : Int) - 1) k0))).2.1)) 0 [.b ((nth s0 (Int.toNat (dn ((q.length : Int) - 1) k0))) || ((nth q (Int.toNat (dn ((q.length : Int) - 1) k0))).1 == (5 : Int)))]) (Int.toNat ((nth q (Int.toNat (dn ((q.length : Int) - 1) k0))).2.2.1)) 0 [.b ((nth s0 (Int.toNat (dn ((q.length : Int) - 1) k0))) || ((nth q (Int.toNat (dn ((q.length : Int) - 1) k0))).1 == (5 : Int)))])))] [3, 5, 35, 46] [] [] (pg 3 (dn ((q.length : Int) - 1) k0) hx12 (pg 9 (dn ((q.length : Int) - 1) k0) hx12 (pG 14 ((nth q (Int.toNat (dn ((q.length : Int) - 1) k0))).2.1) hx23 (pR 16 (l := (setRow (eL s0) (Int.toNat ((nth q (Int.toNat (dn ((q.length : Int) - 1) k0))).2.1)) 0 [.b ((nth s0 (Int.toNat (dn ((q.length : Int) - 1) k0))) || ((nth q (Int.toNat (dn ((q.length : Int) - 1) k0))).1 == (5 : Int)))])) (j := ((nth q (Int.toNat (dn ((q.length : Int) - 1) k0))).2.2.1)) (r := [.b (nth (List.set s0 (Int.toNat ((nth q (Int.toNat (dn ((q.length : Int) - 1) k0))).2.1)) ((nth s0 (Int.toNat (dn ((q.length : Int) - 1) k0))) || ((nth q (Int.toNat (dn ((q.length : Int) - 1) k0))).1 == (5 : Int)))) (Int.toNat ((nth q (Int.toNat (dn ((q.length : Int) - 1) k0))).2.2.1)))]) (by rw [Zx (y := ((nth s0 (Int.toNat (dn ((q.length : Int) - 1) k0))) || ((nth q (Int.toNat (dn ((q.length : Int) - 1) k0))).1 == (5 : Int)))) hx23 rfl]; exact KJ (by omega) rfl hx26) p0)))) ?_
   refine eqn [(3, .o 704 (List.set (List.set s0 (Int.toNat ((nth q (Int.toNat (dn ((q.length : Int) - 1) k0))).2.1)) ((nth s0 (Int.toNat (dn ((q.length : Int) - 1) k0))) || ((nth q (Int.toNat (dn ((q.length : Int) - 1) k0))).1 == (5 : Int)))) (Int.toNat ((nth q (Int.toNat (dn ((q.length : Int) - 1) k0))).2.2.1)) ((nth s0 (Int.toNat (dn ((q.length : Int) - 1) k0))) || ((nth q (Int.toNat (dn ((q.length : Int) - 1) k0))).1 == (5 : Int)))))] [3] [] [] (by rw [Zx (y := ((nth s0 (Int.toNat (dn ((q.length : Int) - 1) k0))) || ((nth q (Int.toNat (dn ((q.length : Int) - 1) k0))).1 == (5 : Int)))) hx23 rfl, Zx (y := ((nth s0 (Int.toNat (dn ((q.length : Int) - 1) k0))) || ((nth q (Int.toNat (dn ((q.length : Int) - 1) k0))).1 == (5 : Int)))) hx26 rfl] <;> kernel_rfl) ?_
   refine rn Qa [0, 2, 3, 4] [] (pe 1 (show .i (IntKind.i64.wrap ((dn ((q.length : Int) - 1) k0) - 1)) = .i (dn ((q.length : Int) - 1) (k0 + 1)) from Jw (show IntKind.i64.wrap ((dn ((q.length : Int) - 1) k0) - 1) = (dn ((q.length : Int) - 1) (k0 + 1)) from IntWalk.i64_in ((dn ((q.length : Int) - 1) k0) - 1) (by omega))) p0) ?_
   exact xw (List.set (List.set s0 (Int.toNat ((nth q (Int.toNat (dn ((q.length : Int) - 1) k0))).2.1)) ((nth s0 (Int.toNat (dn ((q.length : Int) - 1) k0))) || ((nth q (Int.toNat (dn ((q.length : Int) - 1) k0))).1 == (5 : Int)))) (Int.toNat ((nth q (Int.toNat (dn ((q.length : Int) - 1) k0))).2.2.1)) ((nth s0 (Int.toNat (dn ((q.length : Int) - 1) k0))) || ((nth q (Int.toNat (dn ((q.length : Int) - 1) k0))).1 == (5 : Int)))) ⟨W8 hk0 (Ql h13 (Ql h17 (Q1 h22 (rfl)))) hI0.1, (by first | omega | (simp only [List.length_set]; omega))⟩
  have h22d := Ym h22
  refine Qh ?_
  refine qn Qa [0, 2, 3, 4] [] (pe 1 (show .i (IntKind.i64.wrap ((dn ((q.length : Int) - 1) k0) - 1)) = .i (dn ((q.length : Int) - 1) (k0 + 1)) from Jw (show IntKind.i64.wrap ((dn ((q.length : Int) - 1) k0) - 1) = (dn ((q.length : Int) - 1) (k0 + 1)) from IntWalk.i64_in ((dn ((q.length : Int) - 1) k0) - 1) (by omega))) p0) ?_
  exact xw s0 ⟨W8 hk0 (Ql h13 (Ql h17 (Ql h22 (rfl)))) hI0.1, (by first | omega | (simp only [List.length_set]; omega))⟩
 ·
  have hA0_0 := hI0.2
  have hdn0 := UG ((q.length : Int) - 1) k0
  refine Qc ?_
  refine sn Qa [0, 2, 3, 4, 16] [] (pe 1 (Qw (decide_eq_false (p := (dn ((q.length : Int) - 1) k0) ≥ (0 : Int)) (by omega))) p0) ?_
  refine ckF ?_
  refine Q2 ?_
  exact xw s0 ⟨Gk hk0 (rfl) hI0.1, by first | omega | (simp only [List.length_set]; omega)⟩
 have hD0_0 := hD0.2
 refine sn Qa [2] [] (p0) ?_
 refine Qe ?_
 exact po0 [] (Ql h1 (Un hD0.1 (rfl)))
def Ws (q : (List X7)) (k0 : Nat) (s0 : (List Bool)) : Rd ((List Bool)) ((List Bool)) ((List Bool)) := (bif ((nth q (Int.toNat (dn ((q.length : Int) - 1) k0))).1 == (5 : Int)) then (bif (((nth q (Int.toNat (dn ((q.length : Int) - 1) k0))).1 == (6 : Int)) || ((nth q (Int.toNat (dn ((q.length : Int) - 1) k0))).1 == (7 : Int))) then (.next (List.set (List.set (List.set s0 (Int.toNat ((nth q (Int.toNat (dn ((q.length : Int) - 1) k0))).2.1)) true) (Int.toNat ((nth q (Int.toNat (dn ((q.length : Int) - 1) k0))).2.1)) (nth (List.set s0 (Int.toNat ((nth q (Int.toNat (dn ((q.length : Int) - 1) k0))).2.1)) true) (Int.toNat (dn ((q.length : Int) - 1) k0)))) (Int.toNat ((nth q (Int.toNat (dn ((q.length : Int) - 1) k0))).2.2.1)) (nth (List.set (List.set s0 (Int.toNat ((nth q (Int.toNat (dn ((q.length : Int) - 1) k0))).2.1)) true) (Int.toNat ((nth q (Int.toNat (dn ((q.length : Int) - 1) k0))).2.1)) (nth (List.set s0 (Int.toNat ((nth q (Int.toNat (dn ((q.length : Int) - 1) k0))).2.1)) true) (Int.toNat (dn ((q.length : Int) - 1) k0)))) (Int.toNat (dn ((q.length : Int) - 1) k0))))) else (.next (List.set s0 (Int.toNat ((nth q (Int.toNat (dn ((q.length : Int) - 1) k0))).2.1)) true))) else (bif (((nth q (Int.toNat (dn ((q.length : Int) - 1) k0))).1 == (6 : Int)) || ((nth q (Int.toNat (dn ((q.length : Int) - 1) k0))).1 == (7 : Int))) then (.next (List.set (List.set s0 (Int.toNat ((nth q (Int.toNat (dn ((q.length : Int) - 1) k0))).2.1)) (nth s0 (Int.toNat (dn ((q.length : Int) - 1) k0)))) (Int.toNat ((nth q (Int.toNat (dn ((q.length : Int) - 1) k0))).2.2.1)) (nth (List.set s0 (Int.toNat ((nth q (Int.toNat (dn ((q.length : Int) - 1) k0))).2.1)) (nth s0 (Int.toNat (dn ((q.length : Int) - 1) k0)))) (Int.toNat (dn ((q.length : Int) - 1) k0))))) else (.next s0)))
def Br (_ : Nat) (s0 : (List Bool)) : (List Bool) := s0
def Zm (q : (List X7)) : (List Bool) := (bif (!(Yi q)) then [] else (Out.on (Ha (Ws q) Br (List.length q) 0 (List.replicate (Int.toNat (q.length : Int)) false)) (fun y0 => y0)))
theorem N9 (q : (List X7)) : ACalls Tryz.prog 169 [.h q] (.o 0 (Zm q)) := by
 refine en Qa Tryz.func169 fun w0 F0 hG => ?_
 refine sn Qa [0, 2] [] (p0) ?_
 refine Qc ?_
 refine tn Qa [0, 2, 9] [] (pc 1 (Vs q) p0) ?_
 refine ck (!(Yi q)) (fun h1 => ?_) (fun h1 => ?_)
 ·
  refine tu Qa [(2, .one (.slc (.own true 640) 1 []))] [] [] [] (p0) ?_
  refine Qe ?_
  exact po0 [] (Q1 h1 (rfl))
 have h1n : (Yi q) = true := Vd h1
 refine Qh ?_
 refine wT 0 0 .sh q (fun hw2 hl3 => ?_)
 refine tu Qa [(2, .e 0), (3, .one (.slc (.own true 832) 1 (List.replicate (Int.toNat (q.length : Int)) [.b false])))] [] [] [] (pl 1 q (px (Cs (lo := 0) (hi := (q.length : Int)) (n := 1073741824) (⟨by omega, by omega, by omega⟩)) p0)) ?_
 refine eqn [(3, .o 832 (List.replicate (Int.toNat (q.length : Int)) false))] [3] [] [] (by rw [show (List.replicate (Int.toNat (q.length : Int)) [.b false]) = (eL (List.replicate (Int.toNat (q.length : Int)) false)) from mk_eL _ false]; first | done | kernel_rfl) ?_
 refine Qc ?_
 refine sn Qa [0, 2, 3, 4] [] (pl 1 q (pe 2 (Jw (IntWalk.i64_in ((q.length : Int) - 1) (by omega))) p0)) ?_
 refine mz [(4, .i ((q.length : Int) - 1))] [] [] [] ?_
 refine blN3 (Ws q) Br (List.length q) (List.replicate (Int.toNat (q.length : Int)) false) (fun k0 s0 => [(3, .o 832 s0), (4, .i (dn ((q.length : Int) - 1) k0))]) [3, 4] (fun y0 => [(3, .o 832 y0)]) [0, 3, 4] (fun _ s0 => List.length s0 = (Int.toNat (q.length : Int))) (fun y0 => List.length y0 = (Int.toNat (q.length : Int))) wf0 (by simp) (fun k0 s0 hk0 hI0 => ?_) (fun k0 s0 hk0 hI0 => ?_) (fun y0 hD0 => ?_)
 ·
  have hA0_0 := hI0.2
  have hdn0 := UG ((q.length : Int) - 1) k0
  refine Qc ?_
  refine sn Qa [0, 2, 3, 4, 18] [] (pe 1 (Qw (decide_eq_true (p := (dn ((q.length : Int) - 1) k0) ≥ (0 : Int)) (by omega))) p0) ?_
  refine ckT ?_
  refine Qh ?_
  refine Qc ?_
  refine Qt ?_
  have hx4 := ng q (Int.toNat (dn ((q.length : Int) - 1) k0))
  refine tn Qa [0, 2, 3, 4, 5] [5] (pg 2 (dn ((q.length : Int) - 1) k0) hx4 p0) ?_
  refine Qc ?_
  refine mz [(5, .p 5 0)] [] [(5, [.i ((nth q (Int.toNat (dn ((q.length : Int) - 1) k0))).1), .i ((nth q (Int.toNat (dn ((q.length : Int) - 1) k0))).2.1), .i ((nth q (Int.toNat (dn ((q.length : Int) - 1) k0))).2.2.1), .s ((nth q (Int.toNat (dn ((q.length : Int) - 1) k0))).2.2.2.1), .i ((nth q (Int.toNat (dn ((q.length : Int) - 1) k0))).2.2.2.2.1), .i ((nth q (Int.toNat (dn ((q.length : Int) - 1) k0))).2.2.2.2.2.1), .s ((nth q (Int.toNat (dn ((q.length : Int) - 1) k0))).2.2.2.2.2.2)])] [] ?_
  refine jn [(6, .b (((nth q (Int.toNat (dn ((q.length : Int) - 1) k0))).1 == (6 : Int)) || ((nth q (Int.toNat (dn ((q.length : Int) - 1) k0))).1 == (7 : Int))))] [] [] [] ((nth q (Int.toNat (dn ((q.length : Int) - 1) k0))).1 == (6 : Int)) (fun h5 => ?_) (fun h5 => ?_) ?_
  ·
   have h5k := AB (M6 h1n) (by omega) (by omega) h5; have h5m := qr_b (M6 h1n) (by omega) (by omega) h5
   refine rn Qa [0, 2, 3, 4, 5, 6] [5] (pt 2 h5 p0) ?_
   exact ⟨rfl, Qf (by rw [h5] <;> kernel_rfl)⟩
  ·
   refine rn Qa [0, 2, 3, 4, 5, 6] [5] (pf 2 h5 p0) ?_
   exact ⟨rfl, Qf (by rw [h5] <;> kernel_rfl)⟩
  refine Qc ?_
  refine sn Qa [0, 2, 3, 4, 5, 6, 35] [5] (p0) ?_
  refine ck ((nth q (Int.toNat (dn ((q.length : Int) - 1) k0))).1 == (5 : Int)) (fun h6 => ?_) (fun h6 => ?_)
  ·
   have h6k := ql_a (M6 h1n) (by omega) (by omega) h6
   have h6d := eq_of_beq h6
   refine wT 3 0 (.own true 832) s0 (fun hw8 hl9 => ?_)
   have hx7 := ng s0 (Int.toNat ((nth q (Int.toNat (dn ((q.length : Int) - 1) k0))).2.1))
   refine qu Qa [(3, .one (.slc (.own true 832) 1 (setRow (eL s0) (Int.toNat ((nth q (Int.toNat (dn ((q.length : Int) - 1) k0))).2.1)) 0 [.b true])))] [3] [] [] (pG 3 ((nth q (Int.toNat (dn ((q.length : Int) - 1) k0))).2.1) hx7 p0) ?_
   refine eqn [(3, .o 832 (List.set s0 (Int.toNat ((nth q (Int.toNat (dn ((q.length : Int) - 1) k0))).2.1)) true))] [3] [] [] (by rw [Zx (y := true) hx7 rfl] <;> kernel_rfl) ?_
   refine sn Qa [0, 2, 3, 4, 5, 40] [5] (p0) ?_
   refine ck (((nth q (Int.toNat (dn ((q.length : Int) - 1) k0))).1 == (6 : Int)) || ((nth q (Int.toNat (dn ((q.length : Int) - 1) k0))).1 == (7 : Int))) (fun h10 => ?_) (fun h10 => ?_)
   ·
    have h10k := qlr_bc (M6 h1n) (by omega) (by omega) h10
    refine wT 3 0 (.own true 832) (List.set s0 (Int.toNat ((nth q (Int.toNat (dn ((q.length : Int) - 1) k0))).2.1)) true) (fun hw12 hl13 => ?_)
    have hx11 := ng (List.set s0 (Int.toNat ((nth q (Int.toNat (dn ((q.length : Int) - 1) k0))).2.1)) true) (Int.toNat (dn ((q.length : Int) - 1) k0)) (by first | omega | (simp only [List.length_set]; omega))
    have hx14 := ng (List.set s0 (Int.toNat ((nth q (Int.toNat (dn ((q.length : Int) - 1) k0))).2.1)) true) (Int.toNat ((nth q (Int.toNat (dn ((q.length : Int) - 1) k0))).2.1)) (by first | omega | (simp only [List.length_set]; omega))
    refine tU Qa Yc [(3, .one (.slc (.own true 832) 1 (setRow (eL (List.set s0 (Int.toNat ((nth q (Int.toNat (dn ((q.length : Int) - 1) k0))).2.1)) true)) (Int.toNat ((nth q (Int.toNat (dn ((q.length : Int) - 1) k0))).2.1)) 0 [.b (nth (List.set s0 (Int.toNat ((nth q (Int.toNat (dn ((q.length : Int) - 1) k0))).2.1)) true) (Int.toNat (dn ((q.length : Int) - 1) k0)))])))] [3, 6] [] [] (pG 5 (dn ((q.length : Int) - 1) k0) hx11 (pG 7 ((nth q (Int.toNat (dn ((q.length : Int) - 1) k0))).2.1) hx14 p0)) ?_
    refine eqn [(3, .o 832 (List.set (List.set s0 (Int.toNat ((nth q (Int.toNat (dn ((q.length : Int) - 1) k0))).2.1)) true) (Int.toNat ((nth q (Int.toNat (dn ((q.length : Int) - 1) k0))).2.1)) (nth (List.set s0 (Int.toNat ((nth q (Int.toNat (dn ((q.length : Int) - 1) k0))).2.1)) true) (Int.toNat (dn ((q.length : Int) - 1) k0)))))] [3] [] [] (by rw [Zx (y := (nth (List.set s0 (Int.toNat ((nth q (Int.toNat (dn ((q.length : Int) - 1) k0))).2.1)) true) (Int.toNat (dn ((q.length : Int) - 1) k0)))) hx14 rfl] <;> kernel_rfl) ?_
    refine wT 3 0 (.own true 832) (List.set (List.set s0 (Int.toNat ((nth q (Int.toNat (dn ((q.length : Int) - 1) k0))).2.1)) true) (Int.toNat ((nth q (Int.toNat (dn ((q.length : Int) - 1) k0))).2.1)) (nth (List.set s0 (Int.toNat ((nth q (Int.toNat (dn ((q.length : Int) - 1) k0))).2.1)) true) (Int.toNat (dn ((q.length : Int) - 1) k0)))) (fun hw16 hl17 => ?_)
    have hx15 := ng (List.set (List.set s0 (Int.toNat ((nth q (Int.toNat (dn ((q.length : Int) - 1) k0))).2.1)) true) (Int.toNat ((nth q (Int.toNat (dn ((q.length : Int) - 1) k0))).2.1)) (nth (List.set s0 (Int.toNat ((nth q (Int.toNat (dn ((q.length : Int) - 1) k0))).2.1)) true) (Int.toNat (dn ((q.length : Int) - 1) k0)))) (Int.toNat (dn ((q.length : Int) - 1) k0)) (by first | omega | (simp only [List.length_set]; omega))
    have hx18 := ng (List.set (List.set s0 (Int.toNat ((nth q (Int.toNat (dn ((q.length : Int) - 1) k0))).2.1)) true) (Int.toNat ((nth q (Int.toNat (dn ((q.length : Int) - 1) k0))).2.1)) (nth (List.set s0 (Int.toNat ((nth q (Int.toNat (dn ((q.length : Int) - 1) k0))).2.1)) true) (Int.toNat (dn ((q.length : Int) - 1) k0)))) (Int.toNat ((nth q (Int.toNat (dn ((q.length : Int) - 1) k0))).2.2.1)) (by first | omega | (simp only [List.length_set]; omega))
    refine rU Qa Yc [(3, .one (.slc (.own true 832) 1 (setRow (eL (List.set (List.set s0 (Int.toNat ((nth q (Int.toNat (dn ((q.length : Int) - 1) k0))).2.1)) true) (Int.toNat ((nth q (Int.toNat (dn ((q.length : Int) - 1) k0))).2.1)) (nth (List.set s0 (Int.toNat ((nth q (Int.toNat (dn ((q.length : Int) - 1) k0))).2.1)) true) (Int.toNat (dn ((q.length : Int) - 1) k0))))) (Int.toNat ((nth q (Int.toNat (dn ((q.length : Int) - 1) k0))).2.2.1)) 0 [.b (nth (List.set (List.set s0 (Int.toNat ((nth q (Int.toNat (dn ((q.length : Int) - 1) k0))).2.1)) true) (Int.toNat ((nth q (Int.toNat (dn ((q.length : Int) - 1) k0))).2.1)) (nth (List.set s0 (Int.toNat ((nth q (Int.toNat (dn ((q.length : Int) - 1) k0))).2.1)) true) (Int.toNat (dn ((q.length : Int) - 1) k0)))) (Int.toNat (dn ((q.length : Int) - 1) k0)))])))] [3, 5] [] [5] (pG 5 (dn ((q.length : Int) - 1) k0) hx15 (pG 7 ((nth q (Int.toNat (dn ((q.length : Int) - 1) k0))).2.2.1) hx18 p0)) ?_
    refine eqn [(3, .o 832 (List.set (List.set (List.set s0 (Int.toNat ((nth q (Int.toNat (dn ((q.length : Int) - 1) k0))).2.1)) true) (Int.toNat ((nth q (Int.toNat (dn ((q.length : Int) - 1) k0))).2.1)) (nth (List.set s0 (Int.toNat ((nth q (Int.toNat (dn ((q.length : Int) - 1) k0))).2.1)) true) (Int.toNat (dn ((q.length : Int) - 1) k0)))) (Int.toNat ((nth q (Int.toNat (dn ((q.length : Int) - 1) k0))).2.2.1)) (nth (List.set (List.set s0 (Int.toNat ((nth q (Int.toNat (dn ((q.length : Int) - 1) k0))).2.1)) true) (Int.toNat ((nth q (Int.toNat (dn ((q.length : Int) - 1) k0))).2.1)) (nth (List.set s0 (Int.toNat ((nth q (Int.toNat (dn ((q.length : Int) - 1) k0))).2.1)) true) (Int.toNat (dn ((q.length : Int) - 1) k0)))) (Int.toNat (dn ((q.length : Int) - 1) k0)))))] [3] [] [] (by rw [Zx (y := (nth (List.set (List.set s0 (Int.toNat ((nth q (Int.toNat (dn ((q.length : Int) - 1) k0))).2.1)) true) (Int.toNat ((nth q (Int.toNat (dn ((q.length : Int) - 1) k0))).2.1)) (nth (List.set s0 (Int.toNat ((nth q (Int.toNat (dn ((q.length : Int) - 1) k0))).2.1)) true) (Int.toNat (dn ((q.length : Int) - 1) k0)))) (Int.toNat (dn ((q.length : Int) - 1) k0)))) hx18 rfl] <;> kernel_rfl) ?_
    refine rn Qa [0, 2, 3, 4] [] (pe 1 (show .i (IntKind.i64.wrap ((dn ((q.length : Int) - 1) k0) - 1)) = .i (dn ((q.length : Int) - 1) (k0 + 1)) from Jw (show IntKind.i64.wrap ((dn ((q.length : Int) - 1) k0) - 1) = (dn ((q.length : Int) - 1) (k0 + 1)) from IntWalk.i64_in ((dn ((q.length : Int) - 1) k0) - 1) (by omega))) p0) ?_
    exact xw (List.set (List.set (List.set s0 (Int.toNat ((nth q (Int.toNat (dn ((q.length : Int) - 1) k0))).2.1)) true) (Int.toNat ((nth q (Int.toNat (dn ((q.length : Int) - 1) k0))).2.1)) (nth (List.set s0 (Int.toNat ((nth q (Int.toNat (dn ((q.length : Int) - 1) k0))).2.1)) true) (Int.toNat (dn ((q.length : Int) - 1) k0)))) (Int.toNat ((nth q (Int.toNat (dn ((q.length : Int) - 1) k0))).2.2.1)) (nth (List.set (List.set s0 (Int.toNat ((nth q (Int.toNat (dn ((q.length : Int) - 1) k0))).2.1)) true) (Int.toNat ((nth q (Int.toNat (dn ((q.length : Int) - 1) k0))).2.1)) (nth (List.set s0 (Int.toNat ((nth q (Int.toNat (dn ((q.length : Int) - 1) k0))).2.1)) true) (Int.toNat (dn ((q.length : Int) - 1) k0)))) (Int.toNat (dn ((q.length : Int) - 1) k0)))) ⟨W8 hk0 (Q1 h6 (Q1 h10 (rfl))) hI0.1, (by first | omega | (simp only [List.length_set]; omega))⟩
   have h10l : (((nth q (Int.toNat (dn ((q.length : Int) - 1) k0))).1 == (6 : Int))) = false := DD h10
   have h10ld := Ym h10l
   have h10r : (((nth q (Int.toNat (dn ((q.length : Int) - 1) k0))).1 == (7 : Int))) = false := UH h10
   have h10rd := Ym h10r
   refine Qh ?_
   refine qn Qa [0, 2, 3, 4] [] (pe 1 (show .i (IntKind.i64.wrap ((dn ((q.length : Int) - 1) k0) - 1)) = .i (dn ((q.length : Int) - 1) (k0 + 1)) from Jw (show IntKind.i64.wrap ((dn ((q.length : Int) - 1) k0) - 1) = (dn ((q.length : Int) - 1) (k0 + 1)) from IntWalk.i64_in ((dn ((q.length : Int) - 1) k0) - 1) (by omega))) p0) ?_
   exact xw (List.set s0 (Int.toNat ((nth q (Int.toNat (dn ((q.length : Int) - 1) k0))).2.1)) true) ⟨W8 hk0 (Q1 h6 (Ql h10 (rfl))) hI0.1, (by first | omega | (simp only [List.length_set]; omega))⟩
  have h6d := Ym h6
  refine Qh ?_
  refine tn Qa [0, 2, 3, 4, 5, 40] [5] (p0) ?_
  refine ck (((nth q (Int.toNat (dn ((q.length : Int) - 1) k0))).1 == (6 : Int)) || ((nth q (Int.toNat (dn ((q.length : Int) - 1) k0))).1 == (7 : Int))) (fun h19 => ?_) (fun h19 => ?_)
  ·
   have h19k := qlr_bc (M6 h1n) (by omega) (by omega) h19
   refine wT 3 0 (.own true 832) s0 (fun hw21 hl22 => ?_)
   have hx20 := ng s0 (Int.toNat (dn ((q.length : Int) - 1) k0))
   have hx23 := ng s0 (Int.toNat ((nth q (Int.toNat (dn ((q.length : Int) - 1) k0))).2.1))
   refine tU Qa Yc [(3, .one (.slc (.own true 832) 1 (setRow (eL s0) (Int.toNat ((nth q (Int.toNat (dn ((q.length : Int) - 1) k0))).2.1)) 0 [.b (nth s0 (Int.toNat (dn ((q.length : Int) - 1) k0)))])))] [3, 6] [] [] (pG 5 (dn ((q.length : Int) - 1) k0) hx20 (pG 7 ((nth q (Int.toNat (dn ((q.length : Int) - 1) k0))).2.1) hx23 p0)) ?_
   refine eqn [(3, .o 832 (List.set s0 (Int.toNat ((nth q (Int.toNat (dn ((q.length : Int) - 1) k0))).2.1)) (nth s0 (Int.toNat (dn ((q.length : Int) - 1) k0)))))] [3] [] [] (by rw [Zx (y := (nth s0 (Int.toNat (dn ((q.length : Int) - 1) k0)))) hx23 rfl] <;> kernel_rfl) ?_
   refine wT 3 0 (.own true 832) (List.set s0 (Int.toNat ((nth q (Int.toNat (dn ((q.length : Int) - 1) k0))).2.1)) (nth s0 (Int.toNat (dn ((q.length : Int) - 1) k0)))) (fun hw25 hl26 => ?_)
   have hx24 := ng (List.set s0 (Int.toNat ((nth q (Int.toNat (dn ((q.length : Int) - 1) k0))).2.1)) (nth s0 (Int.toNat (dn ((q.length : Int) - 1) k0)))) (Int.toNat (dn ((q.length : Int) - 1) k0)) (by first | omega | (simp only [List.length_set]; omega))
   have hx27 := ng (List.set s0 (Int.toNat ((nth q (Int.toNat (dn ((q.length : Int) - 1) k0))).2.1)) (nth s0 (Int.toNat (dn ((q.length : Int) - 1) k0)))) (Int.toNat ((nth q (Int.toNat (dn ((q.length : Int) - 1) k0))).2.2.1)) (by first | omega | (simp only [List.length_set]; omega))
   refine rU Qa Yc [(3, .one (.slc (.own true 832) 1 (setRow (eL (List.set s0 (Int.toNat ((nth q (Int.toNat (dn ((q.length : Int) - 1) k0))).2.1)) (nth s0 (Int.toNat (dn ((q.length : Int) - 1) k0))))) (Int.toNat ((nth q (Int.toNat (dn ((q.length : Int) - 1) k0))).2.2.1)) 0 [.b (nth (List.set s0 (Int.toNat ((nth q (Int.toNat (dn ((q.length : Int) - 1) k0))).2.1)) (nth s0 (Int.toNat (dn ((q.length : Int) - 1) k0)))) (Int.toNat (dn ((q.length : Int) - 1) k0)))])))] [3, 5] [] [5] (pG 5 (dn ((q.length : Int) - 1) k0) hx24 (pG 7 ((nth q (Int.toNat (dn ((q.length : Int) - 1) k0))).2.2.1) hx27 p0)) ?_
   refine eqn [(3, .o 832 (List.set (List.set s0 (Int.toNat ((nth q (Int.toNat (dn ((q.length : Int) - 1) k0))).2.1)) (nth s0 (Int.toNat (dn ((q.length : Int) - 1) k0)))) (Int.toNat ((nth q (Int.toNat (dn ((q.length : Int) - 1) k0))).2.2.1)) (nth (List.set s0 (Int.toNat ((nth q (Int.toNat (dn ((q.length : Int) - 1) k0))).2.1)) (nth s0 (Int.toNat (dn ((q.length : Int) - 1) k0)))) (Int.toNat (dn ((q.length : Int) - 1) k0)))))] [3] [] [] (by rw [Zx (y := (nth (List.set s0 (Int.toNat ((nth q (Int.toNat (dn ((q.length : Int) - 1) k0))).2.1)) (nth s0 (Int.toNat (dn ((q.length : Int) - 1) k0)))) (Int.toNat (dn ((q.length : Int) - 1) k0)))) hx27 rfl] <;> kernel_rfl) ?_
   refine rn Qa [0, 2, 3, 4] [] (pe 1 (show .i (IntKind.i64.wrap ((dn ((q.length : Int) - 1) k0) - 1)) = .i (dn ((q.length : Int) - 1) (k0 + 1)) from Jw (show IntKind.i64.wrap ((dn ((q.length : Int) - 1) k0) - 1) = (dn ((q.length : Int) - 1) (k0 + 1)) from IntWalk.i64_in ((dn ((q.length : Int) - 1) k0) - 1) (by omega))) p0) ?_
   exact xw (List.set (List.set s0 (Int.toNat ((nth q (Int.toNat (dn ((q.length : Int) - 1) k0))).2.1)) (nth s0 (Int.toNat (dn ((q.length : Int) - 1) k0)))) (Int.toNat ((nth q (Int.toNat (dn ((q.length : Int) - 1) k0))).2.2.1)) (nth (List.set s0 (Int.toNat ((nth q (Int.toNat (dn ((q.length : Int) - 1) k0))).2.1)) (nth s0 (Int.toNat (dn ((q.length : Int) - 1) k0)))) (Int.toNat (dn ((q.length : Int) - 1) k0)))) ⟨W8 hk0 (Ql h6 (Q1 h19 (rfl))) hI0.1, (by first | omega | (simp only [List.length_set]; omega))⟩
  have h19l : (((nth q (Int.toNat (dn ((q.length : Int) - 1) k0))).1 == (6 : Int))) = false := DD h19
  have h19ld := Ym h19l
  have h19r : (((nth q (Int.toNat (dn ((q.length : Int) - 1) k0))).1 == (7 : Int))) = false := UH h19
  have h19rd := Ym h19r
  refine Qh ?_
  refine qu Qa [(4, .i (dn ((q.length : Int) - 1) (k0 + 1)))] [4, 5, 6] [] [5] (pe 1 (show .i (IntKind.i64.wrap ((dn ((q.length : Int) - 1) k0) - 1)) = .i (dn ((q.length : Int) - 1) (k0 + 1)) from Jw (show IntKind.i64.wrap ((dn ((q.length : Int) - 1) k0) - 1) = (dn ((q.length : Int) - 1) (k0 + 1)) from IntWalk.i64_in ((dn ((q.length : Int) - 1) k0) - 1) (by omega))) p0) ?_
  exact xw s0 ⟨W8 hk0 (Ql h6 (Ql h19 (rfl))) hI0.1, (by first | omega | (simp only [List.length_set]; omega))⟩
 ·
  have hA0_0 := hI0.2
  have hdn0 := UG ((q.length : Int) - 1) k0
  refine Qc ?_
  refine sn Qa [0, 2, 3, 4, 18] [] (pe 1 (Qw (decide_eq_false (p := (dn ((q.length : Int) - 1) k0) ≥ (0 : Int)) (by omega))) p0) ?_
  refine ckF ?_
  refine Q2 ?_
  exact xw s0 ⟨Gk hk0 (rfl) hI0.1, by first | omega | (simp only [List.length_set]; omega)⟩
 have hD0_0 := hD0.2
 refine sn Qa [2] [] (p0) ?_
 refine Qe ?_
 exact po0 [] (Ql h1 (Un hD0.1 (rfl)))
theorem Ec {α : Type} [Inhabited α] {l : List α} {i j : Nat} (x : α) (h : j ≠ i) : nth (l.set j x) i = nth l i := by
  simp [nth, List.getD, List.getElem?_set_ne h]
theorem FP {q : List X7} (hv : Qv q = true) {k : Nat} (hk : k < q.length) (s : List Bool) : Y3 q k s = Ws q k s := by
  have hdn := UG ((q.length : Int) - 1) k
  obtain ⟨hl, hr⟩ := Cz hv (k := dn ((q.length : Int) - 1) k) (by omega) (by omega)
  unfold Y3 Ws
  generalize hi : dn ((q.length : Int) - 1) k = i at hl hr ⊢
  generalize nth q (Int.toNat i) = n at hl hr ⊢
  by_cases h5 : n.1 = 5
  · simp [h5]
  by_cases h6 : n.1 = 6
  · have := hl (.inr (.inl h6))
    simp [h6]
    rw [Ec _ (by omega)]
  by_cases h7 : n.1 = 7
  · have := hl (.inr (.inr h7))
    simp [h7]
    rw [Ec _ (by omega)]
  simp only [beq_eq_false_iff_ne.2 h5, beq_eq_false_iff_ne.2 h6, beq_eq_false_iff_ne.2 h7, Bool.or_false, cond_false]
theorem XQ (q : List X7) : Zm q = Xd q := by
  unfold Zm Xd
  rw [← vq_eq]
  cases hv : Qv q with
  | false => rfl
  | true =>
    simp only [Bool.not_true, cond_false]
    rw [XO (f := Ws q) (g := Y3 q) (e := Br) (e' := Wr) (fun _ _ => rfl) _ _ _ fun i s _ hi => (FP hv (by omega) s).symm]
theorem KL (q : List X7) (k : Nat) (s : List Bool) : ∃ s', Y3 q k s = .next s' ∧ s'.length = s.length := by
  unfold Y3
  generalize ((nth q (Int.toNat (dn ((q.length : Int) - 1) k))).1 == (5 : Int)) = a
  generalize ((nth q (Int.toNat (dn ((q.length : Int) - 1) k))).1 == (6 : Int)) = b
  generalize ((nth q (Int.toNat (dn ((q.length : Int) - 1) k))).1 == (7 : Int)) = c
  cases a <;> cases b <;> cases c <;> exact ⟨_, rfl, by simp⟩
theorem Rg (q : List X7) : ∀ (n k : Nat) (s : List Bool), ∃ s', Ha (Y3 q) Wr n k s = .brk s' ∧ s'.length = s.length
  | 0, k, s => ⟨s, rfl, rfl⟩
  | n + 1, k, s => by
    obtain ⟨s1, h1, h2⟩ := KL q k s
    obtain ⟨s2, h3, h4⟩ := Rg q n (k + 1) s1
    refine ⟨s2, ?_, h4.trans h2⟩
    simp only [Ha, h1]
    exact h3
theorem M7 (q : List X7) : List.length (Xd q) ≤ List.length q := by
  unfold Xd
  cases Qv q with
  | false => exact Nat.zero_le _
  | true =>
    obtain ⟨s, h1, h2⟩ := Rg q (List.length q) 0 (List.replicate (Int.toNat (q.length : Int)) false)
    simp only [Bool.not_true, cond_false, h1, Out.on]
    rw [h2]
    simp
theorem KM (q : List X7) : List.length (Zm q) ≤ List.length q := by rw [XQ]; exact M7 q
end
section
open Go.RowKit Go.Sort
open GoE (enc)
structure OneC (α σ : Type) [GoE α] where
  to : α → σ
  of : σ → α
  cell : σ → Value
  pv : α → PV
  ok : α → Prop
  of_to : ∀ a, of (to a) = a
  to_of : ∀ s, to (of s) = s
  enc_eq : ∀ a, enc a = [pv a]
  flat : ∀ a, (pv a).flat
  vv : ∀ (X : Nat → Prop) (w : World) v a, VV X w v (pv a) ↔ v = cell (to a) ∧ ok a
def oneS : OneC ByteArray (List UInt8) where
  to b := b.data.toList
  of s := ⟨s.toArray⟩
  cell := encStr
  pv := .str
  ok b := b.size ≤ maxLen
  of_to b := by cases b; simp
  to_of s := by simp
  enc_eq _ := rfl
  flat _ := trivial
  vv X w v a := by
    have e : encStr a.data.toList = .string a := by cases a; simp [encStr]
    rw [e]
    exact ⟨fun h => by cases h with | str h => exact ⟨rfl, h⟩, fun ⟨h1, h2⟩ => by subst h1; exact .str h2⟩
section
variable {α σ : Type} [GoE α] (C : OneC α σ)
theorem FQ {X : Nat → Prop} {w : World} : ∀ {l : List α} {cs : List Value}, VR X w 1 cs (eL l) → cs = (l.map C.to).map C.cell ∧ ∀ a, a ∈ l → C.ok a
  | [], cs, h => by
    generalize hr : eL ([] : List α) = r at h
    cases h with
    | nil => exact ⟨rfl, fun a ha => by simp at ha⟩
    | cons => cases hr
  | a :: l, cs, h => by
    generalize hr : eL (a :: l) = r at h
    cases h with
    | nil => cases hr
    | cons h1 h2 h3 =>
      rw [YZ, C.enc_eq] at hr
      obtain ⟨rfl, rfl⟩ : [C.pv a] = _ ∧ eL l = _ := by simpa using hr
      obtain ⟨e, hok⟩ := FQ h3
      cases h1 with
      | cons h4 h5 =>
        cases h5
        obtain ⟨rfl, ha⟩ := (C.vv X w _ a).1 h4
        exact ⟨by rw [e]; rfl, fun b hb => (List.mem_cons.1 hb).elim (fun e => e ▸ ha) (hok b)⟩
theorem FR {X : Nat → Prop} {w : World} : ∀ {l : List α}, (∀ a, a ∈ l → C.ok a) → VR X w 1 ((l.map C.to).map C.cell) (eL l)
  | [], _ => .nil 1
  | a :: l, h => by
    rw [YZ, C.enc_eq]
    exact VR.cons (ce := [C.cell (C.to a)]) (.cons ((C.vv X w _ a).2 ⟨rfl, h a List.mem_cons_self⟩) .nil) rfl (FR fun b hb => h b (List.mem_cons_of_mem _ hb))
theorem eL_flat (l : List α) : (eL l).flatten = l.map C.pv := by
  induction l with
  | nil => rfl
  | cons a l ih => rw [YZ, C.enc_eq, List.flatten_cons, ih]; rfl
theorem eL_pv (l : List α) : eL l = (l.map C.pv).map fun c => [c] := by
  simp [eL, C.enc_eq, Function.comp_def]
theorem AC (e : σ → Value) [Inhabited σ] (d : Array σ) (cur : Array Value) (h : d.size ≤ cur.size) : (Go.Sort.putCells e 0 d cur).toList = d.toList.map e ++ cur.toList.drop d.size := by
  apply List.ext_getElem?
  intro j
  unfold Go.Sort.putCells
  rw [Array.getElem?_toList, Array.getElem?_mapIdx]
  by_cases hj : j < d.size
  · rw [List.getElem?_append_left (by simpa using hj), Array.getElem?_eq_getElem (by omega : j < cur.size), List.getElem?_map, Array.getElem?_toList, Array.getElem?_eq_getElem hj]
    simp only [Option.map_some]
    rw [if_pos ⟨Nat.zero_le _, by omega⟩, Nat.sub_zero, getElem!_pos d j hj]
  rw [List.getElem?_append_right (by simpa using Nat.le_of_not_lt hj), List.getElem?_drop]
  have e1 : d.size + (j - (d.toList.map e).length) = j := by simp; omega
  rw [e1, Array.getElem?_toList]
  cases cur[j]? with
  | none => rfl
  | some x => simp; omega
theorem M8 {e : σ → Value} [Inhabited σ] {w : World} {g : Nat} {cur : Array Value} {ty : TypeId} (hg : w.heap[g]? = some (.cells cur ty (0, 0))) (q : Nat) (d : Array σ) (os : Array Obj) :
    (grow (putRow e (Sort.ahead w q) g 0 d) os).heap[g]? = some (.cells (Go.Sort.putCells e 0 d cur) ty (0, 0)) := by
  have hlt : g < w.heap.size := Q4 hg
  unfold grow putRow mapBlock Sort.ahead
  simp only [Array.getElem?_append, Array.size_modify]
  rw [if_pos hlt, Array.getElem?_modify, if_pos rfl, hg]
  rfl
theorem Rh {e : σ → Value} [Inhabited σ] (w : World) (g q : Nat) (d : Array σ) (os : Array Obj) : (∀ b, b < w.heap.size → b ≠ g → (grow (putRow e (Sort.ahead w q) g 0 d) os).heap[b]? = w.heap[b]?) ∧ ∀ m, m ≤ g → m ≤ w.heap.size → Below m w (grow (putRow e (Sort.ahead w q) g 0 d) os) := by
  have h : ∀ b, b < w.heap.size → b ≠ g → (grow (putRow e (Sort.ahead w q) g 0 d) os).heap[b]? = w.heap[b]? := fun b hb hn => by
    unfold grow putRow mapBlock Sort.ahead
    simp only [Array.getElem?_append, Array.size_modify]
    rw [if_pos hb, Array.getElem?_modify, if_neg (fun e => hn e.symm)]
  refine ⟨h, fun m hm hs => ⟨rfl, rfl, rfl, ?_, fun b hb => h b (by omega) (by omega)⟩⟩
  unfold grow putRow mapBlock Sort.ahead
  simp
theorem AD {e : σ → Value} [Inhabited σ] {g : Nat} {w : World} {cur : Array Value} {ty : TypeId} {l : List σ} (hg : w.heap[g]? = some (.cells cur ty (0, 0))) (ht : cur.toList.take l.length = l.map e) : Holds e w g 0 l.toArray := by
  intro j hj
  have hjl : j < l.length := by simpa using hj
  have hc : cur[j]? = some (e l[j]) := by
    have h5 : (cur.toList.take l.length)[j]? = (l.map e)[j]? := by rw [ht]
    rw [List.getElem?_take, if_pos hjl, List.getElem?_map, List.getElem?_eq_getElem hjl, Array.getElem?_toList] at h5
    exact h5
  refine ⟨?_, ?_⟩
  · rw [Nat.zero_add]
    simp [World.cell?, hg, hc, getElem!_pos, hjl]
  simp [World.frozen?, hg]
variable {P : Program} [Inhabited σ]
theorem FS (F : Nat → Prop) (L : List Nat) (w : World) (oa : Option Addr) : TRet F L w 1 true [] (.returned (.tuple #[])) w :=
  ⟨_, rfl, fun m _ _ => Below.refl _ _, fun _ _ _ => rfl, rfl, fun v2 l2 h => by simpa [Sg] using h⟩
theorem CH {f : Nat} (hok : Dt P f) (srt : List σ → List σ) (hlen : ∀ l, (srt l).length = l.length) (hmem : ∀ l x, x ∈ srt l → x ∈ l)
    (h0 : ∀ oa cap w, Calls P f #[.slice oa 0 cap] w fun e w' => e = .returned (.tuple #[]) ∧ w' = w)
    (h1 : ∀ g cap (l : List σ) w, Holds C.cell w g 0 l.toArray → g < w.heap.size → l.length < 4611686018427387904 → Calls P f #[.slice (some ⟨g, 0, none⟩) l.length cap] w fun e w' => e = .returned (.tuple #[]) ∧ ∃ n os, w' = grow (putRow C.cell (Sort.ahead w n) g 0 (srt l).toArray) os)
    (l : List α) : ATake P f 1 (eL l) [] false true (eL ((srt (l.map C.to)).map C.of)) := by
  refine ⟨hok, fun w F G L v vals _ hFG _ hGs _ hLG hrow hargs => ?_⟩
  cases hargs
  rcases hrow with ⟨hl, oa, rfl⟩ | ⟨g, cap, cur, ty, rfl, rfl, hg, hs, hr, h5, h6⟩
  · obtain rfl : l = [] := by simpa [eL] using hl
    have hs0 : srt [] = [] := List.eq_nil_of_length_eq_zero (by rw [hlen]; rfl)
    refine (h0 oa 0 w).mono ?_
    rintro e w' ⟨rfl, rfl⟩
    rw [List.map_nil, hs0]
    exact FS F L w' oa
  have hll : (eL l).length = l.length := by simp [eL]
  rw [hll] at hr h5 h6 ⊢
  rw [Nat.mul_one] at hr hs
  obtain ⟨hcs, hok'⟩ := FQ C hr
  have hH : Holds C.cell w g 0 (l.map C.to).toArray := AD hg (by rw [List.length_map]; exact hcs)
  have hc := h1 g cap (l.map C.to) w hH (Q4 hg) (by rw [List.length_map]; have := h6.2; omega)
  rw [List.length_map] at hc
  refine hc.mono ?_
  rintro e w' ⟨rfl, n, os, rfl⟩
  have hother := Rh (e := C.cell) w g n (srt (l.map C.to)).toArray os
  have hgl := Q4 hg
  refine ⟨_, rfl, fun m hm hL => hother.2 m (hL g (by simp)) hm, fun b hb hn => hother.1 b hb (by simpa using hn), rfl, fun v2 l2 h2 => ?_⟩
  rcases h2 with ⟨rfl, oa, rfl⟩ | ⟨g2, cap2, cur2, ty2, hL2, rfl, hg2, hs2, hr2, h7, h8⟩
  · exact .inl ⟨by simp [Sg], oa, rfl⟩
  obtain rfl : g = g2 := by simpa using hL2
  rw [hg] at hg2
  cases hg2
  rw [eL_flat C, Sg]
  have hd : (srt (l.map C.to)).toArray.size ≤ cur.size := by simp only [List.size_toArray, hlen, List.length_map]; omega
  have hlen2 : (List.map (fun c => [c]) (List.take l2.length (List.map C.pv (List.map C.of (srt (l.map C.to))))) ++ List.drop (List.map C.pv (List.map C.of (srt (l.map C.to)))).length l2).length = l2.length := by
    simp only [List.length_append, List.length_map, List.length_take, List.length_drop]
    omega
  refine .inr ⟨g, cap2, _, ty, rfl, by rw [hlen2], M8 hg n _ os, ?_, ?_, by rw [hlen2]; exact h7, by rw [hlen2]; exact h8⟩
  · simp [Go.Sort.putCells, hs2]
  rw [hlen2, Nat.mul_one, AC C.cell _ cur hd, List.take_append]
  rw [Nat.mul_one] at hr2
  refine VR.append ?_ ?_
  · have hk : VR F (grow (putRow C.cell (Sort.ahead w n) g 0 (srt (l.map C.to)).toArray) os) 1 (cur.toList.take l2.length) l2 := by
      refine hr2.keep fun b hb => ⟨hb, hother.1 b (hGs b (hFG b hb)) fun e => (hLG g (by simp)).2 (hFG g (e ▸ hb))⟩
    have := VR.drop (srt (l.map C.to)).length hk
    rw [Nat.mul_one, List.drop_take] at this
    simpa using this
  have hm : ∀ a, a ∈ (srt (l.map C.to)).map C.of → C.ok a := fun a ha => by
    obtain ⟨x, hx, rfl⟩ := List.mem_map.1 ha
    obtain ⟨b, hb, rfl⟩ := List.mem_map.1 (hmem _ _ hx)
    rw [C.of_to]; exact hok' b hb
  have := VR.take l2.length (FR C (X := F) (w := grow (putRow C.cell (Sort.ahead w n) g 0 (srt (l.map C.to)).toArray) os) hm)
  rw [Nat.mul_one, eL_pv C] at this
  simpa [List.map_take, Function.comp_def, C.to_of] using this
theorem CI {f : Nat} (hok : Dt P f) (cmp : List σ → List σ) (hlen : ∀ l, (cmp l).length ≤ l.length) (hmem : ∀ l x, x ∈ cmp l → x ∈ l)
    (h0 : ∀ oa cap w, Calls P f #[.slice oa 0 cap] w fun e w' => e = .returned (.slice oa 0 cap) ∧ w' = w)
    (h1 : ∀ g cap (l : List σ) w, Holds C.cell w g 0 l.toArray → l.length ≤ 9223372036854775807 → l.length ≤ cap → Calls P f #[.slice (some ⟨g, 0, none⟩) l.length cap] w fun e w' => e = .returned (.slice (some ⟨g, 0, none⟩) (cmp l).length cap) ∧ ∃ q pad, (cmp l ++ pad).length = l.length ∧ w' = putRow C.cell (Sort.ahead w q) g 0 (cmp l ++ pad).toArray)
    (l : List α) : ATake P f 1 (eL l) [] false false (eL ((cmp (l.map C.to)).map C.of)) := by
  refine ⟨hok, fun w F G L v vals _ hFG _ hGs _ hLG hrow hargs => ?_⟩
  cases hargs
  rcases hrow with ⟨hl, oa, rfl⟩ | ⟨g, cap, cur, ty, rfl, rfl, hg, hs, hr, h5, h6⟩
  · obtain rfl : l = [] := by simpa [eL] using hl
    have hs0 : cmp [] = [] := List.eq_nil_of_length_eq_zero (by have := hlen []; simpa using this)
    refine (h0 oa 0 w).mono ?_
    rintro e w' ⟨rfl, rfl⟩
    rw [List.map_nil, hs0]
    exact ⟨_, rfl, fun m _ _ => Below.refl _ _, fun _ _ _ => rfl, [], List.nodup_nil, fun b hb => (by simp at hb), .inl ⟨rfl, oa, rfl⟩⟩
  have hll : (eL l).length = l.length := by simp [eL]
  rw [hll] at hr h5 h6 ⊢
  rw [Nat.mul_one] at hr hs
  obtain ⟨hcs, hok'⟩ := FQ C hr
  have hH : Holds C.cell w g 0 (l.map C.to).toArray := AD hg (by rw [List.length_map]; exact hcs)
  have hc := h1 g cap (l.map C.to) w hH (by rw [List.length_map]; have := h6.2; omega) (by rw [List.length_map]; exact h5)
  rw [List.length_map] at hc
  refine hc.mono ?_
  rintro e w' ⟨rfl, q, pad, hpad, rfl⟩
  have hw : putRow C.cell (Sort.ahead w q) g 0 (cmp (l.map C.to) ++ pad).toArray = grow (putRow C.cell (Sort.ahead w q) g 0 (cmp (l.map C.to) ++ pad).toArray) #[] := (grow_empty _).symm
  rw [hw]
  have hother := Rh (e := C.cell) w g q (cmp (l.map C.to) ++ pad).toArray #[]
  have hgl := Q4 hg
  have hd : (cmp (l.map C.to) ++ pad).toArray.size ≤ cur.size := by rw [List.size_toArray, hpad]; omega
  have hle := hlen (l.map C.to)
  rw [List.length_map] at hle
  have hel : (eL ((cmp (l.map C.to)).map C.of)).length = (cmp (l.map C.to)).length := by simp [eL]
  have hsz : g < (grow (putRow C.cell (Sort.ahead w q) g 0 (cmp (l.map C.to) ++ pad).toArray) #[]).heap.size := Q4 (M8 hg q _ #[])
  refine ⟨_, rfl, fun m hm hL => hother.2 m (hL g (by simp)) hm, fun b hb hn => hother.1 b hb (by simpa using hn), [g], by simp, fun b hb => ?_, .inr ⟨g, cap, _, ty, rfl, by rw [hel], M8 hg q _ #[], ?_, ?_, by rw [hel]; omega, h6.1, by rw [hel]; have := h6.2; omega⟩⟩
  · obtain rfl := List.mem_singleton.1 hb
    exact ⟨hsz, .inr (by simp)⟩
  · simp [Go.Sort.putCells, hs]
  rw [hel, Nat.mul_one, AC C.cell _ cur hd]
  have hm : ∀ a, a ∈ (cmp (l.map C.to)).map C.of → C.ok a := fun a ha => by
    obtain ⟨x, hx, rfl⟩ := List.mem_map.1 ha
    obtain ⟨b, hb, rfl⟩ := List.mem_map.1 (hmem _ _ hx)
    rw [C.of_to]; exact hok' b hb
  have := FR C (X := F) (w := grow (putRow C.cell (Sort.ahead w q) g 0 (cmp (l.map C.to) ++ pad).toArray) #[]) hm
  have e1 : ((cmp (l.map C.to)).map C.of).map C.to = cmp (l.map C.to) := by simp [Function.comp_def, C.to_of]
  rw [e1] at this
  rw [List.map_append, List.append_assoc, List.take_left' (by simp)]
  exact VR.keep (fun b hb => ⟨.inl hb, rfl⟩) this
end
/-! ### the rows that Sort and Compact give, typed -/
def I1 (l : List ByteArray) : List ByteArray := ((l.map oneS.to).mergeSort fun x y => decide (x ≤ y)).map oneS.of
def Th (l : List ByteArray) : List ByteArray := (Lib.compact (l.map oneS.to)).map oneS.of
theorem comp_mem {σ : Type} [Inhabited σ] [DecidableEq σ] (l : List σ) (x : σ) (h : x ∈ Lib.compact l) : x ∈ l := by
  unfold Lib.compact Lib.compactUpTo at h
  simp only [List.mem_map, List.mem_filter, List.mem_range] at h
  obtain ⟨j, ⟨hj, _⟩, e⟩ := h
  have e1 : l.toArray[j]! = l[j] := by rw [getElem!_pos l.toArray j (by simpa using hj)]; simp
  rw [e1] at e
  exact e ▸ List.getElem_mem hj
theorem ZI {σ : Type} [Inhabited σ] [DecidableEq σ] (l : List σ) : (Lib.compact l).length ≤ l.length := by
  unfold Lib.compact Lib.compactUpTo
  rw [List.length_map]
  exact Nat.le_trans (List.length_filter_le _ _) (by rw [List.length_range]; exact Nat.le_refl _)
theorem KN (l : List ByteArray) : (I1 l).length = l.length := by simp [I1, List.length_mergeSort]
theorem FT (l : List ByteArray) : (Th l).length ≤ l.length := by
  have := ZI (l.map oneS.to)
  rw [List.length_map] at this
  simpa [Th] using this
theorem putR_all {α : Type} [GoE α] {l k : List α} (h1 : ∀ a : α, (enc a).length = 1) (h : k.length = l.length) : putR (eL l) 0 4294967296 (eL k).flatten = eL k := by
  have hk : ∀ k : List α, ((eL k).flatten.map fun c => [c]) = eL k := fun k => by
    induction k with
    | nil => rfl
    | cons a k ih =>
      rw [YZ, List.flatten_cons, List.map_append, ih]
      have := h1 a
      match enc a, this with
      | [p], _ => rfl
  have hf : (eL k).flatten.length = k.length := by
    have := congrArg List.length (hk k)
    rw [List.length_map] at this
    rw [this]
    simp [eL]
  show Sg (eL l) (eL k).flatten = eL k
  unfold Sg
  have e1 : (eL l).length = l.length := by simp [eL]
  rw [e1, List.take_of_length_le (by omega), hk, List.drop_of_length_le (by omega), List.append_nil]
end
section
open Go.RowKit
section
variable {σ : Type} (lt : σ → σ → Prop)
theorem AE (irr : ∀ a, ¬ lt a a) (tr : ∀ a b c, lt a b → lt b c → lt a c) : ∀ (a b : List σ), a.Pairwise lt → b.Pairwise lt → (∀ x, x ∈ a ↔ x ∈ b) → a = b
  | [], [], _, _, _ => rfl
  | [], y :: b, _, _, h => by have := (h y).2 (by simp); simp at this
  | x :: a, [], _, _, h => by have := (h x).1 (by simp); simp at this
  | x :: a, y :: b, ha, hb, h => by
    rw [List.pairwise_cons] at ha hb
    have h1 : x = y := by
      have hx := (h x).1 (by simp)
      have hy := (h y).2 (by simp)
      simp only [List.mem_cons] at hx hy
      rcases hx with e | hx
      · exact e
      rcases hy with e | hy
      · exact e.symm
      exact (irr x (tr _ _ _ (ha.1 y hy) (hb.1 x hx))).elim
    subst h1
    congr 1
    refine AE irr tr a b ha.2 hb.2 fun z => ?_
    have hz := h z
    simp only [List.mem_cons] at hz
    constructor
    · intro hm
      have hlt := ha.1 z hm
      rcases hz.1 (.inr hm) with e | e
      · subst e; exact (irr z hlt).elim
      exact e
    intro hm
    have hlt := hb.1 z hm
    rcases hz.2 (.inr hm) with e | e
    · subst e; exact (irr z hlt).elim
    exact e
theorem AF [Inhabited σ] [DecidableEq σ] (d : Array σ) (tr : ∀ a b c, ¬ lt b a → lt b c → lt a c) (tri : ∀ a b, ¬ lt b a → a ≠ b → lt a b) (hs : ∀ i j, i ≤ j → j < d.size → ¬ lt d[j]! d[i]!) :
    ∀ m, m ≤ d.size → (Lib.compactUpTo d m).Pairwise lt ∧ ∀ x, x ∈ Lib.compactUpTo d m ↔ ∃ j, j < m ∧ d[j]! = x
  | 0, _ => by simp [Lib.compactUpTo]
  | m + 1, hm => by
    obtain ⟨h1, h2⟩ := AF d tr tri hs m (by omega)
    rw [Lib.compactUpTo_succ]
    by_cases hk : Lib.keeps d m = true
    · rw [if_pos hk]
      refine ⟨?_, fun x => ?_⟩
      · rw [List.pairwise_append]
        refine ⟨h1, by simp, fun a ha b hb => ?_⟩
        obtain ⟨j, hj, rfl⟩ := (h2 a).1 ha
        obtain rfl : b = d[m]! := by simpa using hb
        have hle := hs j (m - 1) (by omega) (by omega)
        have hle2 := hs (m - 1) m (by omega) (by omega)
        have hne : d[m]! ≠ d[m - 1]! := by
          unfold Lib.keeps at hk
          simp only [Bool.or_eq_true, beq_iff_eq, bne_iff_ne, decide_eq_true_eq] at hk
          rcases hk with h | h
          · omega
          exact h
        exact tr _ _ _ hle (tri _ _ hle2 fun e => hne e.symm)
      rw [List.mem_append, h2 x]
      constructor
      · rintro (⟨j, hj, e⟩ | h)
        · exact ⟨j, by omega, e⟩
        exact ⟨m, by omega, by simpa using (by simpa using h : x = d[m]!).symm⟩
      rintro ⟨j, hj, e⟩
      by_cases hjm : j = m
      · subst hjm; exact .inr (by simp [e])
      exact .inl ⟨j, by omega, e⟩
    rw [if_neg hk, List.append_nil]
    refine ⟨h1, fun x => ?_⟩
    rw [h2 x]
    have hm0 : m ≠ 0 ∧ d[m]! = d[m - 1]! := by
      unfold Lib.keeps at hk
      simp only [Bool.or_eq_true, beq_iff_eq, bne_iff_ne, decide_eq_true_eq, not_or, Decidable.not_not] at hk
      exact hk
    constructor
    · rintro ⟨j, hj, e⟩; exact ⟨j, by omega, e⟩
    rintro ⟨j, hj, e⟩
    by_cases hjm : j = m
    · subst hjm; exact ⟨j - 1, by omega, hm0.2 ▸ e⟩
    exact ⟨j, by omega, e⟩
end
/-! ### texts -/
def bl (a b : ByteArray) : Bool := Op.bytesLess a.toList b.toList
theorem KO {a b c : List UInt8} (h : a < b) (h' : b < c) : a < c := List.lt_trans h h'
theorem FU (a : List UInt8) : ¬ a < a := List.lt_irrefl a
theorem UJ {a b : List UInt8} (h : ¬ b < a) (hn : a ≠ b) : a < b := Classical.byContradiction fun h' => hn (List.le_antisymm h h')
theorem Ti (a b : ByteArray) : bl a b = true ↔ a.data.toList < b.data.toList := by
  unfold bl
  rw [bytesLess_eq, ByteArray.toList_eq, ByteArray.toList_eq, decide_eq_true_iff]
theorem FV (a : ByteArray) : bl a a = false := by
  cases h : bl a a with
  | false => rfl
  | true => exact (FU _ ((Ti a a).1 h)).elim
theorem R1 {a b c : ByteArray} (h : bl a b = true) (h' : bl b c = true) : bl a c = true := (Ti _ _).2 (KO ((Ti _ _).1 h) ((Ti _ _).1 h'))
theorem bl_tri {a b : ByteArray} (h : bl b a = false) (hn : a ≠ b) : bl a b = true := (Ti _ _).2 (UJ (fun hb => by rw [(Ti _ _).2 hb] at h; cases h) fun e => hn (by cases a; cases b; simp at e; rw [e]))
def KP : List ByteArray → ByteArray → List ByteArray
  | [], s => [s]
  | x :: l, s => if bl x s then x :: KP l s else if x = s then x :: l else s :: x :: l
def FW (l : List ByteArray) : Prop := l.Pairwise fun a b => bl a b = true
theorem ZJ (s x : ByteArray) : ∀ l, x ∈ KP l s ↔ x = s ∨ x ∈ l
  | [] => by simp [KP]
  | y :: l => by
    simp only [KP]
    split
    · rw [List.mem_cons, ZJ s x l, List.mem_cons]
      constructor
      · rintro (h | h | h) <;> simp [h]
      rintro (h | h | h) <;> simp [h]
    split
    · rename_i e
      subst e
      simp
    simp
theorem AG (s : ByteArray) : ∀ l, FW l → FW (KP l s)
  | [], _ => by simp [FW, KP]
  | y :: l, h => by
    have h := List.pairwise_cons.1 h
    simp only [KP]
    split
    · rename_i hl
      refine List.pairwise_cons.2 ⟨fun z hz => ?_, AG s l h.2⟩
      rcases (ZJ s z l).1 hz with e | hz
      · exact e ▸ hl
      exact h.1 z hz
    split
    · exact List.pairwise_cons.2 h
    rename_i hl hn
    have hs : bl s y = true := bl_tri (by simpa using hl) fun e => hn e.symm
    refine List.pairwise_cons.2 ⟨fun z hz => ?_, List.pairwise_cons.2 h⟩
    rcases List.mem_cons.1 hz with rfl | hz
    · exact hs
    exact R1 hs (h.1 z hz)
theorem AH (s : ByteArray) : ∀ l, (KP l s).length ≤ l.length + 1
  | [] => by simp [KP]
  | y :: l => by
    have := AH s l
    simp only [KP]
    split
    · simp only [List.length_cons]; omega
    split <;> simp
def M9 (l xs : List ByteArray) : List ByteArray := xs.foldl KP l
theorem Tj (x : ByteArray) : ∀ xs l, x ∈ M9 l xs ↔ x ∈ xs ∨ x ∈ l
  | [], l => by simp [M9]
  | y :: xs, l => by
    show x ∈ M9 (KP l y) xs ↔ _
    rw [Tj x xs, ZJ, List.mem_cons]
    constructor
    · rintro (h | h | h) <;> simp [h]
    rintro ((h | h) | h) <;> simp [h]
theorem Tk : ∀ xs l, FW l → FW (M9 l xs)
  | [], _, h => h
  | y :: xs, l, h => Tk xs (KP l y) (AG y l h)
theorem ascS_ext (a b : List ByteArray) (ha : FW a) (hb : FW b) (h : ∀ x, x ∈ a ↔ x ∈ b) : a = b :=
  AE (fun a b => bl a b = true) (fun a h => by rw [FV] at h; cases h) (fun _ _ _ => R1) a b ha hb h
theorem Oa (l : List ByteArray) : FW (Th (I1 l)) ∧ ∀ x, x ∈ Th (I1 l) ↔ x ∈ l := by
  have hto : (I1 l).map oneS.to = (l.map oneS.to).mergeSort fun x y => decide (x ≤ y) := by simp [I1, Function.comp_def, oneS.to_of]
  unfold Th
  rw [hto]
  generalize hm : l.map oneS.to = m
  have hp := List.mergeSort_perm m (fun x y => decide (x ≤ y))
  have hs := List.pairwise_mergeSort (le := fun (x y : List UInt8) => decide (x ≤ y)) (fun a b c h1 h2 => by
    simp only [decide_eq_true_eq] at h1 h2 ⊢; exact List.le_trans h1 h2) (fun a b => by
    have := List.le_total a b
    simpa using this) m
  generalize (m.mergeSort fun x y => decide (x ≤ y)) = s at hp hs
  have hget : ∀ j, j < s.length → s.toArray[j]! = s[j]! := fun j hj => by simp
  have hmono : ∀ i j, i ≤ j → j < s.toArray.size → ¬ s.toArray[j]! < s.toArray[i]! := fun i j hij hj => by
    have hj : j < s.length := by simpa using hj
    rw [hget i (by omega), hget j hj, getElem!_pos s i (by omega), getElem!_pos s j hj]
    by_cases e : i = j
    · subst e; exact FU _
    have := List.pairwise_iff_getElem.1 hs i j (by omega) hj (by omega)
    simpa using this
  obtain ⟨h1, h2⟩ := AF (fun a b : List UInt8 => a < b) s.toArray (fun a b c hab hbc => by
    by_cases e : a = b
    · exact e ▸ hbc
    exact KO (UJ hab e) hbc) (fun a b h hn => UJ h hn) hmono s.length (by simp)
  refine ⟨?_, fun x => ?_⟩
  · refine List.pairwise_map.2 (h1.imp fun {a b} h => (Ti _ _).2 ?_)
    simpa [oneS] using h
  have hmem : x ∈ l ↔ oneS.to x ∈ m := by
    rw [← hm, List.mem_map]
    refine ⟨fun h => ⟨x, h, rfl⟩, fun ⟨y, h, e⟩ => ?_⟩
    have := congrArg oneS.of e
    rw [oneS.of_to, oneS.of_to] at this
    exact this ▸ h
  rw [hmem, ← hp.mem_iff, List.mem_map]
  constructor
  · rintro ⟨y, hy, rfl⟩
    obtain ⟨j, hj, e⟩ := (h2 y).1 hy
    rw [hget j hj, getElem!_pos s j hj] at e
    rw [oneS.to_of]
    exact e ▸ List.getElem_mem hj
  intro h
  obtain ⟨j, hj, e⟩ := List.getElem_of_mem h
  exact ⟨oneS.to x, (h2 _).2 ⟨j, hj, by rw [hget j hj, getElem!_pos s j hj]; exact e⟩, oneS.of_to x⟩
theorem once_put (l : List ByteArray) : Th (I1 l) = M9 [] l :=
  ascS_ext _ _ (Oa l).1 (Tk l [] List.Pairwise.nil) fun x => by rw [(Oa l).2, Tj]; simp
end
section
abbrev Vg := List (Nat × Int)
def E7 (E : Vg) (L : List Int) : Int := E.foldl (fun m e => max m (nth L e.1 + e.2)) 0
theorem Gp (L : List Int) (x : Int) : ∀ (E : Vg) (m : Int), E.foldl (fun m e => max m (nth L e.1 + e.2)) m ≤ x ↔ m ≤ x ∧ ∀ e, e ∈ E → nth L e.1 + e.2 ≤ x
  | [], m => by simp
  | e :: E, m => by
    rw [List.foldl_cons, Gp L x E]
    constructor
    · rintro ⟨h1, h2⟩
      refine ⟨by omega, fun e' he => ?_⟩
      rcases List.mem_cons.1 he with rfl | he
      · omega
      exact h2 e' he
    rintro ⟨h1, h2⟩
    have := h2 e List.mem_cons_self
    exact ⟨by omega, fun e' he => h2 e' (List.mem_cons_of_mem _ he)⟩
theorem Bc {E : Vg} {L : List Int} {x : Int} : E7 E L ≤ x ↔ 0 ≤ x ∧ ∀ e, e ∈ E → nth L e.1 + e.2 ≤ x := Gp L x E 0
theorem Na (E : Vg) (L : List Int) : 0 ≤ E7 E L := (Bc.1 (Int.le_refl _)).1
theorem KQ {E : Vg} {L M : List Int} (h : ∀ j, nth L j ≤ nth M j) : E7 E L ≤ E7 E M :=
  Bc.2 ⟨Na E M, fun e he => by
    have := (Bc.1 (Int.le_refl (E7 E M))).2 e he
    have := h e.1
    omega⟩
theorem Nb {L : List Int} {i : Nat} (x : Int) (j : Nat) (hi : i < L.length) : nth (L.set i x) j = if j = i then x else nth L j := by
  unfold nth
  by_cases h : j = i
  · subst h; simp [List.getD, hi]
  rw [if_neg h]; simp [List.getD, List.getElem?_set, Ne.symm h]
theorem ZK {L : List Int} {i : Nat} (h : L.length ≤ i) : nth L i = 0 := by
  unfold nth
  simp [List.getD, List.getElem?_eq_none h]
def Uo (E : Nat → Vg) (L : List Int) (i : Nat) : List Int := if nth L i < E7 (E i) L then L.set i (E7 (E i) L) else L
theorem El (E : Nat → Vg) (L : List Int) (i : Nat) : (Uo E L i).length = L.length := by unfold Uo; split <;> simp
theorem ZL (E : Nat → Vg) (L : List Int) (i j : Nat) : nth L j ≤ nth (Uo E L i) j := by
  unfold Uo
  split
  · rename_i h
    by_cases hi : i < L.length
    · rw [Nb _ _ hi]; split
      · rename_i e; subst e; omega
      omega
    rw [List.set_eq_of_length_le (by omega)]; omega
  omega
def rounds (E : Nat → Vg) (is : List Nat) (L : List Int) : List Int := is.foldl (Uo E) L
theorem Lo (E : Nat → Vg) : ∀ (is : List Nat) (L : List Int), (rounds E is L).length = L.length
  | [], _ => rfl
  | i :: is, L => (Lo E is (Uo E L i)).trans (El E L i)
theorem Oc (E : Nat → Vg) (j : Nat) : ∀ (is : List Nat) (L : List Int), nth L j ≤ nth (rounds E is L) j
  | [], _ => Int.le_refl _
  | i :: is, L => Int.le_trans (ZL E L i j) (Oc E j is (Uo E L i))
theorem FX {L M : List Int} (hl : L.length = M.length) (h : ∀ j, nth L j = nth M j) : L = M := by
  apply List.ext_getElem hl
  intro i h1 h2
  have := h i
  simpa [nth, List.getD, h1, h2] using this
theorem XR (E : Nat → Vg) : ∀ (is : List Nat) (L : List Int), rounds E is L = L → ∀ i, i ∈ is → Uo E L i = L
  | [], _, _, i, hi => by simp at hi
  | a :: is, L, h, i, hi => by
    have h1 : Uo E L a = L := FX (El E L a) fun j => by
      have h2 := ZL E L a j
      have h3 := Oc E j is (Uo E L a)
      have h4 : nth (rounds E is (Uo E L a)) j = nth L j := congrArg (nth · j) h
      omega
    rcases List.mem_cons.1 hi with rfl | hi
    · exact h1
    refine XR E is L ?_ i hi
    have : rounds E is (Uo E L a) = L := h
    rwa [h1] at this
theorem XS {E : Nat → Vg} {L : List Int} {i : Nat} (hi : i < L.length) : Uo E L i = L ↔ E7 (E i) L ≤ nth L i := by
  unfold Uo
  constructor
  · intro h
    split at h
    · rename_i hlt
      have h2 : nth (L.set i (E7 (E i) L)) i = nth L i := by rw [h]
      rw [Nb _ _ hi, if_pos rfl] at h2
      omega
    omega
  intro h
  rw [if_neg (by omega)]
def Sat (E : Nat → Vg) (n : Nat) (g : List Int) : Prop := ∀ i, i < n → E7 (E i) g ≤ nth g i
theorem UK {E : Nat → Vg} {n : Nat} {L g : List Int} {i : Nat} (hi : i < n) (hn : L.length = n) (hs : Sat E n g) (h : ∀ j, nth L j ≤ nth g j) : ∀ j, nth (Uo E L i) j ≤ nth g j := by
  intro j
  unfold Uo
  split
  · rw [Nb _ _ (by omega)]
    split
    · rename_i e; subst e
      exact Int.le_trans (KQ h) (hs j hi)
    exact h j
  exact h j
theorem I2 {E : Nat → Vg} {n : Nat} {g : List Int} (hs : Sat E n g) : ∀ (is : List Nat) (L : List Int), (∀ i, i ∈ is → i < n) → L.length = n → (∀ j, nth L j ≤ nth g j) → ∀ j, nth (rounds E is L) j ≤ nth g j
  | [], _, _, _, h => h
  | i :: is, L, hi, hn, h => I2 hs is (Uo E L i) (fun k hk => hi k (List.mem_cons_of_mem _ hk)) ((El E L i).trans hn) (UK (hi i List.mem_cons_self) hn hs h)
theorem pigeon : ∀ (m : Nat) (l : List Int), (∀ v : Nat, v < m → ((v : Nat) : Int) ∈ l) → m ≤ l.length
  | 0, _, _ => Nat.zero_le _
  | m + 1, l, h => by
    have hm := h m (by omega)
    have := pigeon m (l.erase (m : Int)) fun v hv => (List.mem_erase_of_ne (by omega)).2 (h v (by omega))
    rw [List.length_erase_of_mem hm] at this
    have : 0 < l.length := List.length_pos_of_mem hm
    omega
theorem nth_mem {L : List Int} {i : Nat} (h : i < L.length) : nth L i ∈ L := by
  have : nth L i = L[i] := by simp [nth, List.getD, h]
  rw [this]; exact List.getElem_mem h
theorem ZM {L : List Int} {x : Int} (h : x ∈ L) : ∃ i, i < L.length ∧ nth L i = x := by
  obtain ⟨i, hi, e⟩ := List.getElem_of_mem h
  exact ⟨i, hi, by rw [← e]; simp [nth, List.getD, hi]⟩
theorem nth_map {L : List Int} {f : Int → Int} {i : Nat} (h : i < L.length) : nth (L.map f) i = f (nth L i) := by simp [nth, List.getD, h]
theorem CJ {E : Nat → Vg} {n : Nat} {f : List Int} (hw : ∀ i e, e ∈ E i → e.2 ≤ 1 ∧ e.1 < n) (hlen : f.length = n) (hs : Sat E n f) (hleast : ∀ g : List Int, g.length = n → Sat E n g → (∀ j, 0 ≤ nth g j) → ∀ j, nth f j ≤ nth g j) (h0 : ∀ j, 0 ≤ nth f j) :
    ∀ i, i < n → nth f i < (n : Int) := by
  intro i hi
  have hall : ∀ v : Nat, (v : Int) ≤ nth f i → ((v : Nat) : Int) ∈ f := fun v hv => by
    refine Classical.byContradiction fun hno => ?_
    have hne : ∀ j, j < n → nth f j ≠ v := fun j hj e => hno (e ▸ nth_mem (by omega))
    have hvi : (v : Int) < nth f i := by have := hne i hi; omega
    let g := f.map fun x => if (v : Int) < x then x - 1 else x
    have hg : ∀ j, j < n → nth g j = if (v : Int) < nth f j then nth f j - 1 else nth f j := fun j hj => nth_map (by omega)
    have hg0 : ∀ j, ¬ j < n → nth g j = 0 := fun j hj => ZK (by simp only [g, List.length_map]; omega)
    have hf0 : ∀ j, ¬ j < n → nth f j = 0 := fun j hj => ZK (by omega)
    have hpos : ∀ j, 0 ≤ nth g j := fun j => by
      by_cases hj : j < n
      · rw [hg j hj]; have := h0 j; split <;> omega
      rw [hg0 j hj]; omega
    have := hleast g (by simp only [g, List.length_map]; exact hlen) (fun k hk => Bc.2 ⟨hpos k, fun e he => ?_⟩) hpos i
    · rw [hg i hi, if_pos hvi] at this; omega
    have h1 := (Bc.1 (hs k hk)).2 e he
    obtain ⟨h2, hj⟩ := hw k e he
    have h3 := hne k hk
    rw [hg k hk]
    have h4 := hne e.1 hj
    rw [hg e.1 hj]
    split <;> split <;> omega
  have hp := pigeon ((nth f i).toNat + 1) f fun v hv => hall v (by have := h0 i; omega)
  have := h0 i
  omega
/-! ### rounds until rest -/
theorem FY : ∀ (L : List Int) (i : Nat) (x : Int), i < L.length → (L.set i x).sum = L.sum + (x - nth L i)
  | [], i, x, h => by simp at h
  | a :: L, 0, x, _ => by simp [nth]; omega
  | a :: L, i + 1, x, h => by
    have := FY L i x (by simpa using h)
    have e : nth (a :: L) (i + 1) = nth L i := rfl
    rw [e, List.set_cons_succ, List.sum_cons, List.sum_cons, this]
    omega
theorem AI : ∀ (L : List Int) (N : Int), (∀ x, x ∈ L → x ≤ N) → L.sum ≤ (L.length : Int) * N
  | [], N, _ => by simp
  | a :: L, N, h => by
    have h1 := AI L N fun x hx => h x (List.mem_cons_of_mem _ hx)
    have h2 := h a List.mem_cons_self
    rw [List.sum_cons, List.length_cons, Int.natCast_add, Int.add_mul]
    omega
theorem KR {E : Nat → Vg} {L : List Int} {i : Nat} (hi : i < L.length) : L.sum ≤ (Uo E L i).sum ∧ (Uo E L i ≠ L → L.sum + 1 ≤ (Uo E L i).sum) := by
  unfold Uo
  split
  · rename_i h
    have := FY L i (E7 (E i) L) hi
    omega
  exact ⟨Int.le_refl _, fun h => (h rfl).elim⟩
theorem Lp {E : Nat → Vg} : ∀ (is : List Nat) (L : List Int), (∀ i, i ∈ is → i < L.length) → L.sum ≤ (rounds E is L).sum ∧ (rounds E is L ≠ L → L.sum + 1 ≤ (rounds E is L).sum)
  | [], L, _ => ⟨Int.le_refl _, fun h => (h rfl).elim⟩
  | i :: is, L, h => by
    obtain ⟨h1, h2⟩ := KR (E := E) (h i List.mem_cons_self)
    obtain ⟨h3, h4⟩ := Lp (E := E) is (Uo E L i) fun k hk => by rw [El]; exact h k (List.mem_cons_of_mem _ hk)
    show L.sum ≤ (rounds E is (Uo E L i)).sum ∧ (rounds E is (Uo E L i) ≠ L → L.sum + 1 ≤ (rounds E is (Uo E L i)).sum)
    refine ⟨by omega, fun hn => ?_⟩
    by_cases e : Uo E L i = L
    · have := h4 (by rw [e] at hn ⊢; exact hn)
      omega
    have := h2 e
    omega
def C0 (E : Nat → Vg) (N : Int) : List Nat → Bool × List Int → Option (Bool × List Int)
  | [], s => some s
  | i :: is, s => if N < E7 (E i) s.2 then none else C0 E N is (if nth s.2 i < E7 (E i) s.2 then (true, s.2.set i (E7 (E i) s.2)) else s)
theorem Dn {E : Nat → Vg} {N : Int} : ∀ (is : List Nat) (c : Bool) (L : List Int) (s : Bool × List Int), (∀ i, i ∈ is → i < L.length) → C0 E N is (c, L) = some s → s.2 = rounds E is L ∧ (s.1 = true → c = true ∨ rounds E is L ≠ L) ∧ (s.1 = false → c = false ∧ rounds E is L = L) ∧ ((∀ j, nth L j ≤ N) → ∀ j, nth s.2 j ≤ N)
  | [], c, L, s, _, h => by
    obtain rfl := Option.some.inj h
    exact ⟨rfl, fun h => .inl h, fun h => ⟨h, rfl⟩, fun h => h⟩
  | i :: is, c, L, s, hi, h => by
    have hil := hi i List.mem_cons_self
    have hlen : ∀ k, k ∈ is → k < (Uo E L i).length := fun k hk => by rw [El]; exact hi k (List.mem_cons_of_mem _ hk)
    simp only [C0] at h
    split at h
    · cases h
    rename_i hN
    split at h
    · rename_i hlt
      have er : Uo E L i = L.set i (E7 (E i) L) := by unfold Uo; rw [if_pos hlt]
      rw [← er] at h
      obtain ⟨h1, h2, h3, h4⟩ := Dn is true (Uo E L i) s hlen h
      have hne : rounds E (i :: is) L ≠ L := fun e => by
        have := (Lp (E := E) is (Uo E L i) hlen).1
        have h5 := (KR (E := E) hil).2 fun e' => by
          have := (XS hil).1 e'
          omega
        have h6 : (rounds E is (Uo E L i)).sum = L.sum := congrArg List.sum e
        omega
      refine ⟨h1, fun _ => .inr hne, fun h => (by have := (h3 h).1; cases this), fun hb j => h4 (fun j => ?_) j⟩
      rw [er, Nb _ _ hil]
      split
      · omega
      exact hb j
    rename_i hlt
    have er : Uo E L i = L := by unfold Uo; rw [if_neg hlt]
    have e2 : rounds E (i :: is) L = rounds E is L := by show rounds E is (Uo E L i) = _; rw [er]
    rw [e2]
    exact Dn is c L s (fun k hk => hi k (List.mem_cons_of_mem _ hk)) h
theorem Ri {E : Nat → Vg} {N : Int} : ∀ (is : List Nat) (c : Bool) (L : List Int), C0 E N is (c, L) = none → ∃ pre i, (∀ k, k ∈ pre → k ∈ is) ∧ i ∈ is ∧ N < E7 (E i) (rounds E pre L)
  | [], c, L, h => by cases h
  | i :: is, c, L, h => by
    simp only [C0] at h
    split at h
    · rename_i hN
      exact ⟨[], i, fun k hk => by simp at hk, List.mem_cons_self, hN⟩
    have key : ∀ c' L', L' = Uo E L i → C0 E N is (c', L') = none → ∃ pre k, (∀ x, x ∈ pre → x ∈ i :: is) ∧ k ∈ i :: is ∧ N < E7 (E k) (rounds E pre L) := fun c' L' e h => by
      obtain ⟨pre, k, h1, h2, h3⟩ := Ri is c' L' h
      subst e
      refine ⟨i :: pre, k, fun x hx => ?_, List.mem_cons_of_mem _ h2, h3⟩
      rcases List.mem_cons.1 hx with rfl | hx
      · exact List.mem_cons_self
      exact List.mem_cons_of_mem _ (h1 x hx)
    split at h
    · rename_i hlt
      exact key true _ (by unfold Uo; rw [if_pos hlt]) h
    rename_i hlt
    exact key c _ (by unfold Uo; rw [if_neg hlt]) h
def Pu (E : Nat → Vg) (N : Int) (n : Nat) : Nat → Bool × List Int → Option (Option (List Int))
  | 0, _ => none
  | k + 1, s => match s.1 with
    | true => (match C0 E N (List.range n) (false, s.2) with
      | none => some none
      | some s' => Pu E N n k s')
    | false => some (some s.2)
theorem Bh {n i : Nat} (h : i ∈ List.range n) : i < n := List.mem_range.1 h
theorem XT {E : Nat → Vg} {n : Nat} : ∀ (k : Nat) (c : Bool) (L : List Int), L.length = n → (∀ j, nth L j ≤ (n : Int)) → (n : Int) * (n : Int) - L.sum + 2 ≤ (k : Int) → (Pu E n n k (c, L)).isSome = true
  | 0, c, L, hl, hb, hk => by
    have := AI L n fun x hx => by obtain ⟨i, _, e⟩ := ZM hx; exact e ▸ hb i
    rw [hl] at this
    omega
  | k + 1, false, L, hl, hb, hk => rfl
  | k + 1, true, L, hl, hb, hk => by
    simp only [Pu]
    cases hc : C0 E n (List.range n) (false, L) with
    | none => rfl
    | some s =>
      obtain ⟨h1, h2, h3, h4⟩ := Dn (List.range n) false L s (fun i hi => by rw [hl]; exact Bh hi) hc
      obtain ⟨c', L'⟩ := s
      simp only at h1 h2 h3 h4 ⊢
      have hl' : L'.length = n := by rw [h1, Lo, hl]
      have hs := Lp (E := E) (List.range n) L fun i hi => by rw [hl]; exact Bh hi
      rw [← h1] at hs
      cases c' with
      | false =>
        cases k with
        | zero =>
          have := AI L n fun x hx => by obtain ⟨i, _, e⟩ := ZM hx; exact e ▸ hb i
          rw [hl] at this
          omega
        | succ k => rfl
      | true =>
        have hne : L' ≠ L := by
          rcases h2 rfl with h | h
          · cases h
          rw [h1]; exact h
        have := hs.2 hne
        exact XT k true L' hl' (h4 hb) (by omega)
def after (E : Nat → Vg) (n : Nat) : Nat → List Int
  | 0 => List.replicate n 0
  | k + 1 => rounds E (List.range n) (after E n k)
theorem V7 (E : Nat → Vg) (n : Nat) : ∀ k, (after E n k).length = n
  | 0 => by simp [after]
  | k + 1 => by rw [after, Lo, V7 E n k]
def DE (E : Nat → Vg) (n : Nat) (L : List Int) : Prop := rounds E (List.range n) L = L
theorem R2 (n j : Nat) : nth (List.replicate n (0 : Int)) j = 0 := by
  by_cases h : j < n
  · simp [nth, List.getD, h]
  exact ZK (by simp; omega)
theorem H6 (E : Nat → Vg) (n j : Nat) : ∀ k, 0 ≤ nth (after E n k) j
  | 0 => by rw [after, R2]; omega
  | k + 1 => Int.le_trans (H6 E n j k) (Oc E j _ _)
theorem Od {E : Nat → Vg} {n : Nat} {L : List Int} (hl : L.length = n) (h : DE E n L) : Sat E n L := fun i hi => (XS (by omega)).1 (XR E _ L h i (List.mem_range.2 hi))
theorem Gq {E : Nat → Vg} {n : Nat} {g : List Int} (hs : Sat E n g) (h0 : ∀ j, 0 ≤ nth g j) : ∀ k j, nth (after E n k) j ≤ nth g j
  | 0, j => by rw [after, R2]; exact h0 j
  | k + 1, j => I2 hs _ _ (fun i hi => Bh hi) (V7 E n k) (Gq hs h0 k) j
theorem Lq {E : Nat → Vg} {n k : Nat} (h : DE E n (after E n k)) : ∀ d, after E n (k + d) = after E n k
  | 0 => rfl
  | d + 1 => by
    show rounds E (List.range n) (after E n (k + d)) = _
    rw [Lq h d]
    exact h
theorem FZ {E : Nat → Vg} {n k m : Nat} (hk : DE E n (after E n k)) (hm : DE E n (after E n m)) : after E n k = after E n m := by
  rcases Nat.le_total k m with h | h
  · have := Lq hk (m - k)
    rw [show k + (m - k) = m by omega] at this
    exact this.symm
  have := Lq hm (k - m)
  rwa [show m + (k - m) = k by omega] at this
theorem Tl {E : Nat → Vg} {n : Nat} : ∀ k, (∀ j, j < k → ¬ DE E n (after E n j)) → (k : Int) ≤ (after E n k).sum
  | 0, _ => by
    have : ∀ n : Nat, (List.replicate n (0 : Int)).sum = 0 := fun n => by simp
    rw [after, this]; omega
  | k + 1, h => by
    have h1 := Tl k fun j hj => h j (by omega)
    have h2 := (Lp (E := E) (List.range n) (after E n k) fun i hi => by rw [V7]; exact Bh hi).2 (h k (by omega))
    show ((k + 1 : Nat) : Int) ≤ (rounds E (List.range n) (after E n k)).sum
    omega
variable {E : Nat → Vg} {n : Nat} (hw : ∀ i e, e ∈ E i → e.2 ≤ 1 ∧ e.1 < n)
include hw in
theorem UL {k : Nat} (h : DE E n (after E n k)) : ∀ i, i < n → nth (after E n k) i < (n : Int) :=
  CJ hw (V7 E n k) (Od (V7 E n k) h) (fun _ _ hs h0 => Gq hs h0 k) fun j => H6 E n j k
include hw in
theorem GA {k : Nat} (h : DE E n (after E n k)) : DE E n (after E n (n * n + 2)) := by
  have hex : ∃ j, j ≤ n * n + 1 ∧ DE E n (after E n j) := Classical.byContradiction fun hno => by
    have h1 := Tl (E := E) (n := n) (n * n + 2) fun j hj hr => hno ⟨j, by omega, hr⟩
    have h2 := AI (after E n (n * n + 2)) n fun x hx => by
      obtain ⟨i, hi, e⟩ := ZM hx
      rw [V7] at hi
      have h3 := Gq (Od (V7 E n k) h) (fun j => H6 E n j k) (n * n + 2) i
      have := UL hw h i hi
      omega
    rw [V7] at h2
    have h3 : ((n * n + 2 : Nat) : Int) = (n : Int) * (n : Int) + 2 := by rw [Int.natCast_add, Int.natCast_mul]; rfl
    omega
  obtain ⟨j, hj, hr⟩ := hex
  have := Lq hr (n * n + 2 - j)
  rw [show j + (n * n + 2 - j) = n * n + 2 by omega] at this
  rw [this]; exact hr
include hw in
theorem R3 : ∀ (k m : Nat) (c : Bool) (r : Option (List Int)), (c = false → DE E n (after E n m)) → Pu E n n k (c, after E n m) = some r →
    (∀ L, r = some L → DE E n (after E n (n * n + 2)) ∧ L = after E n (n * n + 2)) ∧ (r = none → ¬ DE E n (after E n (n * n + 2)))
  | 0, m, c, r, _, h => by cases h
  | k + 1, m, false, r, hc, h => by
    obtain rfl := Option.some.inj h
    have hr := hc rfl
    have hs := GA hw hr
    refine ⟨fun L e => ⟨hs, ?_⟩, fun e => by cases e⟩
    obtain rfl := Option.some.inj e
    exact FZ hr hs
  | k + 1, m, true, r, _, h => by
    simp only [Pu] at h
    have hlt : ∀ i, i ∈ List.range n → i < (after E n m).length := fun i hi => by rw [V7]; exact Bh hi
    cases hcr : C0 E n (List.range n) (false, after E n m) with
    | none =>
      rw [hcr] at h
      obtain rfl := Option.some.inj h
      refine ⟨fun L e => (by cases e), fun _ hr => ?_⟩
      obtain ⟨pre, i, h1, h2, h3⟩ := Ri _ _ _ hcr
      have hsat := Od (V7 E n _) hr
      have h4 := I2 hsat pre (after E n m) (fun i hi => Bh (h1 i hi)) (V7 E n m) (Gq hsat (fun j => H6 E n j _) m)
      have h5 := KQ (E := E i) h4
      have h6 := hsat i (Bh h2)
      have h7 := UL hw hr i (Bh h2)
      omega
    | some s =>
      rw [hcr] at h
      obtain ⟨h1, _, h3, _⟩ := Dn _ _ _ s hlt hcr
      obtain ⟨c', L'⟩ := s
      simp only at h1 h3 h
      have e : L' = after E n (m + 1) := h1
      subst e
      refine R3 k (m + 1) c' r (fun hc => ?_) h
      have h5 := (h3 hc).2
      show rounds E (List.range n) (after E n (m + 1)) = after E n (m + 1)
      have e2 : after E n (m + 1) = after E n m := h5
      rw [e2]; exact h5
omit hw
/-! ### the other way to Uo: edge by edge -/
def Pd (i : Nat) (L : List Int) (e : Nat × Int) : List Int := if nth L i < nth L e.1 + e.2 then L.set i (nth L e.1 + e.2) else L
def Bs (i : Nat) (E : Vg) (L : List Int) : List Int := E.foldl (Pd i) L
theorem Gr (i : Nat) (L : List Int) (e : Nat × Int) : (Pd i L e).length = L.length := by unfold Pd; split <;> simp
theorem Em (i : Nat) : ∀ (E : Vg) (L : List Int), (Bs i E L).length = L.length
  | [], _ => rfl
  | e :: E, L => (Em i E (Pd i L e)).trans (Gr i L e)
theorem R4 {i : Nat} {L : List Int} (e : Nat × Int) (hi : i < L.length) (j : Nat) : nth (Pd i L e) j = if j = i then max (nth L i) (nth L e.1 + e.2) else nth L j := by
  unfold Pd
  split
  · rw [Nb _ _ hi]; split <;> omega
  split
  · rename_i h; subst h; omega
  rfl
theorem KS {i : Nat} : ∀ (E : Vg) {L M : List Int}, i < M.length → (∀ j, j ≠ i → nth M j = nth L j) → nth L i ≤ nth M i → (∀ e, e ∈ E → e.1 = i → e.2 ≤ 0) → ∀ j, nth (Bs i E M) j = if j = i then E.foldl (fun m e => max m (nth L e.1 + e.2)) (nth M i) else nth L j
  | [], L, M, hi, hj, h0, hs, j => by
    show nth M j = _
    split
    · rename_i e; subst e; rfl
    rename_i e; exact hj j e
  | e :: E, L, M, hi, hj, h0, hs, j => by
    show nth (Bs i E (Pd i M e)) j = _
    have hb := R4 e hi
    have hmax : nth (Pd i M e) i = max (nth M i) (nth L e.1 + e.2) := by
      rw [hb, if_pos rfl]
      by_cases he : e.1 = i
      · have := hs e List.mem_cons_self he
        rw [he]; omega
      rw [hj e.1 he]
    rw [KS E (L := L) (M := Pd i M e) (by rw [Gr]; exact hi) (fun k hk => by rw [hb, if_neg hk]; exact hj k hk) (by rw [hmax]; omega) (fun e' he' => hs e' (List.mem_cons_of_mem _ he')) j, hmax, List.foldl_cons]
theorem fold_max (L : List Int) : ∀ (E : Vg) (m : Int), 0 ≤ m → E.foldl (fun m e => max m (nth L e.1 + e.2)) m = max m (E7 E L) := fun E m hm => by
  have h1 := Gp L (E.foldl (fun m e => max m (nth L e.1 + e.2)) m) E m
  have h2 := h1.1 (Int.le_refl _)
  have h3 : E7 E L ≤ E.foldl (fun m e => max m (nth L e.1 + e.2)) m := Bc.2 ⟨by omega, h2.2⟩
  have h4 := (Gp L (max m (E7 E L)) E m).2 ⟨by omega, fun e he => by have := (Bc.1 (Int.le_refl (E7 E L))).2 e he; omega⟩
  omega
theorem bumps_eq {E : Nat → Vg} {L : List Int} {i : Nat} (hi : i < L.length) (h0 : 0 ≤ nth L i) (hs : ∀ e, e ∈ E i → e.1 = i → e.2 ≤ 0) : Bs i (E i) L = Uo E L i :=
  FX ((Em i (E i) L).trans (El E L i).symm) fun j => by
    rw [KS (E i) hi (fun _ _ => rfl) (Int.le_refl _) hs, fold_max _ _ _ h0]
    unfold Uo
    by_cases hlt : nth L i < E7 (E i) L
    · rw [if_pos hlt, Nb _ _ hi]; split <;> omega
    rw [if_neg hlt]; split
    · rename_i e; subst e; omega
    rfl
theorem R5 {i : Nat} : ∀ (E : Vg) {L : List Int}, i < L.length → ∀ j, nth L j ≤ nth (Bs i E L) j
  | [], _, _, _ => Int.le_refl _
  | e :: E, L, hi, j => by
    have h1 := R5 E (L := Pd i L e) (by rw [Gr]; exact hi) j
    have h2 := R4 e hi j
    show _ ≤ nth (Bs i E (Pd i L e)) j
    split at h2
    · rename_i h; subst h; omega
    omega
theorem XU {i : Nat} : ∀ (E : Vg) {L : List Int}, i < L.length → (∃ e, e ∈ E ∧ e.1 = i ∧ 1 ≤ e.2) → nth L i + 1 ≤ nth (Bs i E L) i
  | [], _, _, ⟨e, he, _⟩ => by simp at he
  | e :: E, L, hi, ⟨e', he, h1, h2⟩ => by
    have h3 := R4 e hi i
    rw [if_pos rfl] at h3
    have hb := R5 E (L := Pd i L e) (by rw [Gr]; exact hi) i
    show _ ≤ nth (Bs i E (Pd i L e)) i
    rcases List.mem_cons.1 he with rfl | he
    · rw [h1] at h3; omega
    have := XU E (L := Pd i L e) (by rw [Gr]; exact hi) ⟨e', he, h1, h2⟩
    omega
def Bd (E : Nat → Vg) (is : List Nat) (L : List Int) : List Int := is.foldl (fun L i => Bs i (E i) L) L
theorem Nc (E : Nat → Vg) : ∀ (is : List Nat) (L : List Int), (Bd E is L).length = L.length
  | [], _ => rfl
  | i :: is, L => (Nc E is (Bs i (E i) L)).trans (Em i _ L)
theorem Pv {E : Nat → Vg} (hs : ∀ i e, e ∈ E i → e.1 = i → e.2 ≤ 0) : ∀ (is : List Nat) (L : List Int), (∀ i, i ∈ is → i < L.length) → (∀ j, 0 ≤ nth L j) → Bd E is L = rounds E is L
  | [], _, _, _ => rfl
  | i :: is, L, hi, h0 => by
    have hil := hi i List.mem_cons_self
    show Bd E is (Bs i (E i) L) = rounds E is (Uo E L i)
    rw [bumps_eq hil (h0 i) (hs i)]
    exact Pv hs is _ (fun k hk => by rw [El]; exact hi k (List.mem_cons_of_mem _ hk)) fun j => Int.le_trans (h0 j) (ZL E L i j)
theorem XV {E : Nat → Vg} : ∀ (is : List Nat) (L : List Int), (∀ i, i ∈ is → i < L.length) → ∀ j, nth L j ≤ nth (Bd E is L) j
  | [], _, _, _ => Int.le_refl _
  | i :: is, L, hi, j => Int.le_trans (R5 (E i) (hi i List.mem_cons_self) j) (XV is (Bs i (E i) L) (fun k hk => by rw [Em]; exact hi k (List.mem_cons_of_mem _ hk)) j)
theorem Rj {E : Nat → Vg} {i : Nat} (he : ∃ e, e ∈ E i ∧ e.1 = i ∧ 1 ≤ e.2) : ∀ (is : List Nat) (L : List Int), (∀ i, i ∈ is → i < L.length) → i ∈ is → nth L i + 1 ≤ nth (Bd E is L) i
  | [], _, _, h => by simp at h
  | k :: is, L, hi, h => by
    have hk := hi k List.mem_cons_self
    have hl : ∀ x, x ∈ is → x < (Bs k (E k) L).length := fun x hx => by rw [Em]; exact hi x (List.mem_cons_of_mem _ hx)
    show _ ≤ nth (Bd E is (Bs k (E k) L)) i
    have h1 := R5 (E k) hk i
    have h2 := XV (E := E) is (Bs k (E k) L) hl i
    rcases List.mem_cons.1 h with rfl | h
    · have := XU (E i) hk he
      omega
    have := Rj he is (Bs k (E k) L) hl h
    omega
def H7 (E : Nat → Vg) (n : Nat) : Nat → List Int
  | 0 => List.replicate n 0
  | k + 1 => Bd E (List.range n) (H7 E n k)
theorem Lr (E : Nat → Vg) (n : Nat) : ∀ k, (H7 E n k).length = n
  | 0 => by simp [H7]
  | k + 1 => by rw [H7, Nc, Lr E n k]
theorem KT {E : Nat → Vg} {n : Nat} (hs : ∀ i e, e ∈ E i → e.1 = i → e.2 ≤ 0) : ∀ k, H7 E n k = after E n k
  | 0 => rfl
  | k + 1 => by
    rw [H7, after, KT hs k]
    exact Pv hs _ _ (fun i hi => by rw [V7]; exact Bh hi) fun j => H6 E n j k
theorem GB {E : Nat → Vg} {n : Nat} (hw : ∀ i e, e ∈ E i → e.2 ≤ 1 ∧ e.1 < n ∧ i < n) {k : Nat} {r : Option (List Int)} (h : Pu E n n k (true, List.replicate n 0) = some r) :
    (Bd E (List.range n) (H7 E n (n * n + 2)) = H7 E n (n * n + 2) → r = some (H7 E n (n * n + 2))) ∧ (Bd E (List.range n) (H7 E n (n * n + 2)) ≠ H7 E n (n * n + 2) → r = none) := by
  have hw' : ∀ i e, e ∈ E i → e.2 ≤ 1 ∧ e.1 < n := fun i e he => ⟨(hw i e he).1, (hw i e he).2.1⟩
  obtain ⟨h1, h2⟩ := R3 hw' k 0 true r (fun e => by cases e) h
  by_cases hself : ∃ i, ∃ e, e ∈ E i ∧ e.1 = i ∧ 1 ≤ e.2
  · obtain ⟨i, e, he, hei, h3⟩ := hself
    have hi : i < n := (hw i e he).2.2
    have hne : Bd E (List.range n) (H7 E n (n * n + 2)) ≠ H7 E n (n * n + 2) := fun heq => by
      have := Rj (E := E) ⟨e, he, hei, h3⟩ (List.range n) (H7 E n (n * n + 2)) (fun k hk => by rw [Lr]; exact Bh hk) (List.mem_range.2 hi)
      rw [heq] at this; omega
    refine ⟨fun h => (hne h).elim, fun _ => ?_⟩
    cases r with
    | none => rfl
    | some L =>
      obtain ⟨hr, _⟩ := h1 L rfl
      have h4 := Od (V7 E n _) hr i hi
      have h5 := (Bc.1 h4).2 e he
      rw [hei] at h5
      omega
  have hs : ∀ i e, e ∈ E i → e.1 = i → e.2 ≤ 0 := fun i e he hei => Classical.byContradiction fun hn => hself ⟨i, e, he, hei, by omega⟩
  rw [KT hs, Pv hs _ _ (fun i hi => by rw [V7]; exact Bh hi) fun j => H6 E n j _]
  refine ⟨fun hr => ?_, fun hr => ?_⟩
  · cases r with
    | none => exact (h2 rfl hr).elim
    | some L => rw [(h1 L rfl).2]
  cases r with
  | none => rfl
  | some L => exact (hr (h1 L rfl).1).elim
end
section
open Go.Shelf
def Sh.lays190_ren : Go.Shelf.Ren := ⟨fun | 190 => 167 | 125 => 172 | 258 => 171 | 128 => 182 | 129 => 183 | 302 => 173 | 303 => 174 | 304 => 175 | 305 => 176 | 306 => 177 | 307 => 178 | 308 => 179 | 309 => 180 | 310 => 181 | 333 => 184 | 329 => 185 | 330 => 186 | 334 => 187 | 335 => 188 | 336 => 134 | 344 => 189 | n => n, fun | 31 => 32 | 9 => 9 | 3 => 3 | 46 => 148 | 0 => 0 | 51 => 188 | 53 => 190 | 4 => 4 | 183 => 181 | 182 => 180 | 131 => 156 | 5 => 5 | 218 => 191 | 222 => 195 | 228 => 197 | 229 => 198 | n => n, fun | n => n⟩
theorem Sh.lays190 : Go.Proofs.Lays.n190 Tryz.prog Sh.lays190_ren := {
  mixed := by kernel_rfl
  f125 := Tryz.func172.trans (congrArg some (by kernel_rfl))
  f128 := Tryz.func182.trans (congrArg some (by kernel_rfl))
  f129 := Tryz.func183.trans (congrArg some (by kernel_rfl))
  f190 := Tryz.func167.trans (congrArg some (by kernel_rfl))
  f258 := Tryz.func171.trans (congrArg some (by kernel_rfl))
  f302 := Tryz.func173.trans (congrArg some (by kernel_rfl))
  f303 := Tryz.func174.trans (congrArg some (by kernel_rfl))
  f304 := Tryz.func175.trans (congrArg some (by kernel_rfl))
  f305 := Tryz.func176.trans (congrArg some (by kernel_rfl))
  f306 := Tryz.func177.trans (congrArg some (by kernel_rfl))
  f307 := Tryz.func178.trans (congrArg some (by kernel_rfl))
  f308 := Tryz.func179.trans (congrArg some (by kernel_rfl))
  f309 := Tryz.func180.trans (congrArg some (by kernel_rfl))
  f310 := Tryz.func181.trans (congrArg some (by kernel_rfl))
  f329 := Tryz.func185.trans (congrArg some (by kernel_rfl))
  f330 := Tryz.func186.trans (congrArg some (by kernel_rfl))
  f333 := Tryz.func184.trans (congrArg some (by kernel_rfl))
  f334 := Tryz.func187.trans (congrArg some (by kernel_rfl))
  f335 := Tryz.func188.trans (congrArg some (by kernel_rfl))
  f336 := Tryz.func134.trans (congrArg some (by kernel_rfl))
  f344 := Tryz.func189.trans (congrArg some (by kernel_rfl))
  t0 := Tryz.underlying0
  a0 := Tryz.isAgg0
  z0 := Tryz.sizeOf0
  v0 := Tryz.zeroValue0
  t3 := Tryz.underlying3
  a3 := Tryz.isAgg3
  z3 := Tryz.sizeOf3
  v3 := Tryz.zeroValue3
  t4 := Tryz.underlying4
  a4 := Tryz.isAgg4
  z4 := Tryz.sizeOf4
  v4 := Tryz.zeroValue4
  t5 := Tryz.underlying5
  a5 := Tryz.isAgg5
  z5 := Tryz.sizeOf5
  v5 := Tryz.zeroValue5
  t9 := Tryz.underlying9
  a9 := Tryz.isAgg9
  z9 := Tryz.sizeOf9
  v9 := Tryz.zeroValue9
  t31 := Tryz.underlying32
  a31 := Tryz.isAgg32
  z31 := Tryz.sizeOf32
  v31 := Tryz.zeroValue32
  t46 := Tryz.underlying148
  a46 := Tryz.isAgg148
  z46 := Tryz.sizeOf148
  v46 := Tryz.zeroValue148
  t51 := Tryz.underlying188
  a51 := Tryz.isAgg188
  z51 := Tryz.sizeOf188
  v51 := Tryz.zeroValue188
  t53 := Tryz.underlying190
  a53 := Tryz.isAgg190
  z53 := Tryz.sizeOf190
  v53 := Tryz.zeroValue190
  t131 := Tryz.underlying156
  a131 := Tryz.isAgg156
  z131 := Tryz.sizeOf156
  v131 := Tryz.zeroValue156
  t182 := Tryz.underlying180
  a182 := Tryz.isAgg180
  z182 := Tryz.sizeOf180
  v182 := Tryz.zeroValue180
  t183 := Tryz.underlying181
  a183 := Tryz.isAgg181
  z183 := Tryz.sizeOf181
  v183 := Tryz.zeroValue181
  t218 := Tryz.underlying191
  a218 := Tryz.isAgg191
  z218 := Tryz.sizeOf191
  v218 := Tryz.zeroValue191
  t222 := Tryz.underlying195
  a222 := Tryz.isAgg195
  z222 := Tryz.sizeOf195
  v222 := Tryz.zeroValue195
  t228 := Tryz.underlying197
  a228 := Tryz.isAgg197
  z228 := Tryz.sizeOf197
  v228 := Tryz.zeroValue197
  t229 := Tryz.underlying198
  a229 := Tryz.isAgg198
  z229 := Tryz.sizeOf198
  v229 := Tryz.zeroValue198 }
open Go.Sort Go.RowKit in
theorem Sh.slices_Sort_string (blk off cap : Nat) (ss : List (List UInt8)) (w : World) (hH : Holds encStr w blk off ss.toArray) (hblk : blk < w.heap.size) (hsz : ss.length < 4611686018427387904) :
    Calls Tryz.prog 167 #[.slice (some ⟨blk, off, none⟩) ss.length cap] w fun e w' =>
      e = .returned (.tuple #[]) ∧ ∃ n os, w' = grow (putRow encStr (Sort.ahead w n) blk off (ss.mergeSort fun x y => decide (x ≤ y)).toArray) os := Any.slices_Sort_string Sh.lays190 blk off cap ss w hH hblk hsz
def Sh.lays194_ren : Go.Shelf.Ren := ⟨fun | 194 => 168 | n => n, fun | 31 => 32 | 9 => 9 | 3 => 3 | 4 => 4 | 0 => 0 | n => n, fun | n => n⟩
theorem Sh.lays194 : Go.Proofs.Lays.n194 Tryz.prog Sh.lays194_ren := {
  mixed := by kernel_rfl
  f194 := Tryz.func168.trans (congrArg some (by kernel_rfl))
  t0 := Tryz.underlying0
  a0 := Tryz.isAgg0
  z0 := Tryz.sizeOf0
  v0 := Tryz.zeroValue0
  t3 := Tryz.underlying3
  a3 := Tryz.isAgg3
  z3 := Tryz.sizeOf3
  v3 := Tryz.zeroValue3
  t4 := Tryz.underlying4
  a4 := Tryz.isAgg4
  z4 := Tryz.sizeOf4
  v4 := Tryz.zeroValue4
  t9 := Tryz.underlying9
  a9 := Tryz.isAgg9
  z9 := Tryz.sizeOf9
  v9 := Tryz.zeroValue9
  t31 := Tryz.underlying32
  a31 := Tryz.isAgg32
  z31 := Tryz.sizeOf32
  v31 := Tryz.zeroValue32 }
open Go.RowKit Go.Lib Go.Sort in
theorem Sh.slices_Compact_string (blk off cap : Nat) (zs : List (List UInt8)) (w : World) (hH : Holds encStr w blk off zs.toArray) (hsz : zs.length ≤ 9223372036854775807) (hcap : zs.length ≤ cap) :
    Calls Tryz.prog 168 #[.slice (some ⟨blk, off, none⟩) zs.length cap] w fun e w' => e = .returned (.slice (some ⟨blk, off, none⟩) (Lib.compact zs).length cap) ∧ ∃ q, w' = putRow encStr (Sort.ahead w q) blk off (Lib.compact zs ++ List.replicate (zs.length - (Lib.compact zs).length) []).toArray := Any.slices_Compact_string Sh.lays194 blk off cap zs w hH hsz hcap
open Go.RowKit Go.Lib Go.Sort in
theorem Sh.slices_Compact_string_empty (a : Option Addr) (cap : Nat) (w : World) :
    Calls Tryz.prog 168 #[.slice a 0 cap] w fun e w' => e = .returned (.slice a 0 cap) ∧ w' = w := Any.slices_Compact_string_empty Sh.lays194 a cap w
open Go.RowKit Go.Sort in
theorem Sh.slices_Sort_string_none (p : Option Addr) (cap : Nat) (w : World) :
    Calls Tryz.prog 167 #[.slice p 0 cap] w fun e w' => e = .returned (.tuple #[]) ∧ w' = w := Any.slices_Sort_string_none Sh.lays190 p cap w
end
section
open Go.RowKit
theorem sortS_a (l : List ByteArray) : ATake Tryz.prog 167 1 (eL l) [] false true (eL (I1 l)) := by
  have h := CH oneS (P := Tryz.prog) (f := 167) (by unfold Dt; kernel_rfl) (fun l => l.mergeSort fun x y => decide (x ≤ y)) (fun l => List.length_mergeSort _) (fun l x h => (List.mergeSort_perm l _).mem_iff.1 h) (fun oa cap w => Sh.slices_Sort_string_none oa cap w) (fun g cap l w h h2 h3 => Sh.slices_Sort_string g 0 cap l w h h2 h3) l
  exact h
theorem compS_a (l : List ByteArray) : ATake Tryz.prog 168 1 (eL l) [] false false (eL (Th l)) := by
  have h := CI oneS (P := Tryz.prog) (f := 168) (by unfold Dt; kernel_rfl) Lib.compact ZI comp_mem (fun oa cap w => Sh.slices_Compact_string_empty oa cap w) (fun g cap l w h h2 h3 => (Sh.slices_Compact_string g 0 cap l w h h2 h3).mono (by rintro e w' ⟨h4, q, h5⟩; exact ⟨h4, q, _, by have := ZI l; simp; omega, h5⟩)) l
  exact h
open GoE (enc wide)
def D6 (s_ : ByteArray) (k0 : Nat) (a0 : ByteArray) (_ : Unit) : Rd ((List ByteArray)) (Unit) (Int) := (bif (Op.bytesLess a0.toList s_.toList) then (.next ()) else (.brk ((k0 : Nat) : Int)))
def D7 (k0 : Nat) (_ : Unit) : Int := ((k0 : Nat) : Int)
def Ed (list : (List ByteArray)) (s_ : ByteArray) : (List ByteArray) := (Out.on (Xp (D6 s_) D7 list 0 ()) (fun y0 => (bif (decide (y0 < (list.length : Int)) && ((nth list (Int.toNat y0)).toList == s_.toList)) then list else List.take (Int.toNat y0) list ++ [s_] ++ (List.drop (Int.toNat y0) list))))
theorem KU (list : (List ByteArray)) (s_ : ByteArray) (hp : list.length < 1073741824) : ACalls Tryz.prog 170 [.h list, .s s_] (.h (Ed list s_)) := by
 refine en Qa Tryz.func170 fun w0 F0 hG => ?_
 refine sn Qa [0, 1, 4] [] (p0) ?_
 refine tn Qa [0, 1, 4, 5] [] (p0) ?_
 refine Qc ?_
 refine mz [(4, .e 0), (5, .i 0)] [] [] [] ?_
 refine wT 0 0 .sh list (fun hw1 hl2 => ?_)
 refine blL2 (D6 s_) D7 list () (fun k0 _ => [(5, .i ((k0 : Nat) : Int))]) [5] (fun y0 => [(5, .i y0)]) [5] (fun y0 => 0 ≤ y0 ∧ y0 ≤ (list.length : Int)) wf0 (fun k0 s0 hk0 hI0 => ?_) (fun k0 s0 hk0 hI0 => ?_) (fun y0 hD0 => ?_)
 ·
  obtain ⟨a0, hx0⟩ := Xr (l := list) (i := k0) hk0
  refine Qc ?_
  refine sn Qa [0, 1, 4, 5, 18] [] (pl 2 list (pe 3 (Qw (decide_eq_true (p := ((k0 : Nat) : Int) < (list.length : Int)) (by omega))) (pn 7 hx0 p0))) ?_
  refine ck (Op.bytesLess a0.toList s_.toList) (fun h3 => ?_) (fun h3 => ?_)
  ·
   refine Qh ?_
   refine Qt ?_
   refine qn Qa [0, 1, 4, 5] [] (pe 1 (Jw (Qy k0 (by omega))) p0) ?_
   exact xw _ (Q0 hx0 (Q1 h3 (rfl)) hI0)
  refine Q2 ?_
  exact xw ((k0 : Nat) : Int) ⟨Lm hx0 (Ql h3 (rfl)) hI0, by first | omega | (simp only [List.length_set]; omega)⟩
 ·
  refine Qc ?_
  refine sn Qa [0, 1, 4, 5, 18] [] (pl 2 list (pe 3 (Qw (decide_eq_false (p := ((k0 : Nat) : Int) < (list.length : Int)) (by omega))) p0)) ?_
  refine ckF ?_
  refine Q2 ?_
  exact xw ((k0 : Nat) : Int) ⟨Xs hk0 (rfl) hI0, by first | omega | (simp only [List.length_set]; omega)⟩
 have hD0_0 := hD0.2
 refine Qc ?_
 refine Qc ?_
 refine jn [(32, .b (decide (y0 < (list.length : Int)) && ((nth list (Int.toNat y0)).toList == s_.toList)))] [] [] [] (decide (y0 < (list.length : Int))) (fun h4 => ?_) (fun h4 => ?_) ?_
 ·
  have h4d := of_decide_eq_true h4
  have hx5 := ng list (Int.toNat y0)
  refine rn Qa [0, 1, 4, 5, 32] [] (pl 2 list (pt 3 h4 (pg 7 y0 hx5 p0))) ?_
  exact ⟨rfl, Qf (by rw [h4] <;> kernel_rfl)⟩
 ·
  refine rn Qa [0, 1, 4, 5, 32] [] (pl 2 list (pf 3 h4 p0)) ?_
  exact ⟨rfl, Qf (by rw [h4] <;> kernel_rfl)⟩
 refine ck (decide (y0 < (list.length : Int)) && ((nth list (Int.toNat y0)).toList == s_.toList)) (fun h6 => ?_) (fun h6 => ?_)
 ·
  refine sn Qa [0, 1, 4, 5] [] (p0) ?_
  refine Qe ?_
  exact ph0 [] (Un hD0.1 (Q1 h6 (rfl)))
 refine Qh ?_
 have hl7 : List.length (List.take (Int.toNat y0) list) ≤ 1073741824 := W7 (Ix (Int.toNat y0) (hw1))
 refine su Qa [(6, .one (.slc (.own true 2624) 1 (([] ++ (eL (List.take (Int.toNat y0) list))) ++ [[.s s_]])))] [1, 32] [] [] (pe 3 (M4 .sh 1 (Int.toNat y0) y0 list rfl) (px (Cs (lo := 0) (hi := y0) (n := (List.length (eL list))) (Tf (by omega) (by omega) (by omega))) (po 4 (.flat) (px (Hu (n := (([] : List (List PV)).length + ((eL (List.take (Int.toNat y0) list)) : List (List PV)).length)) (Dm (rfl) (Yb (List.take (Int.toNat y0) list)) (by first | omega | (simp only [List.length_cons, List.length_nil]; omega) | (simp; omega) | simp))) (px (H4 (H5 (List.take (Int.toNat y0) list))) (px (Hu (n := ((([] ++ (eL (List.take (Int.toNat y0) list))) : List (List PV)).length + ([[.s s_]] : List (List PV)).length)) (by simp [Yb]; omega)) p0)))))) ?_
 refine eqn [(6, .o 2624 (List.take (Int.toNat y0) list ++ [s_]))] [6] [] [] (by rw [show (([] ++ (eL (List.take (Int.toNat y0) list))) ++ [[.s s_]]) = (eL (List.take (Int.toNat y0) list ++ [s_])) from Vn (rfl) (rfl)]; first | done | kernel_rfl) ?_
 refine wT 6 0 (.own true 2624) (List.take (Int.toNat y0) list ++ [s_]) (fun hw8 hl9 => ?_)
 have hl10 : List.length (List.drop (Int.toNat y0) list) ≤ 1073741824 := W7 (Iy (Int.toNat y0) (hw1))
 refine su Qa [(4, .one (.slc (.own true 2944) 1 ((eL (List.take (Int.toNat y0) list ++ [s_])) ++ (eL (List.drop (Int.toNat y0) list)))))] [0, 4, 5, 6] [] [] (pe 3 (Te .sh 1 (Int.toNat y0) y0 list rfl) (px (Cs (lo := y0) (hi := (((eL list) : List (List PV)).length : Int)) (n := (List.length (eL list))) (Tg (by omega) (by omega))) (po 4 (.flat) (pa (List.take (Int.toNat y0) list ++ [s_]) (List.drop (Int.toNat y0) list) (px (H4 (H5 (List.drop (Int.toNat y0) list))) p0))))) ?_
 refine eqn [(4, .o 2944 (List.take (Int.toNat y0) list ++ [s_] ++ (List.drop (Int.toNat y0) list)))] [4] [] [] (by rw [show ((eL (List.take (Int.toNat y0) list ++ [s_])) ++ (eL (List.drop (Int.toNat y0) list))) = (eL (List.take (Int.toNat y0) list ++ [s_] ++ (List.drop (Int.toNat y0) list))) from Vn (rfl) (rfl)]; first | done | kernel_rfl) ?_
 refine Qe ?_
 exact ph0 [2944] (Un hD0.1 (Ql h6 (rfl)))
theorem Pw {a b : ByteArray} : (a.toList == b.toList) = decide (a = b) := by
  rw [ByteArray.toList_eq, ByteArray.toList_eq, Bool.eq_iff_iff]
  simp only [beq_iff_eq, decide_eq_true_eq]
  exact ⟨fun h => ByteArray.ext (Array.ext' h), fun h => h ▸ rfl⟩
def Ct (l : List ByteArray) (s : ByteArray) : Nat := (l.takeWhile fun x => bl x s).length
theorem Tm (a : ByteArray) (l : List ByteArray) (s : ByteArray) : Ct (a :: l) s = if bl a s = true then Ct l s + 1 else 0 := by
  unfold Ct
  rw [List.takeWhile_cons]
  cases bl a s <;> simp
theorem XW (s : ByteArray) : ∀ (l : List ByteArray) (k : Nat), Xp (D6 s) D7 l k () = .brk (((k + Ct l s : Nat)) : Int)
  | [], k => by simp [Xp, D7, Ct]
  | a :: l, k => by
    rw [Tm]
    simp only [Xp, D6]
    cases h : Op.bytesLess a.toList s.toList with
    | true =>
      have h' : bl a s = true := h
      simp only [cond_true, h', if_true]
      rw [XW s l (k + 1), show k + 1 + Ct l s = k + (Ct l s + 1) by omega]
    | false =>
      have h' : bl a s = false := h
      simp [h']
theorem GC (s : ByteArray) : ∀ l : List ByteArray, KP l s = bif (decide (((Ct l s : Nat) : Int) < (l.length : Int)) && ((nth l (Ct l s)).toList == s.toList)) then l else List.take (Ct l s) l ++ [s] ++ List.drop (Ct l s) l
  | [] => by simp [KP, Ct]
  | a :: l => by
    rw [Tm, KP]
    cases h : bl a s with
    | true =>
      simp only [if_true]
      rw [GC s l]
      have e : nth (a :: l) (Ct l s + 1) = nth l (Ct l s) := rfl
      rw [e, show decide ((((Ct l s + 1 : Nat)) : Int) < ((a :: l).length : Int)) = decide (((Ct l s : Nat) : Int) < (l.length : Int)) by
        rw [Bool.eq_iff_iff]; simp only [decide_eq_true_eq, List.length_cons]; omega]
      generalize (decide (((Ct l s : Nat) : Int) < (l.length : Int)) && ((nth l (Ct l s)).toList == s.toList)) = c
      cases c <;> simp
    | false =>
      have e : nth (a :: l) 0 = a := rfl
      simp only [Bool.false_eq_true, if_false]
      rw [e, Pw]
      by_cases hs : a = s
      · simp [hs]
      simp [hs]
theorem KV (l : List ByteArray) (s : ByteArray) : Ed l s = KP l s := by
  unfold Ed
  rw [XW, GC]
  simp only [Out.on, Nat.zero_add, Int.toNat_natCast]
theorem GD (l : List ByteArray) (s : ByteArray) : List.length (Ed l s) ≤ List.length l + 1 := by rw [KV]; exact AH s l
open GoE (enc wide)
def Y5 (n : X7) : Bool := ((n.1 == (8 : Int)) || (n.1 == (9 : Int)))
theorem L8 (n : X7) : ACalls Tryz.prog 161 [.a [.i n.1, .i n.2.1, .i n.2.2.1, .s n.2.2.2.1, .i n.2.2.2.2.1, .i n.2.2.2.2.2.1, .s n.2.2.2.2.2.2]] (.b (Y5 n)) := by
 refine en Qa Tryz.func161 fun w0 F0 hG => ?_
 refine sn Qa [1, 2] [1] (p0) ?_
 refine Qc ?_
 refine mz [(1, .p 1 0), (2, .b false)] [0] [(1, [.i n.1, .i n.2.1, .i n.2.2.1, .s n.2.2.2.1, .i n.2.2.2.2.1, .i n.2.2.2.2.2.1, .s n.2.2.2.2.2.2])] [] ?_
 refine jn [(2, .b ((n.1 == (8 : Int)) || (n.1 == (9 : Int))))] [1, 2] [] [1] (n.1 == (8 : Int)) (fun h1 => ?_) (fun h1 => ?_) ?_
 ·
  refine rn Qa [2] [] (pt 2 h1 p0) ?_
  exact ⟨rfl, Qf (by rw [h1] <;> kernel_rfl)⟩
 ·
  refine rn Qa [2] [] (pf 2 h1 p0) ?_
  exact ⟨rfl, Qf (by rw [h1] <;> kernel_rfl)⟩
 refine Qe ?_
 exact pb [] (show Y5 n = ((n.1 == (8 : Int)) || (n.1 == (9 : Int))) from rfl)
def Fj (l : (List ByteArray)) : (List ByteArray) := Th (I1 l)
theorem Ro (l : (List ByteArray)) : ACalls Tryz.prog 162 [.h l] (.h (Fj l)) := by
 refine en Qa Tryz.func162 fun w0 F0 hG => ?_
 refine sn Qa [0, 2] [] (p0) ?_
 refine tn Qa [2, 3] [] (pc 1 (N6 l) p0) ?_
 refine mz [(2, .e 0), (3, .o 320 l)] [0] [] [] ?_
 refine Bo [320] rfl ?_
 refine su Qa [(3, .one (.slc (.own false 320) 1 (putR (eL l) 0 4294967296 (List.flatten (eL (I1 l))))))] [3] [] [] (po 1 (.take false true (eL (I1 l))) (px (UD (sortS_a l)) p0)) ?_
 refine eqn [(3, .q 320 (I1 l))] [3] [] [] (by rw [putR_all (fun _ => rfl) (KN _)] <;> kernel_rfl) ?_
 refine sn Qa [2] [] (po 1 (.take false false (eL (Th (I1 l)))) (px (UD (compS_a (I1 l))) p0)) ?_
 refine Qe ?_
 exact ph0 [576] (show Fj l = Th (I1 l) from rfl)
def Jt (q : (List X7)) (negated : Bool) (k0 : Nat) (a0 : Bool) (s0 : (List ByteArray)) : Rd ((List ByteArray)) ((List ByteArray)) ((List ByteArray)) := (bif ((Y5 (nth q k0)) && (a0 == negated)) then (.next (s0 ++ [(nth q k0).2.2.2.1])) else (.next s0))
def Vx (_ : Nat) (s0 : (List ByteArray)) : (List ByteArray) := s0
def Jy (q : (List X7)) (negated : Bool) : (List ByteArray) := (Out.on (Xp (Jt q negated) Vx (Xd q) 0 []) (fun y0 => (Fj y0)))
theorem I3 (q : (List X7)) (negated : Bool) : ACalls Tryz.prog 144 [.h q, .b negated] (.h (Jy q negated)) := by
 refine en Qa Tryz.func144 fun w0 F0 hG => ?_
 have hnl := M7 q
 refine sn Qa [0, 1, 4] [] (p0) ?_
 refine tn Qa [0, 1, 4, 5] [] (p0) ?_
 refine Qc ?_
 refine tu Qa [(4, .e 0), (5, .one (.slc (.own true 512) 1 [])), (10, .o 640 (Xd q)), (11, .i ((Xd q).length : Int)), (12, .i 0)] [] [] [] (pc 1 (N8 q) (pl 2 (Xd q) p0)) ?_
 refine wT 10 0 (.own true 640) (Xd q) (fun hw1 hl2 => ?_)
 refine blL1 (Jt q negated) Vx (Xd q) [] (fun k0 s0 => [(5, .o 147203 s0), (12, .i ((k0 : Nat) : Int))]) [5, 12] (fun y0 => [(5, .o 147353 y0)]) [0, 1, 5, 10, 11, 12] (fun k0 s0 => List.length s0 ≤ k0) (X3 [(512, 147203)] (by kernel_rfl)) (by simp) (fun k0 s0 hk0 hI0 => ?_) (fun k0 s0 hk0 hI0 => ?_) (fun y0 hD0 => ?_)
 ·
  have hA0_0 := hI0.2
  obtain ⟨a0, hx0⟩ := Xr (l := Xd q) (i := k0) hk0
  refine su Qa [(13, .b true)] [] [] [] (pe 0 (Qw (decide_eq_true (p := ((k0 : Nat) : Int) < ((Xd q).length : Int)) (by omega))) p0) ?_
  refine Qc ?_
  refine ckT ?_
  refine Qh ?_
  refine Qc ?_
  refine Qt ?_
  refine sn Qa [0, 1, 4, 5, 6, 7, 10, 11, 12] [] (pN 1 hx0 p0) ?_
  refine Qc ?_
  refine mz [(6, .i ((k0 : Nat) : Int)), (7, .b a0)] [13] [] [] ?_
  refine jn [(26, .b ((Y5 (nth q k0)) && (a0 == negated)))] [7] [] [] (Y5 (nth q k0)) (fun h3 => ?_) (fun h3 => ?_) ?_
  ·
   refine wT 0 0 .sh q (fun hw5 hl6 => ?_)
   have hx4 := ng q k0
   refine rn Qa [0, 1, 4, 5, 6, 10, 11, 12, 26] [] (pn 2 hx4 (pc 4 (cb h3 (L8 (nth q k0))) p0)) ?_
   exact ⟨rfl, Qf (by rw [h3] <;> kernel_rfl)⟩
  ·
   refine wT 0 0 .sh q (fun hw8 hl9 => ?_)
   have hx7 := ng q k0
   refine ru Qa [(26, .b false)] [7] [] [] (pn 2 hx7 (pc 4 (cb h3 (L8 (nth q k0))) p0)) ?_
   exact ⟨rfl, Qf (by rw [h3] <;> kernel_rfl)⟩
  refine ck ((Y5 (nth q k0)) && (a0 == negated)) (fun h10 => ?_) (fun h10 => ?_)
  ·
   have h10r : ((a0 == negated)) = true := QB h10
   have h10rd := eq_of_beq h10r
   refine wT 0 0 .sh q (fun hw12 hl13 => ?_)
   have hx11 := ng q k0
   refine wT 5 0 (.own true 147203) s0 (fun hw14 hl15 => ?_)
   refine ru Qa [(5, .one (.slc (.own true 2176) 1 ((eL s0) ++ [[.s ((nth q k0).2.2.2.1)]])))] [5, 6, 26] [] [] (pn 3 hx11 (pa s0 [(nth q k0).2.2.2.1] p0)) ?_
   refine eqn [(5, .o 2176 (s0 ++ [(nth q k0).2.2.2.1]))] [5] [] [] (by rw [show ((eL s0) ++ [[.s ((nth q k0).2.2.2.1)]]) = (eL (s0 ++ [(nth q k0).2.2.2.1])) from Vn (rfl) (rfl)]; first | done | kernel_rfl) ?_
   refine rn Qa [0, 1, 4, 5, 10, 11, 12] [] (pe 0 (Jw (Qy k0 (by omega))) p0) ?_
   exact Exists.intro (s0 ++ [(nth q k0).2.2.2.1]) (And.intro (X3 [(2176, 147203)] (by kernel_rfl)) ⟨Q0 hx0 (Q1 h10 (rfl)) hI0.1, by first | omega | (simp; omega) | simp⟩)
  refine Qh ?_
  refine rn Qa [0, 1, 4, 5, 10, 11, 12] [] (pe 0 (Jw (Qy k0 (by omega))) p0) ?_
  exact xw s0 ⟨Q0 hx0 (Ql h10 (rfl)) hI0.1, by first | omega | (simp; omega) | simp⟩
 ·
  have hA0_0 := hI0.2
  refine su Qa [(13, .b false)] [] [] [] (pe 0 (Qw (decide_eq_false (p := ((k0 : Nat) : Int) < ((Xd q).length : Int)) (by omega))) p0) ?_
  refine Qc ?_
  refine ckF ?_
  refine Q2 ?_
  exact Exists.intro _ (And.intro (X3 [(147203, 147353)] (by kernel_rfl)) (Xs hk0 (rfl) hI0.1))
 refine sn Qa [4] [] (pc 1 (Ro y0) p0) ?_
 refine Qe ?_
 exact ph0 [] (Un hD0 (rfl))
def Xz (q : (List X7)) : (List ByteArray) := (Jy q false)
theorem Oe (q : (List X7)) : ACalls Tryz.prog 111 [.h q] (.h (Xz q)) := by
 refine en Qa Tryz.func111 fun w0 F0 hG => ?_
 refine sn Qa [0, 2] [] (p0) ?_
 refine tn Qa [2] [] (pc 1 (I3 q false) p0) ?_
 refine Qe ?_
 exact ph0 [] (show Xz q = (Jy q false) from rfl)
def Xj (q : (List X7)) : (List ByteArray) := (Jy q true)
theorem Og (q : (List X7)) : ACalls Tryz.prog 112 [.h q] (.h (Xj q)) := by
 refine en Qa Tryz.func112 fun w0 F0 hG => ?_
 refine sn Qa [0, 2] [] (p0) ?_
 refine tn Qa [2] [] (pc 1 (I3 q true) p0) ?_
 refine Qe ?_
 exact ph0 [] (show Xj q = (Jy q true) from rfl)
def B5 (q : (List X7)) (under : Bool) (k0 : Nat) (a0 : Bool) (s0 : (List ByteArray)) : Rd ((List ByteArray)) ((List ByteArray)) ((List ByteArray)) := (bif ((Xg ((nth q k0).1) 8 9) && (a0 == under)) then (.next (Ed s0 ((nth q k0).2.2.2.1))) else (.next s0))
def B6 (_ : Nat) (s0 : (List ByteArray)) : (List ByteArray) := s0
def H8 (q : (List X7)) (under : Bool) : (List ByteArray) := (Out.on (Xp (B5 q under) B6 (Zm q) 0 []) (fun y0 => y0))
theorem Ma (q : (List X7)) (under : Bool) : ACalls Tryz.prog 163 [.h q, .b under] (.o 0 (H8 q under)) := by
 refine en Qa Tryz.func163 fun w0 F0 hG => ?_
 have hnl := KM q
 refine sn Qa [0, 1, 4] [] (p0) ?_
 refine tn Qa [0, 1, 4, 5] [] (p0) ?_
 refine tu Qa [(4, .e 0), (5, .one (.slc (.own true 512) 1 [])), (6, .o 640 (Zm q))] [] [] [] (pc 1 (N9 q) p0) ?_
 refine Qc ?_
 refine su Qa [(7, .i 0)] [] [] [] (p0) ?_
 refine wT 6 0 (.own true 640) (Zm q) (fun hw1 hl2 => ?_)
 refine blL1 (B5 q under) B6 (Zm q) [] (fun k0 s0 => [(5, .h s0), (7, .i ((k0 : Nat) : Int))]) [5, 7] (fun y0 => [(5, .h y0)]) [0, 1, 5, 6, 7] (fun k0 s0 => List.length s0 ≤ k0) (M5 [] [512] [] [] (by kernel_rfl)) (by simp) (fun k0 s0 hk0 hI0 => ?_) (fun k0 s0 hk0 hI0 => ?_) (fun y0 hD0 => ?_)
 ·
  have hA0_0 := hI0.2
  obtain ⟨a0, hx0⟩ := Xr (l := Zm q) (i := k0) hk0
  refine Qc ?_
  refine su Qa [(14, .b true)] [] [] [] (pl 2 (Zm q) (pe 3 (Qw (decide_eq_true (p := ((k0 : Nat) : Int) < ((Zm q).length : Int)) (by omega))) p0)) ?_
  refine ckT ?_
  refine Qh ?_
  refine Qc ?_
  refine Qt ?_
  refine Qc ?_
  refine jn [(30, .b ((Xg ((nth q k0).1) 8 9) && (a0 == under)))] [14] [] [] (Xg ((nth q k0).1) 8 9) (fun h3 => ?_) (fun h3 => ?_) ?_
  ·
   refine wT 0 0 .sh q (fun hw5 hl6 => ?_)
   have hx4 := ng q k0
   refine rn Qa [0, 1, 4, 5, 6, 7, 30] [] (pn 2 hx4 (pc 5 (cb h3 (Zy ((nth q k0).1) 8 9)) (pN 9 hx0 p0))) ?_
   exact ⟨rfl, Qf (by rw [h3] <;> kernel_rfl)⟩
  ·
   refine wT 0 0 .sh q (fun hw8 hl9 => ?_)
   have hx7 := ng q k0
   refine rn Qa [0, 1, 4, 5, 6, 7, 30] [] (pn 2 hx7 (pc 5 (cb h3 (Zy ((nth q k0).1) 8 9)) p0)) ?_
   exact ⟨rfl, Qf (by rw [h3] <;> kernel_rfl)⟩
  refine ck ((Xg ((nth q k0).1) 8 9) && (a0 == under)) (fun h10 => ?_) (fun h10 => ?_)
  ·
   have h10r : ((a0 == under)) = true := QB h10
   have h10rd := eq_of_beq h10r
   refine wT 0 0 .sh q (fun hw12 hl13 => ?_)
   have hx11 := ng q k0
   refine rn Qa [0, 1, 4, 5, 6, 7] [] (pn 3 hx11 (pc 6 (KU s0 ((nth q k0).2.2.2.1) (by omega)) p0)) ?_
   refine qn Qa [0, 1, 4, 5, 6, 7] [] (pe 1 (Jw (Qy k0 (by omega))) p0) ?_
   exact xw (Ed s0 ((nth q k0).2.2.2.1)) ⟨Q0 hx0 (Q1 h10 (rfl)) hI0.1, (by first | omega | (have hz := GD s0 (nth q k0).2.2.2.1; omega))⟩
  refine Qh ?_
  refine rn Qa [0, 1, 4, 5, 6, 7] [] (pe 1 (Jw (Qy k0 (by omega))) p0) ?_
  exact xw s0 ⟨Q0 hx0 (Ql h10 (rfl)) hI0.1, (by first | omega | (have hz := GD s0 (nth q k0).2.2.2.1; omega))⟩
 ·
  have hA0_0 := hI0.2
  refine Qc ?_
  refine su Qa [(14, .b false)] [] [] [] (pl 2 (Zm q) (pe 3 (Qw (decide_eq_false (p := ((k0 : Nat) : Int) < ((Zm q).length : Int)) (by omega))) p0)) ?_
  refine ckF ?_
  refine Q2 ?_
  exact xw _ (Xs hk0 (rfl) hI0.1)
 refine wT 5 0 .sh y0 (fun hw14 hl15 => ?_)
 refine sn Qa [4] [] (po 2 (.flat) (px (Hu (n := (([] : List (List PV)).length + ((eL y0) : List (List PV)).length)) (Dm (rfl) (Yb y0) (by first | omega | (simp only [List.length_cons, List.length_nil]; omega) | (simp; omega) | simp))) (px (H4 (H5 y0)) p0))) ?_
 refine Qe ?_
 exact po0 [] (Un hD0 (rfl))
def Zn (q : (List X7)) : (List ByteArray) := (H8 q false)
theorem Oh (q : (List X7)) : ACalls Tryz.prog 149 [.h q] (.o 0 (Zn q)) := by
 refine en Qa Tryz.func149 fun w0 F0 hG => ?_
 refine sn Qa [0, 2] [] (p0) ?_
 refine tn Qa [2] [] (pc 1 (Ma q false) p0) ?_
 refine Qe ?_
 exact po0 [] (show Zn q = (H8 q false) from rfl)
def Zo (q : (List X7)) : (List ByteArray) := (H8 q true)
theorem Oi (q : (List X7)) : ACalls Tryz.prog 151 [.h q] (.o 0 (Zo q)) := by
 refine en Qa Tryz.func151 fun w0 F0 hG => ?_
 refine sn Qa [0, 2] [] (p0) ?_
 refine tn Qa [2] [] (pc 1 (Ma q true) p0) ?_
 refine Qe ?_
 exact po0 [] (show Zo q = (H8 q true) from rfl)
theorem UM (n : X7) : Xg n.1 8 9 = Y5 n := by
  unfold Xg Y5
  rw [Bool.eq_iff_iff]
  simp
  omega
theorem Tn (q : List X7) (b : Bool) : ∀ (l : List Bool) (k : Nat) (s : List ByteArray), ∃ m, Xp (Jt q b) Vx l k s = .brk (s ++ m) ∧ ∀ t, Xp (B5 q b) B6 l k t = .brk (M9 t m)
  | [], k, s => ⟨[], by simp [Xp, Vx], fun t => by simp [Xp, B6, M9]⟩
  | a :: l, k, s => by
    simp only [Xp, Jt, B5, UM]
    cases h : (Y5 (nth q k) && (a == b)) with
    | true =>
      obtain ⟨m, h1, h2⟩ := Tn q b l (k + 1) (s ++ [(nth q k).2.2.2.1])
      refine ⟨(nth q k).2.2.2.1 :: m, ?_, fun t => ?_⟩
      · simp only [cond_true]; rw [h1, List.append_assoc]; rfl
      simp only [cond_true]; rw [h2, KV]; rfl
    | false =>
      obtain ⟨m, h1, h2⟩ := Tn q b l (k + 1) s
      exact ⟨m, by simp only [cond_false]; exact h1, fun t => by simp only [cond_false]; exact h2 t⟩
theorem GE (q : List X7) (b : Bool) : H8 q b = Jy q b := by
  unfold H8 Jy
  obtain ⟨m, h1, h2⟩ := Tn q b (Xd q) 0 []
  rw [XQ, h1, h2]
  simp only [Out.on, List.nil_append]
  exact (once_put m).symm
theorem CK (q : List X7) : Zn q = Xz q := GE q false
theorem CL (q : List X7) : Zo q = Xj q := GE q true
open GoE (enc wide)
def Yr (d : (List Ys)) (k0 : Nat) (a0 : Ys) (_ : Unit) : Rd (Bool) (Unit) (Unit) := (bif ((!(Yt a0.1)) || (bif decide (((k0 : Nat) : Int) > (0 : Int)) then ((!(Op.bytesLess ((nth d (Int.toNat (((k0 : Nat) : Int) - 1))).1).toList a0.1.toList)) || (!(Qv a0.2))) else (!(Qv a0.2)))) then (.ret false) else (.next ()))
def J4 (_ : Nat) (_ : Unit) : Unit := ()
def Y7 (d : (List Ys)) : Bool := (Out.on (Xp (Yr d) J4 d 0 ()) (fun _ => decide ((d.length : Int) ≤ (5 : Int))))
theorem Px (d : (List Ys)) : ACalls Tryz.prog 109 [.h d] (.b (Y7 d)) := by
 refine en Qa Tryz.func109 fun w0 F0 hG => ?_
 refine sn Qa [0, 2] [] (p0) ?_
 refine Qc ?_
 refine tn Qa [0, 2, 5, 6, 7] [] (pl 1 d p0) ?_
 refine mz [(2, .b false), (5, .h d), (6, .i (d.length : Int)), (7, .i 0)] [] [] [] ?_
 refine wT 0 0 .sh d (fun hw1 hl2 => ?_)
 refine Ii (Yr d) J4 d () (fun k0 _ => [(7, .i ((k0 : Nat) : Int))]) [7] (fun _ => []) [5, 6, 7] wf0 (fun k0 s0 hk0 hI0 => ?_) (fun k0 s0 hk0 hI0 => ?_) (fun y0 hD0 => ?_)
 ·
  obtain ⟨a0, hx0⟩ := Xr (l := d) (i := k0) hk0
  refine sn Qa [0, 2, 5, 6, 7, 8] [] (pe 0 (Qw (decide_eq_true (p := ((k0 : Nat) : Int) < (d.length : Int)) (by omega))) p0) ?_
  refine Qc ?_
  refine ckT ?_
  refine Qh ?_
  refine Qc ?_
  refine Qt ?_
  refine tn Qa [0, 2, 3, 4, 5, 6, 7] [4] (pn 1 hx0 p0) ?_
  refine Qc ?_
  refine mz [(3, .i ((k0 : Nat) : Int)), (4, .p 4 0)] [] [(4, [.s a0.1, .h a0.2])] [] ?_
  refine jn [(36, .b ((!(Yt a0.1)) || (bif decide (((k0 : Nat) : Int) > (0 : Int)) then ((!(Op.bytesLess ((nth d (Int.toNat (((k0 : Nat) : Int) - 1))).1).toList a0.1.toList)) || (!(Qv a0.2))) else (!(Qv a0.2)))))] [3, 4] [] [4] (!(Yt a0.1)) (fun h3 => ?_) (fun h3 => ?_) ?_
  ·
   have h3n : (Yt a0.1) = false := Be h3
   refine rN Qa Yc [0, 2, 5, 6, 7, 36] [] (pc 2 (cb h3n (Jn a0.1)) (pe 3 (show .b (!false) = .b true from rfl) p0)) ?_
   exact ⟨rfl, Qf (by rw [h3] <;> kernel_rfl)⟩
  ·
   have h3n : (Yt a0.1) = true := Vd h3
   refine Q9 (decide (((k0 : Nat) : Int) > (0 : Int))) (fun h4 => ?_) (fun h4 => ?_)
   ·
    have h4d := of_decide_eq_true h4
    refine Q9 (!(Op.bytesLess ((nth d (Int.toNat (((k0 : Nat) : Int) - 1))).1).toList a0.1.toList)) (fun h5 => ?_) (fun h5 => ?_)
    ·
     have hx6 := ng d (Int.toNat (((k0 : Nat) : Int) - 1))
     refine rN Qa Yc [0, 2, 5, 6, 7, 36] [] (pc 2 (cb h3n (Jn a0.1)) (pe 3 (show .b (!true) = .b false from rfl) (pt 6 h4 (pe 10 (Jw (IntWalk.i64_in (((k0 : Nat) : Int) - 1) (by omega))) (pg 11 (((k0 : Nat) : Int) - 1) hx6 (pt 16 h5 p0)))))) ?_
     exact ⟨rfl, Qf (by rw [h3, h4, h5] <;> kernel_rfl)⟩
    have hx7 := ng d (Int.toNat (((k0 : Nat) : Int) - 1))
    refine rN Qa Yc [0, 2, 5, 6, 7, 36] [] (pc 2 (cb h3n (Jn a0.1)) (pe 3 (show .b (!true) = .b false from rfl) (pt 6 h4 (pe 10 (Jw (IntWalk.i64_in (((k0 : Nat) : Int) - 1) (by omega))) (pg 11 (((k0 : Nat) : Int) - 1) hx7 (pf 16 h5 (pc 22 (W9 a0.2) p0))))))) ?_
    exact ⟨rfl, Qf (by rw [h3, h4, h5] <;> kernel_rfl)⟩
   refine rN Qa Yc [0, 2, 5, 6, 7, 36] [] (pc 2 (cb h3n (Jn a0.1)) (pe 3 (show .b (!true) = .b false from rfl) (pf 6 h4 (pc 22 (W9 a0.2) p0)))) ?_
   exact ⟨rfl, Qf (by rw [h3, h4] <;> kernel_rfl)⟩
  refine ck ((!(Yt a0.1)) || (bif decide (((k0 : Nat) : Int) > (0 : Int)) then ((!(Op.bytesLess ((nth d (Int.toNat (((k0 : Nat) : Int) - 1))).1).toList a0.1.toList)) || (!(Qv a0.2))) else (!(Qv a0.2)))) (fun h8 => ?_) (fun h8 => ?_)
  ·
   refine su Qa [] [36] [] [] (p0) ?_
   refine Qe ?_
   have hr9 : (Xp (Yr d) J4 d 0 ()) = .ret false := Zt hx0 (Q1 h8 (rfl)) hI0
   exact pb [] (Ie hr9)
  refine Qh ?_
  refine rn Qa [0, 2, 5, 6, 7] [] (pe 0 (Jw (Qy k0 (by omega))) p0) ?_
  exact xw _ (Q0 hx0 (Ql h8 (rfl)) hI0)
 ·
  refine sn Qa [0, 2, 5, 6, 7, 8] [] (pe 0 (Qw (decide_eq_false (p := ((k0 : Nat) : Int) < (d.length : Int)) (by omega))) p0) ?_
  refine Qc ?_
  refine ckF ?_
  refine Q2 ?_
  exact xw _ (Xs hk0 (rfl) hI0)
 refine sn Qa [2] [] (pl 1 d p0) ?_
 refine Qe ?_
 exact pb [] (Un hD0 (rfl))
def Ua (d : (List Ys)) (k0 : Nat) (a0 : Ys) (_ : Unit) : Rd (Bool) (Unit) (Unit) := (bif ((!(X2 a0.1)) || ((!(Yi a0.2)) || (decide (((k0 : Nat) : Int) > (0 : Int)) && (!(Op.bytesLess ((nth d (Int.toNat (((k0 : Nat) : Int) - 1))).1).toList a0.1.toList))))) then (.ret false) else (.next ()))
def Hw (_ : Nat) (_ : Unit) : Unit := ()
def Wt (d : (List Ys)) : Bool := (Out.on (Xp (Ua d) Hw d 0 ()) (fun _ => decide ((d.length : Int) ≤ (5 : Int))))
theorem Py (d : (List Ys)) : ACalls Tryz.prog 115 [.h d] (.b (Wt d)) := by
 refine en Qa Tryz.func115 fun w0 F0 hG => ?_
 refine sn Qa [0, 2] [] (p0) ?_
 refine Qc ?_
 refine tn Qa [0, 2, 3] [] (p0) ?_
 refine mz [(2, .b false), (3, .i 0)] [] [] [] ?_
 refine wT 0 0 .sh d (fun hw1 hl2 => ?_)
 refine Ii (Ua d) Hw d () (fun k0 _ => [(3, .i ((k0 : Nat) : Int))]) [3] (fun _ => []) [3] wf0 (fun k0 s0 hk0 hI0 => ?_) (fun k0 s0 hk0 hI0 => ?_) (fun y0 hD0 => ?_)
 ·
  obtain ⟨a0, hx0⟩ := Xr (l := d) (i := k0) hk0
  refine Qc ?_
  refine sn Qa [0, 2, 3, 7] [] (pl 2 d (pe 3 (Qw (decide_eq_true (p := ((k0 : Nat) : Int) < (d.length : Int)) (by omega))) p0)) ?_
  refine ckT ?_
  refine Qh ?_
  refine Qc ?_
  refine Qt ?_
  refine Qc ?_
  refine mz [(7, .b true)] [] [] [] ?_
  refine jn [(43, .b ((!(X2 a0.1)) || ((!(Yi a0.2)) || (decide (((k0 : Nat) : Int) > (0 : Int)) && (!(Op.bytesLess ((nth d (Int.toNat (((k0 : Nat) : Int) - 1))).1).toList a0.1.toList))))))] [7] [] [] (!(X2 a0.1)) (fun h3 => ?_) (fun h3 => ?_) ?_
  ·
   have h3n : (X2 a0.1) = false := Be h3
   refine rN Qa Yc [0, 2, 3, 43] [] (pn 2 hx0 (pc 5 (cb h3n (Zr a0.1)) (pe 6 (show .b (!false) = .b true from rfl) p0))) ?_
   exact ⟨rfl, Qf (by rw [h3] <;> kernel_rfl)⟩
  ·
   have h3n : (X2 a0.1) = true := Vd h3
   refine Q9 (!(Yi a0.2)) (fun h4 => ?_) (fun h4 => ?_)
   ·
    have h4n : (Yi a0.2) = false := Be h4
    refine rN Qa Yc [0, 2, 3, 43] [] (pn 2 hx0 (pc 5 (cb h3n (Zr a0.1)) (pe 6 (show .b (!true) = .b false from rfl) (pn 10 hx0 (pc 13 (cb h4n (Vs a0.2)) (pe 14 (show .b (!false) = .b true from rfl) p0)))))) ?_
    exact ⟨rfl, Qf (by rw [h3, h4] <;> kernel_rfl)⟩
   have h4n : (Yi a0.2) = true := Vd h4
   refine Q9 (decide (((k0 : Nat) : Int) > (0 : Int))) (fun h5 => ?_) (fun h5 => ?_)
   ·
    have h5d := of_decide_eq_true h5
    have hx6 := ng d (Int.toNat (((k0 : Nat) : Int) - 1))
    refine rN Qa Yc [0, 2, 3, 43] [] (pn 2 hx0 (pc 5 (cb h3n (Zr a0.1)) (pe 6 (show .b (!true) = .b false from rfl) (pn 10 hx0 (pc 13 (cb h4n (Vs a0.2)) (pe 14 (show .b (!true) = .b false from rfl) (pt 18 h5 (pe 22 (Jw (IntWalk.i64_in (((k0 : Nat) : Int) - 1) (by omega))) (pg 23 (((k0 : Nat) : Int) - 1) hx6 (pn 28 hx0 p0)))))))))) ?_
    exact ⟨rfl, Qf (by rw [h3, h4, h5] <;> kernel_rfl)⟩
   refine rN Qa Yc [0, 2, 3, 43] [] (pn 2 hx0 (pc 5 (cb h3n (Zr a0.1)) (pe 6 (show .b (!true) = .b false from rfl) (pn 10 hx0 (pc 13 (cb h4n (Vs a0.2)) (pe 14 (show .b (!true) = .b false from rfl) (pf 18 h5 p0))))))) ?_
   exact ⟨rfl, Qf (by rw [h3, h4, h5] <;> kernel_rfl)⟩
  refine ck ((!(X2 a0.1)) || ((!(Yi a0.2)) || (decide (((k0 : Nat) : Int) > (0 : Int)) && (!(Op.bytesLess ((nth d (Int.toNat (((k0 : Nat) : Int) - 1))).1).toList a0.1.toList))))) (fun h7 => ?_) (fun h7 => ?_)
  ·
   refine sn Qa [0, 2, 3] [] (p0) ?_
   refine Qe ?_
   have hr8 : (Xp (Ua d) Hw d 0 ()) = .ret false := Zt hx0 (Q1 h7 (rfl)) hI0
   exact pb [] (Ie hr8)
  refine Qh ?_
  refine rn Qa [0, 2, 3] [] (pe 1 (Jw (Qy k0 (by omega))) p0) ?_
  exact xw _ (Q0 hx0 (Ql h7 (rfl)) hI0)
 ·
  refine Qc ?_
  refine sn Qa [0, 2, 3, 7] [] (pl 2 d (pe 3 (Qw (decide_eq_false (p := ((k0 : Nat) : Int) < (d.length : Int)) (by omega))) p0)) ?_
  refine ckF ?_
  refine Q2 ?_
  exact xw _ (Xs hk0 (rfl) hI0)
 refine sn Qa [2] [] (pl 1 d p0) ?_
 refine Qe ?_
 exact pb [] (Un hD0 (rfl))
def H9 (x : Ys) (q0 : ByteArray) : Bool := (x.1.toList == q0.toList)
theorem ZN (x : Ys) (q0 : ByteArray) : ACalls Tryz.prog 159 [.a [.s x.1, .h x.2], .one (.rptr .sh [.s q0])] (.b (H9 x q0)) := by
 refine en Qa Tryz.func159 fun w0 F0 hG => ?_
 refine sn Qa [1, 2, 3] [2] (p0) ?_
 refine tn Qa [3] [] (p0) ?_
 refine Qe ?_
 exact pb [] (show H9 x q0 = (x.1.toList == q0.toList) from rfl)
def Q7 (c0 : ByteArray) (k0 : Nat) (a0 : Ys) (_ : Unit) : Rd (Int) (Unit) (Unit) := (bif (H9 a0 c0) then (.ret ((k0 : Nat) : Int)) else (.next ()))
def Xu (_ : Nat) (_ : Unit) : Unit := ()
def Zb (s_ : (List Ys)) (c0 : ByteArray) : Int := (Out.on (Xp (Q7 c0) Xu s_ 0 ()) (fun _ => -1))
theorem B7 (s_ : (List Ys)) (c0 : ByteArray) : ACalls Tryz.prog 158 [.h s_, .one (.fnr 159 [[.s c0]])] (.i (Zb s_ c0)) := by
 refine en Qa Tryz.func158 fun w0 F0 hG => ?_
 refine sn Qa [0, 1, 4] [] (p0) ?_
 refine Qc ?_
 refine tn Qa [0, 1, 4, 7, 8] [] (pl 1 s_ p0) ?_
 refine mz [(4, .i 0), (7, .i (s_.length : Int)), (8, .i 0)] [] [] [] ?_
 refine wT 0 0 .sh s_ (fun hw1 hl2 => ?_)
 refine Ii (Q7 c0) Xu s_ () (fun k0 _ => [(8, .i ((k0 : Nat) : Int))]) [8] (fun _ => []) [0, 1, 7, 8] wf0 (fun k0 s0 hk0 hI0 => ?_) (fun k0 s0 hk0 hI0 => ?_) (fun y0 hD0 => ?_)
 ·
  obtain ⟨a0, hx0⟩ := Xr (l := s_) (i := k0) hk0
  refine sn Qa [0, 1, 4, 7, 8, 9] [] (pe 0 (Qw (decide_eq_true (p := ((k0 : Nat) : Int) < (s_.length : Int)) (by omega))) p0) ?_
  refine Qc ?_
  refine ckT ?_
  refine Qh ?_
  refine Qc ?_
  refine Qt ?_
  refine tn Qa [0, 1, 4, 5, 7, 8] [] (p0) ?_
  refine tu Qa [(5, .i ((k0 : Nat) : Int)), (16, .b (H9 a0 c0))] [] [] [] (pn 3 hx0 (pc 5 (ZN a0 c0) p0)) ?_
  refine ck (H9 a0 c0) (fun h3 => ?_) (fun h3 => ?_)
  ·
   refine sn Qa [0, 1, 4, 7, 8] [] (p0) ?_
   refine Qe ?_
   have hr4 : (Xp (Q7 c0) Xu s_ 0 ()) = .ret ((k0 : Nat) : Int) := Zt hx0 (Q1 h3 (rfl)) hI0
   exact pi [] (Ie hr4)
  refine Qh ?_
  refine rn Qa [0, 1, 4, 7, 8] [] (pe 0 (Jw (Qy k0 (by omega))) p0) ?_
  exact xw _ (Q0 hx0 (Ql h3 (rfl)) hI0)
 ·
  refine sn Qa [0, 1, 4, 7, 8, 9] [] (pe 0 (Qw (decide_eq_false (p := ((k0 : Nat) : Int) < (s_.length : Int)) (by omega))) p0) ?_
  refine Qc ?_
  refine ckF ?_
  refine Q2 ?_
  exact xw _ (Xs hk0 (rfl) hI0)
 refine sn Qa [4] [] (p0) ?_
 refine Qe ?_
 exact pi [] (Un hD0 (rfl))
def Xa (d : (List Ys)) (name : ByteArray) : Int := (Zb d name)
theorem UN (d : (List Ys)) (name : ByteArray) : ACalls Tryz.prog 143 [.h d, .s name] (.i (Xa d name)) := by
 refine en Qa Tryz.func143 fun w0 F0 hG => ?_
 refine sn Qa [0, 3, 4] [3] (p0) ?_
 refine tn Qa [4] [] (pc 2 (B7 d name) p0) ?_
 refine Qe ?_
 exact pi [] (show Xa d name = (Zb d name) from rfl)
def En (name : ByteArray) (k0 : Nat) (a0 : Ys) (_ : Unit) : Rd (Int) (Unit) (Unit) := (bif (a0.1.toList == name.toList) then (.ret ((k0 : Nat) : Int)) else (.next ()))
def Eo (_ : Nat) (_ : Unit) : Unit := ()
def Q5 (d : (List Ys)) (name : ByteArray) : Int := (Out.on (Xp (En name) Eo d 0 ()) (fun _ => -1))
theorem Mb (d : (List Ys)) (name : ByteArray) : ACalls Tryz.prog 150 [.h d, .s name] (.i (Q5 d name)) := by
 refine en Qa Tryz.func150 fun w0 F0 hG => ?_
 refine sn Qa [0, 1, 4] [] (p0) ?_
 refine Qc ?_
 refine tn Qa [0, 1, 4, 5] [] (p0) ?_
 refine mz [(4, .i 0), (5, .i 0)] [] [] [] ?_
 refine wT 0 0 .sh d (fun hw1 hl2 => ?_)
 refine Ii (En name) Eo d () (fun k0 _ => [(5, .i ((k0 : Nat) : Int))]) [5] (fun _ => []) [0, 1, 5] wf0 (fun k0 s0 hk0 hI0 => ?_) (fun k0 s0 hk0 hI0 => ?_) (fun y0 hD0 => ?_)
 ·
  obtain ⟨a0, hx0⟩ := Xr (l := d) (i := k0) hk0
  refine Qc ?_
  refine sn Qa [0, 1, 4, 5, 9] [] (pl 2 d (pe 3 (Qw (decide_eq_true (p := ((k0 : Nat) : Int) < (d.length : Int)) (by omega))) p0)) ?_
  refine ckT ?_
  refine Qh ?_
  refine Qc ?_
  refine Qt ?_
  refine tn Qa [0, 1, 4, 5, 18] [] (pn 2 hx0 p0) ?_
  refine ck (a0.1.toList == name.toList) (fun h3 => ?_) (fun h3 => ?_)
  ·
   refine tu Qa [(4, .i ((k0 : Nat) : Int))] [4] [] [] (p0) ?_
   refine Qe ?_
   have hr4 : (Xp (En name) Eo d 0 ()) = .ret ((k0 : Nat) : Int) := Zt hx0 (Q1 h3 (rfl)) hI0
   exact pi [] (Ie hr4)
  refine Qh ?_
  refine qu Qa [(5, .i ((k0 + 1 : Nat) : Int))] [5] [] [] (pe 1 (Jw (Qy k0 (by omega))) p0) ?_
  exact xw _ (Q0 hx0 (Ql h3 (rfl)) hI0)
 ·
  refine Qc ?_
  refine sn Qa [0, 1, 4, 5, 9] [] (pl 2 d (pe 3 (Qw (decide_eq_false (p := ((k0 : Nat) : Int) < (d.length : Int)) (by omega))) p0)) ?_
  refine ckF ?_
  refine Q2 ?_
  exact xw _ (Xs hk0 (rfl) hI0)
 refine sn Qa [4] [] (p0) ?_
 refine Qe ?_
 exact pi [] (Un hD0 (rfl))
theorem ZO (d : List Ys) : Y7 d = Wt d := by
  unfold Y7 Wt
  rw [D5 (f := Yr d) (g := Ua d) (e := J4) (e' := Hw) (fun k a s => by
    unfold Yr Ua
    rw [vq_eq, FM]
    cases X2 a.1 <;> cases Yi a.2 <;> cases decide (((k : Nat) : Int) > (0 : Int)) <;> simp) (fun _ _ => rfl)]
theorem AJ (s : ByteArray) : ∀ (l : List Ys) (k : Nat), Xp (Q7 s) Xu l k () = .brk () ∨ ∃ i : Nat, i < l.length ∧ Xp (Q7 s) Xu l k () = .ret (((k + i : Nat)) : Int)
  | [], _ => .inl rfl
  | a :: l, k => by
    simp only [Xp, Q7]
    unfold H9
    cases (a.1.toList == s.toList) with
    | true => exact .inr ⟨0, by simp, rfl⟩
    | false =>
      simp only [cond_false]
      rcases AJ s l (k + 1) with h | ⟨i, hi, h⟩
      · exact .inl h
      exact .inr ⟨i + 1, by simpa using hi, by rw [h, show k + 1 + i = k + (i + 1) by omega]⟩
theorem ZP (d : List Ys) (s : ByteArray) : -1 ≤ Xa d s ∧ Xa d s < (List.length d : Int) := by
  unfold Xa Zb
  rcases AJ s d 0 with h | ⟨i, hi, h⟩
  · rw [h]; simp only [Out.on]; omega
  rw [h]; simp only [Out.on]; omega
theorem Oj (d : List Ys) (s : ByteArray) : -1 ≤ Q5 d s ∧ Q5 d s < (List.length d : Int) := ZP d s
open GoE (enc wide)
def Hx (d : (List Ys)) (strata : (List Int)) (more : Int) (_ : Nat) (a0 : ByteArray) (s0 : Int) : Rd (Int) (Int) (Int) := (bif decide ((Xa d a0) ≥ (0 : Int)) then (.next (max s0 (IntKind.i64.wrap ((nth strata (Int.toNat (Xa d a0))) + more)))) else (.next s0))
def B8 (_ : Nat) (s0 : Int) : Int := s0
def Xh (d : (List Ys)) (strata : (List Int)) (names : (List ByteArray)) (more : Int) : Int := (Out.on (Xp (Hx d strata more) B8 names 0 0) (fun y0 => y0))
theorem F2 (d : (List Ys)) (strata : (List Int)) (names : (List ByteArray)) (more : Int) (hp : List.length d ≤ List.length strata) : ACalls Tryz.prog 110 [.h d, .h strata, .h names, .i more] (.i (Xh d strata names more)) := by
 refine en Qa Tryz.func110 fun w0 F0 hG => ?_
 refine sn Qa [0, 1, 2, 3, 8] [] (p0) ?_
 refine tn Qa [0, 1, 2, 3, 8, 9] [] (p0) ?_
 refine Qc ?_
 refine tu Qa [(8, .i 0), (9, .i 0), (13, .h names), (14, .i (names.length : Int)), (15, .i 0)] [2] [] [] (pl 1 names p0) ?_
 refine wT 13 0 .sh names (fun hw1 hl2 => ?_)
 refine Ii (Hx d strata more) B8 names 0 (fun k0 s0 => [(9, .i s0), (15, .i ((k0 : Nat) : Int))]) [9, 15] (fun y0 => [(9, .i y0)]) [0, 1, 3, 9, 13, 14, 15] wf0 (fun k0 s0 hk0 hI0 => ?_) (fun k0 s0 hk0 hI0 => ?_) (fun y0 hD0 => ?_)
 ·
  obtain ⟨a0, hx0⟩ := Xr (l := names) (i := k0) hk0
  refine su Qa [(16, .b true)] [] [] [] (pe 0 (Qw (decide_eq_true (p := ((k0 : Nat) : Int) < (names.length : Int)) (by omega))) p0) ?_
  refine Qc ?_
  refine ckT ?_
  refine Qh ?_
  refine Qc ?_
  refine Qt ?_
  refine su Qa [(11, .s a0)] [16] [] [] (pn 0 hx0 p0) ?_
  refine sn Qa [0, 1, 3, 8, 9, 12, 13, 14, 15] [] (pc 2 (UN d a0) p0) ?_
  refine tn Qa [0, 1, 3, 8, 9, 12, 13, 14, 15, 23] [] (p0) ?_
  refine ck (decide ((Xa d a0) ≥ (0 : Int))) (fun h3 => ?_) (fun h3 => ?_)
  ·
   have h3p := ZP d a0
   have h3d := of_decide_eq_true h3
   refine wT 1 0 .sh strata (fun hw5 hl6 => ?_)
   have hx4 := ng strata (Int.toNat (Xa d a0))
   refine qu Qa [(9, .i (max s0 (IntKind.i64.wrap ((nth strata (Int.toNat (Xa d a0))) + more))))] [9, 11] [] [] (pg 3 (Xa d a0) hx4 p0) ?_
   refine rn Qa [0, 1, 3, 8, 9, 13, 14, 15] [] (pe 0 (Jw (Qy k0 (by omega))) p0) ?_
   exact xw _ (Q0 hx0 (Q1 h3 (rfl)) hI0)
  have h3d := of_decide_eq_false h3
  refine Qh ?_
  refine qu Qa [(15, .i ((k0 + 1 : Nat) : Int))] [11, 15] [] [] (pe 0 (Jw (Qy k0 (by omega))) p0) ?_
  exact xw _ (Q0 hx0 (Ql h3 (rfl)) hI0)
 ·
  refine su Qa [(16, .b false)] [] [] [] (pe 0 (Qw (decide_eq_false (p := ((k0 : Nat) : Int) < (names.length : Int)) (by omega))) p0) ?_
  refine Qc ?_
  refine ckF ?_
  refine Q2 ?_
  exact xw _ (Xs hk0 (rfl) hI0)
 refine sn Qa [8] [] (p0) ?_
 refine Qe ?_
 exact pi [] (Un hD0 (rfl))
def Ut (d : (List Ys)) (k0 : Nat) (_ : Nat) (a1 : ByteArray) (s1 : (List Int)) : Rd (Rd ((List Int)) ((List Int)) ((List Int))) ((List Int)) ((List Int)) := (bif (decide ((Q5 d a1) ≥ (0 : Int)) && decide ((nth s1 (Int.toNat (Q5 d a1))) > (nth s1 k0))) then (.next (List.set s1 k0 (nth s1 (Int.toNat (Q5 d a1))))) else (.next s1))
def Aa (_ : Nat) (s1 : (List Int)) : (List Int) := s1
def Uu (d : (List Ys)) (k0 : Nat) (_ : Nat) (a2 : ByteArray) (s2 : (List Int)) : Rd (Rd ((List Int)) ((List Int)) ((List Int))) ((List Int)) ((List Int)) := (bif (decide ((Q5 d a2) ≥ (0 : Int)) && decide (IntKind.i64.wrap ((nth s2 (Int.toNat (Q5 d a2))) + 1) > (nth s2 k0))) then (.next (List.set s2 k0 (IntKind.i64.wrap ((nth s2 (Int.toNat (Q5 d a2))) + 1)))) else (.next s2))
def B9 (_ : Nat) (s2 : (List Int)) : (List Int) := s2
def Wu (d : (List Ys)) (k0 : Nat) (a0 : Ys) (s0 : (List Int)) : Rd ((List Int)) ((List Int)) ((List Int)) := (Out.on (Xp (Ut d k0) Aa (Zn a0.2) 0 s0) (fun y1 => (Out.on (Xp (Uu d k0) B9 (Zo a0.2) 0 y1) (fun y2 => (.next y2)))))
def Ca (_ : Nat) (s0 : (List Int)) : (List Int) := s0
def Vo (d : (List Ys)) (lev : (List Int)) : (List Int) := (Out.on (Xp (Wu d) Ca d 0 lev) (fun y0 => y0))
theorem Mc (d : (List Ys)) (lev : (List Int)) (hp : List.length d ≤ List.length lev) : ACalls Tryz.prog 116 [.h d, .h lev] (.o 0 (Vo d lev)) := by
 refine en Qa Tryz.func116 fun w0 F0 hG => ?_
 refine sn Qa [0, 1, 4] [] (p0) ?_
 refine wT 1 0 .sh lev (fun hw1 hl2 => ?_)
 refine tn Qa [0, 4, 5] [] (po 2 (.flat) (px (Hu (n := (([] : List (List PV)).length + ((eL lev) : List (List PV)).length)) (Dm (rfl) (Yb lev) (by first | omega | (simp only [List.length_cons, List.length_nil]; omega) | (simp; omega) | simp))) (px (H4 (H5 lev)) p0))) ?_
 refine Qc ?_
 refine tu Qa [(4, .e 0), (5, .o 960 lev), (6, .i 0)] [1] [] [] (p0) ?_
 refine wT 0 0 .sh d (fun hw3 hl4 => ?_)
 refine blL3 (Wu d) Ca d lev (fun k0 s0 => [(5, .o 960 s0), (6, .i ((k0 : Nat) : Int))]) [5, 6] (fun y0 => [(5, .o 960 y0)]) [0, 5, 6] (fun _ s0 => List.length s0 = List.length lev) (fun y0 => List.length y0 = List.length lev) wf0 (by simp) (fun k0 s0 hk0 hI0 => ?_) (fun k0 s0 hk0 hI0 => ?_) (fun y0 hD0 => ?_)
 ·
  have hA0_0 := hI0.2
  obtain ⟨a0, hx0⟩ := Xr (l := d) (i := k0) hk0
  refine Qc ?_
  refine sn Qa [0, 4, 5, 6, 19] [] (pl 2 d (pe 3 (Qw (decide_eq_true (p := ((k0 : Nat) : Int) < (d.length : Int)) (by omega))) p0)) ?_
  refine ckT ?_
  refine Qh ?_
  refine Qc ?_
  refine Qt ?_
  refine tn Qa [0, 4, 5, 6, 7] [] (pn 2 hx0 (pc 5 (Oh a0.2) p0)) ?_
  refine Qc ?_
  refine tu Qa [(7, .o 1728 (Zn a0.2)), (8, .i 0)] [] [] [] (p0) ?_
  refine wT 7 0 (.own true 1728) (Zn a0.2) (fun hw5 hl6 => ?_)
  refine blL3 (Ut d k0) Aa (Zn a0.2) s0 (fun k1 s1 => [(5, .o 960 s1), (8, .i ((k1 : Nat) : Int))]) [5, 8] (fun y1 => [(5, .o 960 y1)]) [5, 7, 8] (fun _ s1 => List.length s1 = List.length s0) (fun y1 => List.length y1 = List.length s0) wf0 (by simp) (fun k1 s1 hk1 hI1 => ?_) (fun k1 s1 hk1 hI1 => ?_) (fun y1 hD1 => ?_)
  ·
   have hA1_0 := hI1.2
   obtain ⟨a1, hx1⟩ := Xr (l := Zn a0.2) (i := k1) hk1
   refine Qc ?_
   refine su Qa [(31, .b true)] [] [] [] (pl 2 (Zn a0.2) (pe 3 (Qw (decide_eq_true (p := ((k1 : Nat) : Int) < ((Zn a0.2).length : Int)) (by omega))) p0)) ?_
   refine ckT ?_
   refine Qh ?_
   refine Qc ?_
   refine Qt ?_
   refine sn Qa [0, 4, 5, 6, 7, 8, 9] [] (pN 3 hx1 (pc 5 (Mb d a1) p0)) ?_
   refine Qc ?_
   refine mz [(9, .i (Q5 d a1))] [31] [] [] ?_
   refine jn [(52, .b (decide ((Q5 d a1) ≥ (0 : Int)) && decide ((nth s1 (Int.toNat (Q5 d a1))) > (nth s1 k0))))] [] [] [] (decide ((Q5 d a1) ≥ (0 : Int))) (fun h7 => ?_) (fun h7 => ?_) ?_
   ·
    have h7p := Oj d a1
    have h7d := of_decide_eq_true h7
    refine wT 5 0 (.own true 960) s1 (fun hw9 hl10 => ?_)
    have hx8 := ng s1 (Int.toNat (Q5 d a1))
    have hx11 := ng s1 k0
    refine rN Qa Yc [0, 4, 5, 6, 7, 8, 9, 52] [] (pt 1 h7 (pG 5 (Q5 d a1) hx8 (pN 9 hx11 p0))) ?_
    exact ⟨rfl, Qf (by rw [h7] <;> kernel_rfl)⟩
   ·
    refine rU Qa Yc [(52, .b false)] [] [] [] (pf 1 h7 p0) ?_
    exact ⟨rfl, Qf (by rw [h7] <;> kernel_rfl)⟩
   refine ck (decide ((Q5 d a1) ≥ (0 : Int)) && decide ((nth s1 (Int.toNat (Q5 d a1))) > (nth s1 k0))) (fun h12 => ?_) (fun h12 => ?_)
   ·
    have h12l : (decide ((Q5 d a1) ≥ (0 : Int))) = true := Pt h12
    have h12lp := Oj d a1
    have h12ld := of_decide_eq_true h12l
    have h12r : (decide ((nth s1 (Int.toNat (Q5 d a1))) > (nth s1 k0))) = true := QB h12
    have h12rd := of_decide_eq_true h12r
    refine wT 5 0 (.own true 960) s1 (fun hw14 hl15 => ?_)
    have hx13 := ng s1 (Int.toNat (Q5 d a1))
    have hx16 := ng s1 k0
    refine ru Qa [(5, .one (.slc (.own true 960) 1 (setRow (eL s1) k0 0 [.i (nth s1 (Int.toNat (Q5 d a1)))])))] [5, 9, 52] [] [] (pG 4 (Q5 d a1) hx13 (pN 6 hx16 p0)) ?_
    refine eqn [(5, .o 960 (List.set s1 k0 (nth s1 (Int.toNat (Q5 d a1)))))] [5] [] [] (by rw [Zx (y := (nth s1 (Int.toNat (Q5 d a1)))) hx16 rfl] <;> kernel_rfl) ?_
    refine rn Qa [0, 4, 5, 6, 7, 8] [] (pe 1 (Jw (Qy k1 (by omega))) p0) ?_
    exact xw (List.set s1 k0 (nth s1 (Int.toNat (Q5 d a1)))) ⟨Q0 hx1 (Q1 h12 (rfl)) hI1.1, (by first | omega | (simp only [List.length_set]; omega))⟩
   refine Qh ?_
   refine rn Qa [0, 4, 5, 6, 7, 8] [] (pe 1 (Jw (Qy k1 (by omega))) p0) ?_
   exact xw s1 ⟨Q0 hx1 (Ql h12 (rfl)) hI1.1, (by first | omega | (simp only [List.length_set]; omega))⟩
  ·
   have hA1_0 := hI1.2
   refine Qc ?_
   refine su Qa [(31, .b false)] [] [] [] (pl 2 (Zn a0.2) (pe 3 (Qw (decide_eq_false (p := ((k1 : Nat) : Int) < ((Zn a0.2).length : Int)) (by omega))) p0)) ?_
   refine ckF ?_
   refine Q2 ?_
   exact xw s1 ⟨Xs hk1 (rfl) hI1.1, by first | omega | (simp only [List.length_set]; omega)⟩
  have hD1_0 := hD1.2
  refine sn Qa [0, 4, 5, 6, 10] [] (pn 2 hx0 (pc 5 (Oi a0.2) p0)) ?_
  refine tn Qa [0, 4, 5, 6, 10, 11] [] (p0) ?_
  refine mz [(10, .o 4160 (Zo a0.2)), (11, .i 0)] [] [] [] ?_
  refine wT 10 0 (.own true 4160) (Zo a0.2) (fun hw17 hl18 => ?_)
  refine blL3 (Uu d k0) B9 (Zo a0.2) y1 (fun k2 s2 => [(5, .o 960 s2), (11, .i ((k2 : Nat) : Int))]) [5, 11] (fun y2 => [(5, .o 960 y2)]) [5, 10, 11] (fun _ s2 => List.length s2 = List.length y1) (fun y2 => List.length y2 = List.length y1) wf0 (by simp) (fun k2 s2 hk2 hI2 => ?_) (fun k2 s2 hk2 hI2 => ?_) (fun y2 hD2 => ?_)
  ·
   have hA2_0 := hI2.2
   obtain ⟨a2, hx2⟩ := Xr (l := Zo a0.2) (i := k2) hk2
   refine Qc ?_
   refine su Qa [(69, .b true)] [] [] [] (pl 2 (Zo a0.2) (pe 3 (Qw (decide_eq_true (p := ((k2 : Nat) : Int) < ((Zo a0.2).length : Int)) (by omega))) p0)) ?_
   refine ckT ?_
   refine Qh ?_
   refine Qc ?_
   refine Qt ?_
   refine sn Qa [0, 4, 5, 6, 10, 11, 12] [] (pN 3 hx2 (pc 5 (Mb d a2) p0)) ?_
   refine Qc ?_
   refine mz [(12, .i (Q5 d a2))] [69] [] [] ?_
   refine jn [(91, .b (decide ((Q5 d a2) ≥ (0 : Int)) && decide (IntKind.i64.wrap ((nth s2 (Int.toNat (Q5 d a2))) + 1) > (nth s2 k0))))] [] [] [] (decide ((Q5 d a2) ≥ (0 : Int))) (fun h19 => ?_) (fun h19 => ?_) ?_
   ·
    have h19p := Oj d a2
    have h19d := of_decide_eq_true h19
    refine wT 5 0 (.own true 960) s2 (fun hw21 hl22 => ?_)
    have hx20 := ng s2 (Int.toNat (Q5 d a2))
    have hx23 := ng s2 k0
    refine rN Qa Yc [0, 4, 5, 6, 10, 11, 12, 91] [] (pt 1 h19 (pG 5 (Q5 d a2) hx20 (pN 10 hx23 p0))) ?_
    exact ⟨rfl, Qf (by rw [h19] <;> kernel_rfl)⟩
   ·
    refine rU Qa Yc [(91, .b false)] [] [] [] (pf 1 h19 p0) ?_
    exact ⟨rfl, Qf (by rw [h19] <;> kernel_rfl)⟩
   refine ck (decide ((Q5 d a2) ≥ (0 : Int)) && decide (IntKind.i64.wrap ((nth s2 (Int.toNat (Q5 d a2))) + 1) > (nth s2 k0))) (fun h24 => ?_) (fun h24 => ?_)
   ·
    have h24l : (decide ((Q5 d a2) ≥ (0 : Int))) = true := Pt h24
    have h24lp := Oj d a2
    have h24ld := of_decide_eq_true h24l
    have h24r : (decide (IntKind.i64.wrap ((nth s2 (Int.toNat (Q5 d a2))) + 1) > (nth s2 k0))) = true := QB h24
    have h24rd := of_decide_eq_true h24r
    refine wT 5 0 (.own true 960) s2 (fun hw26 hl27 => ?_)
    have hx25 := ng s2 (Int.toNat (Q5 d a2))
    have hx28 := ng s2 k0
    refine ru Qa [(5, .one (.slc (.own true 960) 1 (setRow (eL s2) k0 0 [.i (IntKind.i64.wrap ((nth s2 (Int.toNat (Q5 d a2))) + 1))])))] [5, 12, 91] [] [] (pG 4 (Q5 d a2) hx25 (pN 7 hx28 p0)) ?_
    refine eqn [(5, .o 960 (List.set s2 k0 (IntKind.i64.wrap ((nth s2 (Int.toNat (Q5 d a2))) + 1))))] [5] [] [] (by rw [Zx (y := IntKind.i64.wrap ((nth s2 (Int.toNat (Q5 d a2))) + 1)) hx28 rfl] <;> kernel_rfl) ?_
    refine rn Qa [0, 4, 5, 6, 10, 11] [] (pe 1 (Jw (Qy k2 (by omega))) p0) ?_
    exact xw (List.set s2 k0 (IntKind.i64.wrap ((nth s2 (Int.toNat (Q5 d a2))) + 1))) ⟨Q0 hx2 (Q1 h24 (rfl)) hI2.1, (by first | omega | (simp only [List.length_set]; omega))⟩
   refine Qh ?_
   refine rn Qa [0, 4, 5, 6, 10, 11] [] (pe 1 (Jw (Qy k2 (by omega))) p0) ?_
   exact xw s2 ⟨Q0 hx2 (Ql h24 (rfl)) hI2.1, (by first | omega | (simp only [List.length_set]; omega))⟩
  ·
   have hA2_0 := hI2.2
   refine Qc ?_
   refine su Qa [(69, .b false)] [] [] [] (pl 2 (Zo a0.2) (pe 3 (Qw (decide_eq_false (p := ((k2 : Nat) : Int) < ((Zo a0.2).length : Int)) (by omega))) p0)) ?_
   refine ckF ?_
   refine Q2 ?_
   exact xw s2 ⟨Xs hk2 (rfl) hI2.1, by first | omega | (simp only [List.length_set]; omega)⟩
  have hD2_0 := hD2.2
  refine rn Qa [0, 4, 5, 6] [] (pe 1 (Jw (Qy k0 (by omega))) p0) ?_
  exact xw y2 ⟨Q0 hx0 (Un hD1.1 (Un hD2.1 (rfl))) hI0.1, (by first | omega | (simp only [List.length_set]; omega))⟩
 ·
  have hA0_0 := hI0.2
  refine Qc ?_
  refine sn Qa [0, 4, 5, 6, 19] [] (pl 2 d (pe 3 (Qw (decide_eq_false (p := ((k0 : Nat) : Int) < (d.length : Int)) (by omega))) p0)) ?_
  refine ckF ?_
  refine Q2 ?_
  exact xw s0 ⟨Xs hk0 (rfl) hI0.1, by first | omega | (simp only [List.length_set]; omega)⟩
 have hD0_0 := hD0.2
 refine sn Qa [4] [] (p0) ?_
 refine Qe ?_
 exact po0 [] (Un hD0.1 (rfl))
theorem R6 {α R S T : Type} {f : Nat → α → S → Rd R S T} {e : Nat → S → T} (I : S → Prop) (h : ∀ k a s, I s → ∃ s', f k a s = .next s' ∧ I s') : ∀ (l : List α) (k : Nat) (s : S), I s → ∃ s', Xp f e l k s = .brk (e (k + l.length) s') ∧ I s'
  | [], k, s, hs => ⟨s, by simp [Xp], hs⟩
  | a :: l, k, s, hs => by
    obtain ⟨s1, h1, h2⟩ := h k a s hs
    obtain ⟨s2, h3, h4⟩ := R6 I h l (k + 1) s1 h2
    refine ⟨s2, ?_, h4⟩
    simp only [Xp, h1]
    rw [h3, List.length_cons, show k + 1 + l.length = k + (l.length + 1) by omega]
theorem l13_f1 (d : List Ys) (k0 n : Nat) (k : Nat) (a : ByteArray) (s : List Int) (hs : s.length = n) : ∃ s', Ut d k0 k a s = .next s' ∧ s'.length = n := by
  unfold Ut
  generalize (decide ((Q5 d a) ≥ (0 : Int)) && decide ((nth s (Int.toNat (Q5 d a))) > (nth s k0))) = c
  cases c <;> exact ⟨_, rfl, by simpa using hs⟩
theorem l13_f2 (d : List Ys) (k0 n : Nat) (k : Nat) (a : ByteArray) (s : List Int) (hs : s.length = n) : ∃ s', Uu d k0 k a s = .next s' ∧ s'.length = n := by
  unfold Uu
  generalize (decide ((Q5 d a) ≥ (0 : Int)) && decide (IntKind.i64.wrap ((nth s (Int.toNat (Q5 d a))) + 1) > (nth s k0))) = c
  cases c <;> exact ⟨_, rfl, by simpa using hs⟩
theorem l13_f0 (d : List Ys) (n : Nat) (k : Nat) (a : Ys) (s : List Int) (hs : s.length = n) : ∃ s', Wu d k a s = .next s' ∧ s'.length = n := by
  unfold Wu
  obtain ⟨s1, h1, h2⟩ := R6 (e := Aa) (fun s : List Int => s.length = n) (l13_f1 d k n) (Zn a.2) 0 s hs
  obtain ⟨s2, h3, h4⟩ := R6 (e := B9) (fun s : List Int => s.length = n) (l13_f2 d k n) (Zo a.2) 0 s1 h2
  refine ⟨s2, ?_, h4⟩
  rw [h1]
  simp only [Out.on, Aa]
  rw [h3]
  rfl
theorem KW (d : List Ys) (lev : List Int) : List.length (Vo d lev) = List.length lev := by
  unfold Vo
  obtain ⟨s1, h1, h2⟩ := R6 (e := Ca) (fun s : List Int => s.length = lev.length) (l13_f0 d lev.length) d 0 lev rfl
  rw [h1]
  exact h2
theorem Ep {d : List Ys} (h : Y7 d = true) : List.length d ≤ 5 := by
  unfold Y7 at h
  cases hf : Xp (Yr d) J4 d 0 () with
  | brk t => rw [hf] at h; simp only [Out.on, decide_eq_true_eq] at h; omega
  | ret r =>
    rw [hf] at h
    obtain rfl : r = true := h
    exfalso
    have key : ∀ (l : List Ys) k, Xp (Yr d) J4 l k () ≠ .ret true := by
      intro l
      induction l with
      | nil => intro k h; simp [Xp] at h
      | cons a l ih =>
        intro k h
        simp only [Xp] at h
        unfold Yr at h
        split at h
        · rename_i hf; exact ih _ h
        · cases h
        rename_i r hf; cases h; revert hf; generalize (_ || _ : Bool) = c; cases c <;> simp
    exact key _ _ hf
theorem dirs5 {d : List Ys} (h : Wt d = true) : IntKind.i64.wrap (IntKind.i64.wrap ((d.length : Int) * (d.length : Int)) + 1) = ((List.length d * List.length d + 1 : Nat) : Int) ∧ ((List.length d * List.length d + 1 : Nat) : Int) ≤ 26 := by
  have h5 := Ep ((ZO d).trans h)
  generalize List.length d = n at h5 ⊢
  have : n = 0 ∨ n = 1 ∨ n = 2 ∨ n = 3 ∨ n = 4 ∨ n = 5 := by omega
  rcases this with rfl | rfl | rfl | rfl | rfl | rfl <;> decide
def Ka (d : List Ys) (w : Int) : List ByteArray → Vg
  | [] => []
  | s :: r => if 0 ≤ Xa d s then (Int.toNat (Xa d s), w) :: Ka d w r else Ka d w r
theorem Nd (d : List Ys) (w : Int) : ∀ (l : List ByteArray) (e : Nat × Int), e ∈ Ka d w l → e.2 = w ∧ e.1 < d.length
  | [], e, h => by simp [Ka] at h
  | s :: r, e, h => by
    simp only [Ka] at h
    split at h
    · rename_i h0
      rcases List.mem_cons.1 h with rfl | h
      · have := (ZP d s).2
        exact ⟨rfl, by show Int.toNat _ < _; omega⟩
      exact Nd d w r e h
    exact Nd d w r e h
def Jh (d : List Ys) (i : Nat) : Vg := if i < d.length then Ka d 0 (Xz (nth d i).2) ++ Ka d 1 (Xj (nth d i).2) else []
theorem I4 (d : List Ys) (i : Nat) (e : Nat × Int) (h : e ∈ Jh d i) : e.2 ≤ 1 ∧ e.1 < d.length ∧ i < d.length := by
  unfold Jh at h
  split at h
  · rename_i hi
    rcases List.mem_append.1 h with h | h <;> (have := Nd d _ _ e h; omega)
  simp at h
theorem need_app (E1 E2 : Vg) (L : List Int) : E7 (E1 ++ E2) L = max (E7 E1 L) (E7 E2 L) := by
  have h1 : E7 (E1 ++ E2) L ≤ max (E7 E1 L) (E7 E2 L) := Bc.2 ⟨by have := Na E1 L; omega, fun e he => by
    rcases List.mem_append.1 he with he | he
    · have := (Bc.1 (Int.le_refl (E7 E1 L))).2 e he; omega
    have := (Bc.1 (Int.le_refl (E7 E2 L))).2 e he; omega⟩
  have h2 := Bc.1 (Int.le_refl (E7 (E1 ++ E2) L))
  have h3 : E7 E1 L ≤ E7 (E1 ++ E2) L := Bc.2 ⟨h2.1, fun e he => h2.2 e (List.mem_append_left _ he)⟩
  have h4 : E7 E2 L ≤ E7 (E1 ++ E2) L := Bc.2 ⟨h2.1, fun e he => h2.2 e (List.mem_append_right _ he)⟩
  omega
theorem Pz (d : List Ys) (L : List Int) (w : Int) (hw : 0 ≤ w ∧ w ≤ 1) (hL : ∀ j, 0 ≤ nth L j ∧ nth L j ≤ 1000000) : ∀ (l : List ByteArray) (k : Nat) (m : Int), Xp (Hx d L w) B8 l k m = .brk ((Ka d w l).foldl (fun m e => max m (nth L e.1 + e.2)) m)
  | [], k, m => rfl
  | s :: r, k, m => by
    simp only [Xp, Hx, Ka]
    have hwr : ∀ j, IntKind.i64.wrap (nth L j + w) = nth L j + w := fun j => IntWalk.i64_in _ (by have := hL j; omega)
    by_cases h : 0 ≤ Xa d s
    · have h' : decide (Xa d s ≥ (0 : Int)) = true := decide_eq_true h
      rw [h', cond_true, if_pos h, hwr]
      exact Pz d L w hw hL r (k + 1) _
    have h' : decide (Xa d s ≥ (0 : Int)) = false := decide_eq_false h
    rw [h', cond_false, if_neg h]
    exact Pz d L w hw hL r (k + 1) _
theorem AK {d : List Ys} {L : List Int} {w : Int} (hw : 0 ≤ w ∧ w ≤ 1) (hL : ∀ j, 0 ≤ nth L j ∧ nth L j ≤ 1000000) (l : List ByteArray) : Xh d L l w = E7 (Ka d w l) L := by
  unfold Xh
  rw [Pz d L w hw hL]
  rfl
theorem least_eq {d : List Ys} {L : List Int} (hL : ∀ j, 0 ≤ nth L j ∧ nth L j ≤ 1000000) {i : Nat} (hi : i < d.length) : max (Xh d L (Xz (nth d i).2) 0) (Xh d L (Xj (nth d i).2) 1) = E7 (Jh d i) L := by
  rw [AK (by omega) hL, AK (by omega) hL]
  unfold Jh
  rw [if_pos hi, need_app]
abbrev AL (d : List Ys) (a : Ys) (L : List Int) : Int := max (Xh d L (Xz a.2) 0) (Xh d L (Xj a.2) 1)
abbrev GF := Nat → Ys → List Int × Bool → Rd (Rd (List Int × Bool) (List Int × Bool) (List Int)) (List Int × Bool) (List Int × Bool)
def GG (d : List Ys) (f : GF) : Prop := ∀ k a s, f k a s = bif decide (AL d a s.1 > (d.length : Int)) then .ret (.ret ([], false)) else (bif decide (AL d a s.1 > nth s.1 k) then .next (List.set s.1 k (AL d a s.1), true) else .next (s.1, s.2))
theorem Nf {d : List Ys} {f : GF} {e : Nat → List Int × Bool → List Int × Bool} (hf : GG d f) (he : ∀ k s, e k s = s) (hd : d.length ≤ 1000000) :
    ∀ (l : List Ys) (k : Nat) (L : List Int) (c : Bool), d.drop k = l → L.length = d.length → (∀ j, 0 ≤ nth L j ∧ nth L j ≤ (d.length : Int)) →
      Xp f e l k (L, c) = (match C0 (Jh d) d.length (List.range' k l.length) (c, L) with
        | none => .ret (.ret ([], false))
        | some s => .brk (s.2, s.1))
  | [], k, L, c, _, _, _ => by simp [Xp, C0, he]
  | a :: l, k, L, c, hl, hlen, hL => by
    have hk : d[k]? = some a := by
      have := congrArg (·[0]?) hl
      simpa using this
    have hkl : k < d.length := (List.getElem?_eq_some_iff.1 hk).1
    have ha : nth d k = a := Iw hk
    have hrest : d.drop (k + 1) = l := by rw [← List.drop_drop, hl]; rfl
    have hb : ∀ j, 0 ≤ nth L j ∧ nth L j ≤ 1000000 := fun j => by have := hL j; omega
    have hM : AL d a L = E7 (Jh d k) L := by rw [← ha]; exact least_eq hb hkl
    simp only [Xp, hf k a (L, c), List.length_cons, List.range'_succ, C0, hM]
    by_cases h1 : (d.length : Int) < E7 (Jh d k) L
    · rw [decide_eq_true (show E7 (Jh d k) L > (d.length : Int) from h1), cond_true, if_pos h1]
    rw [decide_eq_false (show ¬ E7 (Jh d k) L > (d.length : Int) from h1), cond_false, if_neg h1]
    by_cases h2 : nth L k < E7 (Jh d k) L
    · rw [decide_eq_true (show E7 (Jh d k) L > nth L k from h2), cond_true, if_pos h2]
      refine Nf hf he hd l (k + 1) _ true hrest (by rw [List.length_set]; exact hlen) fun j => ?_
      have h0 := Na (Jh d k) L
      rw [Nb _ _ (by omega)]
      split
      · omega
      exact hL j
    rw [decide_eq_false (show ¬ E7 (Jh d k) L > nth L k from h2), cond_false, if_neg h2]
    exact Nf hf he hd l (k + 1) L c hrest hlen hL
def endD : Option (List Int) → Out (List Int × Bool) (List Int)
  | none => .ret ([], false)
  | some L => .brk L
def LoopOk (d : List Ys) (f : GF) (e : Nat → List Int × Bool → List Int × Bool) (F : List Int × Bool → Rd (List Int × Bool) (List Int × Bool) (List Int)) : Prop := ∀ s, F s = bif s.2 then (Out.on (Xp f e d 0 (s.1, false)) fun y1 => .next (y1.1, y1.2)) else .brk s.1
theorem F3 {d : List Ys} {f : GF} {e : Nat → List Int × Bool → List Int × Bool} {F : List Int × Bool → Rd (List Int × Bool) (List Int × Bool) (List Int)} (hf : GG d f) (he : ∀ k s, e k s = s) (hF : LoopOk d f e F) (hd : d.length ≤ 1000000) :
    ∀ (n : Nat) (L : List Int) (c : Bool), L.length = d.length → (∀ j, 0 ≤ nth L j ∧ nth L j ≤ (d.length : Int)) → whl F n (L, c) = (Pu (Jh d) d.length d.length n (c, L)).map endD
  | 0, L, c, _, _ => rfl
  | n + 1, L, false, _, _ => by
    simp only [whl, hF (L, false), cond_false, Pu]
    rfl
  | n + 1, L, true, hlen, hL => by
    have hr := Nf hf he hd d 0 L false rfl hlen hL
    have e1 : List.range' 0 d.length = List.range d.length := (List.range_eq_range' ..).symm
    rw [e1] at hr
    simp only [whl, hF (L, true), cond_true, hr, Pu]
    cases hc : C0 (Jh d) d.length (List.range d.length) (false, L) with
    | none => rfl
    | some s =>
      obtain ⟨h1, _, _, h4⟩ := Dn (List.range d.length) false L s (fun i hi => by rw [hlen]; exact Bh hi) hc
      have := F3 hf he hF hd n s.2 s.1 (by rw [h1, Lo, hlen]) fun j => ⟨by rw [h1]; exact Int.le_trans (hL j).1 (Oc (Jh d) j _ L), h4 (fun j => (hL j).2) j⟩
      exact this
theorem Bi (n : Nat) : (List.replicate n (0 : Int)).length = n ∧ ∀ j, 0 ≤ nth (List.replicate n (0 : Int)) j ∧ nth (List.replicate n (0 : Int)) j ≤ (n : Int) :=
  ⟨by simp, fun j => by rw [R2]; omega⟩
theorem UO {d : List Ys} {f : GF} {e : Nat → List Int × Bool → List Int × Bool} {F : List Int × Bool → Rd (List Int × Bool) (List Int × Bool) (List Int)} (hf : GG d f) (he : ∀ k s, e k s = s) (hF : LoopOk d f e F) (hd : d.length ≤ 1000000) :
    (whl F (List.length d * List.length d + 3) (List.replicate (Int.toNat (d.length : Int)) (0 : Int), true)).isSome = true := by
  rw [Int.toNat_natCast, F3 hf he hF hd _ _ _ (Bi _).1 (Bi _).2, Option.isSome_map]
  refine XT _ _ _ (Bi _).1 (fun j => ((Bi _).2 j).2) ?_
  have : ((List.length d * List.length d + 3 : Nat) : Int) = (d.length : Int) * (d.length : Int) + 3 := by rw [Int.natCast_add, Int.natCast_mul]; rfl
  have h0 : (List.replicate d.length (0 : Int)).sum = 0 := by simp
  rw [this, h0]
  omega
open GoE (enc wide)
def Ul (b : (List Int)) (k0 : Nat) (a0 : Int) (_ : Unit) : Rd (Bool) (Unit) (Unit) := (bif (a0 != (nth b k0)) then (.ret false) else (.next ()))
def Bf (_ : Nat) (_ : Unit) : Unit := ()
def Yx (a_ : (List Int)) (b : (List Int)) : Bool := (bif ((a_.length : Int) != (b.length : Int)) then false else (Out.on (Xp (Ul b) Bf a_ 0 ()) (fun _ => true)))
theorem Cb (a_ : (List Int)) (b : (List Int)) : ACalls Tryz.prog 32 [.h a_, .h b] (.b (Yx a_ b)) := by
 refine en Qa Tryz.func32 fun w0 F0 hG => ?_
 refine sn Qa [0, 1, 4] [] (p0) ?_
 refine Qc ?_
 refine tn Qa [0, 1, 4, 10] [] (pl 1 a_ (pl 3 b p0)) ?_
 refine ck ((a_.length : Int) != (b.length : Int)) (fun h1 => ?_) (fun h1 => ?_)
 ·
  refine tu Qa [(4, .b false)] [] [] [] (p0) ?_
  refine Qe ?_
  exact pb [] (Q1 h1 (rfl))
 have h1d := V6 h1
 refine Qh ?_
 refine Qc ?_
 refine tu Qa [(4, .b false), (5, .i 0)] [] [] [] (p0) ?_
 refine wT 0 0 .sh a_ (fun hw2 hl3 => ?_)
 refine Ii (Ul b) Bf a_ () (fun k0 _ => [(5, .i ((k0 : Nat) : Int))]) [5] (fun _ => []) [0, 1, 5] wf0 (fun k0 s0 hk0 hI0 => ?_) (fun k0 s0 hk0 hI0 => ?_) (fun y0 hD0 => ?_)
 ·
  obtain ⟨a0, hx0⟩ := Xr (l := a_) (i := k0) hk0
  refine Qc ?_
  refine sn Qa [0, 1, 4, 5, 14] [] (pl 2 a_ (pe 3 (Qw (decide_eq_true (p := ((k0 : Nat) : Int) < (a_.length : Int)) (by omega))) p0)) ?_
  refine ckT ?_
  refine Qh ?_
  refine Qc ?_
  refine Qt ?_
  refine wT 1 0 .sh b (fun hw5 hl6 => ?_)
  have hx4 := ng b k0
  refine tN Qa Yc [0, 1, 4, 5, 25] [] (pn 2 hx0 (pn 6 hx4 p0)) ?_
  refine ck (a0 != (nth b k0)) (fun h7 => ?_) (fun h7 => ?_)
  ·
   refine tu Qa [] [] [] [] (p0) ?_
   refine Qe ?_
   have hr8 : (Xp (Ul b) Bf a_ 0 ()) = .ret false := Zt hx0 (Q1 h7 (rfl)) hI0
   exact pb [] (Ql h1 (Ie hr8))
  have h7d := V6 h7
  refine Qh ?_
  refine qu Qa [(5, .i ((k0 + 1 : Nat) : Int))] [5] [] [] (pe 1 (Jw (Qy k0 (by omega))) p0) ?_
  exact xw _ (Q0 hx0 (Ql h7 (rfl)) hI0)
 ·
  refine Qc ?_
  refine sn Qa [0, 1, 4, 5, 14] [] (pl 2 a_ (pe 3 (Qw (decide_eq_false (p := ((k0 : Nat) : Int) < (a_.length : Int)) (by omega))) p0)) ?_
  refine ckF ?_
  refine Q2 ?_
  exact xw _ (Xs hk0 (rfl) hI0)
 refine sn Qa [4] [] (p0) ?_
 refine Qe ?_
 exact pb [] (Ql h1 (Un hD0 (rfl)))
def D8 (d : (List Ys)) (_ : Nat) (s0 : (List Int)) : Rd ((List Int) × Bool) ((List Int)) ((List Int)) := (.next (Vo d s0))
def Gs (_ : Nat) (s0 : (List Int)) : (List Int) := s0
def Xn (d : (List Ys)) : (List Int) × Bool := (bif (!(Wt d)) then ([], false) else (Out.on (Ha (D8 d) Gs (Int.toNat (IntKind.i64.wrap (IntKind.i64.wrap ((d.length : Int) * (d.length : Int)) + 1) + 1)) 0 (List.replicate (Int.toNat (d.length : Int)) (0 : Int))) (fun y0 => (bif (!(Yx (Vo d y0) y0)) then ([], false) else (y0, true)))))
theorem I5 (d : (List Ys)) : ACalls Tryz.prog 71 [.h d] (.tup [(false, [.o 0 (((Xn d)).1)]), (false, [.b (((Xn d)).2)])]) := by
 refine en Qa Tryz.func71 fun w0 F0 hG => ?_
 refine sn Qa [0, 2, 3] [] (p0) ?_
 refine Qc ?_
 refine tn Qa [0, 2, 3, 8] [] (pc 1 (Py d) p0) ?_
 refine ck (!(Wt d)) (fun h1 => ?_) (fun h1 => ?_)
 ·
  refine tu Qa [(2, .one (.slc (.own true 576) 1 [])), (3, .b false)] [] [] [] (p0) ?_
  refine Qe ?_
  exact pz [] (show Xn d = _ from Q1 h1 (rfl)) (fun z => .tup [(false, [.o 0 z.1]), (false, [.b z.2])])
 have h1n : (Wt d) = true := Vd h1
 have h1nv := dirs5 h1n
 refine Qh ?_
 refine wT 0 0 .sh d (fun hw2 hl3 => ?_)
 refine tu Qa [(2, .e 0), (3, .b false), (4, .one (.slc (.own true 768) 1 (List.replicate (Int.toNat (d.length : Int)) [.i 0])))] [] [] [] (pl 1 d (px (Cs (lo := 0) (hi := (d.length : Int)) (n := 1073741824) (⟨by omega, by omega, by omega⟩)) p0)) ?_
 refine eqn [(4, .o 768 (List.replicate (Int.toNat (d.length : Int)) (0 : Int)))] [4] [] [] (by rw [show (List.replicate (Int.toNat (d.length : Int)) [.i 0]) = (eL (List.replicate (Int.toNat (d.length : Int)) (0 : Int))) from mk_eL _ (0 : Int)]; first | done | kernel_rfl) ?_
 refine Qc ?_
 refine sn Qa [0, 2, 3, 4, 5] [] (p0) ?_
 refine mz [(5, .i 0)] [] [] [] ?_
 refine blN3 (D8 d) Gs (Int.toNat (IntKind.i64.wrap (IntKind.i64.wrap ((d.length : Int) * (d.length : Int)) + 1) + 1)) (List.replicate (Int.toNat (d.length : Int)) (0 : Int)) (fun k0 s0 => [(4, .o 147203 s0), (5, .i ((k0 : Nat) : Int))]) [4, 5] (fun y0 => [(4, .o 147353 y0)]) [4, 5] (fun _ s0 => List.length s0 = List.length d) (fun y0 => List.length y0 = List.length d) (X3 [(768, 147203)] (by kernel_rfl)) (by simp) (fun k0 s0 hk0 hI0 => ?_) (fun k0 s0 hk0 hI0 => ?_) (fun y0 hD0 => ?_)
 ·
  have hA0_0 := hI0.2
  refine Qc ?_
  refine sn Qa [0, 2, 3, 4, 5, 20] [] (pl 2 d (pl 4 d (pe 7 (Qw (decide_eq_true (p := ((k0 : Nat) : Int) ≤ IntKind.i64.wrap (IntKind.i64.wrap ((d.length : Int) * (d.length : Int)) + 1)) (by omega))) p0))) ?_
  refine ckT ?_
  refine Qh ?_
  refine Qc ?_
  refine Qt ?_
  refine qn Qa [0, 2, 3, 4, 5] [] (pc 2 (Mc d s0 (by omega)) p0) ?_
  refine qu Qa [(4, .o 1600 (Vo d s0)), (5, .i ((k0 + 1 : Nat) : Int))] [4, 5] [] [] (pe 1 (Jw (Qy k0 (by omega))) p0) ?_
  exact Exists.intro (Vo d s0) (And.intro (X3 [(1600, 147203)] (by kernel_rfl)) ⟨W8 hk0 (rfl) hI0.1, (by have hz := KW d s0; omega)⟩)
 ·
  have hA0_0 := hI0.2
  refine Qc ?_
  refine sn Qa [0, 2, 3, 4, 5, 20] [] (pl 2 d (pl 4 d (pe 7 (Qw (decide_eq_false (p := ((k0 : Nat) : Int) ≤ IntKind.i64.wrap (IntKind.i64.wrap ((d.length : Int) * (d.length : Int)) + 1)) (by omega))) p0))) ?_
  refine ckF ?_
  refine Q2 ?_
  exact Exists.intro s0 (And.intro (X3 [(147203, 147353)] (by kernel_rfl)) ⟨Gk hk0 (rfl) hI0.1, by first | omega | (simp only [List.length_set]; omega)⟩)
 have hD0_0 := hD0.2
 refine Qc ?_
 refine sn Qa [2, 3, 4, 31] [] (pc 2 (Mc d y0 (by omega)) (pc 4 (Cb (Vo d y0) y0) p0)) ?_
 refine ck (!(Yx (Vo d y0) y0)) (fun h4 => ?_) (fun h4 => ?_)
 ·
  refine tn Qa [2, 3, 4] [] (p0) ?_
  refine Qe ?_
  exact pz [] (show Xn d = _ from Ql h1 (Un hD0.1 (Q1 h4 (rfl)))) (fun z => .tup [(false, [.o 0 z.1]), (false, [.b z.2])])
 refine Qh ?_
 refine tn Qa [2, 3] [] (p0) ?_
 refine Qe ?_
 exact pz [] (show Xn d = _ from Ql h1 (Un hD0.1 (Ql h4 (rfl)))) (fun z => .tup [(false, [.o 0 z.1]), (false, [.b z.2])])
def Ub (d : (List Ys)) (k1 : Nat) (a1 : Ys) (s1 : (List Int) × Bool) : Rd (Rd ((List Int) × Bool) ((List Int) × Bool) ((List Int))) ((List Int) × Bool) ((List Int) × Bool) := (bif decide ((max (Xh d s1.1 (Xz a1.2) 0) (Xh d s1.1 (Xj a1.2) 1)) > (d.length : Int)) then (.ret (.ret ([], false))) else (bif decide ((max (Xh d s1.1 (Xz a1.2) 0) (Xh d s1.1 (Xj a1.2) 1)) > (nth s1.1 k1)) then (.next (List.set s1.1 k1 (max (Xh d s1.1 (Xz a1.2) 0) (Xh d s1.1 (Xj a1.2) 1)), true)) else (.next (s1.1, s1.2))))
def Uc (_ : Nat) (s1 : (List Int) × Bool) : (List Int) × Bool := (s1.1, s1.2)
def Vh (d : (List Ys)) (s0 : (List Int) × Bool) : Rd ((List Int) × Bool) ((List Int) × Bool) ((List Int)) := (bif s0.2 then (Out.on (Xp (Ub d) Uc d 0 (s0.1, false)) (fun y1 => (.next (y1.1, y1.2)))) else (.brk s0.1))
def Qz (d : (List Ys)) : (List Int) × Bool := (bif (!(Y7 d)) then ([], false) else (Out.on (E6 (Vh d) (List.length d * List.length d + 3) ((List.replicate (Int.toNat (d.length : Int)) (0 : Int)), true)) (fun y0 => (y0, true))))
theorem Dp (d : List Ys) (hd : d.length ≤ 5) : (whl (Vh d) (List.length d * List.length d + 3) (List.replicate (Int.toNat (d.length : Int)) (0 : Int), true)).isSome = true := UO (f := Ub d) (e := Uc) (fun _ _ _ => rfl) (fun _ _ => rfl) (fun _ => rfl) (by omega)
theorem KX (d : (List Ys)) : ACalls Tryz.prog 66 [.h d] (.tup [(false, [.o 0 (((Qz d)).1)]), (false, [.b (((Qz d)).2)])]) := by
 refine en Qa Tryz.func66 fun w0 F0 hG => ?_
 refine sn Qa [0, 2, 3] [] (p0) ?_
 refine Qc ?_
 refine tn Qa [0, 2, 3, 11] [] (pc 1 (Px d) p0) ?_
 refine ck (!(Y7 d)) (fun h1 => ?_) (fun h1 => ?_)
 ·
  refine tu Qa [(2, .e 0), (3, .b false)] [] [] [] (p0) ?_
  refine opn [(false, 2, 0, true, 384000, 1)] ?_
  refine Qe ?_
  exact pz [] (show Qz d = _ from Q1 h1 (rfl)) (fun z => .tup [(false, [.o 0 z.1]), (false, [.b z.2])])
 have h1n : (Y7 d) = true := Vd h1
 refine Qh ?_
 refine wT 0 0 .sh d (fun hw2 hl3 => ?_)
 refine tu Qa [(2, .e 0), (3, .b false), (4, .one (.slc (.own true 896) 1 (List.replicate (Int.toNat (d.length : Int)) [.i 0])))] [] [] [] (pl 1 d (px (Cs (lo := 0) (hi := (d.length : Int)) (n := 1073741824) (⟨by omega, by omega, by omega⟩)) p0)) ?_
 refine eqn [(4, .o 896 (List.replicate (Int.toNat (d.length : Int)) (0 : Int)))] [4] [] [] (by rw [show (List.replicate (Int.toNat (d.length : Int)) [.i 0]) = (eL (List.replicate (Int.toNat (d.length : Int)) (0 : Int))) from mk_eL _ (0 : Int)]; first | done | kernel_rfl) ?_
 refine Qc ?_
 refine sn Qa [0, 2, 3, 4, 5] [] (p0) ?_
 refine mz [(5, .b true)] [] [] [] ?_
 refine blw (fun (s0 : (List Int) × Bool) => [(4, .o 896 s0.1), (5, .b s0.2)]) [4, 5] (fun s0 => []) [] (fun (y0 : (List Int)) => [(4, .o 896 y0)]) [0, 4, 5] (fun y0 => []) [] (fun (k0 : Nat) (s0 : (List Int) × Bool) => whl (Vh d) k0 s0 = some (E6 (Vh d) (List.length d * List.length d + 3) ((List.replicate (Int.toNat (d.length : Int)) (0 : Int)), true)) ∧ List.length s0.1 = List.length d) (fun (y0 : (List Int)) => (E6 (Vh d) (List.length d * List.length d + 3) ((List.replicate (Int.toNat (d.length : Int)) (0 : Int)), true)) = .brk y0) (List.length d * List.length d + 3) ((List.replicate (Int.toNat (d.length : Int)) (0 : Int)), true) wf0 ⟨Dc (Dp d (Ep (h1n))), (by simp)⟩ (fun _ h => D4 h.1) (fun k0 s0 hI0 => ?_) (fun y0 hD0 => ?_)
 ·
  have hA0_0 := hI0.2
  refine Qc ?_
  refine sn Qa [0, 2, 3, 4, 5, 15] [] (p0) ?_
  refine ck s0.2 (fun h4 => ?_) (fun h4 => ?_)
  ·
   refine Qh ?_
   refine Qt ?_
   refine tn Qa [0, 2, 3, 4, 5] [] (p0) ?_
   refine tu Qa [(5, .b false), (16, .h d), (17, .i (d.length : Int)), (18, .i 0)] [5] [] [] (pl 1 d p0) ?_
   refine blL3 (Ub d) Uc d (s0.1, false) (fun k1 s1 => [(4, .o 896 s1.1), (5, .b s1.2), (18, .i ((k1 : Nat) : Int))]) [4, 5, 18] (fun y1 => [(4, .o 896 y1.1), (5, .b y1.2)]) [4, 5, 16, 17, 18] (fun _ s1 => List.length s1.1 = List.length s0.1) (fun y1 => List.length y1.1 = List.length s0.1) wf0 (by simp) (fun k1 s1 hk1 hI1 => ?_) (fun k1 s1 hk1 hI1 => ?_) (fun y1 hD1 => ?_)
   ·
    have hA1_0 := hI1.2
    obtain ⟨a1, hx1⟩ := Xr (l := d) (i := k1) hk1
    refine su Qa [(19, .b true)] [] [] [] (pe 0 (Qw (decide_eq_true (p := ((k1 : Nat) : Int) < (d.length : Int)) (by omega))) p0) ?_
    refine Qc ?_
    refine ckT ?_
    refine Qh ?_
    refine Qc ?_
    refine Qt ?_
    refine sn Qa [0, 2, 3, 4, 5, 6, 7, 16, 17, 18] [7] (pn 1 hx1 p0) ?_
    refine tN Qa Yc [0, 2, 3, 4, 5, 6, 8, 16, 17, 18] [] (pc 4 (Oe a1.2) (pc 5 (F2 d s1.1 (Xz a1.2) 0 (by omega)) (pc 10 (Og a1.2) (pc 11 (F2 d s1.1 (Xj a1.2) 1 (by omega)) p0)))) ?_
    refine Qc ?_
    refine tu Qa [(6, .i ((k1 : Nat) : Int)), (8, .i (max (Xh d s1.1 (Xz a1.2) 0) (Xh d s1.1 (Xj a1.2) 1))), (39, .b (decide ((max (Xh d s1.1 (Xz a1.2) 0) (Xh d s1.1 (Xj a1.2) 1)) > (d.length : Int))))] [19] [] [] (pl 2 d p0) ?_
    refine ck (decide ((max (Xh d s1.1 (Xz a1.2) 0) (Xh d s1.1 (Xj a1.2) 1)) > (d.length : Int))) (fun h5 => ?_) (fun h5 => ?_)
    ·
     refine su Qa [] [39] [] [] (p0) ?_
     refine opn [(false, 2, 0, true, 384000, 1)] ?_
     refine Qe ?_
     have hr6 : (Xp (Ub d) Uc d 0 (s0.1, false)) = .ret (.ret ([], false)) := Zt hx1 (Q1 h5 (rfl)) hI1.1
     have hr7 : (E6 (Vh d) (List.length d * List.length d + 3) ((List.replicate (Int.toNat (d.length : Int)) (0 : Int)), true)) = .ret ([], false) := whl_ret (Q1 h4 (Ie hr6)) hI0.1
     exact pz [] (show Qz d = _ from Ql h1 (Ie hr7)) (fun z => .tup [(false, [.o 0 z.1]), (false, [.b z.2])])
    have h5d := of_decide_eq_false h5
    refine Qh ?_
    refine wT 4 0 (.own true 896) s1.1 (fun hw9 hl10 => ?_)
    have hx8 := ng s1.1 k1
    refine sn Qa [0, 2, 3, 4, 5, 6, 8, 16, 17, 18, 45] [] (pN 3 hx8 p0) ?_
    refine ck (decide ((max (Xh d s1.1 (Xz a1.2) 0) (Xh d s1.1 (Xj a1.2) 1)) > (nth s1.1 k1))) (fun h11 => ?_) (fun h11 => ?_)
    ·
     have h11d := of_decide_eq_true h11
     refine tu Qa [(4, .one (.slc (.own true 896) 1 (setRow (eL s1.1) k1 0 [.i (max (Xh d s1.1 (Xz a1.2) 0) (Xh d s1.1 (Xj a1.2) 1))])))] [4, 6, 8, 39] [] [] (pN 3 hx8 p0) ?_
     refine eqn [(4, .o 896 (List.set s1.1 k1 (max (Xh d s1.1 (Xz a1.2) 0) (Xh d s1.1 (Xj a1.2) 1))))] [4] [] [] (by rw [Zx (y := (max (Xh d s1.1 (Xz a1.2) 0) (Xh d s1.1 (Xj a1.2) 1))) hx8 rfl] <;> kernel_rfl) ?_
     refine ru Qa [(5, .b true)] [5] [] [] (p0) ?_
     refine rn Qa [0, 2, 3, 4, 5, 16, 17, 18] [] (pe 0 (Jw (Qy k1 (by omega))) p0) ?_
     exact xw (List.set s1.1 k1 (max (Xh d s1.1 (Xz a1.2) 0) (Xh d s1.1 (Xj a1.2) 1)), true) ⟨Q0 hx1 (Ql h5 (Q1 h11 (rfl))) hI1.1, (by first | omega | (simp only [List.length_set]; omega))⟩
    have h11d := of_decide_eq_false h11
    refine Qh ?_
    refine qn Qa [0, 2, 3, 4, 5, 16, 17, 18] [] (pe 0 (Jw (Qy k1 (by omega))) p0) ?_
    exact xw (s1.1, s1.2) ⟨Q0 hx1 (Ql h5 (Ql h11 (rfl))) hI1.1, (by first | omega | (simp only [List.length_set]; omega))⟩
   ·
    have hA1_0 := hI1.2
    refine su Qa [(19, .b false)] [] [] [] (pe 0 (Qw (decide_eq_false (p := ((k1 : Nat) : Int) < (d.length : Int)) (by omega))) p0) ?_
    refine Qc ?_
    refine ckF ?_
    refine Q2 ?_
    exact xw (s1.1, s1.2) ⟨Xs hk1 (rfl) hI1.1, by first | omega | (simp only [List.length_set]; omega)⟩
   have hD1_0 := hD1.2
   exact xw (y1.1, y1.2) ⟨wn hI0.1 (Q1 h4 (Un hD1.1 (rfl))), (by first | omega | (simp only [List.length_set]; omega))⟩
  refine Q2 ?_
  exact xw _ (wb hI0.1 (Ql h4 (rfl)))
 refine sn Qa [2, 3] [] (p0) ?_
 refine Qe ?_
 exact pz [] (show Qz d = _ from Ql h1 (Un hD0 (rfl))) (fun z => .tup [(false, [.o 0 z.1]), (false, [.b z.2])])
def Low (b : Int) (L : List Int) : Prop := ∀ j, 0 ≤ nth L j ∧ nth L j ≤ b
theorem AM {b w : Int} {i : Nat} {L : List Int} {p : Nat} (hi : i < L.length) (hw : 0 ≤ w ∧ w ≤ 1) (h : Low b L) : Low (b + w) (Pd i L (p, w)) := fun j => by
  rw [R4 _ hi]
  have h1 := h j
  have h2 := h p
  have h3 := h i
  split
  · show 0 ≤ max (nth L i) (nth L p + w) ∧ max (nth L i) (nth L p + w) ≤ b + w; omega
  omega
theorem UP (d : List Ys) (k0 : Nat) : ∀ (l : List ByteArray) (k : Nat) (s : List Int) (b : Int), k0 < s.length → Low b s → Xp (Ut d k0) Aa l k s = .brk (Bs k0 (Ka d 0 l) s) ∧ Low b (Bs k0 (Ka d 0 l) s)
  | [], k, s, b, _, h => ⟨rfl, h⟩
  | a :: l, k, s, b, hk, h => by
    have hf : Ut d k0 k a s = (bif (decide (0 ≤ Xa d a) && decide (nth s k0 < nth s (Int.toNat (Xa d a)))) then .next (List.set s k0 (nth s (Int.toNat (Xa d a)))) else .next s) := rfl
    simp only [Xp, hf, Ka]
    by_cases h0 : 0 ≤ Xa d a
    · rw [if_pos h0, decide_eq_true h0, Bool.true_and]
      have hb : Low b (Pd k0 s (Int.toNat (Xa d a), 0)) := by have := AM (w := 0) (p := Int.toNat (Xa d a)) hk (by omega) h; simpa using this
      have hbk : Bs k0 ((Int.toNat (Xa d a), 0) :: Ka d 0 l) s = Bs k0 (Ka d 0 l) (Pd k0 s (Int.toNat (Xa d a), 0)) := rfl
      rw [hbk]
      have ih := UP d k0 l (k + 1) (Pd k0 s (Int.toNat (Xa d a), 0)) b (by rw [Gr]; exact hk) hb
      by_cases h1 : nth s k0 < nth s (Int.toNat (Xa d a))
      · have e : Pd k0 s (Int.toNat (Xa d a), 0) = List.set s k0 (nth s (Int.toNat (Xa d a))) := by unfold Pd; simp [h1]
        rw [decide_eq_true h1, cond_true]
        rw [e] at ih ⊢; exact ih
      have e : Pd k0 s (Int.toNat (Xa d a), 0) = s := by unfold Pd; simp [h1]
      rw [decide_eq_false h1, cond_false]
      rw [e] at ih ⊢; exact ih
    rw [if_neg h0, decide_eq_false h0, Bool.false_and, cond_false]
    exact UP d k0 l (k + 1) s b hk h
theorem UQ (d : List Ys) (k0 : Nat) : ∀ (l : List ByteArray) (k : Nat) (s : List Int) (b : Int), k0 < s.length → Low b s → b + l.length ≤ 1000000 → Xp (Uu d k0) B9 l k s = .brk (Bs k0 (Ka d 1 l) s) ∧ Low (b + l.length) (Bs k0 (Ka d 1 l) s)
  | [], k, s, b, _, h, _ => ⟨rfl, by show Low (b + ((0 : Nat) : Int)) s; simpa using h⟩
  | a :: l, k, s, b, hk, h, hb => by
    rw [List.length_cons] at hb ⊢
    have hf : Uu d k0 k a s = (bif (decide (0 ≤ Xa d a) && decide (nth s k0 < IntKind.i64.wrap (nth s (Int.toNat (Xa d a)) + 1))) then .next (List.set s k0 (IntKind.i64.wrap (nth s (Int.toNat (Xa d a)) + 1))) else .next s) := rfl
    simp only [Xp, hf, Ka]
    have hl : b + ((l.length + 1 : Nat) : Int) = b + 1 + (l.length : Int) := by omega
    have hw : IntKind.i64.wrap (nth s (Int.toNat (Xa d a)) + 1) = nth s (Int.toNat (Xa d a)) + 1 := IntWalk.i64_in _ (by have := h (Int.toNat (Xa d a)); omega)
    rw [hl] at hb ⊢
    by_cases h0 : 0 ≤ Xa d a
    · rw [if_pos h0, decide_eq_true h0, Bool.true_and, hw]
      have hlow := AM (w := 1) (p := Int.toNat (Xa d a)) hk (by omega) h
      have hbk : Bs k0 ((Int.toNat (Xa d a), 1) :: Ka d 1 l) s = Bs k0 (Ka d 1 l) (Pd k0 s (Int.toNat (Xa d a), 1)) := rfl
      rw [hbk]
      have ih := UQ d k0 l (k + 1) (Pd k0 s (Int.toNat (Xa d a), 1)) (b + 1) (by rw [Gr]; exact hk) hlow hb
      by_cases h1 : nth s k0 < nth s (Int.toNat (Xa d a)) + 1
      · have e : Pd k0 s (Int.toNat (Xa d a), 1) = List.set s k0 (nth s (Int.toNat (Xa d a)) + 1) := by unfold Pd; rw [if_pos h1]
        rw [decide_eq_true h1, cond_true]
        rw [e] at ih ⊢; exact ih
      have e : Pd k0 s (Int.toNat (Xa d a), 1) = s := by unfold Pd; rw [if_neg h1]
      rw [decide_eq_false h1, cond_false]
      rw [e] at ih ⊢; exact ih
    rw [if_neg h0, decide_eq_false h0, Bool.false_and, cond_false]
    exact UQ d k0 l (k + 1) s (b + 1) hk (fun j => by have := h j; omega) hb
theorem To (q : List X7) (b : Bool) : ∀ (l : List Bool) (k : Nat) (s : List ByteArray), ∃ t, Xp (Jt q b) Vx l k s = .brk t ∧ t.length ≤ s.length + l.length
  | [], k, s => ⟨s, rfl, by simp⟩
  | a :: l, k, s => by
    simp only [Xp, Jt]
    cases (Y5 (nth q k) && (a == b)) with
    | true =>
      obtain ⟨t, h1, h2⟩ := To q b l (k + 1) (s ++ [(nth q k).2.2.2.1])
      exact ⟨t, h1, by simp at h2 ⊢; omega⟩
    | false =>
      obtain ⟨t, h1, h2⟩ := To q b l (k + 1) s
      exact ⟨t, h1, by simp at h2 ⊢; omega⟩
theorem negated9 (q : List X7) : List.length (Xd q) ≤ 9 := by
  cases hv : Qv q with
  | true => have := M7 q; have := (Rf hv).2; omega
  | false => unfold Xd; rw [hv]; simp
theorem deps9 (q : List X7) (b : Bool) : List.length (Jy q b) ≤ 9 := by
  unfold Jy
  obtain ⟨t, h1, h2⟩ := To q b (Xd q) 0 []
  rw [h1]
  have h3 := negated9 q
  have h4 := FT (I1 t)
  rw [KN] at h4
  show (Th (I1 t)).length ≤ 9
  simp at h2
  omega
theorem GH (i : Nat) (E1 E2 : Vg) (L : List Int) : Bs i (E1 ++ E2) L = Bs i E2 (Bs i E1 L) := List.foldl_append
theorem f0_step {d : List Ys} {k : Nat} {a : Ys} {s : List Int} {b : Int} (hk : d[k]? = some a) (hs : s.length = d.length) (h : Low b s) (hb : b + 9 ≤ 1000000) : Wu d k a s = .next (Bs k (Jh d k) s) ∧ Low (b + 9) (Bs k (Jh d k) s) := by
  have hkl : k < d.length := (List.getElem?_eq_some_iff.1 hk).1
  have ha : nth d k = a := Iw hk
  obtain ⟨h1, h2⟩ := UP d k (Xz a.2) 0 s b (by omega) h
  have h9 : (Xj a.2).length ≤ 9 := deps9 a.2 true
  obtain ⟨h3, h4⟩ := UQ d k (Xj a.2) 0 (Bs k (Ka d 0 (Xz a.2)) s) b (by rw [Em]; omega) h2 (by omega)
  have he : Jh d k = Ka d 0 (Xz a.2) ++ Ka d 1 (Xj a.2) := by unfold Jh; rw [if_pos hkl, ha]
  rw [he, GH]
  refine ⟨?_, fun j => by have := h4 j; omega⟩
  unfold Wu
  rw [CK, CL, h1]
  simp only [Out.on]
  rw [h3]
theorem XX {d : List Ys} : ∀ (l : List Ys) (k : Nat) (s : List Int) (b : Int), d.drop k = l → s.length = d.length → Low b s → b + 9 * l.length ≤ 1000000 → Xp (Wu d) Ca l k s = .brk (Bd (Jh d) (List.range' k l.length) s) ∧ Low (b + 9 * l.length) (Bd (Jh d) (List.range' k l.length) s)
  | [], k, s, b, _, _, h, _ => ⟨rfl, by show Low (b + 9 * ((0 : Nat) : Int)) s; simpa using h⟩
  | a :: l, k, s, b, hl, hs, h, hb => by
    have hk : d[k]? = some a := by
      have := congrArg (·[0]?) hl
      simpa using this
    have hrest : d.drop (k + 1) = l := by rw [← List.drop_drop, hl]; rfl
    rw [List.length_cons] at hb ⊢
    obtain ⟨h1, h2⟩ := f0_step hk hs h (by omega)
    have e : b + 9 * ((l.length + 1 : Nat) : Int) = b + 9 + 9 * (l.length : Int) := by omega
    rw [e] at hb ⊢
    obtain ⟨h3, h4⟩ := XX l (k + 1) (Bs k (Jh d k) s) (b + 9) hrest (by rw [Em]; exact hs) h2 hb
    simp only [Xp, h1, List.range'_succ]
    exact ⟨h3, h4⟩
theorem XY {d : List Ys} {s : List Int} {b : Int} (hs : s.length = d.length) (h : Low b s) (hb : b + 9 * d.length ≤ 1000000) : Vo d s = Bd (Jh d) (List.range d.length) s ∧ Low (b + 9 * d.length) (Bd (Jh d) (List.range d.length) s) := by
  obtain ⟨h1, h2⟩ := XX d 0 s b rfl hs h hb
  have e1 : List.range' 0 d.length = List.range d.length := (List.range_eq_range' ..).symm
  rw [e1] at h1 h2
  refine ⟨?_, h2⟩
  unfold Vo
  rw [h1]
  rfl
theorem Tp {d : List Ys} (hd : d.length ≤ 5) : ∀ (n k m : Nat), m + n ≤ 1000 → Low (45 * m) (H7 (Jh d) d.length m) → Ha (D8 d) Gs n k (H7 (Jh d) d.length m) = .brk (H7 (Jh d) d.length (m + n)) ∧ Low (45 * (m + n)) (H7 (Jh d) d.length (m + n))
  | 0, k, m, _, h => ⟨rfl, by simpa using h⟩
  | n + 1, k, m, hm, h => by
    obtain ⟨h1, h2⟩ := XY (Lr (Jh d) d.length m) h (by omega)
    have e : H7 (Jh d) d.length (m + 1) = Bd (Jh d) (List.range d.length) (H7 (Jh d) d.length m) := rfl
    simp only [Ha, D8, h1]
    rw [← e] at h2 ⊢
    have := Tp hd n (k + 1) (m + 1) (by omega) (fun j => by have := h2 j; omega)
    rw [show m + (n + 1) = m + 1 + n by omega]
    refine ⟨this.1, fun j => by have := this.2 j; omega⟩
theorem GI (b : List Int) : ∀ (l : List Int) (k : Nat), l.length = (b.drop k).length → Out.on (Xp (Ul b) Bf l k ()) (fun _ => true) = decide (l = b.drop k)
  | [], k, h => by
    have : b.drop k = [] := List.eq_nil_of_length_eq_zero (by rw [← h]; rfl)
    rw [this]; rfl
  | a :: l, k, h => by
    have hk : k < b.length := by simp only [List.length_cons, List.length_drop] at h; omega
    have hd : b.drop k = nth b k :: b.drop (k + 1) := by
      rw [List.drop_eq_getElem_cons hk, show nth b k = b[k] by simp [nth, List.getD, hk]]
    rw [hd] at h ⊢
    simp only [Xp, Ul]
    by_cases e : a = nth b k
    · rw [show (a != nth b k) = false by simp [e], cond_false, GI b l (k + 1) (by simpa using h)]
      simp [e]
    rw [show (a != nth b k) = true by simp [e], cond_true]
    simp [e, Out.on]
theorem GJ (a b : List Int) (h : a.length = b.length) : Yx a b = decide (a = b) := by
  unfold Yx
  rw [show ((a.length : Int) != (b.length : Int)) = false by simp [h], cond_false, GI b a 0 (by simpa using h), List.drop_zero]
theorem Vp (d : List Ys) : Xn d = Qz d := by
  unfold Xn Qz
  rw [← ZO]
  cases hv : Y7 d with
  | false => rfl
  | true =>
    have h5 := Ep hv
    obtain ⟨hn, _⟩ := dirs5 ((ZO d).symm.trans hv)
    simp only [Bool.not_true, cond_false]
    have hz : H7 (Jh d) d.length 0 = List.replicate (Int.toNat (d.length : Int)) (0 : Int) := by rw [Int.toNat_natCast]; rfl
    have hnn : d.length * d.length ≤ 25 := Nat.le_trans (Nat.mul_le_mul h5 h5) (by decide)
    obtain ⟨h1, h2⟩ := Tp (d := d) h5 (d.length * d.length + 2) 0 0 (by omega) (fun j => by rw [hz, Int.toNat_natCast, R2]; omega)
    rw [hz, Nat.zero_add] at h1
    rw [Nat.zero_add] at h2
    rw [hn, show Int.toNat (((d.length * d.length + 1 : Nat) : Int) + 1) = d.length * d.length + 2 by omega, h1]
    simp only [Out.on]
    have hlen := Lr (Jh d) d.length (d.length * d.length + 2)
    obtain ⟨h3, _⟩ := XY (d := d) hlen h2 (by omega)
    rw [h3, GJ _ _ (by rw [Nc])]
    have hw := F3 (d := d) (f := Ub d) (e := Uc) (F := Vh d) (fun _ _ _ => rfl) (fun _ _ => rfl) (fun _ => rfl) (by omega) (d.length * d.length + 3) (List.replicate d.length 0) true (Bi _).1 (Bi _).2
    have hsome : (Pu (Jh d) d.length d.length (d.length * d.length + 3) (true, List.replicate d.length 0)).isSome = true := by
      have := Dp d h5
      rw [Int.toNat_natCast, hw, Option.isSome_map] at this
      exact this
    obtain ⟨r, hr⟩ := Option.isSome_iff_exists.1 hsome
    unfold E6
    rw [Int.toNat_natCast, hw, hr]
    obtain ⟨h6, h7⟩ := GB (E := Jh d) (n := d.length) (fun i e he => I4 d i e he) hr
    by_cases hfix : Bd (Jh d) (List.range d.length) (H7 (Jh d) d.length (d.length * d.length + 2)) = H7 (Jh d) d.length (d.length * d.length + 2)
    · rw [h6 hfix, decide_eq_true hfix]
      rfl
    rw [h7 hfix, decide_eq_false hfix]
    rfl
open GoE (enc wide)
def Du (name : ByteArray) (_ : Nat) (a0 : Ze) (_ : Unit) : Rd (Int) (Unit) (Unit) := (bif (a0.1.toList == name.toList) then (.ret a0.2) else (.next ()))
def Dv (_ : Nat) (_ : Unit) : Unit := ()
def Cc (s_ : (List Ze)) (name : ByteArray) : Int := (Out.on (Xp (Du name) Dv s_ 0 ()) (fun _ => 0))
theorem Tq (s_ : (List Ze)) (name : ByteArray) : ACalls Tryz.prog 141 [.h s_, .s name] (.i (Cc s_ name)) := by
 refine en Qa Tryz.func141 fun w0 F0 hG => ?_
 refine sn Qa [0, 1, 4] [] (p0) ?_
 refine Qc ?_
 refine tn Qa [1, 4, 7, 8, 9] [] (pl 1 s_ p0) ?_
 refine mz [(4, .i 0), (7, .h s_), (8, .i (s_.length : Int)), (9, .i 0)] [0] [] [] ?_
 refine wT 7 0 .sh s_ (fun hw1 hl2 => ?_)
 refine Ii (Du name) Dv s_ () (fun k0 _ => [(9, .i ((k0 : Nat) : Int))]) [9] (fun _ => []) [1, 7, 8, 9] wf0 (fun k0 s0 hk0 hI0 => ?_) (fun k0 s0 hk0 hI0 => ?_) (fun y0 hD0 => ?_)
 ·
  obtain ⟨a0, hx0⟩ := Xr (l := s_) (i := k0) hk0
  refine sn Qa [1, 4, 7, 8, 9, 10] [] (pe 0 (Qw (decide_eq_true (p := ((k0 : Nat) : Int) < (s_.length : Int)) (by omega))) p0) ?_
  refine Qc ?_
  refine ckT ?_
  refine Qh ?_
  refine Qc ?_
  refine Qt ?_
  refine tn Qa [1, 4, 6, 7, 8, 9] [6] (pn 0 hx0 p0) ?_
  refine tu Qa [(6, .p 6 0), (16, .b (a0.1.toList == name.toList))] [] [(6, [.s a0.1, .i a0.2])] [] (p0) ?_
  refine ck (a0.1.toList == name.toList) (fun h3 => ?_) (fun h3 => ?_)
  ·
   refine sn Qa [1, 4, 7, 8, 9] [] (p0) ?_
   refine Qe ?_
   have hr4 : (Xp (Du name) Dv s_ 0 ()) = .ret a0.2 := Zt hx0 (Q1 h3 (rfl)) hI0
   exact pi [] (Ie hr4)
  refine Qh ?_
  refine rn Qa [1, 4, 7, 8, 9] [] (pe 0 (Jw (Qy k0 (by omega))) p0) ?_
  exact xw _ (Q0 hx0 (Ql h3 (rfl)) hI0)
 ·
  refine sn Qa [1, 4, 7, 8, 9, 10] [] (pe 0 (Qw (decide_eq_false (p := ((k0 : Nat) : Int) < (s_.length : Int)) (by omega))) p0) ?_
  refine Qc ?_
  refine ckF ?_
  refine Q2 ?_
  exact xw _ (Xs hk0 (rfl) hI0)
 refine sn Qa [4] [] (p0) ?_
 refine Qe ?_
 exact pi [] (Un hD0 (rfl))
def Zz (s_ : (List Ze)) (name : ByteArray) (v : Jc) : Bool := ((J9 v) && ((v.1 != (0 : Int)) && (v.1 == (Cc s_ name))))
theorem Er (s_ : (List Ze)) (name : ByteArray) (v : Jc) : ACalls Tryz.prog 106 [.h s_, .s name, .a [.i v.1, .i v.2.1, .s v.2.2]] (.b (Zz s_ name v)) := by
 refine en Qa Tryz.func106 fun w0 F0 hG => ?_
 refine sn Qa [0, 1, 5, 6] [5] (p0) ?_
 refine Qc ?_
 refine mz [(5, .p 5 0), (6, .b false)] [2] [(5, [.i v.1, .i v.2.1, .s v.2.2])] [] ?_
 refine jn [(6, .b ((J9 v) && ((v.1 != (0 : Int)) && (v.1 == (Cc s_ name)))))] [0, 1, 5, 6] [] [5] (J9 v) (fun h1 => ?_) (fun h1 => ?_) ?_
 ·
  refine Q9 (v.1 != (0 : Int)) (fun h2 => ?_) (fun h2 => ?_)
  ·
   refine rN Qa Yc [6] [] (pc 1 (cb h1 (Kt v)) (pt 5 h2 (pc 12 (Tq s_ name) p0))) ?_
   exact ⟨rfl, Qf (by rw [h1, h2] <;> kernel_rfl)⟩
  refine rN Qa Yc [6] [] (pc 1 (cb h1 (Kt v)) (pf 5 h2 p0)) ?_
  exact ⟨rfl, Qf (by rw [h1, h2] <;> kernel_rfl)⟩
 ·
  refine rN Qa Yc [6] [] (pc 1 (cb h1 (Kt v)) p0) ?_
  exact ⟨rfl, Qf (by rw [h1] <;> kernel_rfl)⟩
 refine Qe ?_
 exact pb [] (show Zz s_ name v = ((J9 v) && ((v.1 != (0 : Int)) && (v.1 == (Cc s_ name)))) from rfl)
def Ee (n : Int) : Bool := (Xw n 0 2)
theorem I6 (n : Int) : ACalls Tryz.prog 107 [.i n] (.b (Ee n)) := by
 refine en Qa Tryz.func107 fun w0 F0 hG => ?_
 refine sn Qa [0, 2] [] (p0) ?_
 refine tn Qa [2] [] (pc 1 (Z5 n 0 2) p0) ?_
 refine Qe ?_
 exact pb [] (show Ee n = (Xw n 0 2) from rfl)
def V8 (s_ : (List Ze)) (k0 : Nat) (a0 : Ze) (_ : Unit) : Rd (Bool) (Unit) (Unit) := (bif ((!(Yd a0.1)) || (bif (a0.2 != (1 : Int)) then ((a0.2 != (2 : Int)) || (decide (((k0 : Nat) : Int) > (0 : Int)) && (!(Op.bytesLess ((nth s_ (Int.toNat (((k0 : Nat) : Int) - 1))).1).toList a0.1.toList)))) else (decide (((k0 : Nat) : Int) > (0 : Int)) && (!(Op.bytesLess ((nth s_ (Int.toNat (((k0 : Nat) : Int) - 1))).1).toList a0.1.toList))))) then (.ret false) else (.next ()))
def Uq (_ : Nat) (_ : Unit) : Unit := ()
def Jz (s_ : (List Ze)) : Bool := (Out.on (Xp (V8 s_) Uq s_ 0 ()) (fun _ => decide ((s_.length : Int) ≤ (5 : Int))))
theorem U4 (s_ : (List Ze)) : ACalls Tryz.prog 65 [.h s_] (.b (Jz s_)) := by
 refine en Qa Tryz.func65 fun w0 F0 hG => ?_
 refine sn Qa [0, 2] [] (p0) ?_
 refine Qc ?_
 refine tn Qa [0, 2, 5, 6, 7] [] (pl 1 s_ p0) ?_
 refine mz [(2, .b false), (5, .h s_), (6, .i (s_.length : Int)), (7, .i 0)] [] [] [] ?_
 refine wT 0 0 .sh s_ (fun hw1 hl2 => ?_)
 refine Ii (V8 s_) Uq s_ () (fun k0 _ => [(7, .i ((k0 : Nat) : Int))]) [7] (fun _ => []) [5, 6, 7] wf0 (fun k0 s0 hk0 hI0 => ?_) (fun k0 s0 hk0 hI0 => ?_) (fun y0 hD0 => ?_)
 ·
  obtain ⟨a0, hx0⟩ := Xr (l := s_) (i := k0) hk0
  refine sn Qa [0, 2, 5, 6, 7, 8] [] (pe 0 (Qw (decide_eq_true (p := ((k0 : Nat) : Int) < (s_.length : Int)) (by omega))) p0) ?_
  refine Qc ?_
  refine ckT ?_
  refine Qh ?_
  refine Qc ?_
  refine Qt ?_
  refine tn Qa [0, 2, 3, 4, 5, 6, 7] [4] (pn 1 hx0 p0) ?_
  refine Qc ?_
  refine mz [(3, .i ((k0 : Nat) : Int)), (4, .p 4 0)] [] [(4, [.s a0.1, .i a0.2])] [] ?_
  refine jn [(40, .b ((!(Yd a0.1)) || (bif (a0.2 != (1 : Int)) then ((a0.2 != (2 : Int)) || (decide (((k0 : Nat) : Int) > (0 : Int)) && (!(Op.bytesLess ((nth s_ (Int.toNat (((k0 : Nat) : Int) - 1))).1).toList a0.1.toList)))) else (decide (((k0 : Nat) : Int) > (0 : Int)) && (!(Op.bytesLess ((nth s_ (Int.toNat (((k0 : Nat) : Int) - 1))).1).toList a0.1.toList))))))] [3, 4] [] [4] (!(Yd a0.1)) (fun h3 => ?_) (fun h3 => ?_) ?_
  ·
   have h3n : (Yd a0.1) = false := Be h3
   refine rN Qa Yc [0, 2, 5, 6, 7, 40] [] (pc 2 (cb h3n (Yn a0.1)) (pe 3 (show .b (!false) = .b true from rfl) p0)) ?_
   exact ⟨rfl, Qf (by rw [h3] <;> kernel_rfl)⟩
  ·
   have h3n : (Yd a0.1) = true := Vd h3
   refine Q9 (a0.2 != (1 : Int)) (fun h4 => ?_) (fun h4 => ?_)
   ·
    have h4d := N3 h4
    refine Q9 (a0.2 != (2 : Int)) (fun h5 => ?_) (fun h5 => ?_)
    ·
     refine rN Qa Yc [0, 2, 5, 6, 7, 40] [] (pc 2 (cb h3n (Yn a0.1)) (pe 3 (show .b (!true) = .b false from rfl) (pt 7 h4 (pt 11 h5 p0)))) ?_
     exact ⟨rfl, Qf (by rw [h3, h4, h5] <;> kernel_rfl)⟩
    have h5d := V6 h5
    refine Q9 (decide (((k0 : Nat) : Int) > (0 : Int))) (fun h6 => ?_) (fun h6 => ?_)
    ·
     have h6d := of_decide_eq_true h6
     have hx7 := ng s_ (Int.toNat (((k0 : Nat) : Int) - 1))
     refine rN Qa Yc [0, 2, 5, 6, 7, 40] [] (pc 2 (cb h3n (Yn a0.1)) (pe 3 (show .b (!true) = .b false from rfl) (pt 7 h4 (pf 11 h5 (pt 16 h6 (pe 20 (Jw (IntWalk.i64_in (((k0 : Nat) : Int) - 1) (by omega))) (pg 21 (((k0 : Nat) : Int) - 1) hx7 p0))))))) ?_
     exact ⟨rfl, Qf (by rw [h3, h4, h5, h6] <;> kernel_rfl)⟩
    refine rN Qa Yc [0, 2, 5, 6, 7, 40] [] (pc 2 (cb h3n (Yn a0.1)) (pe 3 (show .b (!true) = .b false from rfl) (pt 7 h4 (pf 11 h5 (pf 16 h6 p0))))) ?_
    exact ⟨rfl, Qf (by rw [h3, h4, h5, h6] <;> kernel_rfl)⟩
   have h4d := V6 h4
   refine Q9 (decide (((k0 : Nat) : Int) > (0 : Int))) (fun h8 => ?_) (fun h8 => ?_)
   ·
    have h8d := of_decide_eq_true h8
    have hx9 := ng s_ (Int.toNat (((k0 : Nat) : Int) - 1))
    refine rN Qa Yc [0, 2, 5, 6, 7, 40] [] (pc 2 (cb h3n (Yn a0.1)) (pe 3 (show .b (!true) = .b false from rfl) (pf 7 h4 (pt 16 h8 (pe 20 (Jw (IntWalk.i64_in (((k0 : Nat) : Int) - 1) (by omega))) (pg 21 (((k0 : Nat) : Int) - 1) hx9 p0)))))) ?_
    exact ⟨rfl, Qf (by rw [h3, h4, h8] <;> kernel_rfl)⟩
   refine rN Qa Yc [0, 2, 5, 6, 7, 40] [] (pc 2 (cb h3n (Yn a0.1)) (pe 3 (show .b (!true) = .b false from rfl) (pf 7 h4 (pf 16 h8 p0)))) ?_
   exact ⟨rfl, Qf (by rw [h3, h4, h8] <;> kernel_rfl)⟩
  refine ck ((!(Yd a0.1)) || (bif (a0.2 != (1 : Int)) then ((a0.2 != (2 : Int)) || (decide (((k0 : Nat) : Int) > (0 : Int)) && (!(Op.bytesLess ((nth s_ (Int.toNat (((k0 : Nat) : Int) - 1))).1).toList a0.1.toList)))) else (decide (((k0 : Nat) : Int) > (0 : Int)) && (!(Op.bytesLess ((nth s_ (Int.toNat (((k0 : Nat) : Int) - 1))).1).toList a0.1.toList))))) (fun h10 => ?_) (fun h10 => ?_)
  ·
   refine su Qa [] [40] [] [] (p0) ?_
   refine Qe ?_
   have hr11 : (Xp (V8 s_) Uq s_ 0 ()) = .ret false := Zt hx0 (Q1 h10 (rfl)) hI0
   exact pb [] (Ie hr11)
  refine Qh ?_
  refine rn Qa [0, 2, 5, 6, 7] [] (pe 0 (Jw (Qy k0 (by omega))) p0) ?_
  exact xw _ (Q0 hx0 (Ql h10 (rfl)) hI0)
 ·
  refine sn Qa [0, 2, 5, 6, 7, 8] [] (pe 0 (Qw (decide_eq_false (p := ((k0 : Nat) : Int) < (s_.length : Int)) (by omega))) p0) ?_
  refine Qc ?_
  refine ckF ?_
  refine Q2 ?_
  exact xw _ (Xs hk0 (rfl) hI0)
 refine sn Qa [2] [] (pl 1 s_ p0) ?_
 refine Qe ?_
 exact pb [] (Un hD0 (rfl))
def Ud (s_ : (List Ze)) (f : X9) (k0 : Nat) (a0 : Wp) (_ : Unit) : Rd (Bool) (Unit) (Unit) := (bif (bif decide (((k0 : Nat) : Int) > (0 : Int)) then ((!(Op.bytesLess ((nth f.2.2.2.2 (Int.toNat (((k0 : Nat) : Int) - 1))).1).toList a0.1.toList)) || (!(Zz s_ a0.1 a0.2))) else (!(Zz s_ a0.1 a0.2))) then (.ret false) else (.next ()))
def Hy (_ : Nat) (_ : Unit) : Unit := ()
def Kv (s_ : (List Ze)) (f : X9) : Bool := (Out.on (Xp (Ud s_ f) Hy f.2.2.2.2 0 ()) (fun _ => ((Xw f.1 1 60) && ((Ee f.2.1) && ((Xw f.2.2.2.1 0 60) && (Jz s_))))))
theorem Am (s_ : (List Ze)) (f : X9) : ACalls Tryz.prog 64 [.h s_, .a [.i f.1, .i f.2.1, .b f.2.2.1, .i f.2.2.2.1, .h f.2.2.2.2]] (.b (Kv s_ f)) := by
 refine en Qa Tryz.func64 fun w0 F0 hG => ?_
 refine sn Qa [0, 3, 4] [3] (p0) ?_
 refine Qc ?_
 refine tn Qa [0, 3, 4, 8, 9, 10] [3] (pl 2 f.2.2.2.2 p0) ?_
 refine mz [(3, .p 3 0), (4, .b false), (8, .h f.2.2.2.2), (9, .i (f.2.2.2.2.length : Int)), (10, .i 0)] [1] [(3, [.i f.1, .i f.2.1, .b f.2.2.1, .i f.2.2.2.1, .h f.2.2.2.2])] [] ?_
 refine wT 8 0 .sh f.2.2.2.2 (fun hw1 hl2 => ?_)
 refine Ii (Ud s_ f) Hy f.2.2.2.2 () (fun k0 _ => [(10, .i ((k0 : Nat) : Int))]) [10] (fun _ => []) [8, 9, 10] wf0 (fun k0 s0 hk0 hI0 => ?_) (fun k0 s0 hk0 hI0 => ?_) (fun y0 hD0 => ?_)
 ·
  obtain ⟨a0, hx0⟩ := Xr (l := f.2.2.2.2) (i := k0) hk0
  refine su Qa [(11, .b true)] [] [] [] (pe 0 (Qw (decide_eq_true (p := ((k0 : Nat) : Int) < (f.2.2.2.2.length : Int)) (by omega))) p0) ?_
  refine Qc ?_
  refine ckT ?_
  refine Qh ?_
  refine Qc ?_
  refine Qt ?_
  refine sn Qa [0, 3, 4, 5, 6, 8, 9, 10] [3, 6] (pn 1 hx0 p0) ?_
  refine Qc ?_
  refine mz [(5, .i ((k0 : Nat) : Int)), (6, .p 6 0)] [11] [(6, [.s a0.1, .i a0.2.1, .i a0.2.2.1, .s a0.2.2.2])] [] ?_
  refine jn [(37, .b (bif decide (((k0 : Nat) : Int) > (0 : Int)) then ((!(Op.bytesLess ((nth f.2.2.2.2 (Int.toNat (((k0 : Nat) : Int) - 1))).1).toList a0.1.toList)) || (!(Zz s_ a0.1 a0.2))) else (!(Zz s_ a0.1 a0.2))))] [5, 6] [] [6] (decide (((k0 : Nat) : Int) > (0 : Int))) (fun h3 => ?_) (fun h3 => ?_) ?_
  ·
   have h3d := of_decide_eq_true h3
   refine Q9 (!(Op.bytesLess ((nth f.2.2.2.2 (Int.toNat (((k0 : Nat) : Int) - 1))).1).toList a0.1.toList)) (fun h4 => ?_) (fun h4 => ?_)
   ·
    have hx5 := ng f.2.2.2.2 (Int.toNat (((k0 : Nat) : Int) - 1))
    refine rN Qa Yc [0, 3, 4, 8, 9, 10, 37] [3] (pt 1 h3 (pe 6 (Jw (IntWalk.i64_in (((k0 : Nat) : Int) - 1) (by omega))) (pg 7 (((k0 : Nat) : Int) - 1) hx5 (pt 12 h4 p0)))) ?_
    exact ⟨rfl, Qf (by rw [h3, h4] <;> kernel_rfl)⟩
   have hx6 := ng f.2.2.2.2 (Int.toNat (((k0 : Nat) : Int) - 1))
   refine rN Qa Yc [0, 3, 4, 8, 9, 10, 37] [3] (pt 1 h3 (pe 6 (Jw (IntWalk.i64_in (((k0 : Nat) : Int) - 1) (by omega))) (pg 7 (((k0 : Nat) : Int) - 1) hx6 (pf 12 h4 (pc 20 (Er s_ a0.1 a0.2) p0))))) ?_
   exact ⟨rfl, Qf (by rw [h3, h4] <;> kernel_rfl)⟩
  ·
   refine rN Qa Yc [0, 3, 4, 8, 9, 10, 37] [3] (pf 1 h3 (pc 20 (Er s_ a0.1 a0.2) p0)) ?_
   exact ⟨rfl, Qf (by rw [h3] <;> kernel_rfl)⟩
  refine ck (bif decide (((k0 : Nat) : Int) > (0 : Int)) then ((!(Op.bytesLess ((nth f.2.2.2.2 (Int.toNat (((k0 : Nat) : Int) - 1))).1).toList a0.1.toList)) || (!(Zz s_ a0.1 a0.2))) else (!(Zz s_ a0.1 a0.2))) (fun h7 => ?_) (fun h7 => ?_)
  ·
   refine su Qa [] [37] [] [] (p0) ?_
   refine Qe ?_
   have hr8 : (Xp (Ud s_ f) Hy f.2.2.2.2 0 ()) = .ret false := Zt hx0 (Q1 h7 (rfl)) hI0
   exact pb [] (Ie hr8)
  refine Qh ?_
  refine rn Qa [0, 3, 4, 8, 9, 10] [3] (pe 0 (Jw (Qy k0 (by omega))) p0) ?_
  exact xw _ (Q0 hx0 (Ql h7 (rfl)) hI0)
 ·
  refine su Qa [(11, .b false)] [] [] [] (pe 0 (Qw (decide_eq_false (p := ((k0 : Nat) : Int) < (f.2.2.2.2.length : Int)) (by omega))) p0) ?_
  refine Qc ?_
  refine ckF ?_
  refine Q2 ?_
  exact xw _ (Xs hk0 (rfl) hI0)
 refine Qc ?_
 refine jn [(4, .b ((Xw f.1 1 60) && ((Ee f.2.1) && ((Xw f.2.2.2.1 0 60) && (Jz s_)))))] [0, 3, 4] [] [3] (Xw f.1 1 60) (fun h9 => ?_) (fun h9 => ?_) ?_
 ·
  have h9w := By.1 h9
  refine Q9 (Ee f.2.1) (fun h10 => ?_) (fun h10 => ?_)
  ·
   refine Q9 (Xw f.2.2.2.1 0 60) (fun h11 => ?_) (fun h11 => ?_)
   ·
    have h11w := By.1 h11
    refine rn Qa [4] [] (pc 2 (cb h9 (Z5 f.1 1 60)) (pc 6 (cb h10 (I6 f.2.1)) (pc 11 (cb h11 (Z5 f.2.2.2.1 0 60)) (pc 15 (U4 s_) p0)))) ?_
    exact ⟨rfl, Qf (by rw [h9, h10, h11] <;> kernel_rfl)⟩
   refine rn Qa [4] [] (pc 2 (cb h9 (Z5 f.1 1 60)) (pc 6 (cb h10 (I6 f.2.1)) (pc 11 (cb h11 (Z5 f.2.2.2.1 0 60)) p0))) ?_
   exact ⟨rfl, Qf (by rw [h9, h10, h11] <;> kernel_rfl)⟩
  refine rn Qa [4] [] (pc 2 (cb h9 (Z5 f.1 1 60)) (pc 6 (cb h10 (I6 f.2.1)) p0)) ?_
  exact ⟨rfl, Qf (by rw [h9, h10] <;> kernel_rfl)⟩
 ·
  refine rn Qa [4] [] (pc 2 (cb h9 (Z5 f.1 1 60)) p0) ?_
  exact ⟨rfl, Qf (by rw [h9] <;> kernel_rfl)⟩
 refine Qe ?_
 exact pb [] (Un hD0 (rfl))
def Wv (s_ : Xo) (k0 : Nat) (a0 : X9) (_ : Unit) : Rd (Bool) (Unit) (Unit) := (bif ((!(Kv s_.1 a0)) || (decide (a0.1 ≥ s_.2.2) || (decide (((k0 : Nat) : Int) > (0 : Int)) && decide ((nth s_.2.1 (Int.toNat (((k0 : Nat) : Int) - 1))).1 ≥ a0.1)))) then (.ret false) else (.next ()))
def U5 (_ : Nat) (_ : Unit) : Unit := ()
def Y4 (s_ : Xo) : Bool := (Out.on (Xp (Wv s_) U5 s_.2.1 0 ()) (fun _ => ((Jz s_.1) && (decide ((s_.2.1.length : Int) ≤ (12 : Int)) && (Xw s_.2.2 1 61)))))
theorem Hz (s_ : Xo) : ACalls Tryz.prog 39 [.a [.h s_.1, .h s_.2.1, .i s_.2.2]] (.b (Y4 s_)) := by
 refine en Qa Tryz.func39 fun w0 F0 hG => ?_
 refine sn Qa [1, 2] [1] (p0) ?_
 refine Qc ?_
 refine tn Qa [1, 2, 6, 7, 8] [1] (pl 2 s_.2.1 p0) ?_
 refine mz [(1, .p 1 0), (2, .b false), (6, .h s_.2.1), (7, .i (s_.2.1.length : Int)), (8, .i 0)] [0] [(1, [.h s_.1, .h s_.2.1, .i s_.2.2])] [] ?_
 refine wT 6 0 .sh s_.2.1 (fun hw1 hl2 => ?_)
 refine Ii (Wv s_) U5 s_.2.1 () (fun k0 _ => [(8, .i ((k0 : Nat) : Int))]) [8] (fun _ => []) [6, 7, 8] wf0 (fun k0 s0 hk0 hI0 => ?_) (fun k0 s0 hk0 hI0 => ?_) (fun y0 hD0 => ?_)
 ·
  obtain ⟨a0, hx0⟩ := Xr (l := s_.2.1) (i := k0) hk0
  refine sn Qa [1, 2, 6, 7, 8, 9] [1] (pe 0 (Qw (decide_eq_true (p := ((k0 : Nat) : Int) < (s_.2.1.length : Int)) (by omega))) p0) ?_
  refine Qc ?_
  refine ckT ?_
  refine Qh ?_
  refine Qc ?_
  refine Qt ?_
  refine tn Qa [1, 2, 3, 4, 6, 7, 8] [1, 4] (pn 1 hx0 p0) ?_
  refine Qc ?_
  refine mz [(3, .i ((k0 : Nat) : Int)), (4, .p 4 0)] [] [(4, [.i a0.1, .i a0.2.1, .b a0.2.2.1, .i a0.2.2.2.1, .h a0.2.2.2.2])] [] ?_
  refine jn [(40, .b ((!(Kv s_.1 a0)) || (decide (a0.1 ≥ s_.2.2) || (decide (((k0 : Nat) : Int) > (0 : Int)) && decide ((nth s_.2.1 (Int.toNat (((k0 : Nat) : Int) - 1))).1 ≥ a0.1)))))] [3, 4] [] [4] (!(Kv s_.1 a0)) (fun h3 => ?_) (fun h3 => ?_) ?_
  ·
   have h3n : (Kv s_.1 a0) = false := Be h3
   refine rN Qa Yc [1, 2, 6, 7, 8, 40] [1] (pc 3 (cb h3n (Am s_.1 a0)) (pe 4 (show .b (!false) = .b true from rfl) p0)) ?_
   exact ⟨rfl, Qf (by rw [h3] <;> kernel_rfl)⟩
  ·
   have h3n : (Kv s_.1 a0) = true := Vd h3
   refine Q9 (decide (a0.1 ≥ s_.2.2)) (fun h4 => ?_) (fun h4 => ?_)
   ·
    refine rN Qa Yc [1, 2, 6, 7, 8, 40] [1] (pc 3 (cb h3n (Am s_.1 a0)) (pe 4 (show .b (!true) = .b false from rfl) (pt 10 h4 p0))) ?_
    exact ⟨rfl, Qf (by rw [h3, h4] <;> kernel_rfl)⟩
   have h4d := of_decide_eq_false h4
   refine Q9 (decide (((k0 : Nat) : Int) > (0 : Int))) (fun h5 => ?_) (fun h5 => ?_)
   ·
    have h5d := of_decide_eq_true h5
    have hx6 := ng s_.2.1 (Int.toNat (((k0 : Nat) : Int) - 1))
    refine rN Qa Yc [1, 2, 6, 7, 8, 40] [1] (pc 3 (cb h3n (Am s_.1 a0)) (pe 4 (show .b (!true) = .b false from rfl) (pf 10 h4 (pt 14 h5 (pe 19 (Jw (IntWalk.i64_in (((k0 : Nat) : Int) - 1) (by omega))) (pg 20 (((k0 : Nat) : Int) - 1) hx6 p0)))))) ?_
    exact ⟨rfl, Qf (by rw [h3, h4, h5] <;> kernel_rfl)⟩
   refine rN Qa Yc [1, 2, 6, 7, 8, 40] [1] (pc 3 (cb h3n (Am s_.1 a0)) (pe 4 (show .b (!true) = .b false from rfl) (pf 10 h4 (pf 14 h5 p0)))) ?_
   exact ⟨rfl, Qf (by rw [h3, h4, h5] <;> kernel_rfl)⟩
  refine ck ((!(Kv s_.1 a0)) || (decide (a0.1 ≥ s_.2.2) || (decide (((k0 : Nat) : Int) > (0 : Int)) && decide ((nth s_.2.1 (Int.toNat (((k0 : Nat) : Int) - 1))).1 ≥ a0.1)))) (fun h7 => ?_) (fun h7 => ?_)
  ·
   refine su Qa [] [40] [] [] (p0) ?_
   refine Qe ?_
   have hr8 : (Xp (Wv s_) U5 s_.2.1 0 ()) = .ret false := Zt hx0 (Q1 h7 (rfl)) hI0
   exact pb [] (Ie hr8)
  have h7r : ((decide (a0.1 ≥ s_.2.2) || (decide (((k0 : Nat) : Int) > (0 : Int)) && decide ((nth s_.2.1 (Int.toNat (((k0 : Nat) : Int) - 1))).1 ≥ a0.1)))) = false := UH h7
  have h7rl : (decide (a0.1 ≥ s_.2.2)) = false := DD h7r
  have h7rld := of_decide_eq_false h7rl
  refine Qh ?_
  refine rn Qa [1, 2, 6, 7, 8] [1] (pe 0 (Jw (Qy k0 (by omega))) p0) ?_
  exact xw _ (Q0 hx0 (Ql h7 (rfl)) hI0)
 ·
  refine sn Qa [1, 2, 6, 7, 8, 9] [1] (pe 0 (Qw (decide_eq_false (p := ((k0 : Nat) : Int) < (s_.2.1.length : Int)) (by omega))) p0) ?_
  refine Qc ?_
  refine ckF ?_
  refine Q2 ?_
  exact xw _ (Xs hk0 (rfl) hI0)
 refine Qc ?_
 refine jn [(2, .b ((Jz s_.1) && (decide ((s_.2.1.length : Int) ≤ (12 : Int)) && (Xw s_.2.2 1 61))))] [1, 2] [] [1] (Jz s_.1) (fun h9 => ?_) (fun h9 => ?_) ?_
 ·
  refine Q9 (decide ((s_.2.1.length : Int) ≤ (12 : Int))) (fun h10 => ?_) (fun h10 => ?_)
  ·
   refine rn Qa [2] [] (pc 2 (cb h9 (U4 s_.1)) (pl 6 s_.2.1 (pt 7 h10 (pc 12 (Z5 s_.2.2 1 61) p0)))) ?_
   exact ⟨rfl, Qf (by rw [h9, h10] <;> kernel_rfl)⟩
  refine rn Qa [2] [] (pc 2 (cb h9 (U4 s_.1)) (pl 6 s_.2.1 (pf 7 h10 p0))) ?_
  exact ⟨rfl, Qf (by rw [h9, h10] <;> kernel_rfl)⟩
 ·
  refine rn Qa [2] [] (pc 2 (cb h9 (U4 s_.1)) p0) ?_
  exact ⟨rfl, Qf (by rw [h9] <;> kernel_rfl)⟩
 refine Qe ?_
 exact pb [] (Un hD0 (rfl))
def Hd (name : ByteArray) (_ : Nat) (a0 : Ze) (_ : Unit) : Rd (Int) (Unit) (Unit) := (bif (a0.1.toList == name.toList) then (.ret a0.2) else (.next ()))
def Bj (_ : Nat) (_ : Unit) : Unit := ()
def Cd (s_ : (List Ze)) (name : ByteArray) : Int := (Out.on (Xp (Hd name) Bj s_ 0 ()) (fun _ => 0))
theorem Tr (s_ : (List Ze)) (name : ByteArray) : ACalls Tryz.prog 146 [.h s_, .s name] (.i (Cd s_ name)) := by
 refine en Qa Tryz.func146 fun w0 F0 hG => ?_
 refine sn Qa [0, 1, 4] [] (p0) ?_
 refine Qc ?_
 refine tn Qa [0, 1, 4, 5] [] (p0) ?_
 refine mz [(4, .i 0), (5, .i 0)] [] [] [] ?_
 refine wT 0 0 .sh s_ (fun hw1 hl2 => ?_)
 refine Ii (Hd name) Bj s_ () (fun k0 _ => [(5, .i ((k0 : Nat) : Int))]) [5] (fun _ => []) [0, 1, 5] wf0 (fun k0 s0 hk0 hI0 => ?_) (fun k0 s0 hk0 hI0 => ?_) (fun y0 hD0 => ?_)
 ·
  obtain ⟨a0, hx0⟩ := Xr (l := s_) (i := k0) hk0
  refine Qc ?_
  refine sn Qa [0, 1, 4, 5, 9] [] (pl 2 s_ (pe 3 (Qw (decide_eq_true (p := ((k0 : Nat) : Int) < (s_.length : Int)) (by omega))) p0)) ?_
  refine ckT ?_
  refine Qh ?_
  refine Qc ?_
  refine Qt ?_
  refine tn Qa [0, 1, 4, 5, 18] [] (pn 2 hx0 p0) ?_
  refine ck (a0.1.toList == name.toList) (fun h3 => ?_) (fun h3 => ?_)
  ·
   refine tu Qa [(4, .i a0.2)] [4] [] [] (pn 2 hx0 p0) ?_
   refine Qe ?_
   have hr4 : (Xp (Hd name) Bj s_ 0 ()) = .ret a0.2 := Zt hx0 (Q1 h3 (rfl)) hI0
   exact pi [] (Ie hr4)
  refine Qh ?_
  refine qu Qa [(5, .i ((k0 + 1 : Nat) : Int))] [5] [] [] (pe 1 (Jw (Qy k0 (by omega))) p0) ?_
  exact xw _ (Q0 hx0 (Ql h3 (rfl)) hI0)
 ·
  refine Qc ?_
  refine sn Qa [0, 1, 4, 5, 9] [] (pl 2 s_ (pe 3 (Qw (decide_eq_false (p := ((k0 : Nat) : Int) < (s_.length : Int)) (by omega))) p0)) ?_
  refine ckF ?_
  refine Q2 ?_
  exact xw _ (Xs hk0 (rfl) hI0)
 refine sn Qa [4] [] (p0) ?_
 refine Qe ?_
 exact pi [] (Un hD0 (rfl))
def Zc (s_ : (List Ze)) (name : ByteArray) (v : Jc) : Bool := ((Zv v) && ((v.1 != (0 : Int)) && (v.1 == (Cd s_ name))))
theorem Bt (s_ : (List Ze)) (name : ByteArray) (v : Jc) : ACalls Tryz.prog 113 [.h s_, .s name, .a [.i v.1, .i v.2.1, .s v.2.2]] (.b (Zc s_ name v)) := by
 refine en Qa Tryz.func113 fun w0 F0 hG => ?_
 refine sn Qa [0, 1, 5, 6] [5] (p0) ?_
 refine Qc ?_
 refine mz [(5, .p 5 0), (6, .b false)] [2] [(5, [.i v.1, .i v.2.1, .s v.2.2])] [] ?_
 refine jn [(6, .b ((Zv v) && ((v.1 != (0 : Int)) && (v.1 == (Cd s_ name)))))] [0, 1, 5, 6] [] [5] (Zv v) (fun h1 => ?_) (fun h1 => ?_) ?_
 ·
  refine Q9 (v.1 != (0 : Int)) (fun h2 => ?_) (fun h2 => ?_)
  ·
   refine rN Qa Yc [6] [] (pc 1 (cb h1 (Zp v)) (pt 5 h2 (pc 12 (Tr s_ name) p0))) ?_
   exact ⟨rfl, Qf (by rw [h1, h2] <;> kernel_rfl)⟩
  refine rN Qa Yc [6] [] (pc 1 (cb h1 (Zp v)) (pf 5 h2 p0)) ?_
  exact ⟨rfl, Qf (by rw [h1, h2] <;> kernel_rfl)⟩
 ·
  refine rN Qa Yc [6] [] (pc 1 (cb h1 (Zp v)) p0) ?_
  exact ⟨rfl, Qf (by rw [h1] <;> kernel_rfl)⟩
 refine Qe ?_
 exact pb [] (show Zc s_ name v = ((Zv v) && ((v.1 != (0 : Int)) && (v.1 == (Cd s_ name)))) from rfl)
def V9 (s_ : (List Ze)) (k0 : Nat) (a0 : Ze) (_ : Unit) : Rd (Bool) (Unit) (Unit) := (bif ((!(Xl a0.1)) || ((!(Xg a0.2 1 2)) || (decide (((k0 : Nat) : Int) > (0 : Int)) && (!(Op.bytesLess ((nth s_ (Int.toNat (((k0 : Nat) : Int) - 1))).1).toList a0.1.toList))))) then (.ret false) else (.next ()))
def Ur (_ : Nat) (_ : Unit) : Unit := ()
def Z0 (s_ : (List Ze)) : Bool := (Out.on (Xp (V9 s_) Ur s_ 0 ()) (fun _ => decide ((s_.length : Int) ≤ (5 : Int))))
theorem Kj (s_ : (List Ze)) : ACalls Tryz.prog 70 [.h s_] (.b (Z0 s_)) := by
 refine en Qa Tryz.func70 fun w0 F0 hG => ?_
 refine sn Qa [0, 2] [] (p0) ?_
 refine Qc ?_
 refine tn Qa [0, 2, 3] [] (p0) ?_
 refine mz [(2, .b false), (3, .i 0)] [] [] [] ?_
 refine wT 0 0 .sh s_ (fun hw1 hl2 => ?_)
 refine Ii (V9 s_) Ur s_ () (fun k0 _ => [(3, .i ((k0 : Nat) : Int))]) [3] (fun _ => []) [3] wf0 (fun k0 s0 hk0 hI0 => ?_) (fun k0 s0 hk0 hI0 => ?_) (fun y0 hD0 => ?_)
 ·
  obtain ⟨a0, hx0⟩ := Xr (l := s_) (i := k0) hk0
  refine Qc ?_
  refine sn Qa [0, 2, 3, 7] [] (pl 2 s_ (pe 3 (Qw (decide_eq_true (p := ((k0 : Nat) : Int) < (s_.length : Int)) (by omega))) p0)) ?_
  refine ckT ?_
  refine Qh ?_
  refine Qc ?_
  refine Qt ?_
  refine Qc ?_
  refine mz [(7, .b true)] [] [] [] ?_
  refine jn [(43, .b ((!(Xl a0.1)) || ((!(Xg a0.2 1 2)) || (decide (((k0 : Nat) : Int) > (0 : Int)) && (!(Op.bytesLess ((nth s_ (Int.toNat (((k0 : Nat) : Int) - 1))).1).toList a0.1.toList))))))] [7] [] [] (!(Xl a0.1)) (fun h3 => ?_) (fun h3 => ?_) ?_
  ·
   have h3n : (Xl a0.1) = false := Be h3
   refine rN Qa Yc [0, 2, 3, 43] [] (pn 2 hx0 (pc 5 (cb h3n (Xv a0.1)) (pe 6 (show .b (!false) = .b true from rfl) p0))) ?_
   exact ⟨rfl, Qf (by rw [h3] <;> kernel_rfl)⟩
  ·
   have h3n : (Xl a0.1) = true := Vd h3
   refine Q9 (!(Xg a0.2 1 2)) (fun h4 => ?_) (fun h4 => ?_)
   ·
    have h4n : (Xg a0.2 1 2) = false := Be h4
    refine rN Qa Yc [0, 2, 3, 43] [] (pn 2 hx0 (pc 5 (cb h3n (Xv a0.1)) (pe 6 (show .b (!true) = .b false from rfl) (pn 10 hx0 (pc 13 (cb h4n (Zy a0.2 1 2)) (pe 14 (show .b (!false) = .b true from rfl) p0)))))) ?_
    exact ⟨rfl, Qf (by rw [h3, h4] <;> kernel_rfl)⟩
   have h4n : (Xg a0.2 1 2) = true := Vd h4
   have h4nw := F1.1 h4n
   refine Q9 (decide (((k0 : Nat) : Int) > (0 : Int))) (fun h5 => ?_) (fun h5 => ?_)
   ·
    have h5d := of_decide_eq_true h5
    have hx6 := ng s_ (Int.toNat (((k0 : Nat) : Int) - 1))
    refine rN Qa Yc [0, 2, 3, 43] [] (pn 2 hx0 (pc 5 (cb h3n (Xv a0.1)) (pe 6 (show .b (!true) = .b false from rfl) (pn 10 hx0 (pc 13 (cb h4n (Zy a0.2 1 2)) (pe 14 (show .b (!true) = .b false from rfl) (pt 18 h5 (pe 22 (Jw (IntWalk.i64_in (((k0 : Nat) : Int) - 1) (by omega))) (pg 23 (((k0 : Nat) : Int) - 1) hx6 (pn 28 hx0 p0)))))))))) ?_
    exact ⟨rfl, Qf (by rw [h3, h4, h5] <;> kernel_rfl)⟩
   refine rN Qa Yc [0, 2, 3, 43] [] (pn 2 hx0 (pc 5 (cb h3n (Xv a0.1)) (pe 6 (show .b (!true) = .b false from rfl) (pn 10 hx0 (pc 13 (cb h4n (Zy a0.2 1 2)) (pe 14 (show .b (!true) = .b false from rfl) (pf 18 h5 p0))))))) ?_
   exact ⟨rfl, Qf (by rw [h3, h4, h5] <;> kernel_rfl)⟩
  refine ck ((!(Xl a0.1)) || ((!(Xg a0.2 1 2)) || (decide (((k0 : Nat) : Int) > (0 : Int)) && (!(Op.bytesLess ((nth s_ (Int.toNat (((k0 : Nat) : Int) - 1))).1).toList a0.1.toList))))) (fun h7 => ?_) (fun h7 => ?_)
  ·
   refine sn Qa [0, 2, 3] [] (p0) ?_
   refine Qe ?_
   have hr8 : (Xp (V9 s_) Ur s_ 0 ()) = .ret false := Zt hx0 (Q1 h7 (rfl)) hI0
   exact pb [] (Ie hr8)
  have h7r : (((!(Xg a0.2 1 2)) || (decide (((k0 : Nat) : Int) > (0 : Int)) && (!(Op.bytesLess ((nth s_ (Int.toNat (((k0 : Nat) : Int) - 1))).1).toList a0.1.toList))))) = false := UH h7
  have h7rl : ((!(Xg a0.2 1 2))) = false := DD h7r
  have h7rln : (Xg a0.2 1 2) = true := Vd h7rl
  have h7rlnw := F1.1 h7rln
  refine Qh ?_
  refine rn Qa [0, 2, 3] [] (pe 1 (Jw (Qy k0 (by omega))) p0) ?_
  exact xw _ (Q0 hx0 (Ql h7 (rfl)) hI0)
 ·
  refine Qc ?_
  refine sn Qa [0, 2, 3, 7] [] (pl 2 s_ (pe 3 (Qw (decide_eq_false (p := ((k0 : Nat) : Int) < (s_.length : Int)) (by omega))) p0)) ?_
  refine ckF ?_
  refine Q2 ?_
  exact xw _ (Xs hk0 (rfl) hI0)
 refine sn Qa [2] [] (pl 1 s_ p0) ?_
 refine Qe ?_
 exact pb [] (Un hD0 (rfl))
def Xx (s_ : (List Ze)) (f : X9) (k0 : Nat) (a0 : Wp) (_ : Unit) : Rd (Bool) (Unit) (Unit) := (bif ((!(Zc s_ a0.1 a0.2)) || (decide (((k0 : Nat) : Int) > (0 : Int)) && (!(Op.bytesLess ((nth f.2.2.2.2 (Int.toNat (((k0 : Nat) : Int) - 1))).1).toList a0.1.toList)))) then (.ret false) else (.next ()))
def Zd (_ : Nat) (_ : Unit) : Unit := ()
def Xc (s_ : (List Ze)) (f : X9) : Bool := (Out.on (Xp (Xx s_ f) Zd f.2.2.2.2 0 ()) (fun _ => ((Z0 s_) && ((Xg f.1 1 60) && ((Xg f.2.1 0 2) && (Xg f.2.2.2.1 0 60))))))
theorem Uv (s_ : (List Ze)) (f : X9) : ACalls Tryz.prog 69 [.h s_, .a [.i f.1, .i f.2.1, .b f.2.2.1, .i f.2.2.2.1, .h f.2.2.2.2]] (.b (Xc s_ f)) := by
 refine en Qa Tryz.func69 fun w0 F0 hG => ?_
 refine sn Qa [0, 3, 4] [3] (p0) ?_
 refine Qc ?_
 refine tn Qa [0, 3, 4, 5] [3] (p0) ?_
 refine mz [(3, .p 3 0), (4, .b false), (5, .i 0)] [1] [(3, [.i f.1, .i f.2.1, .b f.2.2.1, .i f.2.2.2.1, .h f.2.2.2.2])] [] ?_
 refine wB 3 4 .sh f.2.2.2.2 (fun hw1 hl2 => ?_)
 refine Ii (Xx s_ f) Zd f.2.2.2.2 () (fun k0 _ => [(5, .i ((k0 : Nat) : Int))]) [5] (fun _ => []) [5] wf0 (fun k0 s0 hk0 hI0 => ?_) (fun k0 s0 hk0 hI0 => ?_) (fun y0 hD0 => ?_)
 ·
  obtain ⟨a0, hx0⟩ := Xr (l := f.2.2.2.2) (i := k0) hk0
  refine Qc ?_
  refine sn Qa [0, 3, 4, 5, 10] [3] (pl 3 f.2.2.2.2 (pe 4 (Qw (decide_eq_true (p := ((k0 : Nat) : Int) < (f.2.2.2.2.length : Int)) (by omega))) p0)) ?_
  refine ckT ?_
  refine Qh ?_
  refine Qc ?_
  refine Qt ?_
  refine Qc ?_
  refine mz [(10, .b true)] [] [] [] ?_
  refine jn [(47, .b ((!(Zc s_ a0.1 a0.2)) || (decide (((k0 : Nat) : Int) > (0 : Int)) && (!(Op.bytesLess ((nth f.2.2.2.2 (Int.toNat (((k0 : Nat) : Int) - 1))).1).toList a0.1.toList)))))] [10] [] [] (!(Zc s_ a0.1 a0.2)) (fun h3 => ?_) (fun h3 => ?_) ?_
  ·
   have h3n : (Zc s_ a0.1 a0.2) = false := Be h3
   refine rN Qa Yc [0, 3, 4, 5, 47] [3] (pn 4 hx0 (pn 10 hx0 (pc 13 (cb h3n (Bt s_ a0.1 a0.2)) (pe 14 (show .b (!false) = .b true from rfl) p0)))) ?_
   exact ⟨rfl, Qf (by rw [h3] <;> kernel_rfl)⟩
  ·
   have h3n : (Zc s_ a0.1 a0.2) = true := Vd h3
   refine Q9 (decide (((k0 : Nat) : Int) > (0 : Int))) (fun h4 => ?_) (fun h4 => ?_)
   ·
    have h4d := of_decide_eq_true h4
    have hx5 := ng f.2.2.2.2 (Int.toNat (((k0 : Nat) : Int) - 1))
    refine rN Qa Yc [0, 3, 4, 5, 47] [3] (pn 4 hx0 (pn 10 hx0 (pc 13 (cb h3n (Bt s_ a0.1 a0.2)) (pe 14 (show .b (!true) = .b false from rfl) (pt 17 h4 (pe 22 (Jw (IntWalk.i64_in (((k0 : Nat) : Int) - 1) (by omega))) (pg 23 (((k0 : Nat) : Int) - 1) hx5 (pn 29 hx0 p0)))))))) ?_
    exact ⟨rfl, Qf (by rw [h3, h4] <;> kernel_rfl)⟩
   refine rN Qa Yc [0, 3, 4, 5, 47] [3] (pn 4 hx0 (pn 10 hx0 (pc 13 (cb h3n (Bt s_ a0.1 a0.2)) (pe 14 (show .b (!true) = .b false from rfl) (pf 17 h4 p0))))) ?_
   exact ⟨rfl, Qf (by rw [h3, h4] <;> kernel_rfl)⟩
  refine ck ((!(Zc s_ a0.1 a0.2)) || (decide (((k0 : Nat) : Int) > (0 : Int)) && (!(Op.bytesLess ((nth f.2.2.2.2 (Int.toNat (((k0 : Nat) : Int) - 1))).1).toList a0.1.toList)))) (fun h6 => ?_) (fun h6 => ?_)
  ·
   refine su Qa [] [47] [] [] (p0) ?_
   refine Qe ?_
   have hr7 : (Xp (Xx s_ f) Zd f.2.2.2.2 0 ()) = .ret false := Zt hx0 (Q1 h6 (rfl)) hI0
   exact pb [] (Ie hr7)
  refine Qh ?_
  refine rn Qa [0, 3, 4, 5] [3] (pe 1 (Jw (Qy k0 (by omega))) p0) ?_
  exact xw _ (Q0 hx0 (Ql h6 (rfl)) hI0)
 ·
  refine Qc ?_
  refine sn Qa [0, 3, 4, 5, 10] [3] (pl 3 f.2.2.2.2 (pe 4 (Qw (decide_eq_false (p := ((k0 : Nat) : Int) < (f.2.2.2.2.length : Int)) (by omega))) p0)) ?_
  refine ckF ?_
  refine Q2 ?_
  exact xw _ (Xs hk0 (rfl) hI0)
 refine Qc ?_
 refine jn [(4, .b ((Z0 s_) && ((Xg f.1 1 60) && ((Xg f.2.1 0 2) && (Xg f.2.2.2.1 0 60)))))] [0, 3, 4] [] [3] (Z0 s_) (fun h8 => ?_) (fun h8 => ?_) ?_
 ·
  refine Q9 (Xg f.1 1 60) (fun h9 => ?_) (fun h9 => ?_)
  ·
   have h9w := F1.1 h9
   refine Q9 (Xg f.2.1 0 2) (fun h10 => ?_) (fun h10 => ?_)
   ·
    have h10w := F1.1 h10
    refine rn Qa [4] [] (pc 1 (cb h8 (Kj s_)) (pc 5 (cb h9 (Zy f.1 1 60)) (pc 10 (cb h10 (Zy f.2.1 0 2)) (pc 15 (Zy f.2.2.2.1 0 60) p0)))) ?_
    exact ⟨rfl, Qf (by rw [h8, h9, h10] <;> kernel_rfl)⟩
   refine rn Qa [4] [] (pc 1 (cb h8 (Kj s_)) (pc 5 (cb h9 (Zy f.1 1 60)) (pc 10 (cb h10 (Zy f.2.1 0 2)) p0))) ?_
   exact ⟨rfl, Qf (by rw [h8, h9, h10] <;> kernel_rfl)⟩
  refine rn Qa [4] [] (pc 1 (cb h8 (Kj s_)) (pc 5 (cb h9 (Zy f.1 1 60)) p0)) ?_
  exact ⟨rfl, Qf (by rw [h8, h9] <;> kernel_rfl)⟩
 ·
  refine rn Qa [4] [] (pc 1 (cb h8 (Kj s_)) p0) ?_
  exact ⟨rfl, Qf (by rw [h8] <;> kernel_rfl)⟩
 refine Qe ?_
 exact pb [] (Un hD0 (rfl))
def K8 (s_ : Xo) (k0 : Nat) (a0 : X9) (_ : Unit) : Rd (Bool) (Unit) (Unit) := (bif ((!(Xc s_.1 a0)) || (decide (a0.1 ≥ s_.2.2) || (decide (((k0 : Nat) : Int) > (0 : Int)) && decide ((nth s_.2.1 (Int.toNat (((k0 : Nat) : Int) - 1))).1 ≥ a0.1)))) then (.ret false) else (.next ()))
def U6 (_ : Nat) (_ : Unit) : Unit := ()
def Xe (s_ : Xo) : Bool := (Out.on (Xp (K8 s_) U6 s_.2.1 0 ()) (fun _ => ((Z0 s_.1) && (decide ((s_.2.1.length : Int) ≤ (12 : Int)) && (Xg s_.2.2 1 61)))))
theorem Jj (s_ : Xo) : ACalls Tryz.prog 42 [.a [.h s_.1, .h s_.2.1, .i s_.2.2]] (.b (Xe s_)) := by
 refine en Qa Tryz.func42 fun w0 F0 hG => ?_
 refine sn Qa [1, 2] [1] (p0) ?_
 refine Qc ?_
 refine tn Qa [1, 2, 3] [1] (p0) ?_
 refine mz [(1, .p 1 0), (2, .b false), (3, .i 0)] [0] [(1, [.h s_.1, .h s_.2.1, .i s_.2.2])] [] ?_
 refine wB 1 1 .sh s_.2.1 (fun hw1 hl2 => ?_)
 refine Ii (K8 s_) U6 s_.2.1 () (fun k0 _ => [(3, .i ((k0 : Nat) : Int))]) [3] (fun _ => []) [3] wf0 (fun k0 s0 hk0 hI0 => ?_) (fun k0 s0 hk0 hI0 => ?_) (fun y0 hD0 => ?_)
 ·
  obtain ⟨a0, hx0⟩ := Xr (l := s_.2.1) (i := k0) hk0
  refine Qc ?_
  refine sn Qa [1, 2, 3, 8] [1] (pl 3 s_.2.1 (pe 4 (Qw (decide_eq_true (p := ((k0 : Nat) : Int) < (s_.2.1.length : Int)) (by omega))) p0)) ?_
  refine ckT ?_
  refine Qh ?_
  refine Qc ?_
  refine Qt ?_
  refine Qc ?_
  refine mz [(8, .b true)] [] [] [] ?_
  refine jn [(50, .b ((!(Xc s_.1 a0)) || (decide (a0.1 ≥ s_.2.2) || (decide (((k0 : Nat) : Int) > (0 : Int)) && decide ((nth s_.2.1 (Int.toNat (((k0 : Nat) : Int) - 1))).1 ≥ a0.1)))))] [8] [] [] (!(Xc s_.1 a0)) (fun h3 => ?_) (fun h3 => ?_) ?_
  ·
   have h3n : (Xc s_.1 a0) = false := Be h3
   refine rN Qa Yc [1, 2, 3, 50] [1] (pn 5 hx0 (pc 7 (cb h3n (Uv s_.1 a0)) (pe 8 (show .b (!false) = .b true from rfl) p0))) ?_
   exact ⟨rfl, Qf (by rw [h3] <;> kernel_rfl)⟩
  ·
   have h3n : (Xc s_.1 a0) = true := Vd h3
   refine Q9 (decide (a0.1 ≥ s_.2.2)) (fun h4 => ?_) (fun h4 => ?_)
   ·
    refine rN Qa Yc [1, 2, 3, 50] [1] (pn 5 hx0 (pc 7 (cb h3n (Uv s_.1 a0)) (pe 8 (show .b (!true) = .b false from rfl) (pn 13 hx0 (pt 18 h4 p0))))) ?_
    exact ⟨rfl, Qf (by rw [h3, h4] <;> kernel_rfl)⟩
   have h4d := of_decide_eq_false h4
   refine Q9 (decide (((k0 : Nat) : Int) > (0 : Int))) (fun h5 => ?_) (fun h5 => ?_)
   ·
    have h5d := of_decide_eq_true h5
    have hx6 := ng s_.2.1 (Int.toNat (((k0 : Nat) : Int) - 1))
    refine rN Qa Yc [1, 2, 3, 50] [1] (pn 5 hx0 (pc 7 (cb h3n (Uv s_.1 a0)) (pe 8 (show .b (!true) = .b false from rfl) (pn 13 hx0 (pf 18 h4 (pt 22 h5 (pe 27 (Jw (IntWalk.i64_in (((k0 : Nat) : Int) - 1) (by omega))) (pg 28 (((k0 : Nat) : Int) - 1) hx6 (pn 34 hx0 p0))))))))) ?_
    exact ⟨rfl, Qf (by rw [h3, h4, h5] <;> kernel_rfl)⟩
   refine rN Qa Yc [1, 2, 3, 50] [1] (pn 5 hx0 (pc 7 (cb h3n (Uv s_.1 a0)) (pe 8 (show .b (!true) = .b false from rfl) (pn 13 hx0 (pf 18 h4 (pf 22 h5 p0)))))) ?_
   exact ⟨rfl, Qf (by rw [h3, h4, h5] <;> kernel_rfl)⟩
  refine ck ((!(Xc s_.1 a0)) || (decide (a0.1 ≥ s_.2.2) || (decide (((k0 : Nat) : Int) > (0 : Int)) && decide ((nth s_.2.1 (Int.toNat (((k0 : Nat) : Int) - 1))).1 ≥ a0.1)))) (fun h7 => ?_) (fun h7 => ?_)
  ·
   refine su Qa [] [50] [] [] (p0) ?_
   refine Qe ?_
   have hr8 : (Xp (K8 s_) U6 s_.2.1 0 ()) = .ret false := Zt hx0 (Q1 h7 (rfl)) hI0
   exact pb [] (Ie hr8)
  have h7r : ((decide (a0.1 ≥ s_.2.2) || (decide (((k0 : Nat) : Int) > (0 : Int)) && decide ((nth s_.2.1 (Int.toNat (((k0 : Nat) : Int) - 1))).1 ≥ a0.1)))) = false := UH h7
  have h7rl : (decide (a0.1 ≥ s_.2.2)) = false := DD h7r
  have h7rld := of_decide_eq_false h7rl
  refine Qh ?_
  refine rn Qa [1, 2, 3] [1] (pe 1 (Jw (Qy k0 (by omega))) p0) ?_
  exact xw _ (Q0 hx0 (Ql h7 (rfl)) hI0)
 ·
  refine Qc ?_
  refine sn Qa [1, 2, 3, 8] [1] (pl 3 s_.2.1 (pe 4 (Qw (decide_eq_false (p := ((k0 : Nat) : Int) < (s_.2.1.length : Int)) (by omega))) p0)) ?_
  refine ckF ?_
  refine Q2 ?_
  exact xw _ (Xs hk0 (rfl) hI0)
 refine Qc ?_
 refine jn [(2, .b ((Z0 s_.1) && (decide ((s_.2.1.length : Int) ≤ (12 : Int)) && (Xg s_.2.2 1 61))))] [1, 2] [] [1] (Z0 s_.1) (fun h9 => ?_) (fun h9 => ?_) ?_
 ·
  refine Q9 (decide ((s_.2.1.length : Int) ≤ (12 : Int))) (fun h10 => ?_) (fun h10 => ?_)
  ·
   refine rn Qa [2] [] (pc 2 (cb h9 (Kj s_.1)) (pl 6 s_.2.1 (pt 7 h10 (pc 12 (Zy s_.2.2 1 61) p0)))) ?_
   exact ⟨rfl, Qf (by rw [h9, h10] <;> kernel_rfl)⟩
  refine rn Qa [2] [] (pc 2 (cb h9 (Kj s_.1)) (pl 6 s_.2.1 (pf 7 h10 p0))) ?_
  exact ⟨rfl, Qf (by rw [h9, h10] <;> kernel_rfl)⟩
 ·
  refine rn Qa [2] [] (pc 2 (cb h9 (Kj s_.1)) p0) ?_
  exact ⟨rfl, Qf (by rw [h9] <;> kernel_rfl)⟩
 refine Qe ?_
 exact pb [] (Un hD0 (rfl))
theorem kind_eq (s : List Ze) (n : ByteArray) : Cd s n = Cc s n := rfl
theorem QC (s : List Ze) (n : ByteArray) (v : Jc) : Zc s n v = Zz s n v := by
  unfold Zc Zz
  rw [FN, kind_eq]
theorem KY (s : List Ze) : Z0 s = Jz s := by
  unfold Z0 Jz
  rw [D5 (f := V9 s) (g := V8 s) (e := Ur) (e' := Uq) (fun k a u => by
    unfold V9 V8
    rw [AA]
    have h : (!(Xg a.2 1 2)) = ((a.2 != 1) && (a.2 != 2)) := by
      unfold Xg
      rw [Bool.eq_iff_iff]; simp; omega
    rw [h]
    generalize (!(Op.bytesLess ((nth s (Int.toNat (((k : Nat) : Int) - 1))).1).toList a.1.toList)) = x
    cases Xl a.1 <;> cases (a.2 != (1 : Int)) <;> cases (a.2 != (2 : Int)) <;> cases decide (((k : Nat) : Int) > (0 : Int)) <;> cases x <;> rfl) (fun _ _ => rfl)]
theorem file_eq (s : List Ze) (f : X9) : Xc s f = Kv s f := by
  unfold Xc Kv
  rw [D5 (f := Xx s f) (g := Ud s f) (e := Zd) (e' := Hy) (fun k a u => by
    unfold Xx Ud
    rw [QC]
    generalize (!(Op.bytesLess ((nth f.2.2.2.2 (Int.toNat (((k : Nat) : Int) - 1))).1).toList a.1.toList)) = x
    cases Zz s a.1 a.2 <;> cases decide (((k : Nat) : Int) > (0 : Int)) <;> cases x <;> rfl) (fun _ _ => rfl), KY]
  congr 1
  funext y
  unfold Ee
  simp only [← KK]
  cases Jz s <;> cases Xw f.1 1 60 <;> cases Xw f.2.1 0 2 <;> cases Xw f.2.2.2.1 0 60 <;> rfl
theorem R7 (s : Xo) : Xe s = Y4 s := by
  unfold Xe Y4
  rw [D5 (f := K8 s) (g := Wv s) (e := U6) (e' := U5) (fun k a u => by
    unfold K8 Wv
    rw [file_eq]) (fun _ _ => rfl), KY]
  rfl
open GoE (enc wide)
def Fk (name : ByteArray) (_ : Nat) (a0 : Wp) (_ : Unit) : Rd (Jc) (Unit) (Unit) := (bif (a0.1.toList == name.toList) then (.ret a0.2) else (.next ()))
def Fl (_ : Nat) (_ : Unit) : Unit := ()
def Z1 (f : X9) (name : ByteArray) : Jc := (Out.on (Xp (Fk name) Fl f.2.2.2.2 0 ()) (fun _ => (0, 0, ⟨#[]⟩)))
theorem Gt (f : X9) (name : ByteArray) : ACalls Tryz.prog 126 [.a [.i f.1, .i f.2.1, .b f.2.2.1, .i f.2.2.2.1, .h f.2.2.2.2], .s name] (.a [.i ((Z1 f name).1), .i ((Z1 f name).2.1), .s ((Z1 f name).2.2)]) := by
 refine en Qa Tryz.func126 fun w0 F0 hG => ?_
 refine sn Qa [1, 2, 4] [2, 4] (p0) ?_
 refine Qc ?_
 refine tn Qa [1, 4, 8, 9, 10] [4] (pl 2 f.2.2.2.2 p0) ?_
 refine mz [(4, .p 4 0), (8, .h f.2.2.2.2), (9, .i (f.2.2.2.2.length : Int)), (10, .i 0)] [0] [(4, [.i 0, .i 0, .s ⟨#[]⟩])] [] ?_
 refine wT 8 0 .sh f.2.2.2.2 (fun hw1 hl2 => ?_)
 refine Ii (Fk name) Fl f.2.2.2.2 () (fun k0 _ => [(10, .i ((k0 : Nat) : Int))]) [10] (fun _ => []) [1, 8, 9, 10] wf0 (fun k0 s0 hk0 hI0 => ?_) (fun k0 s0 hk0 hI0 => ?_) (fun y0 hD0 => ?_)
 ·
  obtain ⟨a0, hx0⟩ := Xr (l := f.2.2.2.2) (i := k0) hk0
  refine su Qa [(11, .b true)] [] [] [] (pe 0 (Qw (decide_eq_true (p := ((k0 : Nat) : Int) < (f.2.2.2.2.length : Int)) (by omega))) p0) ?_
  refine Qc ?_
  refine ckT ?_
  refine Qh ?_
  refine Qc ?_
  refine Qt ?_
  refine sn Qa [1, 4, 6, 8, 9, 10] [4, 6] (pn 0 hx0 p0) ?_
  refine tn Qa [1, 4, 6, 8, 9, 10, 17] [4, 6] (p0) ?_
  refine ck (a0.1.toList == name.toList) (fun h3 => ?_) (fun h3 => ?_)
  ·
   refine tu Qa [] [11] [(4, [.i a0.2.1, .i a0.2.2.1, .s a0.2.2.2])] [4] (p0) ?_
   refine Qe ?_
   have hr4 : (Xp (Fk name) Fl f.2.2.2.2 0 ()) = .ret a0.2 := Zt hx0 (Q1 h3 (rfl)) hI0
   exact pz [] (show Z1 f name = _ from Ie hr4) (fun z => .a [.i z.1, .i z.2.1, .s z.2.2])
  refine Qh ?_
  refine qu Qa [(10, .i ((k0 + 1 : Nat) : Int))] [10, 11] [] [] (pe 0 (Jw (Qy k0 (by omega))) p0) ?_
  exact xw _ (Q0 hx0 (Ql h3 (rfl)) hI0)
 ·
  refine sn Qa [1, 4, 8, 9, 10, 11] [4] (pe 0 (Qw (decide_eq_false (p := ((k0 : Nat) : Int) < (f.2.2.2.2.length : Int)) (by omega))) p0) ?_
  refine Qc ?_
  refine ckF ?_
  refine Q2 ?_
  exact xw _ (Xs hk0 (rfl) hI0)
 refine sn Qa [4] [4] (p0) ?_
 refine Qe ?_
 exact pz [] (show Z1 f name = _ from Un hD0 (rfl)) (fun z => .a [.i z.1, .i z.2.1, .s z.2.2])
def Vy (f : X9) (name : ByteArray) : Int × Bool := (bif ((Z1 f name).1 != (1 : Int)) then (0, false) else ((Z1 f name).2.1, true))
theorem ZQ (f : X9) (name : ByteArray) : ACalls Tryz.prog 127 [.a [.i f.1, .i f.2.1, .b f.2.2.1, .i f.2.2.2.1, .h f.2.2.2.2], .s name] (.tup [(false, [.i (((Vy f name)).1)]), (false, [.b (((Vy f name)).2)])]) := by
 refine en Qa Tryz.func127 fun w0 F0 hG => ?_
 refine sn Qa [1, 2, 4, 5] [2] (p0) ?_
 refine tn Qa [4, 5, 6] [6] (pc 2 (Gt f name) p0) ?_
 refine Qc ?_
 refine tu Qa [(4, .i 0), (5, .b false), (6, .p 6 0), (12, .b ((Z1 f name).1 != (1 : Int)))] [0, 1] [(6, [.i ((Z1 f name).1), .i ((Z1 f name).2.1), .s ((Z1 f name).2.2)])] [] (p0) ?_
 refine ck ((Z1 f name).1 != (1 : Int)) (fun h1 => ?_) (fun h1 => ?_)
 ·
  refine su Qa [] [12] [] [] (p0) ?_
  refine Qe ?_
  exact pz [] (show Vy f name = _ from Q1 h1 (rfl)) (fun z => .tup [(false, [.i z.1]), (false, [.b z.2])])
 refine Qh ?_
 refine sn Qa [4, 5] [] (p0) ?_
 refine Qe ?_
 exact pz [] (show Vy f name = _ from Ql h1 (rfl)) (fun z => .tup [(false, [.i z.1]), (false, [.b z.2])])
def W3 (name : ByteArray) (_ : Nat) (a0 : Qp) (_ : Unit) : Rd ((List Int)) (Unit) (Unit) := (bif (a0.1.toList == name.toList) then (.ret a0.2) else (.next ()))
def He (_ : Nat) (_ : Unit) : Unit := ()
def X5 (r : (List Qp)) (name : ByteArray) : (List Int) := (Out.on (Xp (W3 name) He r 0 ()) (fun _ => []))
theorem Es (r : (List Qp)) (name : ByteArray) : ACalls Tryz.prog 29 [.h r, .s name] (.o 0 (X5 r name)) := by
 refine en Qa Tryz.func29 fun w0 F0 hG => ?_
 refine sn Qa [0, 1, 4] [] (p0) ?_
 refine Qc ?_
 refine tn Qa [1, 4, 7, 8, 9] [] (pl 1 r p0) ?_
 refine mz [(4, .e 0), (7, .h r), (8, .i (r.length : Int)), (9, .i 0)] [0] [] [] ?_
 refine wT 7 0 .sh r (fun hw1 hl2 => ?_)
 refine Ii (W3 name) He r () (fun k0 _ => [(9, .i ((k0 : Nat) : Int))]) [9] (fun _ => []) [1, 7, 8, 9] wf0 (fun k0 s0 hk0 hI0 => ?_) (fun k0 s0 hk0 hI0 => ?_) (fun y0 hD0 => ?_)
 ·
  obtain ⟨a0, hx0⟩ := Xr (l := r) (i := k0) hk0
  refine sn Qa [1, 4, 7, 8, 9, 10] [] (pe 0 (Qw (decide_eq_true (p := ((k0 : Nat) : Int) < (r.length : Int)) (by omega))) p0) ?_
  refine Qc ?_
  refine ckT ?_
  refine Qh ?_
  refine Qc ?_
  refine Qt ?_
  refine tn Qa [1, 4, 6, 7, 8, 9] [6] (pn 0 hx0 p0) ?_
  refine tu Qa [(6, .p 6 0), (16, .b (a0.1.toList == name.toList))] [] [(6, [.s a0.1, .h a0.2])] [] (p0) ?_
  refine ck (a0.1.toList == name.toList) (fun h3 => ?_) (fun h3 => ?_)
  ·
   refine sn Qa [1, 4, 7, 8, 9] [] (pc 2 (XP a0.2) p0) ?_
   refine Qe ?_
   have hr4 : (Xp (W3 name) He r 0 ()) = .ret a0.2 := Zt hx0 (Q1 h3 (rfl)) hI0
   exact po0 [] (Ie hr4)
  refine Qh ?_
  refine rn Qa [1, 4, 7, 8, 9] [] (pe 0 (Jw (Qy k0 (by omega))) p0) ?_
  exact xw _ (Q0 hx0 (Ql h3 (rfl)) hI0)
 ·
  refine sn Qa [1, 4, 7, 8, 9, 10] [] (pe 0 (Qw (decide_eq_false (p := ((k0 : Nat) : Int) < (r.length : Int)) (by omega))) p0) ?_
  refine Qc ?_
  refine ckF ?_
  refine Q2 ?_
  exact xw _ (Xs hk0 (rfl) hI0)
 refine sn Qa [4] [] (p0) ?_
 refine opn [(false, 4, 0, true, 384000, 1)] ?_
 refine Qe ?_
 exact po0 [] (Un hD0 (rfl))
def Jk (v : Int) (k0 : Nat) (a0 : Int) (_ : Unit) : Rd (Int) (Unit) (Unit) := (bif (v == a0) then (.ret ((k0 : Nat) : Int)) else (.next ()))
def Vt (_ : Nat) (_ : Unit) : Unit := ()
def Ab (s_ : (List Int)) (v : Int) : Int := (Out.on (Xp (Jk v) Vt s_ 0 ()) (fun _ => -1))
theorem P0 (s_ : (List Int)) (v : Int) : ACalls Tryz.prog 164 [.h s_, .i v] (.i (Ab s_ v)) := by
 refine en Qa Tryz.func164 fun w0 F0 hG => ?_
 refine sn Qa [0, 1, 4] [] (p0) ?_
 refine Qc ?_
 refine tn Qa [0, 1, 4, 7, 8] [] (pl 1 s_ p0) ?_
 refine mz [(4, .i 0), (7, .i (s_.length : Int)), (8, .i 0)] [] [] [] ?_
 refine wT 0 0 .sh s_ (fun hw1 hl2 => ?_)
 refine Ii (Jk v) Vt s_ () (fun k0 _ => [(8, .i ((k0 : Nat) : Int))]) [8] (fun _ => []) [0, 1, 7, 8] wf0 (fun k0 s0 hk0 hI0 => ?_) (fun k0 s0 hk0 hI0 => ?_) (fun y0 hD0 => ?_)
 ·
  obtain ⟨a0, hx0⟩ := Xr (l := s_) (i := k0) hk0
  refine sn Qa [0, 1, 4, 7, 8, 9] [] (pe 0 (Qw (decide_eq_true (p := ((k0 : Nat) : Int) < (s_.length : Int)) (by omega))) p0) ?_
  refine Qc ?_
  refine ckT ?_
  refine Qh ?_
  refine Qc ?_
  refine Qt ?_
  refine tn Qa [0, 1, 4, 5, 7, 8] [] (p0) ?_
  refine tu Qa [(5, .i ((k0 : Nat) : Int)), (16, .b (v == a0))] [] [] [] (pn 3 hx0 p0) ?_
  refine ck (v == a0) (fun h3 => ?_) (fun h3 => ?_)
  ·
   refine sn Qa [0, 1, 4, 7, 8] [] (p0) ?_
   refine Qe ?_
   have hr4 : (Xp (Jk v) Vt s_ 0 ()) = .ret ((k0 : Nat) : Int) := Zt hx0 (Q1 h3 (rfl)) hI0
   exact pi [] (Ie hr4)
  have h3d := Ym h3
  refine Qh ?_
  refine rn Qa [0, 1, 4, 7, 8] [] (pe 0 (Jw (Qy k0 (by omega))) p0) ?_
  exact xw _ (Q0 hx0 (Ql h3 (rfl)) hI0)
 ·
  refine sn Qa [0, 1, 4, 7, 8, 9] [] (pe 0 (Qw (decide_eq_false (p := ((k0 : Nat) : Int) < (s_.length : Int)) (by omega))) p0) ?_
  refine Qc ?_
  refine ckF ?_
  refine Q2 ?_
  exact xw _ (Xs hk0 (rfl) hI0)
 refine sn Qa [4] [] (p0) ?_
 refine Qe ?_
 exact pi [] (Un hD0 (rfl))
def Vu (s_ : (List Int)) (v : Int) : Bool := decide ((Ab s_ v) ≥ (0 : Int))
theorem Lw (s_ : (List Int)) (v : Int) : ACalls Tryz.prog 154 [.h s_, .i v] (.b (Vu s_ v)) := by
 refine en Qa Tryz.func154 fun w0 F0 hG => ?_
 refine sn Qa [0, 1, 4] [] (p0) ?_
 refine tn Qa [4] [] (pc 2 (P0 s_ v) p0) ?_
 refine Qe ?_
 exact pb [] (show Vu s_ v = decide ((Ab s_ v) ≥ (0 : Int)) from rfl)
def Vi (ids : (List Int)) (id : Int) : Bool := (Vu ids id)
theorem G5 (ids : (List Int)) (id : Int) : ACalls Tryz.prog 128 [.h ids, .i id] (.b (Vi ids id)) := by
 refine en Qa Tryz.func128 fun w0 F0 hG => ?_
 refine sn Qa [0, 1, 4] [] (p0) ?_
 refine tn Qa [4] [] (pc 2 (Lw ids id) p0) ?_
 refine Qe ?_
 exact pb [] (show Vi ids id = (Vu ids id) from rfl)
def Xq (n_ : Nat) (q : (List X7)) (at_ : Int) (f : X9) (r : (List Qp)) : Bool := match n_ with
 | 0 => default
 | n_ + 1 => (bif ((nth q (Int.toNat at_)).1 == (2 : Int)) then ((Z1 f ((nth q (Int.toNat at_)).2.2.2.1)).1 != (0 : Int)) else (bif ((nth q (Int.toNat at_)).1 == (3 : Int)) then (((Z1 f ((nth q (Int.toNat at_)).2.2.2.1)).1 == (nth q (Int.toNat at_)).2.2.2.2.1) && (((Z1 f ((nth q (Int.toNat at_)).2.2.2.1)).2.1 == (nth q (Int.toNat at_)).2.2.2.2.2.1) && ((((Z1 f ((nth q (Int.toNat at_)).2.2.2.1)).2.2).toList == ((nth q (Int.toNat at_)).2.2.2.2.2.2).toList) && true))) else (bif ((nth q (Int.toNat at_)).1 == (4 : Int)) then (((Vy f ((nth q (Int.toNat at_)).2.2.2.1))).2 && decide (((Vy f ((nth q (Int.toNat at_)).2.2.2.1))).1 < (nth q (Int.toNat at_)).2.2.2.2.2.1)) else (bif ((nth q (Int.toNat at_)).1 == (5 : Int)) then (!(Xq n_ q ((nth q (Int.toNat at_)).2.1) f r)) else (bif ((nth q (Int.toNat at_)).1 == (6 : Int)) then ((Xq n_ q ((nth q (Int.toNat at_)).2.1) f r) && (Xq n_ q ((nth q (Int.toNat at_)).2.2.1) f r)) else (bif ((nth q (Int.toNat at_)).1 == (7 : Int)) then ((Xq n_ q ((nth q (Int.toNat at_)).2.1) f r) || (Xq n_ q ((nth q (Int.toNat at_)).2.2.1) f r)) else (bif ((nth q (Int.toNat at_)).1 == (8 : Int)) then (Vi (X5 r ((nth q (Int.toNat at_)).2.2.2.1)) f.1) else (bif ((nth q (Int.toNat at_)).1 == (9 : Int)) then ((f.2.2.2.1 != (0 : Int)) && (Vi (X5 r ((nth q (Int.toNat at_)).2.2.2.1)) f.2.2.2.1)) else true))))))))
theorem Ts : ∀ (n_ : Nat) (q : (List X7)) (at_ : Int) (f : X9) (r : (List Qp)) (hv : Qv q = true) (ha : 0 ≤ at_) (hb : at_ < (q.length : Int)) (hn : at_ < ((n_ : Nat) : Int)), ACalls Tryz.prog 86 [.h q, .i at_, .a [.i f.1, .i f.2.1, .b f.2.2.1, .i f.2.2.2.1, .h f.2.2.2.2], .h r] (.b (Xq n_ q at_ f r)) := by
 intro n_
 induction n_ with
 | zero => intro q at_ f r hv ha hb hn; exact (by omega : False).elim
 | succ n_ ih =>
  intro q at_ f r hv ha hb hn
  refine en Qa Tryz.func86 fun w0 F0 hG => ?_
  refine sn Qa [0, 1, 3, 6, 8] [6] (p0) ?_
  refine wT 0 0 .sh q (fun hw2 hl3 => ?_)
  have hx1 := ng q (Int.toNat at_)
  refine tn Qa [0, 3, 6, 8, 9] [6, 9] (pg 2 at_ hx1 p0) ?_
  refine Qc ?_
  refine tu Qa [(6, .p 6 0), (8, .b false), (9, .p 9 0), (17, .i ((nth q (Int.toNat at_)).1))] [1, 2] [(6, [.i f.1, .i f.2.1, .b f.2.2.1, .i f.2.2.2.1, .h f.2.2.2.2]), (9, [.i ((nth q (Int.toNat at_)).1), .i ((nth q (Int.toNat at_)).2.1), .i ((nth q (Int.toNat at_)).2.2.1), .s ((nth q (Int.toNat at_)).2.2.2.1), .i ((nth q (Int.toNat at_)).2.2.2.2.1), .i ((nth q (Int.toNat at_)).2.2.2.2.2.1), .s ((nth q (Int.toNat at_)).2.2.2.2.2.2)])] [] (p0) ?_
  refine Qt ?_
  refine sn Qa [0, 3, 6, 8, 9, 17, 18] [6, 9] (p0) ?_
  refine ck ((nth q (Int.toNat at_)).1 == (2 : Int)) (fun h4 => ?_) (fun h4 => ?_)
  ·
   refine tn Qa [8] [] (pc 3 (Gt f ((nth q (Int.toNat at_)).2.2.2.1)) p0) ?_
   refine Qe ?_
   exact pb [] (Q1 h4 (rfl))
  have h4d := Ym h4
  refine tn Qa [0, 3, 6, 8, 9, 17, 26] [6, 9] (p0) ?_
  refine ck ((nth q (Int.toNat at_)).1 == (3 : Int)) (fun h5 => ?_) (fun h5 => ?_)
  ·
   refine tU Qa Yc [(8, .b (((Z1 f ((nth q (Int.toNat at_)).2.2.2.1)).1 == (nth q (Int.toNat at_)).2.2.2.2.1) && (((Z1 f ((nth q (Int.toNat at_)).2.2.2.1)).2.1 == (nth q (Int.toNat at_)).2.2.2.2.2.1) && ((((Z1 f ((nth q (Int.toNat at_)).2.2.2.1)).2.2).toList == ((nth q (Int.toNat at_)).2.2.2.2.2.2).toList) && true))))] [0, 3, 6, 8, 9, 17] [] [6, 9] (pc 3 (Gt f ((nth q (Int.toNat at_)).2.2.2.1)) p0) ?_
   refine Qe ?_
   exact pb [] (Ql h4 (Q1 h5 (rfl)))
  have h5d := Ym h5
  refine tu Qa [(35, .b ((nth q (Int.toNat at_)).1 == (4 : Int)))] [] [] [] (p0) ?_
  refine ck ((nth q (Int.toNat at_)).1 == (4 : Int)) (fun h6 => ?_) (fun h6 => ?_)
  ·
   refine sn Qa [8, 9, 10, 11] [9] (pc 3 (ZQ f ((nth q (Int.toNat at_)).2.2.2.1)) p0) ?_
   refine Qc ?_
   refine mz [(10, .i (((Vy f ((nth q (Int.toNat at_)).2.2.2.1))).1)), (11, .b (((Vy f ((nth q (Int.toNat at_)).2.2.2.1))).2))] [0, 3, 6, 17, 35] [] [6] ?_
   refine jn [(8, .b (((Vy f ((nth q (Int.toNat at_)).2.2.2.1))).2 && decide (((Vy f ((nth q (Int.toNat at_)).2.2.2.1))).1 < (nth q (Int.toNat at_)).2.2.2.2.2.1)))] [8, 9, 10, 11] [] [9] (((Vy f ((nth q (Int.toNat at_)).2.2.2.1))).2) (fun h7 => ?_) (fun h7 => ?_) ?_
   ·
    refine rn Qa [8] [] (pt 0 h7 p0) ?_
    exact ⟨rfl, Qf (by rw [h7] <;> kernel_rfl)⟩
   ·
    refine rn Qa [8] [] (pf 0 h7 p0) ?_
    exact ⟨rfl, Qf (by rw [h7] <;> kernel_rfl)⟩
   refine Qe ?_
   exact pb [] (Ql h4 (Ql h5 (Q1 h6 (rfl))))
  have h6d := Ym h6
  refine sn Qa [0, 3, 6, 8, 9, 17, 52] [6, 9] (p0) ?_
  refine ck ((nth q (Int.toNat at_)).1 == (5 : Int)) (fun h8 => ?_) (fun h8 => ?_)
  ·
   have h8d := eq_of_beq h8
   refine tn Qa [8] [] (pc 5 (ih q ((nth q (Int.toNat at_)).2.1) f r hv (by have hz := ql_a hv ha hb h8; omega) (by have hz := ql_a hv ha hb h8; omega) (by have hz := ql_a hv ha hb h8; omega)) p0) ?_
   refine Qe ?_
   exact pb [] (Ql h4 (Ql h5 (Ql h6 (Q1 h8 (rfl)))))
  have h8d := Ym h8
  refine tn Qa [0, 3, 6, 8, 9, 17, 61] [6, 9] (p0) ?_
  refine ck ((nth q (Int.toNat at_)).1 == (6 : Int)) (fun h9 => ?_) (fun h9 => ?_)
  ·
   have h9d := eq_of_beq h9
   refine Qc ?_
   refine mz [(61, .b ((nth q (Int.toNat at_)).1 == (6 : Int)))] [35] [] [] ?_
   refine jn [(8, .b ((Xq n_ q ((nth q (Int.toNat at_)).2.1) f r) && (Xq n_ q ((nth q (Int.toNat at_)).2.2.1) f r)))] [0, 3, 6, 8, 9, 17, 61] [] [6, 9] (Xq n_ q ((nth q (Int.toNat at_)).2.1) f r) (fun h10 => ?_) (fun h10 => ?_) ?_
   ·
    refine rn Qa [8] [] (pc 5 (cb h10 (ih q ((nth q (Int.toNat at_)).2.1) f r hv (by have hz := AB hv ha hb h9; omega) (by have hz := AB hv ha hb h9; omega) (by have hz := AB hv ha hb h9; omega))) (pc 12 (ih q ((nth q (Int.toNat at_)).2.2.1) f r hv (by have hz := qr_b hv ha hb h9; omega) (by have hz := qr_b hv ha hb h9; omega) (by have hz := qr_b hv ha hb h9; omega)) p0)) ?_
    exact ⟨rfl, Qf (by rw [h10] <;> kernel_rfl)⟩
   ·
    refine rn Qa [8] [] (pc 5 (cb h10 (ih q ((nth q (Int.toNat at_)).2.1) f r hv (by have hz := AB hv ha hb h9; omega) (by have hz := AB hv ha hb h9; omega) (by have hz := AB hv ha hb h9; omega))) p0) ?_
    exact ⟨rfl, Qf (by rw [h10] <;> kernel_rfl)⟩
   refine Qe ?_
   exact pb [] (Ql h4 (Ql h5 (Ql h6 (Ql h8 (Q1 h9 (rfl))))))
  have h9d := Ym h9
  refine tu Qa [(77, .b ((nth q (Int.toNat at_)).1 == (7 : Int)))] [35] [] [] (p0) ?_
  refine ck ((nth q (Int.toNat at_)).1 == (7 : Int)) (fun h11 => ?_) (fun h11 => ?_)
  ·
   have h11d := eq_of_beq h11
   refine Qc ?_
   refine jn [(8, .b ((Xq n_ q ((nth q (Int.toNat at_)).2.1) f r) || (Xq n_ q ((nth q (Int.toNat at_)).2.2.1) f r)))] [0, 3, 6, 8, 9, 17, 77] [] [6, 9] (Xq n_ q ((nth q (Int.toNat at_)).2.1) f r) (fun h12 => ?_) (fun h12 => ?_) ?_
   ·
    refine rn Qa [8] [] (pc 5 (cb h12 (ih q ((nth q (Int.toNat at_)).2.1) f r hv (by have hz := CG hv ha hb h11; omega) (by have hz := CG hv ha hb h11; omega) (by have hz := CG hv ha hb h11; omega))) p0) ?_
    exact ⟨rfl, Qf (by rw [h12] <;> kernel_rfl)⟩
   ·
    refine rn Qa [8] [] (pc 5 (cb h12 (ih q ((nth q (Int.toNat at_)).2.1) f r hv (by have hz := CG hv ha hb h11; omega) (by have hz := CG hv ha hb h11; omega) (by have hz := CG hv ha hb h11; omega))) (pc 12 (ih q ((nth q (Int.toNat at_)).2.2.1) f r hv (by have hz := qr_c hv ha hb h11; omega) (by have hz := qr_c hv ha hb h11; omega) (by have hz := qr_c hv ha hb h11; omega)) p0)) ?_
    exact ⟨rfl, Qf (by rw [h12] <;> kernel_rfl)⟩
   refine Qe ?_
   exact pb [] (Ql h4 (Ql h5 (Ql h6 (Ql h8 (Ql h9 (Q1 h11 (rfl)))))))
  refine sn Qa [3, 6, 8, 9, 17, 93] [6, 9] (p0) ?_
  refine ck ((nth q (Int.toNat at_)).1 == (8 : Int)) (fun h13 => ?_) (fun h13 => ?_)
  ·
   refine tN Qa Yc [8] [] (pc 3 (Es r ((nth q (Int.toNat at_)).2.2.2.1)) (pc 6 (G5 (X5 r ((nth q (Int.toNat at_)).2.2.2.1)) f.1) p0)) ?_
   refine Qe ?_
   exact pb [] (Ql h4 (Ql h5 (Ql h6 (Ql h8 (Ql h9 (Ql h11 (Q1 h13 (rfl))))))))
  refine tn Qa [3, 6, 8, 9, 102] [6, 9] (p0) ?_
  refine ck ((nth q (Int.toNat at_)).1 == (9 : Int)) (fun h14 => ?_) (fun h14 => ?_)
  ·
   refine Qc ?_
   refine mz [(102, .b ((nth q (Int.toNat at_)).1 == (9 : Int)))] [0, 17, 77] [] [] ?_
   refine jn [(8, .b ((f.2.2.2.1 != (0 : Int)) && (Vi (X5 r ((nth q (Int.toNat at_)).2.2.2.1)) f.2.2.2.1)))] [3, 6, 8, 9, 102] [] [6, 9] (f.2.2.2.1 != (0 : Int)) (fun h15 => ?_) (fun h15 => ?_) ?_
   ·
    refine rN Qa Yc [8] [] (pt 2 h15 (pc 7 (Es r ((nth q (Int.toNat at_)).2.2.2.1)) (pc 10 (G5 (X5 r ((nth q (Int.toNat at_)).2.2.2.1)) f.2.2.2.1) p0))) ?_
    exact ⟨rfl, Qf (by rw [h15] <;> kernel_rfl)⟩
   ·
    refine rN Qa Yc [8] [] (pf 2 h15 p0) ?_
    exact ⟨rfl, Qf (by rw [h15] <;> kernel_rfl)⟩
   refine Qe ?_
   exact pb [] (Ql h4 (Ql h5 (Ql h6 (Ql h8 (Ql h9 (Ql h11 (Ql h13 (Q1 h14 (rfl)))))))))
  refine Qh ?_
  refine tu Qa [(8, .b true)] [0, 3, 6, 8, 9, 17, 77] [] [6, 9] (p0) ?_
  refine Qe ?_
  exact pb [] (Ql h4 (Ql h5 (Ql h6 (Ql h8 (Ql h9 (Ql h11 (Ql h13 (Ql h14 (rfl)))))))))
def Kk (q : (List X7)) (f : X9) (r : (List Qp)) : Bool := ((Qv q) && (Xq (List.length q) q ((q.length : Int) - 1) f r))
theorem ZR (q : (List X7)) (f : X9) (r : (List Qp)) : ACalls Tryz.prog 54 [.h q, .a [.i f.1, .i f.2.1, .b f.2.2.1, .i f.2.2.2.1, .h f.2.2.2.2], .h r] (.b (Kk q f r)) := by
 refine en Qa Tryz.func54 fun w0 F0 hG => ?_
 refine sn Qa [0, 2, 4, 6] [4] (p0) ?_
 refine Qc ?_
 refine mz [(4, .p 4 0), (6, .b false)] [1] [(4, [.i f.1, .i f.2.1, .b f.2.2.1, .i f.2.2.2.1, .h f.2.2.2.2])] [] ?_
 refine jn [(6, .b ((Qv q) && (Xq (List.length q) q ((q.length : Int) - 1) f r)))] [0, 2, 4, 6] [] [4] (Qv q) (fun h1 => ?_) (fun h1 => ?_) ?_
 ·
  refine wT 0 0 .sh q (fun hw2 hl3 => ?_)
  refine rn Qa [6] [] (pc 1 (cb h1 (W9 q)) (pl 5 q (pe 6 (Jw (IntWalk.i64_in ((q.length : Int) - 1) (by omega))) (pc 9 (Ts (List.length q) q ((q.length : Int) - 1) f r h1 (by have := Rf h1; omega) (by omega) (by omega)) p0)))) ?_
  exact ⟨rfl, Qf (by rw [h1] <;> kernel_rfl)⟩
 ·
  refine rn Qa [6] [] (pc 1 (cb h1 (W9 q)) p0) ?_
  exact ⟨rfl, Qf (by rw [h1] <;> kernel_rfl)⟩
 refine Qe ?_
 exact pb [] (show Kk q f r = ((Qv q) && (Xq (List.length q) q ((q.length : Int) - 1) f r)) from rfl)
def Ue (q : (List X7)) (r : (List Qp)) (_ : Nat) (a0 : X9) (s0 : (List Int)) : Rd ((List Int)) ((List Int)) ((List Int)) := (bif (Kk q a0 r) then (.next (s0 ++ [a0.1])) else (.next s0))
def Ce (_ : Nat) (s0 : (List Int)) : (List Int) := s0
def Yp (s_ : Xo) (q : (List X7)) (r : (List Qp)) : (List Int) := (Out.on (Xp (Ue q r) Ce s_.2.1 0 []) (fun y0 => y0))
theorem P1 (s_ : Xo) (q : (List X7)) (r : (List Qp)) : ACalls Tryz.prog 30 [.a [.h s_.1, .h s_.2.1, .i s_.2.2], .h q, .h r] (.o 0 (Yp s_ q r)) := by
 refine en Qa Tryz.func30 fun w0 F0 hG => ?_
 refine sn Qa [1, 2, 3, 6] [3] (p0) ?_
 refine tn Qa [1, 2, 3, 6, 7] [3] (p0) ?_
 refine Qc ?_
 refine tu Qa [(6, .e 0), (7, .one (.slc (.own true 640) 1 [])), (12, .h s_.2.1), (13, .i (s_.2.1.length : Int)), (14, .i 0)] [0] [] [] (pl 2 s_.2.1 p0) ?_
 refine wT 12 0 .sh s_.2.1 (fun hw1 hl2 => ?_)
 refine blL1 (Ue q r) Ce s_.2.1 [] (fun k0 s0 => [(7, .o 147203 s0), (14, .i ((k0 : Nat) : Int))]) [7, 14] (fun y0 => [(7, .o 147353 y0)]) [1, 2, 7, 12, 13, 14] (fun k0 s0 => List.length s0 ≤ k0) (X3 [(640, 147203)] (by kernel_rfl)) (by simp) (fun k0 s0 hk0 hI0 => ?_) (fun k0 s0 hk0 hI0 => ?_) (fun y0 hD0 => ?_)
 ·
  have hA0_0 := hI0.2
  obtain ⟨a0, hx0⟩ := Xr (l := s_.2.1) (i := k0) hk0
  refine su Qa [(15, .b true)] [] [] [] (pe 0 (Qw (decide_eq_true (p := ((k0 : Nat) : Int) < (s_.2.1.length : Int)) (by omega))) p0) ?_
  refine Qc ?_
  refine ckT ?_
  refine Qh ?_
  refine Qc ?_
  refine Qt ?_
  refine sn Qa [1, 2, 6, 7, 9, 12, 13, 14] [9] (pn 0 hx0 p0) ?_
  refine tn Qa [1, 2, 6, 7, 9, 12, 13, 14, 21] [9] (pc 3 (ZR q a0 r) p0) ?_
  refine ck (Kk q a0 r) (fun h3 => ?_) (fun h3 => ?_)
  ·
   refine wT 7 0 (.own true 147203) s0 (fun hw4 hl5 => ?_)
   refine qu Qa [(7, .one (.slc (.own true 1664) 1 ((eL s0) ++ [[.i a0.1]])))] [7, 15] [] [] (pa s0 [a0.1] p0) ?_
   refine eqn [(7, .o 1664 (s0 ++ [a0.1]))] [7] [] [] (by rw [show ((eL s0) ++ [[.i a0.1]]) = (eL (s0 ++ [a0.1])) from Vn (rfl) (rfl)]; first | done | kernel_rfl) ?_
   refine rn Qa [1, 2, 6, 7, 12, 13, 14] [] (pe 0 (Jw (Qy k0 (by omega))) p0) ?_
   exact Exists.intro (s0 ++ [a0.1]) (And.intro (X3 [(1664, 147203)] (by kernel_rfl)) ⟨Q0 hx0 (Q1 h3 (rfl)) hI0.1, by first | omega | (simp; omega) | simp⟩)
  refine Qh ?_
  refine qu Qa [(14, .i ((k0 + 1 : Nat) : Int))] [14, 15] [] [] (pe 0 (Jw (Qy k0 (by omega))) p0) ?_
  exact xw s0 ⟨Q0 hx0 (Ql h3 (rfl)) hI0.1, by first | omega | (simp; omega) | simp⟩
 ·
  have hA0_0 := hI0.2
  refine su Qa [(15, .b false)] [] [] [] (pe 0 (Qw (decide_eq_false (p := ((k0 : Nat) : Int) < (s_.2.1.length : Int)) (by omega))) p0) ?_
  refine Qc ?_
  refine ckF ?_
  refine Q2 ?_
  exact Exists.intro _ (And.intro (X3 [(147203, 147353)] (by kernel_rfl)) (Xs hk0 (rfl) hI0.1))
 refine sn Qa [6] [] (p0) ?_
 refine Qe ?_
 exact po0 [] (Un hD0 (rfl))
def Fm (name : ByteArray) (_ : Nat) (a0 : Wp) (_ : Unit) : Rd (Jc) (Unit) (Unit) := (bif (a0.1.toList == name.toList) then (.ret a0.2) else (.next ()))
def Fn (_ : Nat) (_ : Unit) : Unit := ()
def Z8 (f : X9) (name : ByteArray) : Jc := (Out.on (Xp (Fm name) Fn f.2.2.2.2 0 ()) (fun _ => (0, 0, ⟨#[]⟩)))
theorem ZS (f : X9) (name : ByteArray) : ACalls Tryz.prog 131 [.a [.i f.1, .i f.2.1, .b f.2.2.1, .i f.2.2.2.1, .h f.2.2.2.2], .s name] (.a [.i ((Z8 f name).1), .i ((Z8 f name).2.1), .s ((Z8 f name).2.2)]) := by
 refine en Qa Tryz.func131 fun w0 F0 hG => ?_
 refine sn Qa [1, 2, 4] [2, 4] (p0) ?_
 refine Qc ?_
 refine tn Qa [1, 2, 4, 5] [2, 4] (p0) ?_
 refine mz [(2, .p 2 0), (4, .p 4 0), (5, .i 0)] [0] [(2, [.i f.1, .i f.2.1, .b f.2.2.1, .i f.2.2.2.1, .h f.2.2.2.2]), (4, [.i 0, .i 0, .s ⟨#[]⟩])] [] ?_
 refine wB 2 4 .sh f.2.2.2.2 (fun hw1 hl2 => ?_)
 refine blL0b (Fm name) Fn f.2.2.2.2 () (fun k0 _ => [(5, .i ((k0 : Nat) : Int))]) [5] (fun _ _ => []) [] (fun _ => []) [1, 2, 5] (fun _ => []) [2] wf0 (fun k0 s0 hk0 hI0 => ?_) (fun k0 s0 hk0 hI0 => ?_) (fun y0 hD0 => ?_)
 ·
  obtain ⟨a0, hx0⟩ := Xr (l := f.2.2.2.2) (i := k0) hk0
  refine Qc ?_
  refine sn Qa [1, 2, 4, 5, 10] [2, 4] (pl 3 f.2.2.2.2 (pe 4 (Qw (decide_eq_true (p := ((k0 : Nat) : Int) < (f.2.2.2.2.length : Int)) (by omega))) p0)) ?_
  refine ckT ?_
  refine Qh ?_
  refine Qc ?_
  refine Qt ?_
  refine tn Qa [1, 2, 4, 5, 20] [2, 4] (pn 3 hx0 p0) ?_
  refine ck (a0.1.toList == name.toList) (fun h3 => ?_) (fun h3 => ?_)
  ·
   refine tu Qa [] [] [(4, [.i a0.2.1, .i a0.2.2.1, .s a0.2.2.2])] [4] (pn 3 hx0 p0) ?_
   refine Qe ?_
   have hr4 : (Xp (Fm name) Fn f.2.2.2.2 0 ()) = .ret a0.2 := Zt hx0 (Q1 h3 (rfl)) hI0
   exact pz [] (show Z8 f name = _ from Ie hr4) (fun z => .a [.i z.1, .i z.2.1, .s z.2.2])
  refine Qh ?_
  refine qu Qa [(5, .i ((k0 + 1 : Nat) : Int))] [5] [] [] (pe 1 (Jw (Qy k0 (by omega))) p0) ?_
  exact xw _ (Q0 hx0 (Ql h3 (rfl)) hI0)
 ·
  refine Qc ?_
  refine sn Qa [1, 2, 4, 5, 10] [2, 4] (pl 3 f.2.2.2.2 (pe 4 (Qw (decide_eq_false (p := ((k0 : Nat) : Int) < (f.2.2.2.2.length : Int)) (by omega))) p0)) ?_
  refine ckF ?_
  refine Q2 ?_
  exact xw _ (Xs hk0 (rfl) hI0)
 refine sn Qa [4] [4] (p0) ?_
 refine Qe ?_
 exact pz [] (show Z8 f name = _ from Un hD0 (rfl)) (fun z => .a [.i z.1, .i z.2.1, .s z.2.2])
def Dw (name : ByteArray) (_ : Nat) (a0 : Qp) (_ : Unit) : Rd ((List Int)) (Unit) (Unit) := (bif (a0.1.toList == name.toList) then (.ret a0.2) else (.next ()))
def Dx (_ : Nat) (_ : Unit) : Unit := ()
def Vj (a_ : (List Qp)) (name : ByteArray) : (List Int) := (Out.on (Xp (Dw name) Dx a_ 0 ()) (fun _ => []))
theorem Et (a_ : (List Qp)) (name : ByteArray) : ACalls Tryz.prog 33 [.h a_, .s name] (.o 0 (Vj a_ name)) := by
 refine en Qa Tryz.func33 fun w0 F0 hG => ?_
 refine sn Qa [0, 1, 4] [] (p0) ?_
 refine Qc ?_
 refine tn Qa [0, 1, 4, 5] [] (p0) ?_
 refine mz [(4, .e 0), (5, .i 0)] [] [] [] ?_
 refine wT 0 0 .sh a_ (fun hw1 hl2 => ?_)
 refine Ii (Dw name) Dx a_ () (fun k0 _ => [(5, .i ((k0 : Nat) : Int))]) [5] (fun _ => []) [0, 1, 5] wf0 (fun k0 s0 hk0 hI0 => ?_) (fun k0 s0 hk0 hI0 => ?_) (fun y0 hD0 => ?_)
 ·
  obtain ⟨a0, hx0⟩ := Xr (l := a_) (i := k0) hk0
  refine Qc ?_
  refine sn Qa [0, 1, 4, 5, 9] [] (pl 2 a_ (pe 3 (Qw (decide_eq_true (p := ((k0 : Nat) : Int) < (a_.length : Int)) (by omega))) p0)) ?_
  refine ckT ?_
  refine Qh ?_
  refine Qc ?_
  refine Qt ?_
  refine tn Qa [0, 1, 4, 5, 18] [] (pn 2 hx0 p0) ?_
  refine ck (a0.1.toList == name.toList) (fun h3 => ?_) (fun h3 => ?_)
  ·
   have hl4 : List.length a0.2 ≤ 1073741824 := W7 (E5 (N2 hx0 (hw1)))
   refine tu Qa [(4, .o 1600 a0.2)] [4] [] [] (pn 3 hx0 (po 6 (.flat) (px (Hu (n := (([] : List (List PV)).length + ((eL a0.2) : List (List PV)).length)) (Dm (rfl) (Yb a0.2) (by first | omega | (simp only [List.length_cons, List.length_nil]; omega) | (simp; omega) | simp))) (px (H4 (H5 a0.2)) p0)))) ?_
   refine Qe ?_
   have hr5 : (Xp (Dw name) Dx a_ 0 ()) = .ret a0.2 := Zt hx0 (Q1 h3 (rfl)) hI0
   exact po0 [] (Ie hr5)
  refine Qh ?_
  refine qu Qa [(5, .i ((k0 + 1 : Nat) : Int))] [5] [] [] (pe 1 (Jw (Qy k0 (by omega))) p0) ?_
  exact xw _ (Q0 hx0 (Ql h3 (rfl)) hI0)
 ·
  refine Qc ?_
  refine sn Qa [0, 1, 4, 5, 9] [] (pl 2 a_ (pe 3 (Qw (decide_eq_false (p := ((k0 : Nat) : Int) < (a_.length : Int)) (by omega))) p0)) ?_
  refine ckF ?_
  refine Q2 ?_
  exact xw _ (Xs hk0 (rfl) hI0)
 refine sn Qa [4] [] (p0) ?_
 refine Qe ?_
 exact po0 [] (Un hD0 (rfl))
def Wj (id : Int) (_ : Nat) (a0 : Int) (_ : Unit) : Rd (Bool) (Unit) (Unit) := (bif (a0 == id) then (.ret true) else (.next ()))
def An (_ : Nat) (_ : Unit) : Unit := ()
def Hl (ids : (List Int)) (id : Int) : Bool := (Out.on (Xp (Wj id) An ids 0 ()) (fun _ => false))
theorem G6 (ids : (List Int)) (id : Int) : ACalls Tryz.prog 132 [.h ids, .i id] (.b (Hl ids id)) := by
 refine en Qa Tryz.func132 fun w0 F0 hG => ?_
 refine sn Qa [0, 1, 4] [] (p0) ?_
 refine Qc ?_
 refine tn Qa [0, 1, 4, 5] [] (p0) ?_
 refine mz [(4, .b false), (5, .i 0)] [] [] [] ?_
 refine wT 0 0 .sh ids (fun hw1 hl2 => ?_)
 refine Ii (Wj id) An ids () (fun k0 _ => [(5, .i ((k0 : Nat) : Int))]) [5] (fun _ => []) [0, 1, 5] wf0 (fun k0 s0 hk0 hI0 => ?_) (fun k0 s0 hk0 hI0 => ?_) (fun y0 hD0 => ?_)
 ·
  obtain ⟨a0, hx0⟩ := Xr (l := ids) (i := k0) hk0
  refine Qc ?_
  refine sn Qa [0, 1, 4, 5, 9] [] (pl 2 ids (pe 3 (Qw (decide_eq_true (p := ((k0 : Nat) : Int) < (ids.length : Int)) (by omega))) p0)) ?_
  refine ckT ?_
  refine Qh ?_
  refine Qc ?_
  refine Qt ?_
  refine tn Qa [0, 1, 4, 5, 17] [] (pn 2 hx0 p0) ?_
  refine ck (a0 == id) (fun h3 => ?_) (fun h3 => ?_)
  ·
   refine tu Qa [(4, .b true)] [4] [] [] (p0) ?_
   refine Qe ?_
   have hr4 : (Xp (Wj id) An ids 0 ()) = .ret true := Zt hx0 (Q1 h3 (rfl)) hI0
   exact pb [] (Ie hr4)
  have h3d := Ym h3
  refine Qh ?_
  refine qu Qa [(5, .i ((k0 + 1 : Nat) : Int))] [5] [] [] (pe 1 (Jw (Qy k0 (by omega))) p0) ?_
  exact xw _ (Q0 hx0 (Ql h3 (rfl)) hI0)
 ·
  refine Qc ?_
  refine sn Qa [0, 1, 4, 5, 9] [] (pl 2 ids (pe 3 (Qw (decide_eq_false (p := ((k0 : Nat) : Int) < (ids.length : Int)) (by omega))) p0)) ?_
  refine ckF ?_
  refine Q2 ?_
  exact xw _ (Xs hk0 (rfl) hI0)
 refine sn Qa [4] [] (p0) ?_
 refine Qe ?_
 exact pb [] (Un hD0 (rfl))
def Jo (n_ : Nat) (q : (List X7)) (at_ : Int) (f : X9) (a_ : (List Qp)) : Bool := match n_ with
 | 0 => default
 | n_ + 1 => (bif ((nth q (Int.toNat at_)).1 == (1 : Int)) then true else (bif ((nth q (Int.toNat at_)).1 == (2 : Int)) then ((Z8 f ((nth q (Int.toNat at_)).2.2.2.1)).1 != (0 : Int)) else (bif ((nth q (Int.toNat at_)).1 == (3 : Int)) then (((Z8 f ((nth q (Int.toNat at_)).2.2.2.1)).1 == (nth q (Int.toNat at_)).2.2.2.2.1) && (((Z8 f ((nth q (Int.toNat at_)).2.2.2.1)).2.1 == (nth q (Int.toNat at_)).2.2.2.2.2.1) && ((((Z8 f ((nth q (Int.toNat at_)).2.2.2.1)).2.2).toList == ((nth q (Int.toNat at_)).2.2.2.2.2.2).toList) && true))) else (bif ((nth q (Int.toNat at_)).1 == (4 : Int)) then (((Z8 f ((nth q (Int.toNat at_)).2.2.2.1)).1 == (1 : Int)) && decide ((Z8 f ((nth q (Int.toNat at_)).2.2.2.1)).2.1 < (nth q (Int.toNat at_)).2.2.2.2.2.1)) else (bif ((nth q (Int.toNat at_)).1 == (5 : Int)) then (!(Jo n_ q ((nth q (Int.toNat at_)).2.1) f a_)) else (bif ((nth q (Int.toNat at_)).1 == (6 : Int)) then ((Jo n_ q ((nth q (Int.toNat at_)).2.1) f a_) && (Jo n_ q ((nth q (Int.toNat at_)).2.2.1) f a_)) else (bif ((nth q (Int.toNat at_)).1 == (7 : Int)) then ((Jo n_ q ((nth q (Int.toNat at_)).2.1) f a_) || (Jo n_ q ((nth q (Int.toNat at_)).2.2.1) f a_)) else (bif ((nth q (Int.toNat at_)).1 == (8 : Int)) then (Hl (Vj a_ ((nth q (Int.toNat at_)).2.2.2.1)) f.1) else ((f.2.2.2.1 != (0 : Int)) && (Hl (Vj a_ ((nth q (Int.toNat at_)).2.2.2.1)) f.2.2.2.1))))))))))
theorem ZT : ∀ (n_ : Nat) (q : (List X7)) (at_ : Int) (f : X9) (a_ : (List Qp)) (hv : Qv q = true) (ha : 0 ≤ at_) (hb : at_ < (q.length : Int)) (hn : at_ < ((n_ : Nat) : Int)), ACalls Tryz.prog 88 [.h q, .i at_, .a [.i f.1, .i f.2.1, .b f.2.2.1, .i f.2.2.2.1, .h f.2.2.2.2], .h a_] (.b (Jo n_ q at_ f a_)) := by
 intro n_
 induction n_ with
 | zero => intro q at_ f a_ hv ha hb hn; exact (by omega : False).elim
 | succ n_ ih =>
  intro q at_ f a_ hv ha hb hn
  refine en Qa Tryz.func88 fun w0 F0 hG => ?_
  refine sn Qa [0, 1, 3, 6, 8] [6] (p0) ?_
  refine wT 0 0 .sh q (fun hw2 hl3 => ?_)
  have hx1 := ng q (Int.toNat at_)
  refine tn Qa [0, 3, 6, 8, 9] [6, 9] (pg 2 at_ hx1 p0) ?_
  refine tu Qa [(6, .p 6 0), (8, .b false), (9, .p 9 0), (10, .p 10 0)] [1, 2] [(6, [.i f.1, .i f.2.1, .b f.2.2.1, .i f.2.2.2.1, .h f.2.2.2.2]), (9, [.i ((nth q (Int.toNat at_)).1), .i ((nth q (Int.toNat at_)).2.1), .i ((nth q (Int.toNat at_)).2.2.1), .s ((nth q (Int.toNat at_)).2.2.2.1), .i ((nth q (Int.toNat at_)).2.2.2.2.1), .i ((nth q (Int.toNat at_)).2.2.2.2.2.1), .s ((nth q (Int.toNat at_)).2.2.2.2.2.2)]), (10, [.i ((Z8 f ((nth q (Int.toNat at_)).2.2.2.1)).1), .i ((Z8 f ((nth q (Int.toNat at_)).2.2.2.1)).2.1), .s ((Z8 f ((nth q (Int.toNat at_)).2.2.2.1)).2.2)])] [] (pc 3 (ZS f ((nth q (Int.toNat at_)).2.2.2.1)) p0) ?_
  refine Qc ?_
  refine sn Qa [0, 3, 6, 8, 9, 10, 20] [6, 9, 10] (p0) ?_
  refine Qt ?_
  refine tn Qa [0, 3, 6, 8, 9, 10, 20, 21] [6, 9, 10] (p0) ?_
  refine ck ((nth q (Int.toNat at_)).1 == (1 : Int)) (fun h4 => ?_) (fun h4 => ?_)
  ·
   refine tu Qa [(8, .b true)] [0, 8, 10] [] [10] (p0) ?_
   refine Qe ?_
   exact pb [] (Q1 h4 (rfl))
  have h4d := Ym h4
  refine tu Qa [(20, .i ((nth q (Int.toNat at_)).1)), (23, .b ((nth q (Int.toNat at_)).1 == (2 : Int)))] [] [] [] (p0) ?_
  refine ck ((nth q (Int.toNat at_)).1 == (2 : Int)) (fun h5 => ?_) (fun h5 => ?_)
  ·
   refine sn Qa [3, 6, 8, 9] [6, 9] (p0) ?_
   refine Qe ?_
   exact pb [] (Ql h4 (Q1 h5 (rfl)))
  have h5d := Ym h5
  refine sn Qa [0, 3, 6, 8, 9, 10, 20, 28] [6, 9, 10] (p0) ?_
  refine ck ((nth q (Int.toNat at_)).1 == (3 : Int)) (fun h6 => ?_) (fun h6 => ?_)
  ·
   refine tn Qa [3, 6, 8, 9] [6, 9] (p0) ?_
   refine Qe ?_
   exact pb [] (Ql h4 (Ql h5 (Q1 h6 (rfl))))
  have h6d := Ym h6
  refine tn Qa [0, 3, 6, 8, 9, 10, 20, 34] [6, 9, 10] (p0) ?_
  refine ck ((nth q (Int.toNat at_)).1 == (4 : Int)) (fun h7 => ?_) (fun h7 => ?_)
  ·
   refine Qc ?_
   refine mz [(34, .b ((nth q (Int.toNat at_)).1 == (4 : Int)))] [23] [] [] ?_
   refine jn [(8, .b (((Z8 f ((nth q (Int.toNat at_)).2.2.2.1)).1 == (1 : Int)) && decide ((Z8 f ((nth q (Int.toNat at_)).2.2.2.1)).2.1 < (nth q (Int.toNat at_)).2.2.2.2.2.1)))] [0, 8, 10, 20, 34] [] [10] ((Z8 f ((nth q (Int.toNat at_)).2.2.2.1)).1 == (1 : Int)) (fun h8 => ?_) (fun h8 => ?_) ?_
   ·
    refine rn Qa [3, 6, 8, 9] [6, 9] (pt 2 h8 p0) ?_
    exact ⟨rfl, Qf (by rw [h8] <;> kernel_rfl)⟩
   ·
    refine rn Qa [3, 6, 8, 9] [6, 9] (pf 2 h8 p0) ?_
    exact ⟨rfl, Qf (by rw [h8] <;> kernel_rfl)⟩
   refine Qe ?_
   exact pb [] (Ql h4 (Ql h5 (Ql h6 (Q1 h7 (rfl)))))
  have h7d := Ym h7
  refine tu Qa [(47, .b ((nth q (Int.toNat at_)).1 == (5 : Int)))] [10, 23] [] [10] (p0) ?_
  refine ck ((nth q (Int.toNat at_)).1 == (5 : Int)) (fun h9 => ?_) (fun h9 => ?_)
  ·
   have h9d := eq_of_beq h9
   refine sn Qa [3, 6, 8, 9] [6, 9] (pc 5 (ih q ((nth q (Int.toNat at_)).2.1) f a_ hv (by have hz := ql_a hv ha hb h9; omega) (by have hz := ql_a hv ha hb h9; omega) (by have hz := ql_a hv ha hb h9; omega)) p0) ?_
   refine Qe ?_
   exact pb [] (Ql h4 (Ql h5 (Ql h6 (Ql h7 (Q1 h9 (rfl))))))
  have h9d := Ym h9
  refine sn Qa [0, 3, 6, 8, 9, 20, 56] [6, 9] (p0) ?_
  refine ck ((nth q (Int.toNat at_)).1 == (6 : Int)) (fun h10 => ?_) (fun h10 => ?_)
  ·
   have h10d := eq_of_beq h10
   refine Qc ?_
   refine mz [(56, .b ((nth q (Int.toNat at_)).1 == (6 : Int)))] [47] [] [] ?_
   refine jn [(8, .b ((Jo n_ q ((nth q (Int.toNat at_)).2.1) f a_) && (Jo n_ q ((nth q (Int.toNat at_)).2.2.1) f a_)))] [0, 8, 20, 56] [] [] (Jo n_ q ((nth q (Int.toNat at_)).2.1) f a_) (fun h11 => ?_) (fun h11 => ?_) ?_
   ·
    refine rn Qa [3, 6, 8, 9] [6, 9] (pc 5 (cb h11 (ih q ((nth q (Int.toNat at_)).2.1) f a_ hv (by have hz := AB hv ha hb h10; omega) (by have hz := AB hv ha hb h10; omega) (by have hz := AB hv ha hb h10; omega))) (pc 12 (ih q ((nth q (Int.toNat at_)).2.2.1) f a_ hv (by have hz := qr_b hv ha hb h10; omega) (by have hz := qr_b hv ha hb h10; omega) (by have hz := qr_b hv ha hb h10; omega)) p0)) ?_
    exact ⟨rfl, Qf (by rw [h11] <;> kernel_rfl)⟩
   ·
    refine rn Qa [3, 6, 8, 9] [6, 9] (pc 5 (cb h11 (ih q ((nth q (Int.toNat at_)).2.1) f a_ hv (by have hz := AB hv ha hb h10; omega) (by have hz := AB hv ha hb h10; omega) (by have hz := AB hv ha hb h10; omega))) p0) ?_
    exact ⟨rfl, Qf (by rw [h11] <;> kernel_rfl)⟩
   refine Qe ?_
   exact pb [] (Ql h4 (Ql h5 (Ql h6 (Ql h7 (Ql h9 (Q1 h10 (rfl)))))))
  have h10d := Ym h10
  refine tn Qa [0, 3, 6, 8, 9, 20, 72] [6, 9] (p0) ?_
  refine ck ((nth q (Int.toNat at_)).1 == (7 : Int)) (fun h12 => ?_) (fun h12 => ?_)
  ·
   have h12d := eq_of_beq h12
   refine Qc ?_
   refine mz [(72, .b ((nth q (Int.toNat at_)).1 == (7 : Int)))] [47] [] [] ?_
   refine jn [(8, .b ((Jo n_ q ((nth q (Int.toNat at_)).2.1) f a_) || (Jo n_ q ((nth q (Int.toNat at_)).2.2.1) f a_)))] [0, 8, 20, 72] [] [] (Jo n_ q ((nth q (Int.toNat at_)).2.1) f a_) (fun h13 => ?_) (fun h13 => ?_) ?_
   ·
    refine rn Qa [3, 6, 8, 9] [6, 9] (pc 5 (cb h13 (ih q ((nth q (Int.toNat at_)).2.1) f a_ hv (by have hz := CG hv ha hb h12; omega) (by have hz := CG hv ha hb h12; omega) (by have hz := CG hv ha hb h12; omega))) p0) ?_
    exact ⟨rfl, Qf (by rw [h13] <;> kernel_rfl)⟩
   ·
    refine rn Qa [3, 6, 8, 9] [6, 9] (pc 5 (cb h13 (ih q ((nth q (Int.toNat at_)).2.1) f a_ hv (by have hz := CG hv ha hb h12; omega) (by have hz := CG hv ha hb h12; omega) (by have hz := CG hv ha hb h12; omega))) (pc 12 (ih q ((nth q (Int.toNat at_)).2.2.1) f a_ hv (by have hz := qr_c hv ha hb h12; omega) (by have hz := qr_c hv ha hb h12; omega) (by have hz := qr_c hv ha hb h12; omega)) p0)) ?_
    exact ⟨rfl, Qf (by rw [h13] <;> kernel_rfl)⟩
   refine Qe ?_
   exact pb [] (Ql h4 (Ql h5 (Ql h6 (Ql h7 (Ql h9 (Ql h10 (Q1 h12 (rfl))))))))
  refine tu Qa [(88, .b ((nth q (Int.toNat at_)).1 == (8 : Int)))] [0, 20, 47] [] [] (p0) ?_
  refine ck ((nth q (Int.toNat at_)).1 == (8 : Int)) (fun h14 => ?_) (fun h14 => ?_)
  ·
   refine sN Qa Yc [3, 6, 8, 9] [6, 9] (pc 3 (Et a_ ((nth q (Int.toNat at_)).2.2.2.1)) (pc 6 (G6 (Vj a_ ((nth q (Int.toNat at_)).2.2.2.1)) f.1) p0)) ?_
   refine Qe ?_
   exact pb [] (Ql h4 (Ql h5 (Ql h6 (Ql h7 (Ql h9 (Ql h10 (Ql h12 (Q1 h14 (rfl)))))))))
  refine Qh ?_
  refine Qc ?_
  refine jn [(8, .b ((f.2.2.2.1 != (0 : Int)) && (Hl (Vj a_ ((nth q (Int.toNat at_)).2.2.2.1)) f.2.2.2.1)))] [3, 6, 8, 9, 88] [] [6, 9] (f.2.2.2.1 != (0 : Int)) (fun h15 => ?_) (fun h15 => ?_) ?_
  ·
   refine rN Qa Yc [8] [] (pt 2 h15 (pc 7 (Et a_ ((nth q (Int.toNat at_)).2.2.2.1)) (pc 10 (G6 (Vj a_ ((nth q (Int.toNat at_)).2.2.2.1)) f.2.2.2.1) p0))) ?_
   exact ⟨rfl, Qf (by rw [h15] <;> kernel_rfl)⟩
  ·
   refine rN Qa Yc [8] [] (pf 2 h15 p0) ?_
   exact ⟨rfl, Qf (by rw [h15] <;> kernel_rfl)⟩
  refine Qe ?_
  exact pb [] (Ql h4 (Ql h5 (Ql h6 (Ql h7 (Ql h9 (Ql h10 (Ql h12 (Ql h14 (rfl)))))))))
def C1 (q : (List X7)) (f : X9) (a_ : (List Qp)) : Bool := ((Yi q) && (Jo (List.length q) q ((q.length : Int) - 1) f a_))
theorem ZU (q : (List X7)) (f : X9) (a_ : (List Qp)) : ACalls Tryz.prog 55 [.h q, .a [.i f.1, .i f.2.1, .b f.2.2.1, .i f.2.2.2.1, .h f.2.2.2.2], .h a_] (.b (C1 q f a_)) := by
 refine en Qa Tryz.func55 fun w0 F0 hG => ?_
 refine sn Qa [0, 2, 4, 6] [4] (p0) ?_
 refine Qc ?_
 refine mz [(4, .p 4 0), (6, .b false)] [1] [(4, [.i f.1, .i f.2.1, .b f.2.2.1, .i f.2.2.2.1, .h f.2.2.2.2])] [] ?_
 refine jn [(6, .b ((Yi q) && (Jo (List.length q) q ((q.length : Int) - 1) f a_)))] [0, 2, 4, 6] [] [4] (Yi q) (fun h1 => ?_) (fun h1 => ?_) ?_
 ·
  refine wT 0 0 .sh q (fun hw2 hl3 => ?_)
  refine rn Qa [6] [] (pc 1 (cb h1 (Vs q)) (pl 5 q (pe 6 (Jw (IntWalk.i64_in ((q.length : Int) - 1) (by omega))) (pc 9 (ZT (List.length q) q ((q.length : Int) - 1) f a_ (M6 h1) (by have := Rf (M6 h1); omega) (by omega) (by omega)) p0)))) ?_
  exact ⟨rfl, Qf (by rw [h1] <;> kernel_rfl)⟩
 ·
  refine rn Qa [6] [] (pc 1 (cb h1 (Vs q)) p0) ?_
  exact ⟨rfl, Qf (by rw [h1] <;> kernel_rfl)⟩
 refine Qe ?_
 exact pb [] (show C1 q f a_ = ((Yi q) && (Jo (List.length q) q ((q.length : Int) - 1) f a_)) from rfl)
def H0 (q : (List X7)) (a_ : (List Qp)) (_ : Nat) (a0 : X9) (s0 : (List Int)) : Rd ((List Int)) ((List Int)) ((List Int)) := (bif (C1 q a0 a_) then (.next (s0 ++ [a0.1])) else (.next s0))
def Cf (_ : Nat) (s0 : (List Int)) : (List Int) := s0
def Yq (s_ : Xo) (q : (List X7)) (a_ : (List Qp)) : (List Int) := (Out.on (Xp (H0 q a_) Cf s_.2.1 0 []) (fun y0 => y0))
theorem F4 (s_ : Xo) (q : (List X7)) (a_ : (List Qp)) : ACalls Tryz.prog 34 [.a [.h s_.1, .h s_.2.1, .i s_.2.2], .h q, .h a_] (.o 0 (Yq s_ q a_)) := by
 refine en Qa Tryz.func34 fun w0 F0 hG => ?_
 refine sn Qa [1, 2, 3, 6] [3] (p0) ?_
 refine tn Qa [1, 2, 3, 6, 7] [3] (p0) ?_
 refine Qc ?_
 refine tu Qa [(3, .p 3 0), (6, .e 0), (7, .one (.slc (.own true 576) 1 [])), (8, .i 0)] [0] [(3, [.h s_.1, .h s_.2.1, .i s_.2.2])] [] (p0) ?_
 refine wB 3 1 .sh s_.2.1 (fun hw1 hl2 => ?_)
 refine FF (H0 q a_) Cf s_.2.1 [] (fun k0 s0 => [(7, .o 147204 s0), (8, .i ((k0 : Nat) : Int))]) [7, 8] (fun _ _ => []) [] (fun y0 => [(7, .o 147354 y0)]) [1, 2, 3, 7, 8] (fun _ => []) [3] (fun k0 s0 => List.length s0 ≤ k0) (X3 [(576, 147204)] (by kernel_rfl)) (by simp) (fun k0 s0 hk0 hI0 => ?_) (fun k0 s0 hk0 hI0 => ?_) (fun y0 hD0 => ?_)
 ·
  have hA0_0 := hI0.2
  obtain ⟨a0, hx0⟩ := Xr (l := s_.2.1) (i := k0) hk0
  refine Qc ?_
  refine su Qa [(14, .b true)] [] [] [] (pl 3 s_.2.1 (pe 4 (Qw (decide_eq_true (p := ((k0 : Nat) : Int) < (s_.2.1.length : Int)) (by omega))) p0)) ?_
  refine ckT ?_
  refine Qh ?_
  refine Qc ?_
  refine Qt ?_
  refine sn Qa [1, 2, 3, 6, 7, 8, 24] [3] (pn 4 hx0 (pc 7 (ZU q a0 a_) p0)) ?_
  refine ck (C1 q a0 a_) (fun h3 => ?_) (fun h3 => ?_)
  ·
   refine wT 7 0 (.own true 147204) s0 (fun hw4 hl5 => ?_)
   refine qu Qa [(7, .one (.slc (.own true 2112) 1 ((eL s0) ++ [[.i a0.1]])))] [7, 14] [] [] (pn 4 hx0 (pa s0 [a0.1] p0)) ?_
   refine eqn [(7, .o 2112 (s0 ++ [a0.1]))] [7] [] [] (by rw [show ((eL s0) ++ [[.i a0.1]]) = (eL (s0 ++ [a0.1])) from Vn (rfl) (rfl)]; first | done | kernel_rfl) ?_
   refine rn Qa [1, 2, 3, 6, 7, 8] [3] (pe 1 (Jw (Qy k0 (by omega))) p0) ?_
   exact Exists.intro (s0 ++ [a0.1]) (And.intro (X3 [(2112, 147204)] (by kernel_rfl)) ⟨Q0 hx0 (Q1 h3 (rfl)) hI0.1, by first | omega | (simp; omega) | simp⟩)
  refine Qh ?_
  refine qn Qa [1, 2, 3, 6, 7, 8] [3] (pe 1 (Jw (Qy k0 (by omega))) p0) ?_
  exact xw s0 ⟨Q0 hx0 (Ql h3 (rfl)) hI0.1, by first | omega | (simp; omega) | simp⟩
 ·
  have hA0_0 := hI0.2
  refine Qc ?_
  refine su Qa [(14, .b false)] [] [] [] (pl 3 s_.2.1 (pe 4 (Qw (decide_eq_false (p := ((k0 : Nat) : Int) < (s_.2.1.length : Int)) (by omega))) p0)) ?_
  refine ckF ?_
  refine Q2 ?_
  exact Exists.intro _ (And.intro (X3 [(147204, 147354)] (by kernel_rfl)) (Xs hk0 (rfl) hI0.1))
 refine sn Qa [6] [] (p0) ?_
 refine Qe ?_
 exact po0 [] (Un hD0 (rfl))
theorem cid_eq (l : List Int) (x : Int) : Vi l x = Hl l x := by
  unfold Vi Vu Ab Hl
  have key : ∀ (l : List Int) (k : Nat), decide (((Xp (Jk x) Vt l k ()).on fun _ => -1) ≥ 0) = ((Xp (Wj x) An l k ()).on fun _ => false) := by
    intro l
    induction l with
    | nil => intro k; rfl
    | cons a l ih =>
      intro k
      by_cases h : x = a
      · subst h; simp [Xp, Jk, Wj, Out.on]
      have e1 : (x == a) = false := beq_eq_false_iff_ne.2 h
      have e2 : (a == x) = false := beq_eq_false_iff_ne.2 (Ne.symm h)
      simp only [Xp, Jk, Wj, e1, e2, cond_false]
      exact ih (k + 1)
  exact key l 0
theorem rids_eq (r : List Qp) (s : ByteArray) : X5 r s = Vj r s := rfl
theorem attr_eq (f : X9) (s : ByteArray) : Z1 f s = Z8 f s := rfl
theorem vn_op {n : X7} {k : Int} (h : Zf n k = true) : n.1 = 1 ∨ n.1 = 2 ∨ n.1 = 3 ∨ n.1 = 4 ∨ n.1 = 5 ∨ n.1 = 6 ∨ n.1 = 7 ∨ n.1 = 8 ∨ n.1 = 9 := by
  refine Classical.byContradiction fun hn => ?_
  simp only [not_or] at hn
  obtain ⟨h1, h2, h3, h4, h5, h6, h7, h8, h9⟩ := hn
  unfold Zf at h
  simp only [beq_eq_false_iff_ne.2 h1, beq_eq_false_iff_ne.2 h2, beq_eq_false_iff_ne.2 h3, beq_eq_false_iff_ne.2 h4, beq_eq_false_iff_ne.2 h5, beq_eq_false_iff_ne.2 h6, beq_eq_false_iff_ne.2 h7, beq_eq_false_iff_ne.2 h8, beq_eq_false_iff_ne.2 h9, cond_false] at h
  cases h
theorem AN {q : List X7} (hv : Qv q = true) (f : X9) (r : List Qp) : ∀ (n : Nat) (k : Int), 0 ≤ k → k < (q.length : Int) → Xq n q k f r = Jo n q k f r
  | 0, _, _, _ => rfl
  | n + 1, k, h0, h1 => by
    have hn := ZH hv (Kh (l := q) (i := Int.toNat k) (by omega))
    rw [Int.toNat_of_nonneg h0] at hn
    obtain ⟨hl, hr⟩ := Cz hv h0 h1
    unfold Xq Jo
    have ih := AN hv f r n
    unfold Vy
    simp only [attr_eq, rids_eq, cid_eq]
    generalize nth q (Int.toNat k) = m at hn hl hr ⊢
    rcases vn_op hn with h | h | h | h | h | h | h | h | h
    · simp [h]
    · simp [h]
    · simp [h]
    · rw [h]
      cases hz : ((Z8 f m.2.2.2.1).1 == (1 : Int)) with
      | true => simp [bne, hz]
      | false => simp [bne, hz]
    · simp [h, ih _ (hl (by simp [h])).1 (by have := (hl (by simp [h])).2; omega)]
    · simp [h, ih _ (hl (by simp [h])).1 (by have := (hl (by simp [h])).2; omega), ih _ (hr (by simp [h])).1 (by have := (hr (by simp [h])).2; omega)]
    · simp [h, ih _ (hl (by simp [h])).1 (by have := (hl (by simp [h])).2; omega), ih _ (hr (by simp [h])).1 (by have := (hr (by simp [h])).2; omega)]
    · simp [h]
    simp [h]
theorem CM (q : List X7) (f : X9) (r : List Qp) : Kk q f r = C1 q f r := by
  unfold Kk C1
  rw [← vq_eq]
  cases hv : Qv q with
  | false => rfl
  | true => rw [AN hv f r _ _ (by have := Rf hv; omega) (by omega)]
theorem Tt (s : Xo) (q : List X7) (r : List Qp) : Yp s q r = Yq s q r := by
  unfold Yp Yq
  rw [D5 (f := Ue q r) (g := H0 q r) (e := Ce) (e' := Cf) (fun i a s => by
    unfold Ue H0
    rw [CM]) (fun _ _ => rfl)]
end
end Go.Proofs.YtiafgmepdgfpbaaGreat
