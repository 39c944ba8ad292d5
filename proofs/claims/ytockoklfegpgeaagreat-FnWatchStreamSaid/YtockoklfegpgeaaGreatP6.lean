/- Texts of this proof, put together by a program: Vsa, Vs, Drl, Dra, Drs, Drd, Lid, Rp, Lia, Wab, Rpa, Rpb, Rpc, Rpd, Nfa, Nfb, Drn. -/
import Derived.Test.YtockoklfegpgeaaGreatP5
import Derived.KernelRfl
import Derived.Lib.SlicesCompact
set_option linter.unusedVariables false
set_option linter.unusedSimpArgs false
namespace Go.Proofs.YtockoklfegpgeaaGreat
open Go.RowKit
open GoE (enc wide)
def Dr (_ : Nat) (a0 : X4) (s0 : (List X4)) : Rd (Q5) ((List X4)) ((List X4)) := (.next (s0 ++ [(Qo a0)]))
def Ds (_ : Nat) (s0 : (List X4)) : (List X4) := s0
def Ql (s_ : Q5) : Q5 := (Out.on (Xm Dr Ds s_.2.1 0 []) (fun y0 => (s_.1, y0, s_.2.2)))
theorem O9 (s_ : Q5) : ACalls Tryz.prog 98 [.a [.h s_.1, .h s_.2.1, .i s_.2.2]] (.a [.o 0 ((Ql s_).1), .o 1 ((Ql s_).2.1), .i ((Ql s_).2.2)]) := by
 refine en Qb Tryz.func98 fun w0 F0 hG => ?_
 refine sn Qb [1, 2] [1, 2] (p0) ?_
 refine wB 1 0 .sh s_.1 (fun hw1 hl2 => ?_)
 refine tN Qb Yn [1, 2, 3] [1, 2, 3] (po 3 (.flat) (px (Hy (n := (([] : List (List PV)).length + ((eL s_.1) : List (List PV)).length)) (B9 (rfl) (Ym s_.1) (by first | omega | (simp only [List.length_cons, List.length_nil]; omega) | (simp; omega) | simp))) (px (Ub (Wm s_.1)) p0))) ?_
 refine Qe ?_
 refine tu Qb [(1, .p 1 0), (2, .p 2 0), (3, .p 3 0), (4, .i 0)] [0] [(1, [.h s_.1, .h s_.2.1, .i s_.2.2]), (2, [.e 2, .e 5, .i 0]), (3, [.o 512 s_.1, .e 5, .i s_.2.2])] [] (p0) ?_
 refine wB 1 1 .sh s_.2.1 (fun hw3 hl4 => ?_)
 refine HQ Dr Ds s_.2.1 [] (fun k0 _ => [(4, .i ((k0 : Nat) : Int))]) [4] (fun _ s0 => [(3, [.o 512 s_.1, .o 147211 s0, .i s_.2.2])]) [3] (fun _ => []) [1, 4] (fun y0 => [(3, [.o 512 s_.1, .o 147361 y0, .i s_.2.2])]) [1, 3] (fun k0 s0 => List.length s0 ≤ k0) (F5 [(true, 3, 1, true, 320008, 5)] [] [] [(320008, 147211)] (by kernel_rfl)) (by simp) (fun k0 s0 hk0 hI0 => ?_) (fun k0 s0 hk0 hI0 => ?_) (fun y0 hD0 => ?_)
 ·
  have hA0_0 := hI0.2
  obtain ⟨a0, hx0⟩ := Xk (l := s_.2.1) (i := k0) hk0
  refine Qe ?_
  refine su Qb [(16, .b true)] [] [] [] (pl 3 s_.2.1 (pe 4 (Qs (decide_eq_true (p := ((k0 : Nat) : Int) < (s_.2.1.length : Int)) (by omega))) p0)) ?_
  refine ckT ?_
  refine Qj ?_
  refine Qe ?_
  refine Qt ?_
  refine wB 3 1 (.own true 147211) s0 (fun hw5 hl6 => ?_)
  refine rU Qb Yn [] [16] [(3, [.o 512 s_.1, .slc (.own true 1792) 5 ((eL s0) ++ [[.i ((Qo a0).1), .i ((Qo a0).2.1), .b ((Qo a0).2.2.1), .i ((Qo a0).2.2.2.1), .h ((Qo a0).2.2.2.2)]]), .i s_.2.2])] [3] (pn 5 hx0 (pc 7 (Im a0) (pa s0 [(Qo a0)] p0))) ?_
  refine eqn [] [] [(3, [.o 512 s_.1, .o 1792 (s0 ++ [(Qo a0)]), .i s_.2.2])] [3] (by rw [show ((eL s0) ++ [[.i ((Qo a0).1), .i ((Qo a0).2.1), .b ((Qo a0).2.2.1), .i ((Qo a0).2.2.2.1), .h ((Qo a0).2.2.2.2)]]) = (eL (s0 ++ [(Qo a0)])) from Ky (rfl) (rfl)]; first | done | kernel_rfl) ?_
  refine rn Qb [1, 2, 3, 4] [1, 2, 3] (pe 1 (Jb (Qv k0 (by omega))) p0) ?_
  exact Exists.intro (s0 ++ [(Qo a0)]) (And.intro (Xy [(1792, 147211)] (by kernel_rfl)) ⟨Qz hx0 (rfl) hI0.1, by first | omega | (simp; omega) | simp⟩)
 ·
  have hA0_0 := hI0.2
  refine Qe ?_
  refine su Qb [(16, .b false)] [] [] [] (pl 3 s_.2.1 (pe 4 (Qs (decide_eq_false (p := ((k0 : Nat) : Int) < (s_.2.1.length : Int)) (by omega))) p0)) ?_
  refine ckF ?_
  refine Q3 ?_
  exact Exists.intro _ (And.intro (Xy [(147211, 147361)] (by kernel_rfl)) (Xl hk0 (rfl) hI0.1))
 ·
  refine sn Qb [2] [2] (p0) ?_
  refine Qf ?_
  exact pz [] (show Ql s_ = _ from Wf hD0 (rfl)) (fun z => .a [.o 0 z.1, .o 1 z.2.1, .i z.2.2])
def Yg (s_ : Q5) (f : X4) : Q5 × Int × Bool := (bif ((!(Xh (Ql s_))) || (decide ((((Ql s_).2.1).length : Int) ≥ (12 : Int)) || (!(Xt ((Ql s_).1) ((Ql s_).2.2, (Qo f).2.1, (Qo f).2.2.1, (Qo f).2.2.2.1, (Qo f).2.2.2.2))))) then ((Ql s_), 0, false) else (((Ql s_).1, (Ql s_).2.1 ++ [((Ql s_).2.2, (Qo f).2.1, (Qo f).2.2.1, (Qo f).2.2.2.1, (Qo f).2.2.2.2)], IntKind.i64.wrap ((Ql s_).2.2 + 1)), (Ql s_).2.2, true))
theorem Ix (s_ : Q5) (f : X4) : ACalls Tryz.prog 75 [.a [.h s_.1, .h s_.2.1, .i s_.2.2], .a [.i f.1, .i f.2.1, .b f.2.2.1, .i f.2.2.2.1, .h f.2.2.2.2]] (.tup [(true, [.o 0 ((((Yg s_ f)).1).1), .o 1 ((((Yg s_ f)).1).2.1), .i ((((Yg s_ f)).1).2.2)]), (false, [.i (((Yg s_ f)).2.1)]), (false, [.b (((Yg s_ f)).2.2)])]) := by
 refine en Qb Tryz.func75 fun w0 F0 hG => ?_
 refine sn Qb [2, 3, 4, 5, 6] [2, 3, 4] (p0) ?_
 refine tn Qb [2, 3, 4, 5, 6] [2, 3, 4] (pc 1 (O9 s_) p0) ?_
 refine tu Qb [(2, .p 2 0), (3, .p 3 0), (4, .p 4 0), (5, .i 0), (6, .b false)] [0, 1] [(2, [.o 512 ((Ql s_).1), .o 513 ((Ql s_).2.1), .i ((Ql s_).2.2)]), (3, [.i ((Qo f).1), .i ((Qo f).2.1), .b ((Qo f).2.2.1), .i ((Qo f).2.2.2.1), .o 640 ((Qo f).2.2.2.2)]), (4, [.e 2, .e 5, .i 0])] [] (pc 1 (Im f) p0) ?_
 refine sn Qb [2, 3, 4, 5, 6] [2, 3, 4] (p0) ?_
 refine Qe ?_
 refine Qe ?_
 refine mz [] [] [(3, [.i ((Ql s_).2.2), .i ((Qo f).2.1), .b ((Qo f).2.2.1), .i ((Qo f).2.2.2.1), .o 640 ((Qo f).2.2.2.2)])] [3] ?_
 refine jn [(29, .b ((!(Xh (Ql s_))) || (decide ((((Ql s_).2.1).length : Int) ≥ (12 : Int)) || (!(Xt ((Ql s_).1) ((Ql s_).2.2, (Qo f).2.1, (Qo f).2.2.1, (Qo f).2.2.2.1, (Qo f).2.2.2.2))))))] [] [] [] (!(Xh (Ql s_))) (fun h1 => ?_) (fun h1 => ?_) ?_
 ·
  have h1n : (Xh (Ql s_)) = false := Wz h1
  refine ru Qb [(29, .b true)] [] [] [] (pc 1 (cb h1n (K9 (Ql s_))) (pe 2 (show .b (!false) = .b true from rfl) p0)) ?_
  exact ⟨rfl, Qd (by rw [h1]; first | done | kernel_rfl)⟩
 ·
  have h1n : (Xh (Ql s_)) = true := Je h1
  refine Xb (decide ((((Ql s_).2.1).length : Int) ≥ (12 : Int))) (fun h2 => ?_) (fun h2 => ?_)
  ·
   refine ru Qb [(29, .b true)] [] [] [] (pc 1 (cb h1n (K9 (Ql s_))) (pe 2 (show .b (!true) = .b false from rfl) (pl 6 ((Ql s_).2.1) (pt 7 h2 p0)))) ?_
   exact ⟨rfl, Qd (by rw [h1, h2]; first | done | kernel_rfl)⟩
  ·
   refine rn Qb [2, 3, 4, 5, 6, 29] [2, 3, 4] (pc 1 (cb h1n (K9 (Ql s_))) (pe 2 (show .b (!true) = .b false from rfl) (pl 6 ((Ql s_).2.1) (pf 7 h2 (pc 13 (U4 ((Ql s_).1) ((Ql s_).2.2, (Qo f).2.1, (Qo f).2.2.1, (Qo f).2.2.2.1, (Qo f).2.2.2.2)) p0))))) ?_
   exact ⟨rfl, Qd (by rw [h1, h2]; first | done | kernel_rfl)⟩
 refine ck ((!(Xh (Ql s_))) || (decide ((((Ql s_).2.1).length : Int) ≥ (12 : Int)) || (!(Xt ((Ql s_).1) ((Ql s_).2.2, (Qo f).2.1, (Qo f).2.2.1, (Qo f).2.2.2.1, (Qo f).2.2.2.2))))) (fun h3 => ?_) (fun h3 => ?_)
 ·
  refine sn Qb [2, 3, 4, 5, 6] [2, 3, 4] (p0) ?_
  refine Qf ?_
  exact pz [] (show Yg s_ f = _ from Q8 h3 (rfl)) (fun z => .tup [(true, [.o 0 z.1.1, .o 1 z.1.2.1, .i z.1.2.2]), (false, [.i z.2.1]), (false, [.b z.2.2])])
 ·
  have h3r : ((decide ((((Ql s_).2.1).length : Int) ≥ (12 : Int)) || (!(Xt ((Ql s_).1) ((Ql s_).2.2, (Qo f).2.1, (Qo f).2.2.1, (Qo f).2.2.2.1, (Qo f).2.2.2.2))))) = false := I0 h3
  have h3rl : (decide ((((Ql s_).2.1).length : Int) ≥ (12 : Int))) = false := Pq h3r
  have h3rld := of_decide_eq_false h3rl
  refine Qj ?_
  refine wB 2 1 (.own true 513) ((Ql s_).2.1) (fun hw4 hl5 => ?_)
  refine su Qb [] [29] [(2, [.o 512 ((Ql s_).1), .slc (.own true 2240) 5 ((eL ((Ql s_).2.1)) ++ [[.i ((Ql s_).2.2), .i ((Qo f).2.1), .b ((Qo f).2.2.1), .i ((Qo f).2.2.2.1), .h ((Qo f).2.2.2.2)]]), .i ((Ql s_).2.2)]), (3, [.i ((Ql s_).2.2), .i ((Qo f).2.1), .b ((Qo f).2.2.1), .i ((Qo f).2.2.2.1), .dead])] [2, 3] (pa ((Ql s_).2.1) [((Ql s_).2.2, (Qo f).2.1, (Qo f).2.2.1, (Qo f).2.2.2.1, (Qo f).2.2.2.2)] p0) ?_
  refine eqn [] [] [(2, [.o 512 ((Ql s_).1), .o 2240 ((Ql s_).2.1 ++ [((Ql s_).2.2, (Qo f).2.1, (Qo f).2.2.1, (Qo f).2.2.2.1, (Qo f).2.2.2.2)]), .i ((Ql s_).2.2)])] [2] (by rw [show ((eL ((Ql s_).2.1)) ++ [[.i ((Ql s_).2.2), .i ((Qo f).2.1), .b ((Qo f).2.2.1), .i ((Qo f).2.2.2.1), .h ((Qo f).2.2.2.2)]]) = (eL ((Ql s_).2.1 ++ [((Ql s_).2.2, (Qo f).2.1, (Qo f).2.2.1, (Qo f).2.2.2.1, (Qo f).2.2.2.2)])) from Ky (rfl) (rfl)]; first | done | kernel_rfl) ?_
  refine sn Qb [2, 3, 4, 5, 6] [2, 3, 4] (p0) ?_
  refine tN Qb Yn [4, 5, 6] [4] (p0) ?_
  refine Qf ?_
  exact pz [] (show Yg s_ f = _ from Qn h3 (rfl)) (fun z => .tup [(true, [.o 0 z.1.1, .o 1 z.1.2.1, .i z.1.2.2]), (false, [.i z.2.1]), (false, [.b z.2.2])])
def Jl (s_ : (List Zq)) : Q5 := (s_, [], 1)
theorem XD (s_ : (List Zq)) : ACalls Tryz.prog 73 [.h s_] (.a [.o 0 ((Jl s_).1), .o 1 ((Jl s_).2.1), .i ((Jl s_).2.2)]) := by
 refine en Qb Tryz.func73 fun w0 F0 hG => ?_
 refine sn Qb [0, 2] [2] (p0) ?_
 refine wT 0 0 .sh s_ (fun hw1 hl2 => ?_)
 refine tn Qb [2] [2] (po 2 (.flat) (px (Hy (n := (([] : List (List PV)).length + ((eL s_) : List (List PV)).length)) (B9 (rfl) (Ym s_) (by first | omega | (simp only [List.length_cons, List.length_nil]; omega) | (simp; omega) | simp))) (px (Ub (Wm s_)) p0))) ?_
 refine opn [(true, 2, 1, true, 384000, 5)] ?_
 refine Qf ?_
 exact pz [] (show Jl s_ = (s_, [], 1) from rfl) (fun z => .a [.o 0 z.1, .o 1 z.2.1, .i z.2.2])
def Zt (s_ : Q5) (id : Int) : Q5 × Bool := (bif ((!(Xh (Ql s_))) || decide ((Xj (Ql s_) id) < (0 : Int))) then ((Ql s_), false) else (((Ql s_).1, List.take (Int.toNat (Xj (Ql s_) id)) ((Ql s_).2.1) ++ (List.drop (Int.toNat ((Xj (Ql s_) id) + 1)) ((Ql s_).2.1)), (Ql s_).2.2), true))
theorem R1 (s_ : Q5) (id : Int) : ACalls Tryz.prog 77 [.a [.h s_.1, .h s_.2.1, .i s_.2.2], .i id] (.tup [(true, [.o 0 ((((Zt s_ id)).1).1), .q 1 ((((Zt s_ id)).1).2.1), .i ((((Zt s_ id)).1).2.2)]), (false, [.b (((Zt s_ id)).2)])]) := by
 refine en Qb Tryz.func77 fun w0 F0 hG => ?_
 refine sn Qb [1, 2, 4, 5] [2, 4] (p0) ?_
 refine tn Qb [1, 2, 4, 5] [2, 4] (pc 1 (O9 s_) p0) ?_
 refine tu Qb [(2, .p 2 0), (4, .p 4 0), (5, .b false), (6, .i (Xj (Ql s_) id))] [0, 1] [(2, [.o 512 ((Ql s_).1), .o 513 ((Ql s_).2.1), .i ((Ql s_).2.2)]), (4, [.e 2, .e 5, .i 0])] [] (pc 2 (M2 (Ql s_) id) p0) ?_
 refine Qe ?_
 refine Qe ?_
 refine jn [(18, .b ((!(Xh (Ql s_))) || decide ((Xj (Ql s_) id) < (0 : Int))))] [] [] [] (!(Xh (Ql s_))) (fun h1 => ?_) (fun h1 => ?_) ?_
 ·
  have h1n : (Xh (Ql s_)) = false := Wz h1
  refine rn Qb [2, 4, 5, 6, 18] [2, 4] (pc 1 (cb h1n (K9 (Ql s_))) (pe 2 (show .b (!false) = .b true from rfl) p0)) ?_
  exact ⟨rfl, Qd (by rw [h1]; first | done | kernel_rfl)⟩
 ·
  have h1n : (Xh (Ql s_)) = true := Je h1
  refine rn Qb [2, 4, 5, 6, 18] [2, 4] (pc 1 (cb h1n (K9 (Ql s_))) (pe 2 (show .b (!true) = .b false from rfl) p0)) ?_
  exact ⟨rfl, Qd (by rw [h1]; first | done | kernel_rfl)⟩
 refine ck ((!(Xh (Ql s_))) || decide ((Xj (Ql s_) id) < (0 : Int))) (fun h2 => ?_) (fun h2 => ?_)
 ·
  refine sn Qb [2, 4, 5, 6] [2, 4] (p0) ?_
  refine E9 [513] rfl ?_
  refine Qf ?_
  exact pz [] (show Zt s_ id = _ from Q8 h2 (rfl)) (fun z => .tup [(true, [.o 0 z.1.1, .q 1 z.1.2.1, .i z.1.2.2]), (false, [.b z.2])])
 ·
  have h2r : (decide ((Xj (Ql s_) id) < (0 : Int))) = false := I0 h2
  have h2rp := LA (Ql s_) id
  have h2rd := of_decide_eq_false h2r
  refine Qj ?_
  refine wB 2 1 (.own true 513) ((Ql s_).2.1) (fun hw3 hl4 => ?_)
  have hl5 : List.length (List.take (Int.toNat (Xj (Ql s_) id)) ((Ql s_).2.1)) ≤ 1073741824 := Af (Oi (Int.toNat (Xj (Ql s_) id)) (hw3))
  have hl6 : List.length (List.drop (Int.toNat ((Xj (Ql s_) id) + 1)) ((Ql s_).2.1)) ≤ 1073741824 := Af (Oj (Int.toNat ((Xj (Ql s_) id) + 1)) (hw3))
  refine G4 (Db [513] rfl) ?_
  refine sU Qb Yn [] [6, 18] [(2, [.o 512 ((Ql s_).1), .slc (.own false 1984) 5 (([] ++ (eL (List.take (Int.toNat (Xj (Ql s_) id)) ((Ql s_).2.1)))) ++ (eL (List.drop (Int.toNat ((Xj (Ql s_) id) + 1)) ((Ql s_).2.1)))), .i ((Ql s_).2.2)])] [2] (pe 4 (Lk .sh 5 (Int.toNat (Xj (Ql s_) id)) (Xj (Ql s_) id) ((Ql s_).2.1) rfl) (px (Ek (lo := 0) (hi := (Xj (Ql s_) id)) (n := (List.length (eL ((Ql s_).2.1)))) (Tj (by omega) (by omega) (by omega))) (px (Hy (n := (([] : List (List PV)).length + ((eL (List.take (Int.toNat (Xj (Ql s_) id)) ((Ql s_).2.1))) : List (List PV)).length)) (B9 (rfl) (Ym (List.take (Int.toNat (Xj (Ql s_) id)) ((Ql s_).2.1))) (by first | omega | (simp only [List.length_cons, List.length_nil]; omega) | (simp; omega) | simp))) (pe 9 (Jb (IntWalk.i64_in ((Xj (Ql s_) id) + 1) (by omega))) (pe 10 (ZU .sh 5 (Int.toNat ((Xj (Ql s_) id) + 1)) ((Xj (Ql s_) id) + 1) ((Ql s_).2.1) rfl) (px (Ek (lo := ((Xj (Ql s_) id) + 1)) (hi := (((eL ((Ql s_).2.1)) : List (List PV)).length : Int)) (n := (List.length (eL ((Ql s_).2.1)))) (ZV (by omega) (by omega))) (px (Hy (n := ((([] ++ (eL (List.take (Int.toNat (Xj (Ql s_) id)) ((Ql s_).2.1)))) : List (List PV)).length + ((eL (List.drop (Int.toNat ((Xj (Ql s_) id) + 1)) ((Ql s_).2.1))) : List (List PV)).length)) (by simp [Ym]; omega)) p0))))))) ?_
  refine eqn [] [] [(2, [.o 512 ((Ql s_).1), .q 1984 (List.take (Int.toNat (Xj (Ql s_) id)) ((Ql s_).2.1) ++ (List.drop (Int.toNat ((Xj (Ql s_) id) + 1)) ((Ql s_).2.1))), .i ((Ql s_).2.2)])] [2] (by rw [show (([] ++ (eL (List.take (Int.toNat (Xj (Ql s_) id)) ((Ql s_).2.1)))) ++ (eL (List.drop (Int.toNat ((Xj (Ql s_) id) + 1)) ((Ql s_).2.1)))) = (eL (List.take (Int.toNat (Xj (Ql s_) id)) ((Ql s_).2.1) ++ (List.drop (Int.toNat ((Xj (Ql s_) id) + 1)) ((Ql s_).2.1)))) from Ky (rfl) (rfl)]; first | done | kernel_rfl) ?_
  refine sn Qb [4, 5] [4] (p0) ?_
  refine Qf ?_
  exact pz [] (show Zt s_ id = _ from Qn h2 (rfl)) (fun z => .tup [(true, [.o 0 z.1.1, .q 1 z.1.2.1, .i z.1.2.2]), (false, [.b z.2])])
end Go.Proofs.YtockoklfegpgeaaGreat
namespace Go.Proofs.YtockoklfegpgeaaGreat
open Go.RowKit
structure VS (s : Q5) : Prop where
  sch : Jh s.1 = true
  len : s.2.1.length ≤ 12
  nx1 : 1 ≤ s.2.2
  nx2 : s.2.2 ≤ 61
  file : ∀ (i : Nat) (a : X4), s.2.1[i]? = some a → Xt s.1 a = true ∧ a.1 < s.2.2
  asc : ∀ (i : Nat) (a b : X4), s.2.1[i]? = some a → s.2.1[i+1]? = some b → a.1 < b.1
theorem JT {s : Q5} (h : VS s) : Xh s = true := by
  unfold Xh
  rw [Be (l := s.2.1) (k := 0) (fun i a hi => ?_)]
  · have h1 := h.len
    have h2 := h.nx1
    have h3 := h.nx2
    simp only [Out.on, Q6, h.sch, Bool.true_and]
    rw [decide_eq_true (show (s.2.1.length : Int) ≤ 12 by omega), decide_eq_true (show s.2.2 ≥ 1 from h2), decide_eq_true (show s.2.2 ≤ 61 from h3)]
    rfl
  · obtain ⟨h1, h2⟩ := h.file i a hi
    unfold Zl
    rw [h1, decide_eq_false (show ¬ a.1 ≥ s.2.2 by omega)]
    have e2 : (decide (((0 + i : Nat) : Int) > 0) && decide ((nth s.2.1 (Int.toNat (((0 + i : Nat) : Int) - 1))).1 ≥ a.1)) = false := by
      by_cases hp : 0 < i
      · have hlt : i - 1 < s.2.1.length := by have := (List.getElem?_eq_some_iff.1 hi).1; omega
        have h3 := h.asc (i - 1) _ a (Ho hlt) (by rw [show i - 1 + 1 = i by omega]; exact hi)
        rw [show Int.toNat (((0 + i : Nat) : Int) - 1) = i - 1 by omega, decide_eq_false (show ¬ (nth s.2.1 (i - 1)).1 ≥ a.1 by omega), Bool.and_false]
      · obtain rfl : i = 0 := by omega
        rfl
    rw [e2]
    rfl
theorem Qbv {s : Q5} (h : Xh s = true) : VS s := by
  unfold Xh at h
  cases hl : Xm (Zl s) Vm s.2.1 0 () with
  | brk t =>
    rw [hl] at h
    simp only [Out.on, Bool.and_eq_true, Q6, decide_eq_true_eq] at h
    obtain ⟨h1, h2, h3, h4⟩ := h
    have key : ∀ (i : Nat) (a : X4), s.2.1[i]? = some a → Xt s.1 a = true ∧ a.1 < s.2.2 ∧ (decide (((i : Nat) : Int) > 0) && decide ((nth s.2.1 (Int.toNat (((i : Nat) : Int) - 1))).1 ≥ a.1)) = false := fun i a hi => by
      have h5 := Fs (fun k a t => by unfold Zl; generalize (_ || _ : Bool) = c; cases c <;> simp) hl i a hi
      unfold Zl at h5
      rw [Nat.zero_add] at h5
      cases hv : Xt s.1 a with
      | false => rw [hv] at h5; simp at h5
      | true =>
        rw [hv] at h5
        cases hd : decide (a.1 ≥ s.2.2) with
        | true => rw [hd] at h5; simp at h5
        | false =>
          rw [hd] at h5
          refine ⟨rfl, by have := of_decide_eq_false hd; omega, ?_⟩
          generalize (decide (((i : Nat) : Int) > 0) && decide ((nth s.2.1 (Int.toNat (((i : Nat) : Int) - 1))).1 ≥ a.1)) = c at h5
          cases c with
          | true => simp at h5
          | false => rfl
    refine ⟨h1, by omega, h3, h4, fun i a hi => ⟨(key i a hi).1, (key i a hi).2.1⟩, fun i a b ha hb => ?_⟩
    have h5 := (key (i + 1) b hb).2.2
    rw [decide_eq_true (show ((i + 1 : Nat) : Int) > 0 by omega), Bool.true_and, show Int.toNat (((i + 1 : Nat) : Int) - 1) = i by omega, Lh ha] at h5
    have := of_decide_eq_false h5
    omega
  | ret r =>
    rw [hl] at h
    obtain rfl : r = true := h
    exfalso
    have key : ∀ (l : List X4) k, Xm (Zl s) Vm l k () ≠ .ret true := by
      intro l
      induction l with
      | nil => intro k h; simp [Xm] at h
      | cons a l ih =>
        intro k h
        simp only [Xm] at h
        unfold Zl at h
        split at h
        · exact ih _ h
        · cases h
        · rename_i r hf; cases h; revert hf; generalize (_ || _ : Bool) = c; cases c <;> simp
    exact key _ _ hl
theorem EJ (l : List X4) : ∀ (k : Nat) (s : List X4), Xm Dr Ds l k s = .brk (s ++ l) := fun k s => by
  rw [Ib (f := Dr) (e := Ds) (g := id) (fun _ _ _ => rfl), List.map_id]
  rfl
theorem TJ (s : Q5) : Ql s = s := by
  unfold Ql
  rw [EJ]
  rfl
theorem LC {s : Q5} {f : X4} (h : VS s) (hl : s.2.1.length < 12) (hn : s.2.2 ≤ 60) (hf : Xt s.1 (s.2.2, f.2) = true) : VS (s.1, s.2.1 ++ [(s.2.2, f.2)], s.2.2 + 1) := by
  have hcase : ∀ (i : Nat) (a : X4), (s.2.1 ++ [((s.2.2, f.2) : X4)])[i]? = some a → s.2.1[i]? = some a ∨ (i = s.2.1.length ∧ a = (s.2.2, f.2)) := fun i a hi => by
    rw [List.getElem?_append] at hi
    split at hi
    · exact .inl hi
    · right
      rename_i hge
      have : i - s.2.1.length = 0 := by
        have := (List.getElem?_eq_some_iff.1 hi).1
        simp at this; omega
      rw [this] at hi
      exact ⟨by omega, (Option.some.inj hi).symm⟩
  refine ⟨h.sch, by simp; omega, by have := h.nx1; show 1 ≤ s.2.2 + 1; omega, by show s.2.2 + 1 ≤ 61; omega, fun i a hi => ?_, fun i a b ha hb => ?_⟩
  · show Xt s.1 a = true ∧ a.1 < s.2.2 + 1
    rcases hcase i a hi with hi | ⟨_, rfl⟩
    · obtain ⟨h1, h2⟩ := h.file i a hi
      exact ⟨h1, by omega⟩
    · exact ⟨hf, by show s.2.2 < s.2.2 + 1; omega⟩
  · rcases hcase i a ha with ha | ⟨h1, rfl⟩
    · rcases hcase (i + 1) b hb with hb | ⟨_, rfl⟩
      · exact h.asc i a b ha hb
      · exact (h.file i a ha).2
    · rcases hcase (i + 1) b hb with hb | ⟨h2, _⟩
      · have := (List.getElem?_eq_some_iff.1 hb).1; omega
      · omega
theorem LD {s : Q5} {f : X4} (h : VS s) (hl : s.2.1.length < 12) (hn : s.2.2 ≤ 60) (hf : Xt s.1 (s.2.2, f.2) = true) : Yg s f = ((s.1, s.2.1 ++ [(s.2.2, f.2)], s.2.2 + 1), s.2.2, true) := by
  unfold Yg
  rw [TJ, JT h, decide_eq_false (show ¬ (s.2.1.length : Int) ≥ 12 by omega)]
  have hf' : Xt s.1 (s.2.2, (Qo f).2.1, (Qo f).2.2.1, (Qo f).2.2.2.1, (Qo f).2.2.2.2) = true := hf
  have h1 := h.nx1
  rw [hf', IntWalk.i64_in _ (show _ ∧ _ by omega)]
  rfl
theorem Qbw {s : List Zq} {f : X4} (h : Xt s f = true) : 1 ≤ f.1 ∧ f.1 ≤ 60 := by
  unfold Xt at h
  cases hl : Xm (Zc s f) Jy f.2.2.2.2 0 () with
  | brk t =>
    rw [hl] at h
    simp only [Out.on, Bool.and_eq_true, Q6, decide_eq_true_eq] at h
    exact h.2.1
  | ret r =>
    rw [hl] at h
    obtain rfl : r = true := h
    exfalso
    have key : ∀ (l : List Bf) k, Xm (Zc s f) Jy l k () ≠ .ret true := by
      intro l
      induction l with
      | nil => intro k h; simp [Xm] at h
      | cons a l ih =>
        intro k h
        simp only [Xm] at h
        unfold Zc at h
        split at h
        · exact ih _ h
        · cases h
        · rename_i r hf; cases h; revert hf; generalize (_ || _ : Bool) = c; cases c <;> simp
    exact key _ _ hl
theorem LE {s : Q5} (f : X4) (h : VS s) : VS (Yg s f).1 ∧ (Yg s f).1.1 = s.1 ∧ (Yg s f).1.2.1.length ≤ s.2.1.length + 1 ∧ s.2.1.length ≤ (Yg s f).1.2.1.length ∧ (Yg s f).1.2.2 ≤ s.2.2 + 1 := by
  by_cases hc : s.2.1.length < 12 ∧ Xt s.1 (s.2.2, f.2) = true
  · have hn : s.2.2 ≤ 60 := (Qbw hc.2).2
    rw [LD h hc.1 hn hc.2]
    exact ⟨LC h hc.1 hn hc.2, rfl, by simp, by simp, Int.le_refl _⟩
  · have e : (Yg s f).1 = s := by
      unfold Yg
      rw [TJ, JT h]
      by_cases h1 : s.2.1.length < 12
      · have h2 : Xt s.1 (s.2.2, f.2) ≠ true := fun h2 => hc ⟨h1, h2⟩
        have h3 : Xt s.1 (s.2.2, (Qo f).2.1, (Qo f).2.2.1, (Qo f).2.2.2.1, (Qo f).2.2.2.2) = false := Bool.eq_false_iff.2 h2
        rw [h3]
        simp
      · rw [decide_eq_true (show (s.2.1.length : Int) ≥ 12 by omega)]
        simp
    rw [e]
    exact ⟨h, rfl, by omega, by omega, by omega⟩
theorem LF {s : Q5} (id : Int) (h : VS s) : VS (Zt s id).1 ∧ (Zt s id).1.1 = s.1 ∧ (Zt s id).1.2.1.length ≤ s.2.1.length ∧ (Zt s id).1.2.2 = s.2.2 := by
  unfold Zt
  rw [TJ, JT h]
  by_cases hc : Xj s id < 0
  · rw [decide_eq_true hc]
    exact ⟨h, rfl, Nat.le_refl _, rfl⟩
  · rw [decide_eq_false hc]
    simp only [Bool.not_true, Bool.or_false, cond_false]
    have hb := LA s id
    generalize Xj s id = p at hc hb
    obtain ⟨k, rfl⟩ : ∃ k : Nat, p = (k : Int) := ⟨p.toNat, by omega⟩
    have e2 : Int.toNat ((k : Int) + 1) = k + 1 := by omega
    rw [e2, Int.toNat_natCast]
    have hk : k < s.2.1.length := by omega
    have hget : ∀ (i : Nat) (a : X4), (List.take k s.2.1 ++ List.drop (k + 1) s.2.1)[i]? = some a → s.2.1[if i < k then i else i + 1]? = some a := fun i a hi => by
      rw [List.getElem?_append, List.length_take, Nat.min_eq_left (by omega)] at hi
      split at hi
      · rename_i hlt
        rw [if_pos hlt]
        rwa [List.getElem?_take_of_lt hlt] at hi
      · rename_i hge
        rw [if_neg hge]
        rw [List.getElem?_drop] at hi
        rwa [show k + 1 + (i - k) = i + 1 by omega] at hi
    refine ⟨⟨h.sch, ?_, h.nx1, h.nx2, fun i a hi => h.file _ a (hget i a hi), fun i a b ha hb => ?_⟩, trivial, ?_, trivial⟩
    · have := h.len
      show (List.take k s.2.1 ++ List.drop (k + 1) s.2.1).length ≤ 12
      simp; omega
    · have ha := hget i a ha
      have hb := hget (i + 1) b hb
      by_cases h1 : i + 1 < k
      · rw [if_pos (by omega)] at ha
        rw [if_pos h1] at hb
        exact h.asc i a b ha hb
      · rw [if_neg h1] at hb
        by_cases h2 : i < k
        · rw [if_pos h2] at ha
          have hm : k < s.2.1.length := hk
          have h3 := h.asc i a _ ha (by rw [show i + 1 = k by omega]; exact Ho hm)
          have h4 := h.asc k _ b (Ho hm) (by rw [show k + 1 = i + 1 + 1 by omega]; exact hb)
          omega
        · rw [if_neg h2] at ha
          exact h.asc (i + 1) a b ha hb
    · show (List.take k s.2.1 ++ List.drop (k + 1) s.2.1).length ≤ s.2.1.length
      simp; omega
end Go.Proofs.YtockoklfegpgeaaGreat
namespace Go.Proofs.YtockoklfegpgeaaGreat
open Go.RowKit
theorem WR {R S T : Type} {f : S → Rd R S T} (hf : ∀ s r, f s ≠ .ret r) : ∀ n s r, whl f n s ≠ some (.ret r)
  | 0, _, _ => by simp [whl]
  | n + 1, s, r => by
    simp only [whl]
    cases h : f s with
    | next s' => exact WR hf n s' r
    | brk t => simp
    | ret r' => exact absurd h (hf s r')
theorem Mo {R S T : Type} [Inhabited T] {f : S → Rd R S T} (hf : ∀ s r, f s ≠ .ret r) (n : Nat) (s : S) : ∃ t, E0 f n s = .brk t := by
  unfold E0
  cases h : whl f n s with
  | none => exact ⟨default, rfl⟩
  | some o =>
    cases o with
    | brk t => exact ⟨t, rfl⟩
    | ret r => exact absurd h (WR hf n s r)
theorem LG {R S T : Type} {f : S → Rd R S T} (I : S → Prop) (J : T → Prop) (hn : ∀ s s', I s → f s = .next s' → I s') (hb : ∀ s t, I s → f s = .brk t → J t) : ∀ n s t, I s → whl f n s = some (.brk t) → J t
  | 0, _, _, _, h => by simp [whl] at h
  | n + 1, s, t, hi, h => by
    simp only [whl] at h
    cases hs : f s with
    | next s' => rw [hs] at h; exact LG I J hn hb n s' t (hn s s' hi hs) h
    | brk t' =>
      rw [hs] at h
      obtain rfl : t' = t := by simpa using h
      exact hb s t' hi hs
    | ret r => rw [hs] at h; simp at h
theorem Pa {R S T : Type} [Inhabited T] {f : S → Rd R S T} (I : S → Prop) (J : T → Prop) (hn : ∀ s s', I s → f s = .next s' → I s') (hb : ∀ s t, I s → f s = .brk t → J t) {n : Nat} {s : S} {t : T} (hi : I s) (hw : (whl f n s).isSome = true) (h : E0 f n s = .brk t) : J t :=
  LG I J hn hb n s t hi (by rw [Ca hw, h])
theorem Rg {α R S T : Type} {f : Nat → α → S → Rd R S T} {e : Nat → S → T} (hf : ∀ k a s r, f k a s ≠ .ret r) : ∀ (l : List α) (k : Nat) (s : S), ∃ t, Xm f e l k s = .brk t
  | [], k, s => ⟨_, rfl⟩
  | a :: l, k, s => by
    simp only [Xm]
    cases h : f k a s with
    | next s' => exact Rg hf l (k + 1) s'
    | brk t => exact ⟨t, rfl⟩
    | ret r => exact absurd h (hf k a s r)
theorem CQ {R S T : Type} {f : Nat → S → Rd R S T} {e : Nat → S → T} (I : Nat → S → Prop) (hn : ∀ k s, I k s → ∃ s', f k s = .next s' ∧ I (k + 1) s') : ∀ (n k : Nat) (s : S), I k s → ∃ s', Vz f e n k s = .brk (e (k + n) s') ∧ I (k + n) s'
  | 0, k, s, h => ⟨s, rfl, h⟩
  | n + 1, k, s, h => by
    obtain ⟨s', h1, h2⟩ := hn k s h
    obtain ⟨t, h3, h4⟩ := CQ I hn n (k + 1) s' h2
    rw [show k + 1 + n = k + (n + 1) by omega] at h3 h4
    exact ⟨t, by simp only [Vz, h1]; exact h3, h4⟩
theorem AN {R S T : Type} {f : S → Rd R S T} (I : S → Prop) (m : S → Int) (N : Int) (h : ∀ s s', I s → f s = .next s' → m s < N ∧ m s' = m s + 1 ∧ I s') : ∀ (n : Nat) (s : S), I s → N ≤ m s + n → (whl f (n + 1) s).isSome = true
  | 0, s, hi, hn => by
    simp only [whl]
    cases hs : f s with
    | next s' => have := (h s s' hi hs).1; omega
    | brk t => rfl
    | ret r => rfl
  | n + 1, s, hi, hn => by
    rw [whl]
    cases hs : f s with
    | next s' =>
      obtain ⟨h1, h2, h3⟩ := h s s' hi hs
      exact AN I m N h n s' h3 (by omega)
    | brk t => rfl
    | ret r => rfl
theorem PX {α R : Type} {t : α} {f : α → R} {P : R → Prop} (Q : α → Prop) (h : Q t) (k : ∀ x, Q x → P (f x)) : P (lt t f) := k t h
open GoE (enc wide)
def Y2 (code : (List UInt8)) (ci : Nat) (ch : Int) (n : Int) : Bool × Nat × Int := (lt (α := Int × Nat × Int) (Qk code ci ch n) (fun x1 => ((x1.1 == (0 : Int)), x1.2.1, x1.2.2)))
theorem Vc (code : (List UInt8)) (ci : Nat) (ch : Int) (n : Int) : AGive Tryz.prog 54 [.h code, .i ((ci : Nat) : Int), .i ch] [.i n] (.b (((Y2 code ci ch n)).1)) [.h code, .i ((((Y2 code ci ch n)).2.1 : Nat) : Int), .i (((Y2 code ci ch n)).2.2)] := by
 refine Kf (tt := tt) Qb Tryz.func54 (fn := Tryz.f54) rfl (by unfold C9; kernel_rfl) (Nat.le_of_ble_eq_true rfl) (Nat.le_of_ble_eq_true rfl) rfl rfl fun w0 F0 hG => ?_
 refine sn Qb [0, 1, 4] [60000] (p0) ?_
 obtain ⟨x1, hx1⟩ : ∃ z : Int × Nat × Int, Qk code ci ch n = z := ⟨_, rfl⟩
 have hbx1 := hx1 ▸ Qy code ci ch n
 refine tn Qb [0, 4] [60000] (po 2 (.give none (.i x1.1) [.h code, .i ((x1.2.1 : Nat) : Int), .i x1.2.2]) (px (Q2 (hx1 ▸ Q7 code ci ch n)) p0)) ?_
 refine Qf ?_
 have hE2 : Y2 code ci ch n = ((x1.1 == (0 : Int)), x1.2.1, x1.2.2) := Ys hx1 (rfl)
 exact He [] (congrArg (fun z => (.b z.1 : AV)) hE2.symm) (congrArg (fun z => ([.h code, .i ((z.2.1 : Nat) : Int), .i z.2.2] : List C)) hE2.symm)
def Ya (n : Int) : Wg := (1, n, ⟨#[]⟩)
theorem Hi (n : Int) : ACalls Tryz.prog 100 [.i n] (.a [.i ((Ya n).1), .i ((Ya n).2.1), .s ((Ya n).2.2)]) := by
 refine en Qb Tryz.func100 fun w0 F0 hG => ?_
 refine sn Qb [0, 2] [2] (p0) ?_
 refine tn Qb [2] [2] (p0) ?_
 refine Qf ?_
 exact pz [] (show Ya n = (1, n, ⟨#[]⟩) from rfl) (fun z => .a [.i z.1, .i z.2.1, .s z.2.2])
def Dt (name : ByteArray) (_ : Nat) (a0 : Bf) (s0 : (List Bf)) : Rd (X4) ((List Bf)) ((List Bf)) := (bif (!(a0.1.toList == name.toList)) then (.next (s0 ++ [a0])) else (.next s0))
def Hj (_ : Nat) (s0 : (List Bf)) : (List Bf) := s0
def Hk (name : ByteArray) (k1 : Nat) (a1 : Bf) (_ : Unit) : Rd (X4) (Unit) (Int) := (bif (Op.bytesLess a1.1.toList name.toList || a1.1.toList == name.toList) then (.next ()) else (.brk ((k1 : Nat) : Int)))
def Du (k1 : Nat) (_ : Unit) : Int := ((k1 : Nat) : Int)
def Xf (f : X4) (name : ByteArray) (v : Wg) : X4 := (Out.on (Xm (Dt name) Hj f.2.2.2.2 0 []) (fun y0 => (bif (v.1 != (0 : Int)) then (Out.on (Xm (Hk name) Du y0 0 ()) (fun y1 => (f.1, f.2.1, f.2.2.1, f.2.2.2.1, List.take (Int.toNat y1) y0 ++ [(name, v)] ++ (List.drop (Int.toNat y1) y0)))) else (f.1, f.2.1, f.2.2.1, f.2.2.2.1, y0))))
theorem WS (f : X4) (name : ByteArray) (v : Wg) : List.length (Xf f name v).2.2.2.2 ≤ List.length f.2.2.2.2 + 1 := by
  unfold Xf
  rw [Hz (f := Dt name) (e := Hj) (p := fun a => !(a.1.toList == name.toList)) (g := id) (fun _ _ _ => rfl)]
  simp only [Out.on, Hj, List.nil_append, List.map_id]
  have hf := List.length_filter_le (fun a : Bf => !(a.1.toList == name.toList)) f.2.2.2.2
  generalize List.filter (fun a : Bf => !(a.1.toList == name.toList)) f.2.2.2.2 = l at hf
  cases (v.1 != (0 : Int)) with
  | false => exact Nat.le_succ_of_le hf
  | true =>
    simp only [cond_true]
    obtain ⟨t, ht⟩ := Rg (f := Hk name) (e := Du) (fun k a s r => by
      unfold Hk
      generalize (Op.bytesLess a.1.toList name.toList || a.1.toList == name.toList) = c
      cases c <;> simp) l 0 ()
    rw [ht]
    · show (List.take (Int.toNat t) l ++ [(name, v)] ++ List.drop (Int.toNat t) l).length ≤ _
      simp
      omega
theorem QA {c : Bool} {α : Type} {t : α} {F : X4} {nm : ByteArray} {V : α → Wg} {A : α → Nat × Int} {B : Nat × Int} : List.length (bif c then lt t (fun x => (Xf F nm (V x), A x)) else (F, B)).1.2.2.2.2 ≤ F.2.2.2.2.length + 1 := by
 cases c with
 | true => exact WS _ _ _
 | false => exact Nat.le_succ _
theorem Ct (f : X4) (name : ByteArray) (v : Wg) (hp : List.length f.2.2.2.2 ≤ 1073741000) : ACalls Tryz.prog 99 [.a [.i f.1, .i f.2.1, .b f.2.2.1, .i f.2.2.2.1, .h f.2.2.2.2], .s name, .a [.i v.1, .i v.2.1, .s v.2.2]] (.a [.i ((Xf f name v).1), .i ((Xf f name v).2.1), .b ((Xf f name v).2.2.1), .i ((Xf f name v).2.2.2.1), .o 0 ((Xf f name v).2.2.2.2)]) := by
 refine en Qb Tryz.func99 fun w0 F0 hG => ?_
 refine sn Qb [1, 3, 5, 6] [3, 5, 6] (p0) ?_
 refine tn Qb [1, 3, 5, 6, 7] [3, 5, 6] (p0) ?_
 refine Qe ?_
 refine tu Qb [(3, .p 3 0), (5, .p 5 0), (6, .p 6 0), (7, .one (.slc (.own true 704) 4 [])), (8, .i 0)] [0, 2] [(3, [.i f.1, .i f.2.1, .b f.2.2.1, .i f.2.2.2.1, .h f.2.2.2.2]), (5, [.i v.1, .i v.2.1, .s v.2.2]), (6, [.i 0, .i 0, .b false, .i 0, .e 4])] [] (p0) ?_
 refine wB 3 4 .sh f.2.2.2.2 (fun hw1 hl2 => ?_)
 refine PG (Dt name) Hj f.2.2.2.2 [] (fun k0 s0 => [(7, .o 147204 s0), (8, .i ((k0 : Nat) : Int))]) [7, 8] (fun y0 => [(7, .o 147354 y0)]) [7, 8] (fun k0 s0 => List.length s0 ≤ k0) (fun y0 => List.length y0 ≤ List.length f.2.2.2.2) (Xy [(704, 147204)] (by kernel_rfl)) (by simp) (fun k0 s0 hk0 hI0 => ?_) (fun k0 s0 hk0 hI0 => ?_) (fun y0 hD0 => ?_)
 ·
  have hA0_0 := hI0.2
  obtain ⟨a0, hx0⟩ := Xk (l := f.2.2.2.2) (i := k0) hk0
  refine Qe ?_
  refine su Qb [(16, .b true)] [] [] [] (pl 3 f.2.2.2.2 (pe 4 (Qs (decide_eq_true (p := ((k0 : Nat) : Int) < (f.2.2.2.2.length : Int)) (by omega))) p0)) ?_
  refine ckT ?_
  refine Qj ?_
  refine Qe ?_
  refine Qt ?_
  refine sn Qb [1, 3, 5, 6, 7, 8, 26] [3, 5, 6] (pn 3 hx0 p0) ?_
  refine ck (!(a0.1.toList == name.toList)) (fun h3 => ?_) (fun h3 => ?_)
  ·
   refine wT 7 0 (.own true 147204) s0 (fun hw4 hl5 => ?_)
   refine qu Qb [(7, .one (.slc (.own true 2176) 4 ((eL s0) ++ [[.s a0.1, .i a0.2.1, .i a0.2.2.1, .s a0.2.2.2]])))] [7, 16] [] [] (pn 4 hx0 (pa s0 [a0] p0)) ?_
   refine eqn [(7, .o 2176 (s0 ++ [a0]))] [7] [] [] (by rw [show ((eL s0) ++ [[.s a0.1, .i a0.2.1, .i a0.2.2.1, .s a0.2.2.2]]) = (eL (s0 ++ [a0])) from Ky (rfl) (rfl)]; first | done | kernel_rfl) ?_
   refine rn Qb [1, 3, 5, 6, 7, 8] [3, 5, 6] (pe 1 (Jb (Qv k0 (by omega))) p0) ?_
   exact Exists.intro (s0 ++ [a0]) (And.intro (Xy [(2176, 147204)] (by kernel_rfl)) ⟨Qz hx0 (Q8 h3 (rfl)) hI0.1, by first | omega | (simp; omega) | simp⟩)
  ·
   refine Qj ?_
   refine qn Qb [1, 3, 5, 6, 7, 8] [3, 5, 6] (pe 1 (Jb (Qv k0 (by omega))) p0) ?_
   exact Exists.intro s0 (And.intro (Qd (by kernel_rfl)) ⟨Qz hx0 (Qn h3 (rfl)) hI0.1, by first | omega | (simp; omega) | simp⟩)
 ·
  have hA0_0 := hI0.2
  refine Qe ?_
  refine su Qb [(16, .b false)] [] [] [] (pl 3 f.2.2.2.2 (pe 4 (Qs (decide_eq_false (p := ((k0 : Nat) : Int) < (f.2.2.2.2.length : Int)) (by omega))) p0)) ?_
  refine ckF ?_
  refine Q3 ?_
  exact Exists.intro s0 (And.intro (Xy [(147204, 147354)] (by kernel_rfl)) ⟨Xl hk0 (rfl) hI0.1, by first | omega | (simp only [List.length_set]; omega)⟩)
 ·
  have hD0_0 := hD0.2
  refine Qe ?_
  refine sn Qb [1, 3, 5, 6, 7, 37] [3, 5, 6] (p0) ?_
  refine ck (v.1 != (0 : Int)) (fun h6 => ?_) (fun h6 => ?_)
  ·
   have h6d := Ll h6
   refine tu Qb [(9, .i 0)] [] [] [] (p0) ?_
   refine Qe ?_
   refine wT 7 0 (.own true 147354) y0 (fun hw7 hl8 => ?_)
   refine Qbp (Hk name) Du y0 () (fun k1 _ => [(9, .i ((k1 : Nat) : Int))]) [9] (fun y1 => [(9, .i y1)]) [9] (fun y1 => 0 ≤ y1 ∧ y1 ≤ (y0.length : Int)) (Qd (by kernel_rfl)) (fun k1 s1 hk1 hI1 => ?_) (fun k1 s1 hk1 hI1 => ?_) (fun y1 hD1 => ?_)
   ·
    obtain ⟨a1, hx1⟩ := Xk (l := y0) (i := k1) hk1
    refine Qe ?_
    refine sn Qb [1, 3, 5, 6, 7, 9, 50] [3, 5, 6] (pl 2 y0 (pe 3 (Qs (decide_eq_true (p := ((k1 : Nat) : Int) < (y0.length : Int)) (by omega))) (pN 7 hx1 p0))) ?_
    refine ck (Op.bytesLess a1.1.toList name.toList || a1.1.toList == name.toList) (fun h9 => ?_) (fun h9 => ?_)
    ·
     refine Qj ?_
     refine Qt ?_
     refine qn Qb [1, 3, 5, 6, 7, 9] [3, 5, 6] (pe 1 (Jb (Qv k1 (by omega))) p0) ?_
     exact Exists.intro _ (And.intro (Qd (by kernel_rfl)) (Qz hx1 (Q8 h9 (rfl)) hI1))
    ·
     refine Q3 ?_
     exact Exists.intro ((k1 : Nat) : Int) (And.intro (Qd (by kernel_rfl)) ⟨R9 hx1 (Qn h9 (rfl)) hI1, by first | omega | (simp only [List.length_set]; omega)⟩)
   ·
    refine Qe ?_
    refine su Qb [(50, .b false)] [] [] [] (pl 2 y0 (pe 3 (Qs (decide_eq_false (p := ((k1 : Nat) : Int) < (y0.length : Int)) (by omega))) p0)) ?_
    refine ckF ?_
    refine Q3 ?_
    exact Exists.intro ((k1 : Nat) : Int) (And.intro (Qd (by kernel_rfl)) ⟨Xl hk1 (rfl) hI1, by first | omega | (simp only [List.length_set]; omega)⟩)
   ·
    have hD1_0 := hD1.2
    have hl10 : List.length (List.take (Int.toNat y1) y0) ≤ 1073741824 := Af (Oi (Int.toNat y1) (hw7))
    refine sU Qb Yn [(10, .one (.slc (.own true 3968) 4 (([] ++ (eL (List.take (Int.toNat y1) y0))) ++ [[.s name, .i v.1, .i v.2.1, .s v.2.2]])))] [1, 5] [] [5] (pe 3 (Lk (.vw 147354) 4 (Int.toNat y1) y1 y0 rfl) (px (Ek (lo := 0) (hi := y1) (n := (List.length (eL y0))) (Tj (by omega) (by omega) (by omega))) (po 4 (.flat) (px (Hy (n := (([] : List (List PV)).length + ((eL (List.take (Int.toNat y1) y0)) : List (List PV)).length)) (B9 (rfl) (Ym (List.take (Int.toNat y1) y0)) (by first | omega | (simp only [List.length_cons, List.length_nil]; omega) | (simp; omega) | simp))) (px (Ub (Wm (List.take (Int.toNat y1) y0))) (px (Hy (n := ((([] ++ (eL (List.take (Int.toNat y1) y0))) : List (List PV)).length + ([[.s name, .i v.1, .i v.2.1, .s v.2.2]] : List (List PV)).length)) (by simp [Ym]; omega)) p0)))))) ?_
    refine eqn [(10, .o 3968 (List.take (Int.toNat y1) y0 ++ [(name, v)]))] [10] [] [] (by rw [show (([] ++ (eL (List.take (Int.toNat y1) y0))) ++ [[.s name, .i v.1, .i v.2.1, .s v.2.2]]) = (eL (List.take (Int.toNat y1) y0 ++ [(name, v)])) from Ky (rfl) (rfl)]; first | done | kernel_rfl) ?_
    refine wT 10 0 (.own true 3968) (List.take (Int.toNat y1) y0 ++ [(name, v)]) (fun hw11 hl12 => ?_)
    have hl13 : List.length (List.drop (Int.toNat y1) y0) ≤ 1073741824 := Af (Oj (Int.toNat y1) (hw7))
    refine ru Qb [(7, .one (.slc (.own true 4288) 4 ((eL (List.take (Int.toNat y1) y0 ++ [(name, v)])) ++ (eL (List.drop (Int.toNat y1) y0)))))] [7, 9, 10] [] [] (pe 3 (ZU (.vw 147354) 4 (Int.toNat y1) y1 y0 rfl) (px (Ek (lo := y1) (hi := (((eL y0) : List (List PV)).length : Int)) (n := (List.length (eL y0))) (ZV (by omega) (by omega))) (po 4 (.flat) (pa (List.take (Int.toNat y1) y0 ++ [(name, v)]) (List.drop (Int.toNat y1) y0) (px (Ub (Wm (List.drop (Int.toNat y1) y0))) p0))))) ?_
    refine eqn [(7, .o 4288 (List.take (Int.toNat y1) y0 ++ [(name, v)] ++ (List.drop (Int.toNat y1) y0)))] [7] [] [] (by rw [show ((eL (List.take (Int.toNat y1) y0 ++ [(name, v)])) ++ (eL (List.drop (Int.toNat y1) y0))) = (eL (List.take (Int.toNat y1) y0 ++ [(name, v)] ++ (List.drop (Int.toNat y1) y0))) from Ky (rfl) (rfl)]; first | done | kernel_rfl) ?_
    refine sn Qb [3, 6] [3, 6] (p0) ?_
    refine tn Qb [6] [6] (p0) ?_
    refine Qf ?_
    exact pz [] (show Xf f name v = _ from Wf hD0.1 (Q8 h6 (Wf hD1.1 (rfl)))) (fun z => .a [.i z.1, .i z.2.1, .b z.2.2.1, .i z.2.2.2.1, .o 0 z.2.2.2.2])
  ·
   refine Qj ?_
   refine tn Qb [3, 6] [3, 6] (p0) ?_
   refine tu Qb [] [1, 3, 5, 7] [(6, [.i f.1, .i f.2.1, .b f.2.2.1, .i f.2.2.2.1, .o 147354 y0])] [3, 5, 6] (p0) ?_
   refine Qf ?_
   exact pz [] (show Xf f name v = _ from Wf hD0.1 (Qn h6 (rfl))) (fun z => .a [.i z.1, .i z.2.1, .b z.2.2.1, .i z.2.2.2.1, .o 0 z.2.2.2.2])
def Yd (code : (List UInt8)) (ci : Nat) (ch : Int) (list : (List ByteArray)) : ByteArray × Nat × Int := (lt (α := Int × Nat × Int) (Qk code ci ch (list.length : Int)) (fun x1 => ((nth list (Int.toNat x1.1)), x1.2.1, x1.2.2)))
theorem Kh (code : (List UInt8)) (ci : Nat) (ch : Int) (list : (List ByteArray)) (hp : 0 < List.length list) : AGive Tryz.prog 82 [.h code, .i ((ci : Nat) : Int), .i ch] [.h list] (.s (((Yd code ci ch list)).1)) [.h code, .i ((((Yd code ci ch list)).2.1 : Nat) : Int), .i (((Yd code ci ch list)).2.2)] := by
 refine Kf (tt := tt) Qb Tryz.func82 (fn := Tryz.f82) rfl (by unfold C9; kernel_rfl) (Nat.le_of_ble_eq_true rfl) (Nat.le_of_ble_eq_true rfl) rfl rfl fun w0 F0 hG => ?_
 refine sn Qb [0, 1, 4] [60000] (p0) ?_
 obtain ⟨x1, hx1⟩ : ∃ z : Int × Nat × Int, Qk code ci ch (list.length : Int) = z := ⟨_, rfl⟩
 have hbx1 := hx1 ▸ Qy code ci ch (list.length : Int)
 refine wT 1 0 .sh list (fun hw3 hl4 => ?_)
 have hx2 := ng list (Int.toNat x1.1)
 refine tn Qb [0, 4] [60000] (pl 3 list (po 4 (.give none (.i x1.1) [.h code, .i ((x1.2.1 : Nat) : Int), .i x1.2.2]) (px (Q2 (hx1 ▸ Q7 code ci ch (list.length : Int))) (pg 5 x1.1 hx2 p0)))) ?_
 refine Qf ?_
 have hE5 : Yd code ci ch list = ((nth list (Int.toNat x1.1)), x1.2.1, x1.2.2) := Ys hx1 (rfl)
 exact He [] (congrArg (fun z => (.s z.1 : AV)) hE5.symm) (congrArg (fun z => ([.h code, .i ((z.2.1 : Nat) : Int), .i z.2.2] : List C)) hE5.symm)
def Xc (w : ByteArray) : Wg := (2, 0, w)
theorem U5 (w : ByteArray) : ACalls Tryz.prog 101 [.s w] (.a [.i ((Xc w).1), .i ((Xc w).2.1), .s ((Xc w).2.2)]) := by
 refine en Qb Tryz.func101 fun w0 F0 hG => ?_
 refine sn Qb [0, 2] [2] (p0) ?_
 refine tn Qb [2] [2] (p0) ?_
 refine Qf ?_
 exact pz [] (show Xc w = (2, 0, w) from rfl) (fun z => .a [.i z.1, .i z.2.1, .s z.2.2])
def Jo (code : (List UInt8)) (ci : Nat) (ch : Int) (id : Int) : X4 × Nat × Int := (lt (α := Int × Nat × Int) (Qk code ci ch 3) (fun x1 => (lt (α := Bool × Nat × Int) (Y2 code x1.2.1 x1.2.2 2) (fun x2 => (lt (α := Bool × Nat × Int) (Y2 code x2.2.1 x2.2.2 2) (fun x3 => (lt (α := Int × Nat × Int) (bif x3.1 then (lt (α := Int × Nat × Int) (Qk code x3.2.1 x3.2.2 7) (fun x4 => (x4.1, x4.2.1, x4.2.2))) else (0, x3.2.1, x3.2.2)) (fun x4 => (lt (α := Bool × Nat × Int) (Y2 code x4.2.1 x4.2.2 4) (fun x7 => (lt (α := X4 × Nat × Int) (bif (!x7.1) then (lt (α := Int × Nat × Int) (Qk code x7.2.1 x7.2.2 4) (fun x8 => ((Xf (id, x1.1, x2.1, x4.1, []) ⟨#[97]⟩ (Ya x8.1)), x8.2.1, x8.2.2))) else ((id, x1.1, x2.1, x4.1, []), x7.2.1, x7.2.2)) (fun x8 => (lt (α := Bool × Nat × Int) (Y2 code x8.2.1 x8.2.2 2) (fun x11 => (lt (α := X4 × Nat × Int) (bif x11.1 then (lt (α := Int × Nat × Int) (Qk code x11.2.1 x11.2.2 4) (fun x12 => ((Xf x8.1 ⟨#[98]⟩ (Ya x12.1)), x12.2.1, x12.2.2))) else (x8.1, x11.2.1, x11.2.2)) (fun x12 => (lt (α := Bool × Nat × Int) (Y2 code x12.2.1 x12.2.2 3) (fun x15 => (lt (α := X4 × Nat × Int) (bif (!x15.1) then (lt (α := ByteArray × Nat × Int) (Yd code x15.2.1 x15.2.2 [⟨#[105, 110, 107]⟩, ⟨#[115, 101, 97]⟩]) (fun x16 => ((Xf x12.1 ⟨#[110]⟩ (Xc x16.1)), x16.2.1, x16.2.2))) else (x12.1, x15.2.1, x15.2.2)) (fun x16 => (lt (α := Bool × Nat × Int) (Y2 code x16.2.1 x16.2.2 2) (fun x19 => (bif x19.1 then (lt (α := ByteArray × Nat × Int) (Yd code x19.2.1 x19.2.2 [⟨#[114, 101, 100]⟩, ⟨#[98, 108, 117, 101]⟩]) (fun x21 => ((Xf x16.1 ⟨#[116]⟩ (Xc x21.1)), x21.2.1, x21.2.2))) else (x16.1, x19.2.1, x19.2.2))))))))))))))))))))))))
theorem Io (code : (List UInt8)) (ci : Nat) (ch : Int) (id : Int) : AGive Tryz.prog 76 [.h code, .i ((ci : Nat) : Int), .i ch] [.i id] (.a [.i ((((Jo code ci ch id)).1).1), .i ((((Jo code ci ch id)).1).2.1), .b ((((Jo code ci ch id)).1).2.2.1), .i ((((Jo code ci ch id)).1).2.2.2.1), .o 0 ((((Jo code ci ch id)).1).2.2.2.2)]) [.h code, .i ((((Jo code ci ch id)).2.1 : Nat) : Int), .i (((Jo code ci ch id)).2.2)] := by
 refine Kf (tt := tt) Qb Tryz.func76 (fn := Tryz.f76) rfl (by unfold C9; kernel_rfl) (Nat.le_of_ble_eq_true rfl) (Nat.le_of_ble_eq_true rfl) rfl rfl fun w0 F0 hG => ?_
 refine sn Qb [0, 1, 4] [4, 60000] (p0) ?_
 obtain ⟨x1, hx1⟩ : ∃ z : Int × Nat × Int, Qk code ci ch 3 = z := ⟨_, rfl⟩
 have hbx1 := hx1 ▸ Qy code ci ch 3
 obtain ⟨x2, hx2⟩ : ∃ z : Bool × Nat × Int, Y2 code x1.2.1 x1.2.2 2 = z := ⟨_, rfl⟩
 refine tn Qb [0, 4, 5] [4, 5, 60000] (po 2 (.give none (.i x1.1) [.h code, .i ((x1.2.1 : Nat) : Int), .i x1.2.2]) (px (Q2 (hx1 ▸ Q7 code ci ch 3)) (po 4 (.give none (.b x2.1) [.h code, .i ((x2.2.1 : Nat) : Int), .i x2.2.2]) (px (Q2 (hx2 ▸ Vc code x1.2.1 x1.2.2 2)) p0)))) ?_
 refine Qe ?_
 obtain ⟨x3, hx3⟩ : ∃ z : Bool × Nat × Int, Y2 code x2.2.1 x2.2.2 2 = z := ⟨_, rfl⟩
 refine tu Qb [(4, .p 4 0), (5, .p 5 0), (13, .b x3.1)] [1] [(4, [.i 0, .i 0, .b false, .i 0, .e 4]), (5, [.i id, .i x1.1, .b x2.1, .i 0, .e 4]), (60000, [.h code, .i ((x3.2.1 : Nat) : Int), .i x3.2.2])] [60000] (po 1 (.give none (.b x3.1) [.h code, .i ((x3.2.1 : Nat) : Int), .i x3.2.2]) (px (Q2 (hx3 ▸ Vc code x2.2.1 x2.2.2 2)) p0)) ?_
 obtain ⟨x4, hx4⟩ : ∃ z : Int × Nat × Int, (bif x3.1 then (lt (α := Int × Nat × Int) (Qk code x3.2.1 x3.2.2 7) (fun x4 => (x4.1, x4.2.1, x4.2.2))) else (0, x3.2.1, x3.2.2)) = z := ⟨_, rfl⟩
 refine jn [] [13] [(5, [.i id, .i x1.1, .b x2.1, .i x4.1, .e 4]), (60000, [.h code, .i ((x4.2.1 : Nat) : Int), .i x4.2.2])] [5, 60000] x3.1 (fun h5 => ?_) (fun h5 => ?_) ?_
 ·
  refine ckt h5 ?_
  obtain ⟨x6, hx6⟩ : ∃ z : Int × Nat × Int, Qk code x3.2.1 x3.2.2 7 = z := ⟨_, rfl⟩
  have hbx6 := hx6 ▸ Qy code x3.2.1 x3.2.2 7
  refine rn Qb [0, 4, 5] [4, 5, 60000] (po 1 (.give none (.i x6.1) [.h code, .i ((x6.2.1 : Nat) : Int), .i x6.2.2]) (px (Q2 (hx6 ▸ Q7 code x3.2.1 x3.2.2 7)) p0)) ?_
  obtain rfl : x4 = (x6.1, x6.2.1, x6.2.2) := hx4.symm.trans (show (bif x3.1 then (lt (α := Int × Nat × Int) (Qk code x3.2.1 x3.2.2 7) (fun x4 => (x4.1, x4.2.1, x4.2.2))) else (0, x3.2.1, x3.2.2)) = (x6.1, x6.2.1, x6.2.2) from Q8 h5 (Ys hx6 (rfl)))
  exact ⟨rfl, Qd (by kernel_rfl)⟩
 ·
  refine ckf h5 ?_
  refine Qj ?_
  obtain rfl : x4 = (0, x3.2.1, x3.2.2) := hx4.symm.trans (show (bif x3.1 then (lt (α := Int × Nat × Int) (Qk code x3.2.1 x3.2.2 7) (fun x4 => (x4.1, x4.2.1, x4.2.2))) else (0, x3.2.1, x3.2.2)) = (0, x3.2.1, x3.2.2) from Qn h5 (rfl))
  exact ⟨rfl, Qd (by kernel_rfl)⟩
 refine Qe ?_
 obtain ⟨x7, hx7⟩ : ∃ z : Bool × Nat × Int, Y2 code x4.2.1 x4.2.2 4 = z := ⟨_, rfl⟩
 refine sn Qb [0, 4, 5, 19] [4, 5, 60000] (po 1 (.give none (.b x7.1) [.h code, .i ((x7.2.1 : Nat) : Int), .i x7.2.2]) (px (Q2 (hx7 ▸ Vc code x4.2.1 x4.2.2 4)) p0)) ?_
 refine mz [(19, .b (!x7.1))] [] [(60000, [.h code, .i ((x7.2.1 : Nat) : Int), .i x7.2.2])] [60000] ?_
 obtain ⟨x8, hx8⟩ : ∃ z : X4 × Nat × Int, (bif (!x7.1) then (lt (α := Int × Nat × Int) (Qk code x7.2.1 x7.2.2 4) (fun x8 => ((Xf (id, x1.1, x2.1, x4.1, []) ⟨#[97]⟩ (Ya x8.1)), x8.2.1, x8.2.2))) else ((id, x1.1, x2.1, x4.1, []), x7.2.1, x7.2.2)) = z := ⟨_, rfl⟩
 have hjx8 : List.length x8.1.2.2.2.2 ≤ 1 := by rw [← hx8]; exact Nat.le_trans QA (by first | omega | simp)
 refine jn [] [19] [(5, [.i x8.1.1, .i x8.1.2.1, .b x8.1.2.2.1, .i x8.1.2.2.2.1, .o 448768 x8.1.2.2.2.2]), (60000, [.h code, .i ((x8.2.1 : Nat) : Int), .i x8.2.2])] [5, 60000] (!x7.1) (fun h9 => ?_) (fun h9 => ?_) ?_
 ·
  refine ckt h9 ?_
  obtain ⟨x10, hx10⟩ : ∃ z : Int × Nat × Int, Qk code x7.2.1 x7.2.2 4 = z := ⟨_, rfl⟩
  have hbx10 := hx10 ▸ Qy code x7.2.1 x7.2.2 4
  refine rN Qb Yn [0, 4, 5] [4, 5, 60000] (po 2 (.give none (.i x10.1) [.h code, .i ((x10.2.1 : Nat) : Int), .i x10.2.2]) (px (Q2 (hx10 ▸ Q7 code x7.2.1 x7.2.2 4)) (pc 3 (Hi x10.1) (pc 4 (Ct (id, x1.1, x2.1, x4.1, []) ⟨#[97]⟩ (Ya x10.1) (by first | omega | (simp; done) | (simp; omega))) p0)))) ?_
  obtain rfl : x8 = ((Xf (id, x1.1, x2.1, x4.1, []) ⟨#[97]⟩ (Ya x10.1)), x10.2.1, x10.2.2) := hx8.symm.trans (show (bif (!x7.1) then (lt (α := Int × Nat × Int) (Qk code x7.2.1 x7.2.2 4) (fun x8 => ((Xf (id, x1.1, x2.1, x4.1, []) ⟨#[97]⟩ (Ya x8.1)), x8.2.1, x8.2.2))) else ((id, x1.1, x2.1, x4.1, []), x7.2.1, x7.2.2)) = ((Xf (id, x1.1, x2.1, x4.1, []) ⟨#[97]⟩ (Ya x10.1)), x10.2.1, x10.2.2) from Q8 h9 (Ys hx10 (rfl)))
  exact ⟨rfl, Xy [(1536, 448768)] (by kernel_rfl)⟩
 ·
  refine ckf h9 ?_
  refine Qj ?_
  obtain rfl : x8 = ((id, x1.1, x2.1, x4.1, []), x7.2.1, x7.2.2) := hx8.symm.trans (show (bif (!x7.1) then (lt (α := Int × Nat × Int) (Qk code x7.2.1 x7.2.2 4) (fun x8 => ((Xf (id, x1.1, x2.1, x4.1, []) ⟨#[97]⟩ (Ya x8.1)), x8.2.1, x8.2.2))) else ((id, x1.1, x2.1, x4.1, []), x7.2.1, x7.2.2)) = ((id, x1.1, x2.1, x4.1, []), x7.2.1, x7.2.2) from Qn h9 (rfl))
  exact ⟨rfl, F5 [(true, 5, 4, true, 320008, 4)] [] [] [(320008, 448768)] (by kernel_rfl)⟩
 refine Qe ?_
 obtain ⟨x11, hx11⟩ : ∃ z : Bool × Nat × Int, Y2 code x8.2.1 x8.2.2 2 = z := ⟨_, rfl⟩
 refine sn Qb [0, 4, 5, 26] [4, 5, 60000] (po 1 (.give none (.b x11.1) [.h code, .i ((x11.2.1 : Nat) : Int), .i x11.2.2]) (px (Q2 (hx11 ▸ Vc code x8.2.1 x8.2.2 2)) p0)) ?_
 refine mz [(26, .b x11.1)] [] [(60000, [.h code, .i ((x11.2.1 : Nat) : Int), .i x11.2.2])] [60000] ?_
 obtain ⟨x12, hx12⟩ : ∃ z : X4 × Nat × Int, (bif x11.1 then (lt (α := Int × Nat × Int) (Qk code x11.2.1 x11.2.2 4) (fun x12 => ((Xf x8.1 ⟨#[98]⟩ (Ya x12.1)), x12.2.1, x12.2.2))) else (x8.1, x11.2.1, x11.2.2)) = z := ⟨_, rfl⟩
 have hjx12 : List.length x12.1.2.2.2.2 ≤ 2 := by rw [← hx12]; exact Nat.le_trans QA (by first | omega | simp)
 refine jn [] [26] [(5, [.i x12.1.1, .i x12.1.2.1, .b x12.1.2.2.1, .i x12.1.2.2.2.1, .o 448768 x12.1.2.2.2.2]), (60000, [.h code, .i ((x12.2.1 : Nat) : Int), .i x12.2.2])] [5, 60000] x11.1 (fun h13 => ?_) (fun h13 => ?_) ?_
 ·
  refine ckt h13 ?_
  obtain ⟨x14, hx14⟩ : ∃ z : Int × Nat × Int, Qk code x11.2.1 x11.2.2 4 = z := ⟨_, rfl⟩
  have hbx14 := hx14 ▸ Qy code x11.2.1 x11.2.2 4
  refine rN Qb Yn [0, 4, 5] [4, 5, 60000] (po 2 (.give none (.i x14.1) [.h code, .i ((x14.2.1 : Nat) : Int), .i x14.2.2]) (px (Q2 (hx14 ▸ Q7 code x11.2.1 x11.2.2 4)) (pc 3 (Hi x14.1) (pc 4 (Ct x8.1 ⟨#[98]⟩ (Ya x14.1) (by first | omega | (simp; done) | (simp; omega))) p0)))) ?_
  obtain rfl : x12 = ((Xf x8.1 ⟨#[98]⟩ (Ya x14.1)), x14.2.1, x14.2.2) := hx12.symm.trans (show (bif x11.1 then (lt (α := Int × Nat × Int) (Qk code x11.2.1 x11.2.2 4) (fun x12 => ((Xf x8.1 ⟨#[98]⟩ (Ya x12.1)), x12.2.1, x12.2.2))) else (x8.1, x11.2.1, x11.2.2)) = ((Xf x8.1 ⟨#[98]⟩ (Ya x14.1)), x14.2.1, x14.2.2) from Q8 h13 (Ys hx14 (rfl)))
  exact ⟨rfl, Xy [(1984, 448768)] (by kernel_rfl)⟩
 ·
  refine ckf h13 ?_
  refine Qj ?_
  obtain rfl : x12 = (x8.1, x11.2.1, x11.2.2) := hx12.symm.trans (show (bif x11.1 then (lt (α := Int × Nat × Int) (Qk code x11.2.1 x11.2.2 4) (fun x12 => ((Xf x8.1 ⟨#[98]⟩ (Ya x12.1)), x12.2.1, x12.2.2))) else (x8.1, x11.2.1, x11.2.2)) = (x8.1, x11.2.1, x11.2.2) from Qn h13 (rfl))
  exact ⟨rfl, Qd (by kernel_rfl)⟩
 refine Qe ?_
 obtain ⟨x15, hx15⟩ : ∃ z : Bool × Nat × Int, Y2 code x12.2.1 x12.2.2 3 = z := ⟨_, rfl⟩
 refine sn Qb [0, 4, 5, 34] [4, 5, 60000] (po 1 (.give none (.b x15.1) [.h code, .i ((x15.2.1 : Nat) : Int), .i x15.2.2]) (px (Q2 (hx15 ▸ Vc code x12.2.1 x12.2.2 3)) p0)) ?_
 refine mz [(34, .b (!x15.1))] [] [(60000, [.h code, .i ((x15.2.1 : Nat) : Int), .i x15.2.2])] [60000] ?_
 obtain ⟨x16, hx16⟩ : ∃ z : X4 × Nat × Int, (bif (!x15.1) then (lt (α := ByteArray × Nat × Int) (Yd code x15.2.1 x15.2.2 [⟨#[105, 110, 107]⟩, ⟨#[115, 101, 97]⟩]) (fun x16 => ((Xf x12.1 ⟨#[110]⟩ (Xc x16.1)), x16.2.1, x16.2.2))) else (x12.1, x15.2.1, x15.2.2)) = z := ⟨_, rfl⟩
 have hjx16 : List.length x16.1.2.2.2.2 ≤ 3 := by rw [← hx16]; exact Nat.le_trans QA (by first | omega | simp)
 refine jn [] [34] [(5, [.i x16.1.1, .i x16.1.2.1, .b x16.1.2.2.1, .i x16.1.2.2.2.1, .o 448768 x16.1.2.2.2.2]), (60000, [.h code, .i ((x16.2.1 : Nat) : Int), .i x16.2.2])] [5, 60000] (!x15.1) (fun h17 => ?_) (fun h17 => ?_) ?_
 ·
  refine ckt h17 ?_
  obtain ⟨x18, hx18⟩ : ∃ z : ByteArray × Nat × Int, Yd code x15.2.1 x15.2.2 [⟨#[105, 110, 107]⟩, ⟨#[115, 101, 97]⟩] = z := ⟨_, rfl⟩
  refine rN Qb Yn [0, 4, 5] [4, 5, 60000] (po 3 (.give none (.s x18.1) [.h code, .i ((x18.2.1 : Nat) : Int), .i x18.2.2]) (px (Q2 (hx18 ▸ Kh code x15.2.1 x15.2.2 [⟨#[105, 110, 107]⟩, ⟨#[115, 101, 97]⟩] (Nat.zero_lt_succ _))) (pc 4 (U5 x18.1) (pc 5 (Ct x12.1 ⟨#[110]⟩ (Xc x18.1) (by first | omega | (simp; done) | (simp; omega))) p0)))) ?_
  obtain rfl : x16 = ((Xf x12.1 ⟨#[110]⟩ (Xc x18.1)), x18.2.1, x18.2.2) := hx16.symm.trans (show (bif (!x15.1) then (lt (α := ByteArray × Nat × Int) (Yd code x15.2.1 x15.2.2 [⟨#[105, 110, 107]⟩, ⟨#[115, 101, 97]⟩]) (fun x16 => ((Xf x12.1 ⟨#[110]⟩ (Xc x16.1)), x16.2.1, x16.2.2))) else (x12.1, x15.2.1, x15.2.2)) = ((Xf x12.1 ⟨#[110]⟩ (Xc x18.1)), x18.2.1, x18.2.2) from Q8 h17 (Ys hx18 (rfl)))
  exact ⟨rfl, Xy [(2560, 448768)] (by kernel_rfl)⟩
 ·
  refine ckf h17 ?_
  refine Qj ?_
  obtain rfl : x16 = (x12.1, x15.2.1, x15.2.2) := hx16.symm.trans (show (bif (!x15.1) then (lt (α := ByteArray × Nat × Int) (Yd code x15.2.1 x15.2.2 [⟨#[105, 110, 107]⟩, ⟨#[115, 101, 97]⟩]) (fun x16 => ((Xf x12.1 ⟨#[110]⟩ (Xc x16.1)), x16.2.1, x16.2.2))) else (x12.1, x15.2.1, x15.2.2)) = (x12.1, x15.2.1, x15.2.2) from Qn h17 (rfl))
  exact ⟨rfl, Qd (by kernel_rfl)⟩
 refine Qe ?_
 obtain ⟨x19, hx19⟩ : ∃ z : Bool × Nat × Int, Y2 code x16.2.1 x16.2.2 2 = z := ⟨_, rfl⟩
 refine sn Qb [0, 4, 5, 42] [4, 5, 60000] (po 1 (.give none (.b x19.1) [.h code, .i ((x19.2.1 : Nat) : Int), .i x19.2.2]) (px (Q2 (hx19 ▸ Vc code x16.2.1 x16.2.2 2)) p0)) ?_
 refine ck x19.1 (fun h20 => ?_) (fun h20 => ?_)
 ·
  obtain ⟨x21, hx21⟩ : ∃ z : ByteArray × Nat × Int, Yd code x19.2.1 x19.2.2 [⟨#[114, 101, 100]⟩, ⟨#[98, 108, 117, 101]⟩] = z := ⟨_, rfl⟩
  refine qN Qb Yn [0, 4, 5] [4, 5, 60000] (po 3 (.give none (.s x21.1) [.h code, .i ((x21.2.1 : Nat) : Int), .i x21.2.2]) (px (Q2 (hx21 ▸ Kh code x19.2.1 x19.2.2 [⟨#[114, 101, 100]⟩, ⟨#[98, 108, 117, 101]⟩] (Nat.zero_lt_succ _))) (pc 4 (U5 x21.1) (pc 5 (Ct x16.1 ⟨#[116]⟩ (Xc x21.1) (by first | omega | (simp; done) | (simp; omega))) p0)))) ?_
  refine tu Qb [] [5] [(4, [.i ((Xf x16.1 ⟨#[116]⟩ (Xc x21.1)).1), .i ((Xf x16.1 ⟨#[116]⟩ (Xc x21.1)).2.1), .b ((Xf x16.1 ⟨#[116]⟩ (Xc x21.1)).2.2.1), .i ((Xf x16.1 ⟨#[116]⟩ (Xc x21.1)).2.2.2.1), .o 3072 ((Xf x16.1 ⟨#[116]⟩ (Xc x21.1)).2.2.2.2)]), (60000, [.h code, .i ((x21.2.1 : Nat) : Int), .i x21.2.2])] [4, 5, 60000] (p0) ?_
  refine Qf ?_
  have hE22 : Jo code ci ch id = ((Xf x16.1 ⟨#[116]⟩ (Xc x21.1)), x21.2.1, x21.2.2) := Ys hx1 (Ys hx2 (Ys hx3 (Ys hx4 (Ys hx7 (Ys hx8 (Ys hx11 (Ys hx12 (Ys hx15 (Ys hx16 (Ys hx19 (Q8 h20 (Ys hx21 (rfl)))))))))))))
  exact He [] (congrArg (fun z => (.a [.i z.1.1, .i z.1.2.1, .b z.1.2.2.1, .i z.1.2.2.2.1, .o 0 z.1.2.2.2.2] : AV)) hE22.symm) (congrArg (fun z => ([.h code, .i ((z.2.1 : Nat) : Int), .i z.2.2] : List C)) hE22.symm)
 ·
  refine Qj ?_
  refine tn Qb [0, 4] [4, 60000] (p0) ?_
  refine Qf ?_
  have hE23 : Jo code ci ch id = (x16.1, x19.2.1, x19.2.2) := Ys hx1 (Ys hx2 (Ys hx3 (Ys hx4 (Ys hx7 (Ys hx8 (Ys hx11 (Ys hx12 (Ys hx15 (Ys hx16 (Ys hx19 (Qn h20 (rfl))))))))))))
  exact He [] (congrArg (fun z => (.a [.i z.1.1, .i z.1.2.1, .b z.1.2.2.1, .i z.1.2.2.2.1, .o 0 z.1.2.2.2.2] : AV)) hE23.symm) (congrArg (fun z => ([.h code, .i ((z.2.1 : Nat) : Int), .i z.2.2] : List C)) hE23.symm)
def Qx : (List Zq) := [((⟨#[97]⟩, 1) : Zq), ((⟨#[98]⟩, 1) : Zq), ((⟨#[110]⟩, 2) : Zq), ((⟨#[116]⟩, 2) : Zq)]
theorem M3 : ACalls Tryz.prog 74 [] (.o 0 Qx) := by
 refine en Qb Tryz.func74 fun w0 F0 hG => ?_
 refine sn Qb [0] [] (p0) ?_
 refine tn Qb [0] [] (p0) ?_
 refine Qf ?_
 exact po0 [] (show Qx = [((⟨#[97]⟩, 1) : Zq), ((⟨#[98]⟩, 1) : Zq), ((⟨#[110]⟩, 2) : Zq), ((⟨#[116]⟩, 2) : Zq)] from rfl)
def J8 (code : (List UInt8)) (s0 : Int × Q5 × Nat × Int) : Rd (Q5 × Nat × Int) (Int × Q5 × Nat × Int) (Q5 × Nat × Int) := (lt (α := Int × Nat × Int) (Qk code s0.2.2.1 s0.2.2.2 7) (fun x1 => (bif decide (s0.1 < IntKind.i64.wrap (1 + x1.1)) then (lt (α := X4 × Nat × Int) (Jo code x1.2.1 x1.2.2 1) (fun x3 => (.next (IntKind.i64.wrap (s0.1 + 1), (((Yg s0.2.1 x3.1)).1), x3.2.1, x3.2.2)))) else (.brk (s0.2.1, x1.2.1, x1.2.2)))))
def Zr (code : (List UInt8)) (ci : Nat) (ch : Int) : Q5 × Nat × Int := (Out.on (E0 (J8 code) 8 (0, (Jl Qx), ci, ch)) (fun y0 => (bif decide ((y0.1.2.1.length : Int) > (2 : Int)) then (lt (α := Bool × Nat × Int) (Y2 code y0.2.1 y0.2.2 3) (fun x5 => (bif x5.1 then ((((Zt y0.1 ((nth y0.1.2.1 1).1))).1), x5.2.1, x5.2.2) else (y0.1, x5.2.1, x5.2.2)))) else (y0.1, y0.2.1, y0.2.2))))
theorem M4 (code : List UInt8) (ci : Nat) (ch : Int) (s : Q5) : (whl (J8 code) 8 (0, s, ci, ch)).isSome = true :=
  BN (fun s => s.1) 7 (fun s s' h0 h => by
    unfold J8 lt at h
    have hb := Qy code s.2.2.1 s.2.2.2 7
    generalize Qk code s.2.2.1 s.2.2.2 7 = x at h hb
    have e : IntKind.i64.wrap (1 + x.1) = 1 + x.1 := IntWalk.i64_in _ (by omega)
    simp only [e] at h
    by_cases hc : s.1 < 1 + x.1
    · simp only [decide_eq_true hc, cond_true] at h
      have h := Rd.next.inj h
      rw [← h]
      exact ⟨by omega, IntWalk.i64_in _ (by omega)⟩
    · simp only [decide_eq_false hc, cond_false] at h
      cases h) 7 _ (Int.le_refl 0) (by show (7 : Int) ≤ 0 + 7; omega)
theorem Dv (code : (List UInt8)) (ci : Nat) (ch : Int) : AGive Tryz.prog 51 [.h code, .i ((ci : Nat) : Int), .i ch] [] (.a [.o 0 ((((Zr code ci ch)).1).1), .q 1 ((((Zr code ci ch)).1).2.1), .i ((((Zr code ci ch)).1).2.2)]) [.h code, .i ((((Zr code ci ch)).2.1 : Nat) : Int), .i (((Zr code ci ch)).2.2)] := by
 refine Kf (tt := tt) Qb Tryz.func51 (fn := Tryz.f51) rfl (by unfold C9; kernel_rfl) (Nat.le_of_ble_eq_true rfl) (Nat.le_of_ble_eq_true rfl) rfl rfl fun w0 F0 hG => ?_
 refine sn Qb [0, 2] [2, 60000] (p0) ?_
 refine tn Qb [0, 2, 3] [2, 3, 60000] (pc 0 (M3) (pc 1 (XD Qx) p0)) ?_
 refine Qe ?_
 refine tu Qb [(2, .p 2 0), (3, .p 3 0), (4, .i 0)] [] [(2, [.e 2, .e 5, .i 0]), (3, [.o 384 ((Jl Qx).1), .o 385 ((Jl Qx).2.1), .i ((Jl Qx).2.2)])] [] (p0) ?_
 refine blw (fun (s0 : Int × Q5 × Nat × Int) => [(4, .i s0.1)]) [4] (fun s0 => [(3, [.o 147207 s0.2.1.1, .o 147208 s0.2.1.2.1, .i s0.2.1.2.2]), (60000, [.h code, .i ((s0.2.2.1 : Nat) : Int), .i s0.2.2.2])]) [3, 60000] (fun (y0 : Q5 × Nat × Int) => []) [4] (fun y0 => [(3, [.o 147357 y0.1.1, .o 147358 y0.1.2.1, .i y0.1.2.2]), (60000, [.h code, .i ((y0.2.1 : Nat) : Int), .i y0.2.2])]) [3, 60000] (fun (k0 : Nat) (s0 : Int × Q5 × Nat × Int) => whl (J8 code) k0 s0 = some (E0 (J8 code) 8 (0, (Jl Qx), ci, ch))) (fun (y0 : Q5 × Nat × Int) => (E0 (J8 code) 8 (0, (Jl Qx), ci, ch)) = .brk y0) 8 (0, (Jl Qx), ci, ch) (Xy [(384, 147207), (385, 147208)] (by kernel_rfl)) (Ca (M4 code ci ch _)) (fun _ h => Dn h) (fun k0 s0 hI0 => ?_) (fun y0 hD0 => ?_)
 ·
  refine Qe ?_
  obtain ⟨x1, hx1⟩ : ∃ z : Int × Nat × Int, Qk code s0.2.2.1 s0.2.2.2 7 = z := ⟨_, rfl⟩
  have hbx1 := hx1 ▸ Qy code s0.2.2.1 s0.2.2.2 7
  refine sn Qb [0, 2, 3, 4, 11] [2, 3, 60000] (po 2 (.give none (.i x1.1) [.h code, .i ((x1.2.1 : Nat) : Int), .i x1.2.2]) (px (Q2 (hx1 ▸ Q7 code s0.2.2.1 s0.2.2.2 7)) p0)) ?_
  refine ck (decide (s0.1 < IntKind.i64.wrap (1 + x1.1))) (fun h2 => ?_) (fun h2 => ?_)
  ·
   refine Qj ?_
   refine Qe ?_
   refine Qt ?_
   obtain ⟨x3, hx3⟩ : ∃ z : X4 × Nat × Int, Jo code x1.2.1 x1.2.2 1 = z := ⟨_, rfl⟩
   refine qN Qb Yn [0, 2, 3, 4] [2, 3, 60000] (po 2 (.give none (.a [.i x3.1.1, .i x3.1.2.1, .b x3.1.2.2.1, .i x3.1.2.2.2.1, .o 0 x3.1.2.2.2.2]) [.h code, .i ((x3.2.1 : Nat) : Int), .i x3.2.2]) (px (Q2 (hx3 ▸ Io code x1.2.1 x1.2.2 1)) (pc 3 (Ix s0.2.1 x3.1) p0))) ?_
   refine qu Qb [(4, .i (IntKind.i64.wrap (s0.1 + 1)))] [4] [(3, [.o 1152 ((((Yg s0.2.1 x3.1)).1).1), .o 1153 ((((Yg s0.2.1 x3.1)).1).2.1), .i ((((Yg s0.2.1 x3.1)).1).2.2)]), (60000, [.h code, .i ((x3.2.1 : Nat) : Int), .i x3.2.2])] [3, 60000] (p0) ?_
   exact Exists.intro (IntKind.i64.wrap (s0.1 + 1), (((Yg s0.2.1 x3.1)).1), x3.2.1, x3.2.2) (And.intro (Xy [(1152, 147207), (1153, 147208)] (by kernel_rfl)) (wn hI0 (Ys hx1 (Q8 h2 (Ys hx3 (rfl))))))
  ·
   refine Q3 ?_
   exact Exists.intro (s0.2.1, x1.2.1, x1.2.2) (And.intro (Xy [(147207, 147357), (147208, 147358)] (by kernel_rfl)) (wb hI0 (Ys hx1 (Qn h2 (rfl)))))
 ·
  refine Qe ?_
  refine Qe ?_
  refine Xb (decide ((y0.1.2.1.length : Int) > (2 : Int))) (fun h4 => ?_) (fun h4 => ?_)
  ·
   have h4d := of_decide_eq_true h4
   obtain ⟨x5, hx5⟩ : ∃ z : Bool × Nat × Int, Y2 code y0.2.1 y0.2.2 3 = z := ⟨_, rfl⟩
   refine rn Qb [0, 2, 3, 29] [2, 3, 60000] (pl 2 y0.1.2.1 (pt 3 h4 (po 6 (.give none (.b x5.1) [.h code, .i ((x5.2.1 : Nat) : Int), .i x5.2.2]) (px (Q2 (hx5 ▸ Vc code y0.2.1 y0.2.2 3)) p0)))) ?_
   refine ck x5.1 (fun h6 => ?_) (fun h6 => ?_)
   ·
    refine wB 3 1 (.own true 147358) y0.1.2.1 (fun hw8 hl9 => ?_)
    have hx7 := ng y0.1.2.1 1
    refine qN Qb Yn [0, 2, 3] [2, 3, 60000] (pG 3 1 hx7 (pc 6 (R1 y0.1 ((nth y0.1.2.1 1).1)) p0)) ?_
    refine tu Qb [] [3] [(2, [.o 2368 ((((Zt y0.1 ((nth y0.1.2.1 1).1))).1).1), .q 2369 ((((Zt y0.1 ((nth y0.1.2.1 1).1))).1).2.1), .i ((((Zt y0.1 ((nth y0.1.2.1 1).1))).1).2.2)]), (60000, [.h code, .i ((x5.2.1 : Nat) : Int), .i x5.2.2])] [2, 3, 60000] (p0) ?_
    refine Qf ?_
    have hE10 : Zr code ci ch = ((((Zt y0.1 ((nth y0.1.2.1 1).1))).1), x5.2.1, x5.2.2) := Wf hD0 (Q8 h4 (Ys hx5 (Q8 h6 (rfl))))
    exact He [] (congrArg (fun z => (.a [.o 0 z.1.1, .q 1 z.1.2.1, .i z.1.2.2] : AV)) hE10.symm) (congrArg (fun z => ([.h code, .i ((z.2.1 : Nat) : Int), .i z.2.2] : List C)) hE10.symm)
   ·
    refine Qj ?_
    refine tn Qb [0, 2] [2, 60000] (p0) ?_
    refine E9 [147358] rfl ?_
    refine Qf ?_
    have hE11 : Zr code ci ch = (y0.1, x5.2.1, x5.2.2) := Wf hD0 (Q8 h4 (Ys hx5 (Qn h6 (rfl))))
    exact He [] (congrArg (fun z => (.a [.o 0 z.1.1, .q 1 z.1.2.1, .i z.1.2.2] : AV)) hE11.symm) (congrArg (fun z => ([.h code, .i ((z.2.1 : Nat) : Int), .i z.2.2] : List C)) hE11.symm)
  ·
   refine ru Qb [(29, .b false)] [] [] [] (pl 2 y0.1.2.1 (pf 3 h4 p0)) ?_
   refine ckF ?_
   refine Qj ?_
   refine sn Qb [0, 2] [2, 60000] (p0) ?_
   refine E9 [147358] rfl ?_
   refine Qf ?_
   have hE12 : Zr code ci ch = (y0.1, y0.2.1, y0.2.2) := Wf hD0 (Qn h4 (rfl))
   exact He [] (congrArg (fun z => (.a [.o 0 z.1.1, .q 1 z.1.2.1, .i z.1.2.2] : AV)) hE12.symm) (congrArg (fun z => ([.h code, .i ((z.2.1 : Nat) : Int), .i z.2.2] : List C)) hE12.symm)
def Wq (code : (List UInt8)) (ci : Nat) (ch : Int) : ByteArray × Nat × Int := (lt (α := ByteArray × Nat × Int) (Yd code ci ch [⟨#[100, 97]⟩, ⟨#[100, 98]⟩, ⟨#[100, 99]⟩, ⟨#[100, 100]⟩, ⟨#[100, 97]⟩, ⟨#[100, 98]⟩, ⟨#[100, 99]⟩]) (fun x1 => (x1.1, x1.2.1, x1.2.2)))
theorem Iy (code : (List UInt8)) (ci : Nat) (ch : Int) : AGive Tryz.prog 134 [.h code, .i ((ci : Nat) : Int), .i ch] [] (.s (((Wq code ci ch)).1)) [.h code, .i ((((Wq code ci ch)).2.1 : Nat) : Int), .i (((Wq code ci ch)).2.2)] := by
 refine Kf (tt := tt) Qb Tryz.func134 (fn := Tryz.f134) rfl (by unfold C9; kernel_rfl) (Nat.le_of_ble_eq_true rfl) (Nat.le_of_ble_eq_true rfl) rfl rfl fun w0 F0 hG => ?_
 refine sn Qb [0, 2] [60000] (p0) ?_
 obtain ⟨x1, hx1⟩ : ∃ z : ByteArray × Nat × Int, Yd code ci ch [⟨#[100, 97]⟩, ⟨#[100, 98]⟩, ⟨#[100, 99]⟩, ⟨#[100, 100]⟩, ⟨#[100, 97]⟩, ⟨#[100, 98]⟩, ⟨#[100, 99]⟩] = z := ⟨_, rfl⟩
 refine tn Qb [0, 2] [60000] (po 2 (.give none (.s x1.1) [.h code, .i ((x1.2.1 : Nat) : Int), .i x1.2.2]) (px (Q2 (hx1 ▸ Kh code ci ch [⟨#[100, 97]⟩, ⟨#[100, 98]⟩, ⟨#[100, 99]⟩, ⟨#[100, 100]⟩, ⟨#[100, 97]⟩, ⟨#[100, 98]⟩, ⟨#[100, 99]⟩] (Nat.zero_lt_succ _))) p0)) ?_
 refine Qf ?_
 have hE2 : Wq code ci ch = (x1.1, x1.2.1, x1.2.2) := Ys hx1 (rfl)
 exact He [] (congrArg (fun z => (.s z.1 : AV)) hE2.symm) (congrArg (fun z => ([.h code, .i ((z.2.1 : Nat) : Int), .i z.2.2] : List C)) hE2.symm)
def Zn (code : (List UInt8)) (ci : Nat) (ch : Int) : X9 × Nat × Int := (lt (α := Int × Nat × Int) (Qk code ci ch 9) (fun x1 => (bif (x1.1 == (0 : Int)) then ((1, 0, 0, ⟨#[]⟩, (0, 0, ⟨#[]⟩)), x1.2.1, x1.2.2) else (bif (x1.1 == (1 : Int)) then (lt (α := ByteArray × Nat × Int) (Yd code x1.2.1 x1.2.2 [⟨#[97]⟩, ⟨#[98]⟩, ⟨#[110]⟩, ⟨#[116]⟩]) (fun x5 => ((2, 0, 0, x5.1, (0, 0, ⟨#[]⟩)), x5.2.1, x5.2.2))) else (bif (x1.1 == (2 : Int)) then (lt (α := Int × Nat × Int) (Qk code x1.2.1 x1.2.2 4) (fun x8 => ((3, 0, 0, ⟨#[97]⟩, (Ya x8.1)), x8.2.1, x8.2.2))) else (bif (x1.1 == (3 : Int)) then (lt (α := ByteArray × Nat × Int) (Yd code x1.2.1 x1.2.2 [⟨#[114, 101, 100]⟩, ⟨#[98, 108, 117, 101]⟩]) (fun x11 => ((3, 0, 0, ⟨#[116]⟩, (Xc x11.1)), x11.2.1, x11.2.2))) else (bif (x1.1 == (4 : Int)) then (lt (α := ByteArray × Nat × Int) (Yd code x1.2.1 x1.2.2 [⟨#[97]⟩, ⟨#[98]⟩]) (fun x14 => (lt (α := Int × Nat × Int) (Qk code x14.2.1 x14.2.2 3) (fun x15 => ((4, 0, 0, x14.1, (Ya (IntKind.i64.wrap (1 + x15.1)))), x15.2.1, x15.2.2))))) else (bif (bif (x1.1 == (5 : Int)) then (x1.1 == (5 : Int)) else (x1.1 == (6 : Int))) then (lt (α := ByteArray × Nat × Int) (Wq code x1.2.1 x1.2.2) (fun x19 => ((8, 0, 0, x19.1, (0, 0, ⟨#[]⟩)), x19.2.1, x19.2.2))) else (bif (x1.1 == (7 : Int)) then (lt (α := ByteArray × Nat × Int) (Wq code x1.2.1 x1.2.2) (fun x22 => ((9, 0, 0, x22.1, (0, 0, ⟨#[]⟩)), x22.2.1, x22.2.2))) else (lt (α := Int × Nat × Int) (Qk code x1.2.1 x1.2.2 4) (fun x24 => ((3, 0, 0, ⟨#[98]⟩, (Ya x24.1)), x24.2.1, x24.2.2))))))))))))
theorem Ip (code : (List UInt8)) (ci : Nat) (ch : Int) : AGive Tryz.prog 105 [.h code, .i ((ci : Nat) : Int), .i ch] [] (.a [.i ((((Zn code ci ch)).1).1), .i ((((Zn code ci ch)).1).2.1), .i ((((Zn code ci ch)).1).2.2.1), .s ((((Zn code ci ch)).1).2.2.2.1), .i ((((Zn code ci ch)).1).2.2.2.2.1), .i ((((Zn code ci ch)).1).2.2.2.2.2.1), .s ((((Zn code ci ch)).1).2.2.2.2.2.2)]) [.h code, .i ((((Zn code ci ch)).2.1 : Nat) : Int), .i (((Zn code ci ch)).2.2)] := by
 refine Kf (tt := tt) Qb Tryz.func105 (fn := Tryz.f105) rfl (by unfold C9; kernel_rfl) (Nat.le_of_ble_eq_true rfl) (Nat.le_of_ble_eq_true rfl) rfl rfl fun w0 F0 hG => ?_
 refine sn Qb [0, 2] [2, 60000] (p0) ?_
 refine Qe ?_
 obtain ⟨x1, hx1⟩ : ∃ z : Int × Nat × Int, Qk code ci ch 9 = z := ⟨_, rfl⟩
 have hbx1 := hx1 ▸ Qy code ci ch 9
 refine tn Qb [0, 2, 4] [2, 60000] (po 1 (.give none (.i x1.1) [.h code, .i ((x1.2.1 : Nat) : Int), .i x1.2.2]) (px (Q2 (hx1 ▸ Q7 code ci ch 9)) p0)) ?_
 refine Qt ?_
 refine tu Qb [(2, .p 2 0), (4, .i x1.1), (5, .b (x1.1 == (0 : Int)))] [] [(2, [.i 0, .i 0, .i 0, .s ⟨#[]⟩, .i 0, .i 0, .s ⟨#[]⟩]), (60000, [.h code, .i ((x1.2.1 : Nat) : Int), .i x1.2.2])] [60000] (p0) ?_
 refine ck (x1.1 == (0 : Int)) (fun h2 => ?_) (fun h2 => ?_)
 ·
  refine sn Qb [0, 2] [2, 60000] (p0) ?_
  refine Qf ?_
  have hE3 : Zn code ci ch = ((1, 0, 0, ⟨#[]⟩, (0, 0, ⟨#[]⟩)), x1.2.1, x1.2.2) := Ys hx1 (Q8 h2 (rfl))
  exact He [] (congrArg (fun z => (.a [.i z.1.1, .i z.1.2.1, .i z.1.2.2.1, .s z.1.2.2.2.1, .i z.1.2.2.2.2.1, .i z.1.2.2.2.2.2.1, .s z.1.2.2.2.2.2.2] : AV)) hE3.symm) (congrArg (fun z => ([.h code, .i ((z.2.1 : Nat) : Int), .i z.2.2] : List C)) hE3.symm)
 ·
  refine sn Qb [0, 2, 4, 8] [2, 60000] (p0) ?_
  refine ck (x1.1 == (1 : Int)) (fun h4 => ?_) (fun h4 => ?_)
  ·
   obtain ⟨x5, hx5⟩ : ∃ z : ByteArray × Nat × Int, Yd code x1.2.1 x1.2.2 [⟨#[97]⟩, ⟨#[98]⟩, ⟨#[110]⟩, ⟨#[116]⟩] = z := ⟨_, rfl⟩
   refine tn Qb [0, 2] [2, 60000] (po 2 (.give none (.s x5.1) [.h code, .i ((x5.2.1 : Nat) : Int), .i x5.2.2]) (px (Q2 (hx5 ▸ Kh code x1.2.1 x1.2.2 [⟨#[97]⟩, ⟨#[98]⟩, ⟨#[110]⟩, ⟨#[116]⟩] (Nat.zero_lt_succ _))) p0)) ?_
   refine Qf ?_
   have hE6 : Zn code ci ch = ((2, 0, 0, x5.1, (0, 0, ⟨#[]⟩)), x5.2.1, x5.2.2) := Ys hx1 (Qn h2 (Q8 h4 (Ys hx5 (rfl))))
   exact He [] (congrArg (fun z => (.a [.i z.1.1, .i z.1.2.1, .i z.1.2.2.1, .s z.1.2.2.2.1, .i z.1.2.2.2.2.1, .i z.1.2.2.2.2.2.1, .s z.1.2.2.2.2.2.2] : AV)) hE6.symm) (congrArg (fun z => ([.h code, .i ((z.2.1 : Nat) : Int), .i z.2.2] : List C)) hE6.symm)
  ·
   refine tn Qb [0, 2, 4, 14] [2, 60000] (p0) ?_
   refine ck (x1.1 == (2 : Int)) (fun h7 => ?_) (fun h7 => ?_)
   ·
    obtain ⟨x8, hx8⟩ : ∃ z : Int × Nat × Int, Qk code x1.2.1 x1.2.2 4 = z := ⟨_, rfl⟩
    have hbx8 := hx8 ▸ Qy code x1.2.1 x1.2.2 4
    refine tu Qb [] [4, 5] [(2, [.i 3, .i 0, .i 0, .s ⟨#[97]⟩, .i ((Ya x8.1).1), .i ((Ya x8.1).2.1), .s ((Ya x8.1).2.2)]), (60000, [.h code, .i ((x8.2.1 : Nat) : Int), .i x8.2.2])] [2, 60000] (po 1 (.give none (.i x8.1) [.h code, .i ((x8.2.1 : Nat) : Int), .i x8.2.2]) (px (Q2 (hx8 ▸ Q7 code x1.2.1 x1.2.2 4)) (pc 2 (Hi x8.1) p0))) ?_
    refine Qf ?_
    have hE9 : Zn code ci ch = ((3, 0, 0, ⟨#[97]⟩, (Ya x8.1)), x8.2.1, x8.2.2) := Ys hx1 (Qn h2 (Qn h4 (Q8 h7 (Ys hx8 (rfl)))))
    exact He [] (congrArg (fun z => (.a [.i z.1.1, .i z.1.2.1, .i z.1.2.2.1, .s z.1.2.2.2.1, .i z.1.2.2.2.2.1, .i z.1.2.2.2.2.2.1, .s z.1.2.2.2.2.2.2] : AV)) hE9.symm) (congrArg (fun z => ([.h code, .i ((z.2.1 : Nat) : Int), .i z.2.2] : List C)) hE9.symm)
   ·
    refine tu Qb [(20, .b (x1.1 == (3 : Int)))] [5] [] [] (p0) ?_
    refine ck (x1.1 == (3 : Int)) (fun h10 => ?_) (fun h10 => ?_)
    ·
     obtain ⟨x11, hx11⟩ : ∃ z : ByteArray × Nat × Int, Yd code x1.2.1 x1.2.2 [⟨#[114, 101, 100]⟩, ⟨#[98, 108, 117, 101]⟩] = z := ⟨_, rfl⟩
     refine sn Qb [0, 2] [2, 60000] (po 2 (.give none (.s x11.1) [.h code, .i ((x11.2.1 : Nat) : Int), .i x11.2.2]) (px (Q2 (hx11 ▸ Kh code x1.2.1 x1.2.2 [⟨#[114, 101, 100]⟩, ⟨#[98, 108, 117, 101]⟩] (Nat.zero_lt_succ _))) (pc 3 (U5 x11.1) p0))) ?_
     refine Qf ?_
     have hE12 : Zn code ci ch = ((3, 0, 0, ⟨#[116]⟩, (Xc x11.1)), x11.2.1, x11.2.2) := Ys hx1 (Qn h2 (Qn h4 (Qn h7 (Q8 h10 (Ys hx11 (rfl))))))
     exact He [] (congrArg (fun z => (.a [.i z.1.1, .i z.1.2.1, .i z.1.2.2.1, .s z.1.2.2.2.1, .i z.1.2.2.2.2.1, .i z.1.2.2.2.2.2.1, .s z.1.2.2.2.2.2.2] : AV)) hE12.symm) (congrArg (fun z => ([.h code, .i ((z.2.1 : Nat) : Int), .i z.2.2] : List C)) hE12.symm)
    ·
     refine sn Qb [0, 2, 4, 27] [2, 60000] (p0) ?_
     refine ck (x1.1 == (4 : Int)) (fun h13 => ?_) (fun h13 => ?_)
     ·
      obtain ⟨x14, hx14⟩ : ∃ z : ByteArray × Nat × Int, Yd code x1.2.1 x1.2.2 [⟨#[97]⟩, ⟨#[98]⟩] = z := ⟨_, rfl⟩
      obtain ⟨x15, hx15⟩ : ∃ z : Int × Nat × Int, Qk code x14.2.1 x14.2.2 3 = z := ⟨_, rfl⟩
      have hbx15 := hx15 ▸ Qy code x14.2.1 x14.2.2 3
      refine tn Qb [0, 2] [2, 60000] (po 2 (.give none (.s x14.1) [.h code, .i ((x14.2.1 : Nat) : Int), .i x14.2.2]) (px (Q2 (hx14 ▸ Kh code x1.2.1 x1.2.2 [⟨#[97]⟩, ⟨#[98]⟩] (Nat.zero_lt_succ _))) (po 4 (.give none (.i x15.1) [.h code, .i ((x15.2.1 : Nat) : Int), .i x15.2.2]) (px (Q2 (hx15 ▸ Q7 code x14.2.1 x14.2.2 3)) (pc 6 (Hi (IntKind.i64.wrap (1 + x15.1))) p0))))) ?_
      refine Qf ?_
      have hE16 : Zn code ci ch = ((4, 0, 0, x14.1, (Ya (IntKind.i64.wrap (1 + x15.1)))), x15.2.1, x15.2.2) := Ys hx1 (Qn h2 (Qn h4 (Qn h7 (Qn h10 (Q8 h13 (Ys hx14 (Ys hx15 (rfl))))))))
      exact He [] (congrArg (fun z => (.a [.i z.1.1, .i z.1.2.1, .i z.1.2.2.1, .s z.1.2.2.2.1, .i z.1.2.2.2.2.1, .i z.1.2.2.2.2.2.1, .s z.1.2.2.2.2.2.2] : AV)) hE16.symm) (congrArg (fun z => ([.h code, .i ((z.2.1 : Nat) : Int), .i z.2.2] : List C)) hE16.symm)
     ·
      refine Qe ?_
      refine tn Qb [0, 2, 4, 37] [2, 60000] (p0) ?_
      refine mz [(37, .b (x1.1 == (5 : Int)))] [20] [] [] ?_
      refine jn [(37, .b (bif (x1.1 == (5 : Int)) then (x1.1 == (5 : Int)) else (x1.1 == (6 : Int))))] [37] [] [] (x1.1 == (5 : Int)) (fun h17 => ?_) (fun h17 => ?_) ?_
      ·
       refine ckt h17 ?_
       refine Qj ?_
       exact ⟨rfl, Qd (by rw [h17]; first | done | kernel_rfl)⟩
      ·
       refine ckf h17 ?_
       refine rn Qb [0, 2, 4, 37] [2, 60000] (p0) ?_
       exact ⟨rfl, Qd (by rw [h17]; first | done | kernel_rfl)⟩
      refine ck (bif (x1.1 == (5 : Int)) then (x1.1 == (5 : Int)) else (x1.1 == (6 : Int))) (fun h18 => ?_) (fun h18 => ?_)
      ·
       obtain ⟨x19, hx19⟩ : ∃ z : ByteArray × Nat × Int, Wq code x1.2.1 x1.2.2 = z := ⟨_, rfl⟩
       refine sn Qb [0, 2] [2, 60000] (po 1 (.give none (.s x19.1) [.h code, .i ((x19.2.1 : Nat) : Int), .i x19.2.2]) (px (Q2 (hx19 ▸ Iy code x1.2.1 x1.2.2)) p0)) ?_
       refine Qf ?_
       have hE20 : Zn code ci ch = ((8, 0, 0, x19.1, (0, 0, ⟨#[]⟩)), x19.2.1, x19.2.2) := Ys hx1 (Qn h2 (Qn h4 (Qn h7 (Qn h10 (Qn h13 (Q8 h18 (Ys hx19 (rfl))))))))
       exact He [] (congrArg (fun z => (.a [.i z.1.1, .i z.1.2.1, .i z.1.2.2.1, .s z.1.2.2.2.1, .i z.1.2.2.2.2.1, .i z.1.2.2.2.2.2.1, .s z.1.2.2.2.2.2.2] : AV)) hE20.symm) (congrArg (fun z => ([.h code, .i ((z.2.1 : Nat) : Int), .i z.2.2] : List C)) hE20.symm)
      ·
       refine sn Qb [0, 2, 43] [2, 60000] (p0) ?_
       refine ck (x1.1 == (7 : Int)) (fun h21 => ?_) (fun h21 => ?_)
       ·
        obtain ⟨x22, hx22⟩ : ∃ z : ByteArray × Nat × Int, Wq code x1.2.1 x1.2.2 = z := ⟨_, rfl⟩
        refine tn Qb [0, 2] [2, 60000] (po 1 (.give none (.s x22.1) [.h code, .i ((x22.2.1 : Nat) : Int), .i x22.2.2]) (px (Q2 (hx22 ▸ Iy code x1.2.1 x1.2.2)) p0)) ?_
        refine Qf ?_
        have hE23 : Zn code ci ch = ((9, 0, 0, x22.1, (0, 0, ⟨#[]⟩)), x22.2.1, x22.2.2) := Ys hx1 (Qn h2 (Qn h4 (Qn h7 (Qn h10 (Qn h13 (Qn h18 (Q8 h21 (Ys hx22 (rfl)))))))))
        exact He [] (congrArg (fun z => (.a [.i z.1.1, .i z.1.2.1, .i z.1.2.2.1, .s z.1.2.2.2.1, .i z.1.2.2.2.2.1, .i z.1.2.2.2.2.2.1, .s z.1.2.2.2.2.2.2] : AV)) hE23.symm) (congrArg (fun z => ([.h code, .i ((z.2.1 : Nat) : Int), .i z.2.2] : List C)) hE23.symm)
       ·
        refine Qj ?_
        obtain ⟨x24, hx24⟩ : ∃ z : Int × Nat × Int, Qk code x1.2.1 x1.2.2 4 = z := ⟨_, rfl⟩
        have hbx24 := hx24 ▸ Qy code x1.2.1 x1.2.2 4
        refine tn Qb [0, 2] [2, 60000] (po 1 (.give none (.i x24.1) [.h code, .i ((x24.2.1 : Nat) : Int), .i x24.2.2]) (px (Q2 (hx24 ▸ Q7 code x1.2.1 x1.2.2 4)) (pc 2 (Hi x24.1) p0))) ?_
        refine Qf ?_
        have hE25 : Zn code ci ch = ((3, 0, 0, ⟨#[98]⟩, (Ya x24.1)), x24.2.1, x24.2.2) := Ys hx1 (Qn h2 (Qn h4 (Qn h7 (Qn h10 (Qn h13 (Qn h18 (Qn h21 (Ys hx24 (rfl)))))))))
        exact He [] (congrArg (fun z => (.a [.i z.1.1, .i z.1.2.1, .i z.1.2.2.1, .s z.1.2.2.2.1, .i z.1.2.2.2.2.1, .i z.1.2.2.2.2.2.1, .s z.1.2.2.2.2.2.2] : AV)) hE25.symm) (congrArg (fun z => ([.h code, .i ((z.2.1 : Nat) : Int), .i z.2.2] : List C)) hE25.symm)
def Z7 (n_ : Nat) (code : (List UInt8)) (ci : Nat) (ch : Int) (q : (List X9)) (deep : Int) (not : Bool) : (List X9) × Nat × Int := match n_ with
 | 0 => default
 | n_ + 1 => (bif (deep == (0 : Int)) then (lt (α := X9 × Nat × Int) (Zn code ci ch) (fun x2 => (q ++ [x2.1], x2.2.1, x2.2.2))) else (lt (α := Bool × Nat × Int) (Y2 code ci ch 3) (fun x6 => (bif x6.1 then (lt (α := X9 × Nat × Int) (Zn code x6.2.1 x6.2.2) (fun x8 => (q ++ [x8.1], x8.2.1, x8.2.2))) else (lt (α := Int × Nat × Int) (Qk code x6.2.1 x6.2.2 5) (fun x12 => (bif ((x12.1 == (0 : Int)) && not) then (lt (α := (List X9) × Nat × Int) (Z7 n_ code x12.2.1 x12.2.2 q (deep - 1) true) (fun x15 => (x15.1 ++ [((5, ((x15.1.length : Int) - 1), 0, ⟨#[]⟩, (0, 0, ⟨#[]⟩)) : X9)], x15.2.1, x15.2.2))) else (lt (α := (List X9) × Nat × Int) (Z7 n_ code x12.2.1 x12.2.2 q (deep - 1) not) (fun x19 => (lt (α := (List X9) × Nat × Int) (Z7 n_ code x19.2.1 x19.2.2 x19.1 0 not) (fun x22 => (bif decide (x12.1 < (3 : Int)) then (x22.1 ++ [((6, ((x19.1.length : Int) - 1), ((x22.1.length : Int) - 1), ⟨#[]⟩, (0, 0, ⟨#[]⟩)) : X9)], x22.2.1, x22.2.2) else (x22.1 ++ [((7, ((x19.1.length : Int) - 1), ((x22.1.length : Int) - 1), ⟨#[]⟩, (0, 0, ⟨#[]⟩)) : X9)], x22.2.1, x22.2.2)))))))))))))
theorem Mp (code : List UInt8) : ∀ (n ci : Nat) (ch : Int) (q : List X9) (deep : Int) (not_ : Bool), 0 ≤ deep → deep < n → q.length + 1 ≤ (Z7 n code ci ch q deep not_).1.length ∧ ((Z7 n code ci ch q deep not_).1.length : Int) ≤ q.length + 2 * deep + 1
  | 0, _, _, _, _, _, h0, h1 => by omega
  | n + 1, ci, ch, q, deep, not_, h0, h1 => by
    have ih := Mp code n
    unfold Z7 lt
    by_cases hz : deep = 0
    · rw [beq_iff_eq.2 hz]
      simp only [cond_true, List.length_append, List.length_cons, List.length_nil]
      omega
    · rw [beq_eq_false_iff_ne.2 hz]
      simp only [cond_false]
      generalize Y2 code ci ch 3 = x
      cases x.1 with
      | true =>
        simp only [cond_true, List.length_append, List.length_cons, List.length_nil]
        omega
      | false =>
        simp only [cond_false]
        generalize Qk code x.2.1 x.2.2 5 = y
        cases ((y.1 == (0 : Int)) && not_) with
        | true =>
          simp only [cond_true, List.length_append, List.length_cons, List.length_nil]
          have := ih y.2.1 y.2.2 q (deep - 1) true (by omega) (by omega)
          omega
        | false =>
          simp only [cond_false]
          have h2 := ih y.2.1 y.2.2 q (deep - 1) not_ (by omega) (by omega)
          generalize Z7 n code y.2.1 y.2.2 q (deep - 1) not_ = z at h2
          have h3 := ih z.2.1 z.2.2 z.1 0 not_ (by omega) (by omega)
          generalize Z7 n code z.2.1 z.2.2 z.1 0 not_ = u at h3
          cases decide (y.1 < (3 : Int)) <;> simp only [cond_true, cond_false, List.length_append, List.length_cons, List.length_nil] <;> omega
theorem JU : ∀ (n_ : Nat) (code : (List UInt8)) (ci : Nat) (ch : Int) (q : (List X9)) (deep : Int) (not : Bool) (hd : 0 ≤ deep) (hn : deep < (n_ : Int)) (hq : (List.length q : Int) + 2 * deep ≤ 1000), AGive Tryz.prog 106 [.h code, .i ((ci : Nat) : Int), .i ch] [.o 63 q, .i deep, .b not] (.o 0 (((Z7 n_ code ci ch q deep not)).1)) [.h code, .i ((((Z7 n_ code ci ch q deep not)).2.1 : Nat) : Int), .i (((Z7 n_ code ci ch q deep not)).2.2)] := by
 intro n_
 induction n_ with
 | zero => intro code ci ch q deep not hd hn hq; exact (by omega : False).elim
 | succ n_ ih =>
  intro code ci ch q deep not hd hn hq
  refine Kf (tt := tt) Qb Tryz.func106 (fn := Tryz.f106) rfl (by unfold C9; kernel_rfl) (Nat.le_of_ble_eq_true rfl) (Nat.le_of_ble_eq_true rfl) rfl rfl fun w0 F0 hG => ?_
  refine su Qb [(8, .e 0)] [] [] [] (p0) ?_
  refine Qe ?_
  refine Qe ?_
  refine Xb (deep == (0 : Int)) (fun h1 => ?_) (fun h1 => ?_)
  ·
   have h1d := eq_of_beq h1
   refine ru Qb [(16, .b true)] [] [] [] (pt 1 h1 p0) ?_
   refine ckT ?_
   obtain ⟨x2, hx2⟩ : ∃ z : X9 × Nat × Int, Zn code ci ch = z := ⟨_, rfl⟩
   refine wT 1 0 (.own true 63) q (fun hw3 hl4 => ?_)
   refine su Qb [(8, .one (.slc (.own true 1344) 7 ((eL q) ++ [[.i x2.1.1, .i x2.1.2.1, .i x2.1.2.2.1, .s x2.1.2.2.2.1, .i x2.1.2.2.2.2.1, .i x2.1.2.2.2.2.2.1, .s x2.1.2.2.2.2.2.2]])))] [1, 8, 16] [(60000, [.h code, .i ((x2.2.1 : Nat) : Int), .i x2.2.2])] [60000] (po 2 (.give none (.a [.i x2.1.1, .i x2.1.2.1, .i x2.1.2.2.1, .s x2.1.2.2.2.1, .i x2.1.2.2.2.2.1, .i x2.1.2.2.2.2.2.1, .s x2.1.2.2.2.2.2.2]) [.h code, .i ((x2.2.1 : Nat) : Int), .i x2.2.2]) (px (Q2 (hx2 ▸ Ip code ci ch)) (pa q [x2.1] p0))) ?_
   refine eqn [(8, .o 1344 (q ++ [x2.1]))] [8] [] [] (by rw [show ((eL q) ++ [[.i x2.1.1, .i x2.1.2.1, .i x2.1.2.2.1, .s x2.1.2.2.2.1, .i x2.1.2.2.2.2.1, .i x2.1.2.2.2.2.2.1, .s x2.1.2.2.2.2.2.2]]) = (eL (q ++ [x2.1])) from Ky (rfl) (rfl)]; first | done | kernel_rfl) ?_
   refine Qf ?_
   have hE5 : Z7 (n_ + 1) code ci ch q deep not = (q ++ [x2.1], x2.2.1, x2.2.2) := Q8 h1 (Ys hx2 (rfl))
   exact He [] (congrArg (fun z => (.o 0 z.1 : AV)) hE5.symm) (congrArg (fun z => ([.h code, .i ((z.2.1 : Nat) : Int), .i z.2.2] : List C)) hE5.symm)
  ·
   have h1d := Yb h1
   obtain ⟨x6, hx6⟩ : ∃ z : Bool × Nat × Int, Y2 code ci ch 3 = z := ⟨_, rfl⟩
   refine rn Qb [0, 1, 2, 3, 8, 16] [60000] (pf 1 h1 (po 4 (.give none (.b x6.1) [.h code, .i ((x6.2.1 : Nat) : Int), .i x6.2.2]) (px (Q2 (hx6 ▸ Vc code ci ch 3)) p0))) ?_
   refine ck x6.1 (fun h7 => ?_) (fun h7 => ?_)
   ·
    obtain ⟨x8, hx8⟩ : ∃ z : X9 × Nat × Int, Zn code x6.2.1 x6.2.2 = z := ⟨_, rfl⟩
    refine wT 1 0 (.own true 63) q (fun hw9 hl10 => ?_)
    refine tu Qb [(8, .one (.slc (.own true 1344) 7 ((eL q) ++ [[.i x8.1.1, .i x8.1.2.1, .i x8.1.2.2.1, .s x8.1.2.2.2.1, .i x8.1.2.2.2.2.1, .i x8.1.2.2.2.2.2.1, .s x8.1.2.2.2.2.2.2]])))] [1, 8] [(60000, [.h code, .i ((x8.2.1 : Nat) : Int), .i x8.2.2])] [60000] (po 2 (.give none (.a [.i x8.1.1, .i x8.1.2.1, .i x8.1.2.2.1, .s x8.1.2.2.2.1, .i x8.1.2.2.2.2.1, .i x8.1.2.2.2.2.2.1, .s x8.1.2.2.2.2.2.2]) [.h code, .i ((x8.2.1 : Nat) : Int), .i x8.2.2]) (px (Q2 (hx8 ▸ Ip code x6.2.1 x6.2.2)) (pa q [x8.1] p0))) ?_
    refine eqn [(8, .o 1344 (q ++ [x8.1]))] [8] [] [] (by rw [show ((eL q) ++ [[.i x8.1.1, .i x8.1.2.1, .i x8.1.2.2.1, .s x8.1.2.2.2.1, .i x8.1.2.2.2.2.1, .i x8.1.2.2.2.2.2.1, .s x8.1.2.2.2.2.2.2]]) = (eL (q ++ [x8.1])) from Ky (rfl) (rfl)]; first | done | kernel_rfl) ?_
    refine Qf ?_
    have hE11 : Z7 (n_ + 1) code ci ch q deep not = (q ++ [x8.1], x8.2.1, x8.2.2) := Qn h1 (Ys hx6 (Q8 h7 (Ys hx8 (rfl))))
    exact He [] (congrArg (fun z => (.o 0 z.1 : AV)) hE11.symm) (congrArg (fun z => ([.h code, .i ((z.2.1 : Nat) : Int), .i z.2.2] : List C)) hE11.symm)
   ·
    refine Qj ?_
    obtain ⟨x12, hx12⟩ : ∃ z : Int × Nat × Int, Qk code x6.2.1 x6.2.2 5 = z := ⟨_, rfl⟩
    have hbx12 := hx12 ▸ Qy code x6.2.1 x6.2.2 5
    refine tn Qb [0, 1, 2, 3, 8, 9] [60000] (po 1 (.give none (.i x12.1) [.h code, .i ((x12.2.1 : Nat) : Int), .i x12.2.2]) (px (Q2 (hx12 ▸ Q7 code x6.2.1 x6.2.2 5)) p0)) ?_
    refine Qe ?_
    refine Qe ?_
    refine mz [(9, .i x12.1)] [] [(60000, [.h code, .i ((x12.2.1 : Nat) : Int), .i x12.2.2])] [60000] ?_
    refine jn [(28, .b ((x12.1 == (0 : Int)) && not))] [] [] [] (x12.1 == (0 : Int)) (fun h13 => ?_) (fun h13 => ?_) ?_
    ·
     refine ru Qb [(28, .b not)] [] [] [] (pt 1 h13 p0) ?_
     exact ⟨rfl, Qd (by rw [h13]; first | done | kernel_rfl)⟩
    ·
     refine ru Qb [(28, .b false)] [] [] [] (pf 1 h13 p0) ?_
     exact ⟨rfl, Qd (by rw [h13]; first | done | kernel_rfl)⟩
    refine ck ((x12.1 == (0 : Int)) && not) (fun h14 => ?_) (fun h14 => ?_)
    ·
     have h14l : ((x12.1 == (0 : Int))) = true := HO h14
     have h14ld := eq_of_beq h14l
     have h14r : (not) = true := HP h14
     obtain ⟨x15, hx15⟩ : ∃ z : (List X9) × Nat × Int, Z7 n_ code x12.2.1 x12.2.2 q (deep - 1) true = z := ⟨_, rfl⟩
     have hbx15 := hx15 ▸ Mp code n_ x12.2.1 x12.2.2 q (deep - 1) true (by omega) (by omega)
     refine sn Qb [0, 1, 2, 3, 8, 9] [60000] (pe 3 (Jb (IntWalk.i64_in (deep - 1) (by omega))) (pt 4 h14r (po 5 (.give (some 63) (.o 0 x15.1) [.h code, .i ((x15.2.1 : Nat) : Int), .i x15.2.2]) (px (Q2 (hx15 ▸ ih code x12.2.1 x12.2.2 q (deep - 1) true (by omega) (by omega) (by omega))) p0)))) ?_
     refine wT 1 0 (.own true 2176) x15.1 (fun hw16 hl17 => ?_)
     refine tu Qb [(8, .one (.slc (.own true 2624) 7 ((eL x15.1) ++ [[.i 5, .i ((x15.1.length : Int) - 1), .i 0, .s ⟨#[]⟩, .i 0, .i 0, .s ⟨#[]⟩]])))] [1, 8, 28] [(60000, [.h code, .i ((x15.2.1 : Nat) : Int), .i x15.2.2])] [60000] (pl 2 x15.1 (pe 3 (Jb (IntWalk.i64_in ((x15.1.length : Int) - 1) (by omega))) (pa x15.1 [((5, ((x15.1.length : Int) - 1), 0, ⟨#[]⟩, (0, 0, ⟨#[]⟩)) : X9)] p0))) ?_
     refine eqn [(8, .o 2624 (x15.1 ++ [((5, ((x15.1.length : Int) - 1), 0, ⟨#[]⟩, (0, 0, ⟨#[]⟩)) : X9)]))] [8] [] [] (by rw [show ((eL x15.1) ++ [[.i 5, .i ((x15.1.length : Int) - 1), .i 0, .s ⟨#[]⟩, .i 0, .i 0, .s ⟨#[]⟩]]) = (eL (x15.1 ++ [((5, ((x15.1.length : Int) - 1), 0, ⟨#[]⟩, (0, 0, ⟨#[]⟩)) : X9)])) from Ky (rfl) (rfl)]; first | done | kernel_rfl) ?_
     refine Qf ?_
     have hE18 : Z7 (n_ + 1) code ci ch q deep not = (x15.1 ++ [((5, ((x15.1.length : Int) - 1), 0, ⟨#[]⟩, (0, 0, ⟨#[]⟩)) : X9)], x15.2.1, x15.2.2) := Qn h1 (Ys hx6 (Qn h7 (Ys hx12 (Q8 h14 (Ys hx15 (rfl))))))
     exact He [] (congrArg (fun z => (.o 0 z.1 : AV)) hE18.symm) (congrArg (fun z => ([.h code, .i ((z.2.1 : Nat) : Int), .i z.2.2] : List C)) hE18.symm)
    ·
     refine Qj ?_
     obtain ⟨x19, hx19⟩ : ∃ z : (List X9) × Nat × Int, Z7 n_ code x12.2.1 x12.2.2 q (deep - 1) not = z := ⟨_, rfl⟩
     have hbx19 := hx19 ▸ Mp code n_ x12.2.1 x12.2.2 q (deep - 1) not (by omega) (by omega)
     refine sn Qb [0, 1, 3, 8, 9] [60000] (pe 3 (Jb (IntWalk.i64_in (deep - 1) (by omega))) (po 5 (.give (some 63) (.o 0 x19.1) [.h code, .i ((x19.2.1 : Nat) : Int), .i x19.2.2]) (px (Q2 (hx19 ▸ ih code x12.2.1 x12.2.2 q (deep - 1) not (by omega) (by omega) (by omega))) p0))) ?_
     refine wT 1 0 (.own true 3008) x19.1 (fun hw20 hl21 => ?_)
     refine tn Qb [0, 1, 3, 8, 9, 10] [60000] (pl 1 x19.1 (pe 2 (Jb (IntWalk.i64_in ((x19.1.length : Int) - 1) (by omega))) p0)) ?_
     obtain ⟨x22, hx22⟩ : ∃ z : (List X9) × Nat × Int, Z7 n_ code x19.2.1 x19.2.2 x19.1 0 not = z := ⟨_, rfl⟩
     have hbx22 := hx22 ▸ Mp code n_ x19.2.1 x19.2.2 x19.1 0 not (by omega) (by omega)
     refine tu Qb [(1, .o 3456 x22.1), (10, .i ((x19.1.length : Int) - 1))] [1, 2, 3, 28] [(60000, [.h code, .i ((x22.2.1 : Nat) : Int), .i x22.2.2])] [60000] (po 3 (.give (some 3008) (.o 0 x22.1) [.h code, .i ((x22.2.1 : Nat) : Int), .i x22.2.2]) (px (Q2 (hx22 ▸ ih code x19.2.1 x19.2.2 x19.1 0 not (by omega) (by omega) (by omega))) p0)) ?_
     refine Qe ?_
     refine sn Qb [0, 1, 8, 10, 56] [60000] (p0) ?_
     refine ck (decide (x12.1 < (3 : Int))) (fun h23 => ?_) (fun h23 => ?_)
     ·
      have h23d := of_decide_eq_true h23
      refine wT 1 0 (.own true 3456) x22.1 (fun hw24 hl25 => ?_)
      refine tu Qb [(8, .one (.slc (.own true 4096) 7 ((eL x22.1) ++ [[.i 6, .i ((x19.1.length : Int) - 1), .i ((x22.1.length : Int) - 1), .s ⟨#[]⟩, .i 0, .i 0, .s ⟨#[]⟩]])))] [1, 8, 9] [] [] (pl 3 x22.1 (pe 4 (Jb (IntWalk.i64_in ((x22.1.length : Int) - 1) (by omega))) (pa x22.1 [((6, ((x19.1.length : Int) - 1), ((x22.1.length : Int) - 1), ⟨#[]⟩, (0, 0, ⟨#[]⟩)) : X9)] p0))) ?_
      refine eqn [(8, .o 4096 (x22.1 ++ [((6, ((x19.1.length : Int) - 1), ((x22.1.length : Int) - 1), ⟨#[]⟩, (0, 0, ⟨#[]⟩)) : X9)]))] [8] [] [] (by rw [show ((eL x22.1) ++ [[.i 6, .i ((x19.1.length : Int) - 1), .i ((x22.1.length : Int) - 1), .s ⟨#[]⟩, .i 0, .i 0, .s ⟨#[]⟩]]) = (eL (x22.1 ++ [((6, ((x19.1.length : Int) - 1), ((x22.1.length : Int) - 1), ⟨#[]⟩, (0, 0, ⟨#[]⟩)) : X9)])) from Ky (rfl) (rfl)]; first | done | kernel_rfl) ?_
      refine Qf ?_
      have hE26 : Z7 (n_ + 1) code ci ch q deep not = (x22.1 ++ [((6, ((x19.1.length : Int) - 1), ((x22.1.length : Int) - 1), ⟨#[]⟩, (0, 0, ⟨#[]⟩)) : X9)], x22.2.1, x22.2.2) := Qn h1 (Ys hx6 (Qn h7 (Ys hx12 (Qn h14 (Ys hx19 (Ys hx22 (Q8 h23 (rfl))))))))
      exact He [] (congrArg (fun z => (.o 0 z.1 : AV)) hE26.symm) (congrArg (fun z => ([.h code, .i ((z.2.1 : Nat) : Int), .i z.2.2] : List C)) hE26.symm)
     ·
      have h23d := of_decide_eq_false h23
      refine Qj ?_
      refine wT 1 0 (.own true 3456) x22.1 (fun hw27 hl28 => ?_)
      refine tu Qb [(8, .one (.slc (.own true 4608) 7 ((eL x22.1) ++ [[.i 7, .i ((x19.1.length : Int) - 1), .i ((x22.1.length : Int) - 1), .s ⟨#[]⟩, .i 0, .i 0, .s ⟨#[]⟩]])))] [1, 8, 9, 10] [] [] (pl 3 x22.1 (pe 4 (Jb (IntWalk.i64_in ((x22.1.length : Int) - 1) (by omega))) (pa x22.1 [((7, ((x19.1.length : Int) - 1), ((x22.1.length : Int) - 1), ⟨#[]⟩, (0, 0, ⟨#[]⟩)) : X9)] p0))) ?_
      refine eqn [(8, .o 4608 (x22.1 ++ [((7, ((x19.1.length : Int) - 1), ((x22.1.length : Int) - 1), ⟨#[]⟩, (0, 0, ⟨#[]⟩)) : X9)]))] [8] [] [] (by rw [show ((eL x22.1) ++ [[.i 7, .i ((x19.1.length : Int) - 1), .i ((x22.1.length : Int) - 1), .s ⟨#[]⟩, .i 0, .i 0, .s ⟨#[]⟩]]) = (eL (x22.1 ++ [((7, ((x19.1.length : Int) - 1), ((x22.1.length : Int) - 1), ⟨#[]⟩, (0, 0, ⟨#[]⟩)) : X9)])) from Ky (rfl) (rfl)]; first | done | kernel_rfl) ?_
      refine Qf ?_
      have hE29 : Z7 (n_ + 1) code ci ch q deep not = (x22.1 ++ [((7, ((x19.1.length : Int) - 1), ((x22.1.length : Int) - 1), ⟨#[]⟩, (0, 0, ⟨#[]⟩)) : X9)], x22.2.1, x22.2.2) := Qn h1 (Ys hx6 (Qn h7 (Ys hx12 (Qn h14 (Ys hx19 (Ys hx22 (Qn h23 (rfl))))))))
      exact He [] (congrArg (fun z => (.o 0 z.1 : AV)) hE29.symm) (congrArg (fun z => ([.h code, .i ((z.2.1 : Nat) : Int), .i z.2.2] : List C)) hE29.symm)
def Jj (code : (List UInt8)) (ci : Nat) (ch : Int) : (List X9) × Nat × Int := (lt (α := Int × Nat × Int) (Qk code ci ch 4) (fun x1 => (lt (α := (List X9) × Nat × Int) (Z7 (Int.toNat x1.1 + 1) code x1.2.1 x1.2.2 [] x1.1 true) (fun x2 => (x2.1, x2.2.1, x2.2.2)))))
theorem JV (code : List UInt8) (ci : Nat) (ch : Int) : 1 ≤ (Jj code ci ch).1.length ∧ (Jj code ci ch).1.length ≤ 7 := by
 unfold Jj lt
 have hb := Qy code ci ch 4
 generalize Qk code ci ch 4 = x at hb
 have h := Mp code (Int.toNat x.1 + 1) x.2.1 x.2.2 [] x.1 true (by omega) (by omega)
 simp only [List.length_nil] at h
 simp only
 omega
theorem Di (code : (List UInt8)) (ci : Nat) (ch : Int) : AGive Tryz.prog 84 [.h code, .i ((ci : Nat) : Int), .i ch] [] (.o 0 (((Jj code ci ch)).1)) [.h code, .i ((((Jj code ci ch)).2.1 : Nat) : Int), .i (((Jj code ci ch)).2.2)] := by
 refine Kf (tt := tt) Qb Tryz.func84 (fn := Tryz.f84) rfl (by unfold C9; kernel_rfl) (Nat.le_of_ble_eq_true rfl) (Nat.le_of_ble_eq_true rfl) rfl rfl fun w0 F0 hG => ?_
 refine sn Qb [0, 2] [60000] (p0) ?_
 obtain ⟨x1, hx1⟩ : ∃ z : Int × Nat × Int, Qk code ci ch 4 = z := ⟨_, rfl⟩
 have hbx1 := hx1 ▸ Qy code ci ch 4
 obtain ⟨x2, hx2⟩ : ∃ z : (List X9) × Nat × Int, Z7 (Int.toNat x1.1 + 1) code x1.2.1 x1.2.2 [] x1.1 true = z := ⟨_, rfl⟩
 have hbx2 := hx2 ▸ Mp code (Int.toNat x1.1 + 1) x1.2.1 x1.2.2 [] x1.1 true (by omega) (by omega)
 refine tn Qb [0, 2] [60000] (po 2 (.give none (.i x1.1) [.h code, .i ((x1.2.1 : Nat) : Int), .i x1.2.2]) (px (Q2 (hx1 ▸ Q7 code ci ch 4)) (po 3 (.give none (.o 0 x2.1) [.h code, .i ((x2.2.1 : Nat) : Int), .i x2.2.2]) (px (Q2 (hx2 ▸ (JU (Int.toNat x1.1 + 1) code x1.2.1 x1.2.2 [] x1.1 true (by omega) (by omega) (by first | omega | (simp; omega))).emp (m := 0) (by simp [AV.cells, C.key, C.bkeys, Tok.key]))) p0)))) ?_
 refine Qf ?_
 have hE3 : Jj code ci ch = (x2.1, x2.2.1, x2.2.2) := Ys hx1 (Ys hx2 (rfl))
 exact He [] (congrArg (fun z => (.o 0 z.1 : AV)) hE3.symm) (congrArg (fun z => ([.h code, .i ((z.2.1 : Nat) : Int), .i z.2.2] : List C)) hE3.symm)
def Zu (code : (List UInt8)) (s0 : (List Y5) × Int × Nat × Int) : Rd ((List Y5) × Nat × Int) ((List Y5) × Int × Nat × Int) ((List Y5) × Nat × Int) := (lt (α := Int × Nat × Int) (Qk code s0.2.2.1 s0.2.2.2 4) (fun x1 => (bif decide (s0.2.1 < (1 + x1.1)) then (lt (α := (List X9) × Nat × Int) (Jj code x1.2.1 x1.2.2) (fun x4 => (.next (s0.1 ++ [((nth ([⟨#[100, 97]⟩, ⟨#[100, 98]⟩, ⟨#[100, 99]⟩, ⟨#[100, 100]⟩] : (List ByteArray)) (Int.toNat s0.2.1)), x4.1)], (s0.2.1 + 1), x4.2.1, x4.2.2)))) else (.brk (s0.1, x1.2.1, x1.2.2)))))
def K1 (code : (List UInt8)) (ci : Nat) (ch : Int) : (List Y5) × Nat × Int := (Out.on (E0 (Zu code) 5 ([], 0, ci, ch)) (fun y0 => (y0.1, y0.2.1, y0.2.2)))
theorem Iq (code : List UInt8) (ci : Nat) (ch : Int) : (whl (Zu code) 5 ([], 0, ci, ch)).isSome = true :=
  BN (fun s => s.2.1) 4 (fun s s' h0 h => by
    unfold Zu lt at h
    have hb := Qy code s.2.2.1 s.2.2.2 4
    generalize Qk code s.2.2.1 s.2.2.2 4 = x at h hb
    by_cases hc : s.2.1 < 1 + x.1
    · simp only [decide_eq_true hc, cond_true] at h
      have h := Rd.next.inj h
      rw [← h]
      exact ⟨by omega, rfl⟩
    · simp only [decide_eq_false hc, cond_false] at h
      cases h) 4 _ (by show (0 : Int) ≤ 0; decide) (by show (4 : Int) ≤ 0 + 4; decide)
theorem Pb (code : (List UInt8)) (ci : Nat) (ch : Int) : AGive Tryz.prog 78 [.h code, .i ((ci : Nat) : Int), .i ch] [] (.o 0 (((K1 code ci ch)).1)) [.h code, .i ((((K1 code ci ch)).2.1 : Nat) : Int), .i (((K1 code ci ch)).2.2)] := by
 refine Kf (tt := tt) Qb Tryz.func78 (fn := Tryz.f78) rfl (by unfold C9; kernel_rfl) (Nat.le_of_ble_eq_true rfl) (Nat.le_of_ble_eq_true rfl) rfl rfl fun w0 F0 hG => ?_
 refine sn Qb [0, 2] [60000] (p0) ?_
 refine tn Qb [0, 2, 3] [60000] (p0) ?_
 refine Qe ?_
 refine tu Qb [(2, .e 0), (3, .one (.slc (.own true 320) 2 [])), (4, .i 0)] [] [] [] (p0) ?_
 refine blw (fun (s0 : (List Y5) × Int × Nat × Int) => [(3, .o 147202 s0.1), (4, .i s0.2.1)]) [3, 4] (fun s0 => [(60000, [.h code, .i ((s0.2.2.1 : Nat) : Int), .i s0.2.2.2])]) [60000] (fun (y0 : (List Y5) × Nat × Int) => [(3, .o 147352 y0.1)]) [3, 4] (fun y0 => [(60000, [.h code, .i ((y0.2.1 : Nat) : Int), .i y0.2.2])]) [60000] (fun (k0 : Nat) (s0 : (List Y5) × Int × Nat × Int) => whl (Zu code) k0 s0 = some (E0 (Zu code) 5 ([], 0, ci, ch)) ∧ 0 ≤ s0.2.1 ∧ (List.length s0.1 : Int) ≤ s0.2.1) (fun (y0 : (List Y5) × Nat × Int) => (E0 (Zu code) 5 ([], 0, ci, ch)) = .brk y0) 5 ([], 0, ci, ch) (Xy [(320, 147202)] (by kernel_rfl)) ⟨Ca (Iq code ci ch), (by first | omega | (simp; done) | (dsimp only; omega)), (by first | omega | (simp; done) | (dsimp only; omega))⟩ (fun _ h => Dn h.1) (fun k0 s0 hI0 => ?_) (fun y0 hD0 => ?_)
 ·
  have hA0_0 := hI0.2.1
  have hA0_1 := hI0.2.2
  refine Qe ?_
  obtain ⟨x1, hx1⟩ : ∃ z : Int × Nat × Int, Qk code s0.2.2.1 s0.2.2.2 4 = z := ⟨_, rfl⟩
  have hbx1 := hx1 ▸ Qy code s0.2.2.1 s0.2.2.2 4
  refine sn Qb [0, 2, 3, 4, 10] [60000] (po 2 (.give none (.i x1.1) [.h code, .i ((x1.2.1 : Nat) : Int), .i x1.2.2]) (px (Q2 (hx1 ▸ Q7 code s0.2.2.1 s0.2.2.2 4)) (pe 3 (Jb (IntWalk.i64_in (1 + x1.1) (by omega))) p0))) ?_
  refine ck (decide (s0.2.1 < (1 + x1.1))) (fun h2 => ?_) (fun h2 => ?_)
  ·
   have h2d := of_decide_eq_true h2
   refine Qj ?_
   refine Qe ?_
   refine Qt ?_
   have hx3 := ng ([⟨#[100, 97]⟩, ⟨#[100, 98]⟩, ⟨#[100, 99]⟩, ⟨#[100, 100]⟩] : (List ByteArray)) (Int.toNat s0.2.1) (by simp only [List.length_cons, List.length_nil]; omega)
   obtain ⟨x4, hx4⟩ : ∃ z : (List X9) × Nat × Int, Jj code x1.2.1 x1.2.2 = z := ⟨_, rfl⟩
   have hbx4 := hx4 ▸ JV code x1.2.1 x1.2.2
   refine wT 3 0 (.own true 147202) s0.1 (fun hw5 hl6 => ?_)
   refine qU Qb Yn [(3, .one (.slc (.own true 1408) 2 ((eL s0.1) ++ [[.s (nth ([⟨#[100, 97]⟩, ⟨#[100, 98]⟩, ⟨#[100, 99]⟩, ⟨#[100, 100]⟩] : (List ByteArray)) (Int.toNat s0.2.1)), .h x4.1]])))] [3] [(60000, [.h code, .i ((x4.2.1 : Nat) : Int), .i x4.2.2])] [60000] (pG 3 s0.2.1 hx3 (po 6 (.give none (.o 0 x4.1) [.h code, .i ((x4.2.1 : Nat) : Int), .i x4.2.2]) (px (Q2 (hx4 ▸ Di code x1.2.1 x1.2.2)) (pa s0.1 [((nth ([⟨#[100, 97]⟩, ⟨#[100, 98]⟩, ⟨#[100, 99]⟩, ⟨#[100, 100]⟩] : (List ByteArray)) (Int.toNat s0.2.1)), x4.1)] p0)))) ?_
   refine eqn [(3, .o 1408 (s0.1 ++ [((nth ([⟨#[100, 97]⟩, ⟨#[100, 98]⟩, ⟨#[100, 99]⟩, ⟨#[100, 100]⟩] : (List ByteArray)) (Int.toNat s0.2.1)), x4.1)]))] [3] [] [] (by rw [show ((eL s0.1) ++ [[.s (nth ([⟨#[100, 97]⟩, ⟨#[100, 98]⟩, ⟨#[100, 99]⟩, ⟨#[100, 100]⟩] : (List ByteArray)) (Int.toNat s0.2.1)), .h x4.1]]) = (eL (s0.1 ++ [((nth ([⟨#[100, 97]⟩, ⟨#[100, 98]⟩, ⟨#[100, 99]⟩, ⟨#[100, 100]⟩] : (List ByteArray)) (Int.toNat s0.2.1)), x4.1)])) from Ky (rfl) (rfl)]; first | done | kernel_rfl) ?_
   refine rn Qb [0, 2, 3, 4] [60000] (pe 1 (Jb (IntWalk.i64_in (s0.2.1 + 1) (by omega))) p0) ?_
   exact Exists.intro (s0.1 ++ [((nth ([⟨#[100, 97]⟩, ⟨#[100, 98]⟩, ⟨#[100, 99]⟩, ⟨#[100, 100]⟩] : (List ByteArray)) (Int.toNat s0.2.1)), x4.1)], (s0.2.1 + 1), x4.2.1, x4.2.2) (And.intro (Xy [(1408, 147202)] (by kernel_rfl)) ⟨wn hI0.1 (Ys hx1 (Q8 h2 (Ys hx4 (rfl)))), (by first | omega | (simp; omega)), (by first | omega | (simp; omega))⟩)
  ·
   refine Q3 ?_
   exact Exists.intro (s0.1, x1.2.1, x1.2.2) (And.intro (Xy [(147202, 147352)] (by kernel_rfl)) (wb hI0.1 (Ys hx1 (Qn h2 (rfl)))))
 ·
  refine sn Qb [0, 2] [60000] (p0) ?_
  refine Qf ?_
  have hE7 : K1 code ci ch = (y0.1, y0.2.1, y0.2.2) := Wf hD0 (rfl)
  exact He [] (congrArg (fun z => (.o 0 z.1 : AV)) hE7.symm) (congrArg (fun z => ([.h code, .i ((z.2.1 : Nat) : Int), .i z.2.2] : List C)) hE7.symm)
def Kc (d : (List Y5)) : Bool := ((Xu d)).2
theorem Pc (d : (List Y5)) : ACalls Tryz.prog 79 [.h d] (.b (Kc d)) := by
 refine en Qb Tryz.func79 fun w0 F0 hG => ?_
 refine sn Qb [0, 2] [] (p0) ?_
 refine tn Qb [2, 4] [] (pc 1 (Lt d) p0) ?_
 refine tu Qb [(2, .b (((Xu d)).2))] [0] [] [] (p0) ?_
 refine Qf ?_
 exact pb [] (show Kc d = ((Xu d)).2 from rfl)
def Ju (s0 : (List Y5)) : Rd ((List Y5) × Nat × Int) ((List Y5)) ((List Y5)) := (bif (decide ((s0.length : Int) > (0 : Int)) && (!(Kc s0))) then (.next (List.take (Int.toNat ((s0.length : Int) - 1)) s0)) else (.brk s0))
def J9 (code : (List UInt8)) (ci : Nat) (ch : Int) : (List Y5) × Nat × Int := (lt (α := (List Y5) × Nat × Int) (K1 code ci ch) (fun x1 => (Out.on (E0 Ju (List.length x1.1 + 1) x1.1) (fun y0 => (bif ((y0.length : Int) == (0 : Int)) then ([((⟨#[100, 97]⟩, [((1, 0, 0, ⟨#[]⟩, (0, 0, ⟨#[]⟩)) : X9)]) : Y5)], x1.2.1, x1.2.2) else (y0, x1.2.1, x1.2.2))))))
theorem Pd (code : List UInt8) (d : List Y5) : (whl Ju (List.length d + 1) d).isSome = true :=
  BO (fun s => List.length s) (fun s s' h => by
    unfold Ju at h
    by_cases hc : ((s.length : Int) > 0)
    · simp only [decide_eq_true hc, Bool.true_and, cond_true] at h
      cases hs : Kc s <;> simp only [hs, Bool.not_true, Bool.not_false, cond_true, cond_false] at h
      · have h := Rd.next.inj h
        rw [← h, List.length_take]
        omega
      · cases h
    · simp only [decide_eq_false hc, Bool.false_and, cond_false] at h
      cases h) _ _ (Nat.lt_succ_self _)
theorem PY (code : List UInt8) (ci : Nat) (ch : Int) : 0 < (J9 code ci ch).1.length := by
  unfold J9 lt
  generalize K1 code ci ch = x
  obtain ⟨t, ht⟩ := Mo (f := Ju) (fun s r => by
    unfold Ju
    generalize (decide ((s.length : Int) > (0 : Int)) && (!(Kc s))) = c
    cases c <;> simp) (List.length x.1 + 1) x.1
  simp only [ht, Out.on]
  by_cases h : (t.length : Int) = 0
  · rw [beq_iff_eq.2 h]; exact Nat.zero_lt_one
  · rw [beq_eq_false_iff_ne.2 h]
    show 0 < t.length
    omega
theorem Pe (code : (List UInt8)) (ci : Nat) (ch : Int) : AGive Tryz.prog 52 [.h code, .i ((ci : Nat) : Int), .i ch] [] (.h (((J9 code ci ch)).1)) [.h code, .i ((((J9 code ci ch)).2.1 : Nat) : Int), .i (((J9 code ci ch)).2.2)] := by
 refine Kf (tt := tt) Qb Tryz.func52 (fn := Tryz.f52) rfl (by unfold C9; kernel_rfl) (Nat.le_of_ble_eq_true rfl) (Nat.le_of_ble_eq_true rfl) rfl rfl fun w0 F0 hG => ?_
 refine sn Qb [0, 2] [60000] (p0) ?_
 obtain ⟨x1, hx1⟩ : ∃ z : (List Y5) × Nat × Int, K1 code ci ch = z := ⟨_, rfl⟩
 refine tn Qb [0, 2, 3] [60000] (po 1 (.give none (.o 0 x1.1) [.h code, .i ((x1.2.1 : Nat) : Int), .i x1.2.2]) (px (Q2 (hx1 ▸ Pb code ci ch)) p0)) ?_
 refine Qe ?_
 refine mz [(2, .e 0), (3, .o 320 x1.1)] [] [(60000, [.h code, .i ((x1.2.1 : Nat) : Int), .i x1.2.2])] [60000] ?_
 refine blw (fun (s0 : (List Y5)) => [(3, .h s0)]) [3] (fun s0 => []) [] (fun (y0 : (List Y5)) => [(3, .h y0)]) [3] (fun y0 => []) [] (fun (k0 : Nat) (s0 : (List Y5)) => whl Ju k0 s0 = some (E0 Ju (List.length x1.1 + 1) x1.1)) (fun (y0 : (List Y5)) => (E0 Ju (List.length x1.1 + 1) x1.1) = .brk y0) (List.length x1.1 + 1) x1.1 (F5 [] [320] [] [] (by kernel_rfl)) (Ca (Pd code x1.1)) (fun _ h => Dn h) (fun k0 s0 hI0 => ?_) (fun y0 hD0 => ?_)
 ·
  refine Qe ?_
  refine Qe ?_
  refine jn [(13, .b (decide ((s0.length : Int) > (0 : Int)) && (!(Kc s0))))] [] [] [] (decide ((s0.length : Int) > (0 : Int))) (fun h2 => ?_) (fun h2 => ?_) ?_
  ·
   refine rn Qb [0, 2, 3, 13] [60000] (pl 1 s0 (pt 2 h2 (pc 5 (Pc s0) p0))) ?_
   exact ⟨rfl, Qd (by rw [h2]; first | done | kernel_rfl)⟩
  ·
   refine rn Qb [0, 2, 3, 13] [60000] (pl 1 s0 (pf 2 h2 p0)) ?_
   exact ⟨rfl, Qd (by rw [h2]; first | done | kernel_rfl)⟩
  refine ck (decide ((s0.length : Int) > (0 : Int)) && (!(Kc s0))) (fun h3 => ?_) (fun h3 => ?_)
  ·
   have h3l : (decide ((s0.length : Int) > (0 : Int))) = true := HO h3
   have h3ld := of_decide_eq_true h3l
   refine Qj ?_
   refine Qt ?_
   refine wT 3 0 .sh s0 (fun hw4 hl5 => ?_)
   refine rn Qb [0, 2, 3] [60000] (pl 2 s0 (pe 3 (Jb (IntWalk.i64_in ((s0.length : Int) - 1) (by omega))) (pe 4 (Lk .sh 2 (Int.toNat ((s0.length : Int) - 1)) ((s0.length : Int) - 1) s0 rfl) (px (Ek (lo := 0) (hi := ((s0.length : Int) - 1)) (n := (List.length (eL s0))) (Tj (by omega) (by omega) (by omega))) p0)))) ?_
   exact Exists.intro _ (And.intro (Qd (by kernel_rfl)) (wn hI0 (Q8 h3 (rfl))))
  ·
   refine Q3 ?_
   exact Exists.intro _ (And.intro (Qd (by kernel_rfl)) (wb hI0 (Qn h3 (rfl))))
 ·
  refine Qe ?_
  refine sn Qb [0, 2, 3, 21] [60000] (pl 1 y0 p0) ?_
  refine ck ((y0.length : Int) == (0 : Int)) (fun h6 => ?_) (fun h6 => ?_)
  ·
   refine qn Qb [0, 2, 3] [60000] (p0) ?_
   refine tu Qb [(2, .o 1600 [((⟨#[100, 97]⟩, [((1, 0, 0, ⟨#[]⟩, (0, 0, ⟨#[]⟩)) : X9)]) : Y5)])] [2, 3] [] [] (p0) ?_
   refine Qf ?_
   have hE7 : J9 code ci ch = ([((⟨#[100, 97]⟩, [((1, 0, 0, ⟨#[]⟩, (0, 0, ⟨#[]⟩)) : X9)]) : Y5)], x1.2.1, x1.2.2) := Ys hx1 (Wf hD0 (Q8 h6 (rfl)))
   exact He [1600] (congrArg (fun z => (.h z.1 : AV)) hE7.symm) (congrArg (fun z => ([.h code, .i ((z.2.1 : Nat) : Int), .i z.2.2] : List C)) hE7.symm)
  ·
   refine Qj ?_
   refine tn Qb [0, 2] [60000] (p0) ?_
   refine Qf ?_
   have hE8 : J9 code ci ch = (y0, x1.2.1, x1.2.2) := Ys hx1 (Wf hD0 (Qn h6 (rfl)))
   exact He [] (congrArg (fun z => (.h z.1 : AV)) hE8.symm) (congrArg (fun z => ([.h code, .i ((z.2.1 : Nat) : Int), .i z.2.2] : List C)) hE8.symm)
def Cu (code : (List UInt8)) (k0 : Nat) (s0 : (List Int) × Nat × Int) : Rd ((List Int) × Nat × Int) ((List Int) × Nat × Int) ((List Int) × Nat × Int) := (lt (α := Bool × Nat × Int) (Y2 code s0.2.1 s0.2.2 2) (fun x1 => (bif x1.1 then (.next (s0.1 ++ [((k0 + 1 : Nat) : Int)], x1.2.1, x1.2.2)) else (.next (s0.1, x1.2.1, x1.2.2)))))
def Ey (_ : Nat) (s0 : (List Int) × Nat × Int) : (List Int) × Nat × Int := (s0.1, s0.2.1, s0.2.2)
def Kl (code : (List UInt8)) (ci : Nat) (ch : Int) : (List Int) × Nat × Int := (Out.on (Vz (Cu code) Ey (Int.toNat ((8 : Int) - 1)) 0 ([], ci, ch)) (fun y0 => (y0.1, y0.2.1, y0.2.2)))
theorem Fv (code : (List UInt8)) (ci : Nat) (ch : Int) : AGive Tryz.prog 34 [.h code, .i ((ci : Nat) : Int), .i ch] [] (.o 0 (((Kl code ci ch)).1)) [.h code, .i ((((Kl code ci ch)).2.1 : Nat) : Int), .i (((Kl code ci ch)).2.2)] := by
 refine Kf (tt := tt) Qb Tryz.func34 (fn := Tryz.f34) rfl (by unfold C9; kernel_rfl) (Nat.le_of_ble_eq_true rfl) (Nat.le_of_ble_eq_true rfl) rfl rfl fun w0 F0 hG => ?_
 refine sn Qb [0, 2] [60000] (p0) ?_
 refine tn Qb [0, 2, 3] [60000] (p0) ?_
 refine Qe ?_
 refine tu Qb [(2, .e 0), (3, .one (.slc (.own true 320) 1 [])), (4, .i 1)] [] [] [] (p0) ?_
 refine SM (Cu code) Ey (Int.toNat ((8 : Int) - 1)) ([], ci, ch) (fun k0 s0 => [(3, .o 147202 s0.1), (4, .i ((k0 + 1 : Nat) : Int))]) [3, 4] (fun _ s0 => [(60000, [.h code, .i ((s0.2.1 : Nat) : Int), .i s0.2.2])]) [60000] (fun y0 => [(3, .o 147352 y0.1)]) [3, 4] (fun y0 => [(60000, [.h code, .i ((y0.2.1 : Nat) : Int), .i y0.2.2])]) [60000] (fun k0 s0 => List.length s0.1 ≤ k0) (Xy [(320, 147202)] (by kernel_rfl)) (by simp) (fun k0 s0 hk0 hI0 => ?_) (fun k0 s0 hk0 hI0 => ?_) (fun y0 hD0 => ?_)
 ·
  have hA0_0 := hI0.2
  refine Qe ?_
  refine su Qb [(7, .b true)] [] [] [] (pe 1 (Qs (decide_eq_true (p := ((k0 + 1 : Nat) : Int) < (8 : Int)) (by omega))) p0) ?_
  refine ckT ?_
  refine Qj ?_
  refine Qe ?_
  refine Qt ?_
  obtain ⟨x1, hx1⟩ : ∃ z : Bool × Nat × Int, Y2 code s0.2.1 s0.2.2 2 = z := ⟨_, rfl⟩
  refine sn Qb [0, 2, 3, 4, 11] [60000] (po 1 (.give none (.b x1.1) [.h code, .i ((x1.2.1 : Nat) : Int), .i x1.2.2]) (px (Q2 (hx1 ▸ Vc code s0.2.1 s0.2.2 2)) p0)) ?_
  refine ck x1.1 (fun h2 => ?_) (fun h2 => ?_)
  ·
   refine wT 3 0 (.own true 147202) s0.1 (fun hw3 hl4 => ?_)
   refine qu Qb [(3, .one (.slc (.own true 960) 1 ((eL s0.1) ++ [[.i ((k0 + 1 : Nat) : Int)]])))] [3, 7] [(60000, [.h code, .i ((x1.2.1 : Nat) : Int), .i x1.2.2])] [60000] (pa s0.1 [((k0 + 1 : Nat) : Int)] p0) ?_
   refine eqn [(3, .o 960 (s0.1 ++ [((k0 + 1 : Nat) : Int)]))] [3] [] [] (by rw [show ((eL s0.1) ++ [[.i ((k0 + 1 : Nat) : Int)]]) = (eL (s0.1 ++ [((k0 + 1 : Nat) : Int)])) from Ky (rfl) (rfl)]; first | done | kernel_rfl) ?_
   refine rn Qb [0, 2, 3, 4] [60000] (pe 1 (show .i (IntKind.i64.wrap (((k0 + 1 : Nat) : Int) + 1)) = .i ((k0 + 2 : Nat) : Int) from Jb ((IntWalk.i64_in _ (by omega)).trans (by omega))) p0) ?_
   exact Exists.intro (s0.1 ++ [((k0 + 1 : Nat) : Int)], x1.2.1, x1.2.2) (And.intro (Xy [(960, 147202)] (by kernel_rfl)) ⟨K3 hk0 (Ys hx1 (Q8 h2 (rfl))) hI0.1, by first | omega | (simp; omega) | simp⟩)
  ·
   refine Qj ?_
   refine qn Qb [0, 2, 3, 4] [60000] (pe 1 (show .i (IntKind.i64.wrap (((k0 + 1 : Nat) : Int) + 1)) = .i ((k0 + 2 : Nat) : Int) from Jb ((IntWalk.i64_in _ (by omega)).trans (by omega))) p0) ?_
   exact Exists.intro (s0.1, x1.2.1, x1.2.2) (And.intro (Qd (by kernel_rfl)) ⟨K3 hk0 (Ys hx1 (Qn h2 (rfl))) hI0.1, by first | omega | (simp; omega) | simp⟩)
 ·
  have hA0_0 := hI0.2
  refine Qe ?_
  refine sn Qb [0, 2, 3, 4, 7] [60000] (pe 1 (Qs (decide_eq_false (p := ((k0 + 1 : Nat) : Int) < (8 : Int)) (by omega))) p0) ?_
  refine ckF ?_
  refine Q3 ?_
  exact Exists.intro _ (And.intro (Xy [(147202, 147352)] (by kernel_rfl)) (A5 hk0 (rfl) hI0.1))
 ·
  refine sn Qb [0, 2] [60000] (p0) ?_
  refine Qf ?_
  have hE5 : Kl code ci ch = (y0.1, y0.2.1, y0.2.2) := Wf hD0 (rfl)
  exact He [] (congrArg (fun z => (.o 0 z.1 : AV)) hE5.symm) (congrArg (fun z => ([.h code, .i ((z.2.1 : Nat) : Int), .i z.2.2] : List C)) hE5.symm)
def Y4 (code : (List UInt8)) (ci : Nat) (ch : Int) (list : (List Int)) : Int × Nat × Int := (lt (α := Int × Nat × Int) (Qk code ci ch (list.length : Int)) (fun x1 => ((nth list (Int.toNat x1.1)), x1.2.1, x1.2.2)))
theorem Vi (code : (List UInt8)) (ci : Nat) (ch : Int) (list : (List Int)) (hp : 0 < List.length list) : AGive Tryz.prog 62 [.h code, .i ((ci : Nat) : Int), .i ch] [.h list] (.i (((Y4 code ci ch list)).1)) [.h code, .i ((((Y4 code ci ch list)).2.1 : Nat) : Int), .i (((Y4 code ci ch list)).2.2)] := by
 refine Kf (tt := tt) Qb Tryz.func62 (fn := Tryz.f62) rfl (by unfold C9; kernel_rfl) (Nat.le_of_ble_eq_true rfl) (Nat.le_of_ble_eq_true rfl) rfl rfl fun w0 F0 hG => ?_
 refine sn Qb [0, 1, 4] [60000] (p0) ?_
 obtain ⟨x1, hx1⟩ : ∃ z : Int × Nat × Int, Qk code ci ch (list.length : Int) = z := ⟨_, rfl⟩
 have hbx1 := hx1 ▸ Qy code ci ch (list.length : Int)
 refine wT 1 0 .sh list (fun hw3 hl4 => ?_)
 have hx2 := ng list (Int.toNat x1.1)
 refine tn Qb [0, 4] [60000] (pl 3 list (po 4 (.give none (.i x1.1) [.h code, .i ((x1.2.1 : Nat) : Int), .i x1.2.2]) (px (Q2 (hx1 ▸ Q7 code ci ch (list.length : Int))) (pg 5 x1.1 hx2 p0)))) ?_
 refine Qf ?_
 have hE5 : Y4 code ci ch list = ((nth list (Int.toNat x1.1)), x1.2.1, x1.2.2) := Ys hx1 (rfl)
 exact He [] (congrArg (fun z => (.i z.1 : AV)) hE5.symm) (congrArg (fun z => ([.h code, .i ((z.2.1 : Nat) : Int), .i z.2.2] : List C)) hE5.symm)
def H7 (code : (List UInt8)) (ci : Nat) (ch : Int) : Int × Nat × Int := (lt (α := Int × Nat × Int) (Y4 code ci ch [0, 1, 2, 0, 1, 3, -1]) (fun x1 => (x1.1, x1.2.1, x1.2.2)))
theorem Pf (code : (List UInt8)) (ci : Nat) (ch : Int) : AGive Tryz.prog 53 [.h code, .i ((ci : Nat) : Int), .i ch] [] (.i (((H7 code ci ch)).1)) [.h code, .i ((((H7 code ci ch)).2.1 : Nat) : Int), .i (((H7 code ci ch)).2.2)] := by
 refine Kf (tt := tt) Qb Tryz.func53 (fn := Tryz.f53) rfl (by unfold C9; kernel_rfl) (Nat.le_of_ble_eq_true rfl) (Nat.le_of_ble_eq_true rfl) rfl rfl fun w0 F0 hG => ?_
 refine sn Qb [0, 2] [60000] (p0) ?_
 obtain ⟨x1, hx1⟩ : ∃ z : Int × Nat × Int, Y4 code ci ch [0, 1, 2, 0, 1, 3, -1] = z := ⟨_, rfl⟩
 refine tn Qb [0, 2] [60000] (po 2 (.give none (.i x1.1) [.h code, .i ((x1.2.1 : Nat) : Int), .i x1.2.2]) (px (Q2 (hx1 ▸ Vi code ci ch [0, 1, 2, 0, 1, 3, -1] (Nat.zero_lt_succ _))) p0)) ?_
 refine Qf ?_
 have hE2 : H7 code ci ch = (x1.1, x1.2.1, x1.2.2) := Ys hx1 (rfl)
 exact He [] (congrArg (fun z => (.i z.1 : AV)) hE2.symm) (congrArg (fun z => ([.h code, .i ((z.2.1 : Nat) : Int), .i z.2.2] : List C)) hE2.symm)
def Hl (code : (List UInt8)) (ci : Nat) (ch : Int) : Int × Nat × Int := (lt (α := Int × Nat × Int) (Y4 code ci ch [1, 2, 3, 4, 5, 1, 2, 0, -1]) (fun x1 => (x1.1, x1.2.1, x1.2.2)))
theorem R2 (code : (List UInt8)) (ci : Nat) (ch : Int) : AGive Tryz.prog 33 [.h code, .i ((ci : Nat) : Int), .i ch] [] (.i (((Hl code ci ch)).1)) [.h code, .i ((((Hl code ci ch)).2.1 : Nat) : Int), .i (((Hl code ci ch)).2.2)] := by
 refine Kf (tt := tt) Qb Tryz.func33 (fn := Tryz.f33) rfl (by unfold C9; kernel_rfl) (Nat.le_of_ble_eq_true rfl) (Nat.le_of_ble_eq_true rfl) rfl rfl fun w0 F0 hG => ?_
 refine sn Qb [0, 2] [60000] (p0) ?_
 obtain ⟨x1, hx1⟩ : ∃ z : Int × Nat × Int, Y4 code ci ch [1, 2, 3, 4, 5, 1, 2, 0, -1] = z := ⟨_, rfl⟩
 refine tn Qb [0, 2] [60000] (po 2 (.give none (.i x1.1) [.h code, .i ((x1.2.1 : Nat) : Int), .i x1.2.2]) (px (Q2 (hx1 ▸ Vi code ci ch [1, 2, 3, 4, 5, 1, 2, 0, -1] (Nat.zero_lt_succ _))) p0)) ?_
 refine Qf ?_
 have hE2 : Hl code ci ch = (x1.1, x1.2.1, x1.2.2) := Ys hx1 (rfl)
 exact He [] (congrArg (fun z => (.i z.1 : AV)) hE2.symm) (congrArg (fun z => ([.h code, .i ((z.2.1 : Nat) : Int), .i z.2.2] : List C)) hE2.symm)
def Yj (s_ : Q5) (d : (List Y5)) (u : Int) (name : ByteArray) : Yu := (u, name, (Xg s_ d u name), [])
theorem Hm (s_ : Q5) (d : (List Y5)) (u : Int) (name : ByteArray) : ACalls Tryz.prog 13 [.a [.h s_.1, .h s_.2.1, .i s_.2.2], .h d, .i u, .s name] (.a [.i ((Yj s_ d u name).1), .s ((Yj s_ d u name).2.1), .o 0 ((Yj s_ d u name).2.2.1), .o 1 ((Yj s_ d u name).2.2.2)]) := by
 refine en Qb Tryz.func13 fun w0 F0 hG => ?_
 refine sn Qb [1, 2, 3, 4, 8] [4, 8] (p0) ?_
 refine tn Qb [8] [8] (pc 6 (Hb s_ d u name) p0) ?_
 refine opn [(true, 8, 3, true, 384000, 3)] ?_
 refine Qf ?_
 exact pz [] (show Yj s_ d u name = (u, name, (Xg s_ d u name), []) from rfl) (fun z => .a [.i z.1, .s z.2.1, .o 0 z.2.2.1, .o 1 z.2.2.2])
end Go.Proofs.YtockoklfegpgeaaGreat
namespace Go.Proofs.YtockoklfegpgeaaGreat
open Go.RowKit
def stA (l : List Bf) (nm : ByteArray) (v : Wg) : List Bf := (Xf (0, 0, false, 0, l) nm v).2.2.2.2
theorem EK (f : X4) (nm : ByteArray) (v : Wg) : Xf f nm v = (f.1, f.2.1, f.2.2.1, f.2.2.2.1, stA f.2.2.2.2 nm v) := by
  obtain ⟨a, b, c, d, l⟩ := f
  unfold stA Xf
  dsimp only
  rw [Hz (f := Dt nm) (e := Hj) (p := fun a => !(a.1.toList == nm.toList)) (g := id) (fun _ _ _ => rfl)]
  simp only [Out.on]
  cases (v.1 != (0 : Int)) with
  | false => rfl
  | true =>
    simp only [cond_true]
    generalize Hj _ _ = l'
    obtain ⟨t, ht⟩ := Rg (f := Hk nm) (e := Du) (fun k a s r => by
      unfold Hk
      generalize (Op.bytesLess a.1.toList nm.toList || a.1.toList == nm.toList) = c
      cases c <;> simp) l' 0 ()
    rw [ht]
def ints4 : List Int := [0, 1, 2, 3]
def A1 : List (List Bf) := [] :: ints4.map fun n => stA [] ⟨#[97]⟩ (Ya n)
def A2 : List (List Bf) := A1 ++ A1.flatMap fun l => ints4.map fun n => stA l ⟨#[98]⟩ (Ya n)
def A3 : List (List Bf) := A2 ++ A2.flatMap fun l => ([⟨#[105, 110, 107]⟩, ⟨#[115, 101, 97]⟩] : List ByteArray).map fun s => stA l ⟨#[110]⟩ (Xc s)
def A4 : List (List Bf) := A3 ++ A3.flatMap fun l => ([⟨#[114, 101, 100]⟩, ⟨#[98, 108, 117, 101]⟩] : List ByteArray).map fun s => stA l ⟨#[116]⟩ (Xc s)
theorem in4 {x : Int} (h0 : 0 ≤ x) (h1 : x < 4) : x ∈ ints4 := by
  unfold ints4
  simp only [List.mem_cons, List.not_mem_nil, or_false]
  omega
theorem JW (code : List UInt8) (ci : Nat) (ch : Int) {list : List ByteArray} (hp : 0 < list.length) : (Yd code ci ch list).1 ∈ list := by
  unfold Yd lt
  have hb := Qy code ci ch (list.length : Int)
  generalize Qk code ci ch (list.length : Int) = x at hb ⊢
  exact List.mem_of_getElem? (Ho (by omega))
structure FOk (id : Int) (S : List (List Bf)) (f : X4) : Prop where
  h1 : f.1 = id
  h2 : 0 ≤ f.2.1
  h3 : f.2.1 ≤ 2
  h4 : 0 ≤ f.2.2.2.1
  h5 : f.2.2.2.1 ≤ 6
  h6 : f.2.2.2.2 ∈ S
theorem JX {id : Int} {S S' : List (List Bf)} {f : X4} {nm : ByteArray} {v : Wg} (h : FOk id S f) (hm : ∀ l, l ∈ S → stA l nm v ∈ S') : FOk id S' (Xf f nm v) := by
  rw [EK]
  exact ⟨h.h1, h.h2, h.h3, h.h4, h.h5, hm _ h.h6⟩
theorem JY {id : Int} {S S' : List (List Bf)} {f : X4} (h : FOk id S f) (hm : ∀ l, l ∈ S → l ∈ S') : FOk id S' f := ⟨h.h1, h.h2, h.h3, h.h4, h.h5, hm _ h.h6⟩
theorem Qb7 {x : Int} (h0 : 0 ≤ x) (h1 : x < 4) : ∀ l, l ∈ ([[]] : List (List Bf)) → stA l ⟨#[97]⟩ (Ya x) ∈ A1 := fun l hl => by
  rw [List.mem_singleton.1 hl]
  exact List.mem_cons_of_mem _ (List.mem_map.2 ⟨x, in4 h0 h1, rfl⟩)
theorem lf {id : Int} {S : List (List Bf)} {α : Type} {t : α} {f : α → X4 × Nat × Int} (Q : α → Prop) (h : Q t) (k : ∀ x, Q x → FOk id S (f x).1) : FOk id S (lt t f).1 := k t h
theorem PZ (code : List UInt8) (ci : Nat) (ch id : Int) : FOk id A4 (Jo code ci ch id).1 := by
  have bd : ∀ (ci : Nat) (ch : Int) (n : Int), 0 < n → 0 ≤ (Qk code ci ch n).1 ∧ (Qk code ci ch n).1 < n := fun ci ch n h => ⟨(Qy code ci ch n).1, (Qy code ci ch n).2.1 h⟩
  unfold Jo
  refine lf (fun x : Int × Nat × Int => 0 ≤ x.1 ∧ x.1 < 3) (bd ci ch 3 (by decide)) fun x1 hx1 => ?_
  refine lf (fun _ => True) trivial fun x2 _ => ?_
  refine lf (fun _ => True) trivial fun x3 _ => ?_
  refine lf (fun x : Int × Nat × Int => 0 ≤ x.1 ∧ x.1 ≤ 6) ?_ fun x4 hx4 => ?_
  · cases x3.1 with
    | true => simp only [cond_true]; exact PX (P := fun x : Int × Nat × Int => 0 ≤ x.1 ∧ x.1 ≤ 6) (fun x : Int × Nat × Int => 0 ≤ x.1 ∧ x.1 < 7) (bd _ _ 7 (by decide)) fun x h => ⟨h.1, by have := h.2; show x.1 ≤ 6; omega⟩
    | false => exact ⟨Int.le_refl 0, by show (0 : Int) ≤ 6; decide⟩
  refine lf (fun _ => True) trivial fun x7 _ => ?_
  have f0 : FOk id [[]] (id, x1.1, x2.1, x4.1, []) := ⟨rfl, hx1.1, by have := hx1.2; show x1.1 ≤ 2; omega, hx4.1, hx4.2, by simp⟩
  refine lf (fun z : X4 × Nat × Int => FOk id A1 z.1) ?_ fun x8 hx8 => ?_
  · cases x7.1 with
    | true => exact JY f0 fun l hl => by rw [List.mem_singleton.1 hl]; exact List.mem_cons_self
    | false => simp only [Bool.not_false, cond_true]; exact lf (S := A1) (fun x : Int × Nat × Int => 0 ≤ x.1 ∧ x.1 < 4) (bd _ _ 4 (by decide)) fun y hy => JX f0 (Qb7 hy.1 hy.2)
  refine lf (fun _ => True) trivial fun x11 _ => ?_
  refine lf (fun z : X4 × Nat × Int => FOk id A2 z.1) ?_ fun x12 hx12 => ?_
  · cases x11.1 with
    | false => exact JY hx8 fun l hl => List.mem_append_left _ hl
    | true => simp only [cond_true]; exact lf (S := A2) (fun x : Int × Nat × Int => 0 ≤ x.1 ∧ x.1 < 4) (bd _ _ 4 (by decide)) fun y hy => JX hx8 fun l hl => List.mem_append_right _ (List.mem_flatMap.2 ⟨l, hl, List.mem_map.2 ⟨y.1, in4 hy.1 hy.2, rfl⟩⟩)
  refine lf (fun _ => True) trivial fun x15 _ => ?_
  refine lf (fun z : X4 × Nat × Int => FOk id A3 z.1) ?_ fun x16 hx16 => ?_
  · cases x15.1 with
    | true => exact JY hx12 fun l hl => List.mem_append_left _ hl
    | false => simp only [Bool.not_false, cond_true]; exact lf (S := A3) (fun x : ByteArray × Nat × Int => x.1 ∈ ([⟨#[105, 110, 107]⟩, ⟨#[115, 101, 97]⟩] : List ByteArray)) (JW code _ _ (Nat.zero_lt_succ _)) fun y hy => JX hx12 fun l hl => List.mem_append_right _ (List.mem_flatMap.2 ⟨l, hl, List.mem_map.2 ⟨y.1, hy, rfl⟩⟩)
  refine lf (fun _ => True) trivial fun x19 _ => ?_
  cases x19.1 with
  | false => exact JY hx16 fun l hl => List.mem_append_left _ hl
  | true => simp only [cond_true]; exact lf (S := A4) (fun x : ByteArray × Nat × Int => x.1 ∈ ([⟨#[114, 101, 100]⟩, ⟨#[98, 108, 117, 101]⟩] : List ByteArray)) (JW code _ _ (Nat.zero_lt_succ _)) fun y hy => JX hx16 fun l hl => List.mem_append_right _ (List.mem_flatMap.2 ⟨l, hl, List.mem_map.2 ⟨y.1, hy, rfl⟩⟩)
def LH (l : List Bf) : Bool := match Xm (Zc Qx (0, 0, false, 0, l)) Jy l 0 () with
  | .brk _ => true
  | .ret _ => false
theorem Qa5 : A4.all LH = true := by kernel_rfl
theorem CS : Jh Qx = true := by kernel_rfl
theorem LI {id i : Int} {f : X4} (h : FOk id A4 f) (h1 : 1 ≤ i) (h2 : i ≤ 60) : Xt Qx (i, f.2) = true := by
  obtain ⟨a, o, s, x, l⟩ := f
  have hl := List.all_eq_true.1 Qa5 l h.h6
  have e : Xm (Zc Qx (i, o, s, x, l)) Jy l 0 () = .brk () := by
    have e2 : Zc Qx (i, o, s, x, l) = Zc Qx (0, 0, false, 0, l) := rfl
    rw [e2]
    unfold LH at hl
    split at hl
    · rename_i t ht; exact ht
    · cases hl
  have h2' := h.h2
  have h3' := h.h3
  have h4' := h.h4
  have h5' := h.h5
  dsimp only at h2' h3' h4' h5'
  show Out.on (Xm (Zc Qx (i, o, s, x, l)) Jy l 0 ()) _ = true
  rw [e]
  simp only [Out.on, CS, Q6, Bool.true_and]
  rw [decide_eq_true (show i ≥ 1 from h1), decide_eq_true (show i ≤ 60 from h2), decide_eq_true (show o ≥ 0 from h2'), decide_eq_true (show o ≤ 2 from h3'), decide_eq_true (show x ≥ 0 from h4'), decide_eq_true (show x ≤ 60 by omega)]
  rfl
structure S5 (s : Q5) : Prop where
  vs : VS s
  sch : s.1 = Qx
  nx : s.2.2 ≤ 8 + s.2.1.length
theorem TL {s : Q5} {id : Int} {f : X4} (h : S5 s) (hl : s.2.1.length < 12) (hf : FOk id A4 f) : (Yg s f).1.2.1.length = s.2.1.length + 1 ∧ S5 (Yg s f).1 := by
  have hn : s.2.2 ≤ 60 := by have := h.nx; omega
  have hv : Xt s.1 (s.2.2, f.2) = true := by rw [h.sch]; exact LI hf h.vs.nx1 hn
  rw [LD h.vs hl hn hv]
  exact ⟨by simp, LC h.vs hl hn hv, h.sch, by have := h.nx; simp; omega⟩
theorem Qa6 (code : List UInt8) (ci : Nat) (ch : Int) : S5 (Zr code ci ch).1 ∧ (Zr code ci ch).1.2.1.length ≤ 7 := by
  unfold Zr
  obtain ⟨t, ht⟩ := Mo (f := J8 code) (fun s r => by
    unfold J8 lt
    dsimp only
    generalize decide (_ < IntKind.i64.wrap _) = c
    cases c <;> simp) 8 (0, (Jl Qx), ci, ch)
  have hj : VS t.1 ∧ t.1.1 = Qx ∧ t.1.2.2 ≤ 8 ∧ t.1.2.1.length ≤ 7 := Pa (f := J8 code) (I := fun s => VS s.2.1 ∧ s.2.1.1 = Qx ∧ s.2.1.2.2 ≤ 1 + s.1 ∧ (s.2.1.2.1.length : Int) ≤ s.1 ∧ 0 ≤ s.1 ∧ s.1 ≤ 7) (J := fun t => VS t.1 ∧ t.1.1 = Qx ∧ t.1.2.2 ≤ 8 ∧ t.1.2.1.length ≤ 7) (fun s s' hi h => by
    unfold J8 lt at h
    have hb := Qy code s.2.2.1 s.2.2.2 7
    generalize Qk code s.2.2.1 s.2.2.2 7 = x at h hb
    have e : IntKind.i64.wrap (1 + x.1) = 1 + x.1 := IntWalk.i64_in _ (by omega)
    simp only [e] at h
    obtain ⟨i1, i2, i3, i4, i5, i6⟩ := hi
    by_cases hc : s.1 < 1 + x.1
    · simp only [decide_eq_true hc, cond_true] at h
      have h := Rd.next.inj h
      have e3 : IntKind.i64.wrap (s.1 + 1) = s.1 + 1 := IntWalk.i64_in _ (by omega)
      rw [← h, e3]
      obtain ⟨c1, c2, c3, c4, c5⟩ := LE (Jo code x.2.1 x.2.2 1).1 i1
      refine ⟨c1, c2.trans i2, ?_, ?_, ?_, ?_⟩ <;> dsimp only <;> omega
    · simp only [decide_eq_false hc, cond_false] at h
      cases h) (fun s t hi h => by
    unfold J8 lt at h
    generalize Qk code s.2.2.1 s.2.2.2 7 = x at h
    obtain ⟨i1, i2, i3, i4, i5, i6⟩ := hi
    by_cases hc : s.1 < IntKind.i64.wrap (1 + x.1)
    · simp only [decide_eq_true hc, cond_true] at h
      cases h
    · simp only [decide_eq_false hc, cond_false] at h
      have h := Rd.brk.inj h
      rw [← h]
      exact ⟨i1, i2, by dsimp only; omega, by dsimp only; omega⟩) (by
    refine ⟨⟨CS, by simp [Jl], by simp [Jl], by simp [Jl], fun i a h => by simp [Jl] at h, fun i a b h => by simp [Jl] at h⟩, rfl, ?_, ?_, ?_, ?_⟩
    · show (1 : Int) ≤ 1 + 0; decide
    · show ((0 : Nat) : Int) ≤ 0; decide
    · show (0 : Int) ≤ 0; decide
    · show (0 : Int) ≤ 7; decide) (M4 code ci ch _) ht
  rw [ht]
  simp only [Out.on]
  obtain ⟨j1, j2, j3, j4⟩ := hj
  have fin : S5 t.1 ∧ t.1.2.1.length ≤ 7 := ⟨⟨j1, j2, by omega⟩, j4⟩
  cases decide ((t.1.2.1.length : Int) > (2 : Int)) with
  | false => exact fin
  | true =>
    simp only [cond_true]
    refine PX (P := fun z : Q5 × Nat × Int => S5 z.1 ∧ z.1.2.1.length ≤ 7) (fun _ => True) trivial fun x5 _ => ?_
    cases x5.1 with
    | false => exact fin
    | true =>
      obtain ⟨d1, d2, d3, d4⟩ := LF ((nth t.1.2.1 1).1) j1
      exact ⟨⟨d1, d2.trans j2, by show _ ≤ _; dsimp only [cond_true]; omega⟩, by dsimp only [cond_true]; omega⟩
theorem TM : A4.all (fun l => decide (l.length ≤ 4)) = true := by kernel_rfl
theorem TN (code : List UInt8) (ci : Nat) (ch id : Int) : List.length (Jo code ci ch id).1.2.2.2.2 ≤ 4 := of_decide_eq_true (List.all_eq_true.1 TM _ (PZ code ci ch id).h6)
theorem TO (code : List UInt8) (ci : Nat) (ch : Int) : 1 ≤ (K1 code ci ch).1.length ∧ (K1 code ci ch).1.length ≤ 4 := by
  unfold K1
  obtain ⟨t, ht⟩ := Mo (f := Zu code) (fun s r => by
    unfold Zu lt
    generalize Qk code s.2.2.1 s.2.2.2 4 = x
    simp only
    generalize decide (s.2.1 < 1 + x.1) = c
    cases c <;> simp) 5 ([], 0, ci, ch)
  have := Pa (f := Zu code) (I := fun s => (s.1.length : Int) = s.2.1 ∧ s.2.1 ≤ 4) (J := fun t => 1 ≤ t.1.length ∧ t.1.length ≤ 4) (fun s s' hi h => by
    unfold Zu lt at h
    have hb := Qy code s.2.2.1 s.2.2.2 4
    generalize Qk code s.2.2.1 s.2.2.2 4 = x at h hb
    by_cases hc : s.2.1 < 1 + x.1
    · simp only [decide_eq_true hc, cond_true] at h
      have h := Rd.next.inj h
      rw [← h]
      refine ⟨?_, ?_⟩
      · simp; omega
      · show s.2.1 + 1 ≤ 4; omega
    · simp only [decide_eq_false hc, cond_false] at h
      cases h) (fun s t hi h => by
    unfold Zu lt at h
    have hb := Qy code s.2.2.1 s.2.2.2 4
    generalize Qk code s.2.2.1 s.2.2.2 4 = x at h hb
    by_cases hc : s.2.1 < 1 + x.1
    · simp only [decide_eq_true hc, cond_true] at h
      cases h
    · simp only [decide_eq_false hc, cond_false] at h
      have h := Rd.brk.inj h
      rw [← h]
      dsimp only
      omega) (n := 5) (s := ([], 0, ci, ch)) (t := t) ⟨rfl, by show (0 : Int) ≤ 4; decide⟩ (Iq code ci ch) ht
  rw [ht]
  exact this
open GoE (enc wide)
def Wr (code : (List UInt8)) (ci : Nat) (ch : Int) : Wg × Nat × Int := (lt (α := Int × Nat × Int) (Qk code ci ch 5) (fun x1 => (bif (x1.1 == (0 : Int)) then ((0, 0, ⟨#[]⟩), x1.2.1, x1.2.2) else (lt (α := Bool) (bif (x1.1 == (1 : Int)) then (x1.1 == (1 : Int)) else (x1.1 == (2 : Int))) (fun x4 => (bif x4 then (lt (α := Int × Nat × Int) (Qk code x1.2.1 x1.2.2 5) (fun x7 => ((Ya x7.1), x7.2.1, x7.2.2))) else (lt (α := ByteArray × Nat × Int) (Yd code x1.2.1 x1.2.2 [⟨#[114, 101, 100]⟩, ⟨#[98, 108, 117, 101]⟩, ⟨#[105, 110, 107]⟩]) (fun x9 => ((Xc x9.1), x9.2.1, x9.2.2)))))))))
theorem XE (code : (List UInt8)) (ci : Nat) (ch : Int) : AGive Tryz.prog 133 [.h code, .i ((ci : Nat) : Int), .i ch] [] (.a [.i ((((Wr code ci ch)).1).1), .i ((((Wr code ci ch)).1).2.1), .s ((((Wr code ci ch)).1).2.2)]) [.h code, .i ((((Wr code ci ch)).2.1 : Nat) : Int), .i (((Wr code ci ch)).2.2)] := by
 refine Kf (tt := tt) Qb Tryz.func133 (fn := Tryz.f133) rfl (by unfold C9; kernel_rfl) (Nat.le_of_ble_eq_true rfl) (Nat.le_of_ble_eq_true rfl) rfl rfl fun w0 F0 hG => ?_
 refine sn Qb [0, 2] [2, 60000] (p0) ?_
 refine Qe ?_
 obtain ⟨x1, hx1⟩ : ∃ z : Int × Nat × Int, Qk code ci ch 5 = z := ⟨_, rfl⟩
 have hbx1 := hx1 ▸ Qy code ci ch 5
 refine tn Qb [0, 2, 4] [2, 60000] (po 1 (.give none (.i x1.1) [.h code, .i ((x1.2.1 : Nat) : Int), .i x1.2.2]) (px (Q2 (hx1 ▸ Q7 code ci ch 5)) p0)) ?_
 refine Qt ?_
 refine tu Qb [(2, .p 2 0), (4, .i x1.1), (5, .b (x1.1 == (0 : Int)))] [] [(2, [.i 0, .i 0, .s ⟨#[]⟩]), (60000, [.h code, .i ((x1.2.1 : Nat) : Int), .i x1.2.2])] [60000] (p0) ?_
 refine ck (x1.1 == (0 : Int)) (fun h2 => ?_) (fun h2 => ?_)
 ·
  refine su Qb [] [4, 5] [] [] (p0) ?_
  refine Qf ?_
  have hE3 : Wr code ci ch = ((0, 0, ⟨#[]⟩), x1.2.1, x1.2.2) := Ys hx1 (Q8 h2 (rfl))
  exact He [] (congrArg (fun z => (.a [.i z.1.1, .i z.1.2.1, .s z.1.2.2] : AV)) hE3.symm) (congrArg (fun z => ([.h code, .i ((z.2.1 : Nat) : Int), .i z.2.2] : List C)) hE3.symm)
 ·
  refine Qe ?_
  refine sn Qb [0, 2, 4, 8] [2, 60000] (p0) ?_
  refine mz [(8, .b (x1.1 == (1 : Int)))] [5] [] [] ?_
  obtain ⟨x4, hx4⟩ : ∃ z : Bool, (bif (x1.1 == (1 : Int)) then (x1.1 == (1 : Int)) else (x1.1 == (2 : Int))) = z := ⟨_, rfl⟩
  refine jn [(8, .b x4)] [4, 8] [] [] (x1.1 == (1 : Int)) (fun h5 => ?_) (fun h5 => ?_) ?_
  ·
   refine ckt h5 ?_
   refine Qj ?_
   obtain rfl : x4 = (x1.1 == (1 : Int)) := hx4.symm.trans (show (bif (x1.1 == (1 : Int)) then (x1.1 == (1 : Int)) else (x1.1 == (2 : Int))) = (x1.1 == (1 : Int)) from Q8 h5 (rfl))
   exact ⟨rfl, Qd (by kernel_rfl)⟩
  ·
   refine ckf h5 ?_
   refine rn Qb [0, 2, 8] [2, 60000] (p0) ?_
   obtain rfl : x4 = (x1.1 == (2 : Int)) := hx4.symm.trans (show (bif (x1.1 == (1 : Int)) then (x1.1 == (1 : Int)) else (x1.1 == (2 : Int))) = (x1.1 == (2 : Int)) from Qn h5 (rfl))
   exact ⟨rfl, Qd (by kernel_rfl)⟩
  refine ck x4 (fun h6 => ?_) (fun h6 => ?_)
  ·
   obtain ⟨x7, hx7⟩ : ∃ z : Int × Nat × Int, Qk code x1.2.1 x1.2.2 5 = z := ⟨_, rfl⟩
   have hbx7 := hx7 ▸ Qy code x1.2.1 x1.2.2 5
   refine sn Qb [0, 2] [2, 60000] (po 1 (.give none (.i x7.1) [.h code, .i ((x7.2.1 : Nat) : Int), .i x7.2.2]) (px (Q2 (hx7 ▸ Q7 code x1.2.1 x1.2.2 5)) (pc 2 (Hi x7.1) p0))) ?_
   refine Qf ?_
   have hE8 : Wr code ci ch = ((Ya x7.1), x7.2.1, x7.2.2) := Ys hx1 (Qn h2 (Ys hx4 (Q8 h6 (Ys hx7 (rfl)))))
   exact He [] (congrArg (fun z => (.a [.i z.1.1, .i z.1.2.1, .s z.1.2.2] : AV)) hE8.symm) (congrArg (fun z => ([.h code, .i ((z.2.1 : Nat) : Int), .i z.2.2] : List C)) hE8.symm)
  ·
   refine Qj ?_
   obtain ⟨x9, hx9⟩ : ∃ z : ByteArray × Nat × Int, Yd code x1.2.1 x1.2.2 [⟨#[114, 101, 100]⟩, ⟨#[98, 108, 117, 101]⟩, ⟨#[105, 110, 107]⟩] = z := ⟨_, rfl⟩
   refine sn Qb [0, 2] [2, 60000] (po 2 (.give none (.s x9.1) [.h code, .i ((x9.2.1 : Nat) : Int), .i x9.2.2]) (px (Q2 (hx9 ▸ Kh code x1.2.1 x1.2.2 [⟨#[114, 101, 100]⟩, ⟨#[98, 108, 117, 101]⟩, ⟨#[105, 110, 107]⟩] (Nat.zero_lt_succ _))) (pc 3 (U5 x9.1) p0))) ?_
   refine Qf ?_
   have hE10 : Wr code ci ch = ((Xc x9.1), x9.2.1, x9.2.2) := Ys hx1 (Qn h2 (Ys hx4 (Qn h6 (Ys hx9 (rfl)))))
   exact He [] (congrArg (fun z => (.a [.i z.1.1, .i z.1.2.1, .s z.1.2.2] : AV)) hE10.symm) (congrArg (fun z => ([.h code, .i ((z.2.1 : Nat) : Int), .i z.2.2] : List C)) hE10.symm)
def Wx (code : (List UInt8)) (ci : Nat) (ch : Int) : Wg × Nat × Int := (lt (α := Wg × Nat × Int) (Wr code ci ch) (fun x1 => (lt (α := Int × Nat × Int) (Qk code x1.2.1 x1.2.2 10) (fun x2 => (bif (x2.1 == (0 : Int)) then (lt (α := Int × Nat × Int) (Qk code x2.2.1 x2.2.2 5) (fun x4 => (((x4.1 - 1), x1.1.2.1, x1.1.2.2), x4.2.1, x4.2.2))) else (bif (x2.1 == (1 : Int)) then (lt (α := Int × Nat × Int) (Y4 code x2.2.1 x2.2.2 [-1, 0, 999, 1000, 9223372036854775807]) (fun x7 => ((x1.1.1, x7.1, x1.1.2.2), x7.2.1, x7.2.2))) else (bif (x2.1 == (2 : Int)) then (lt (α := ByteArray × Nat × Int) (Yd code x2.2.1 x2.2.2 [⟨#[]⟩, ⟨#[65]⟩, ⟨#[97, 98, 99, 100, 101, 102, 103]⟩, ⟨#[97, 98, 99, 100, 101, 102]⟩, ⟨#[97, 32, 98]⟩]) (fun x10 => ((x1.1.1, x1.1.2.1, x10.1), x10.2.1, x10.2.2))) else (x1.1, x2.2.1, x2.2.2))))))))
theorem Rw (code : (List UInt8)) (ci : Nat) (ch : Int) : AGive Tryz.prog 104 [.h code, .i ((ci : Nat) : Int), .i ch] [] (.a [.i ((((Wx code ci ch)).1).1), .i ((((Wx code ci ch)).1).2.1), .s ((((Wx code ci ch)).1).2.2)]) [.h code, .i ((((Wx code ci ch)).2.1 : Nat) : Int), .i (((Wx code ci ch)).2.2)] := by
 refine Kf (tt := tt) Qb Tryz.func104 (fn := Tryz.f104) rfl (by unfold C9; kernel_rfl) (Nat.le_of_ble_eq_true rfl) (Nat.le_of_ble_eq_true rfl) rfl rfl fun w0 F0 hG => ?_
 refine sn Qb [0, 2] [2, 60000] (p0) ?_
 obtain ⟨x1, hx1⟩ : ∃ z : Wg × Nat × Int, Wr code ci ch = z := ⟨_, rfl⟩
 refine tn Qb [0, 2, 3] [2, 3, 60000] (po 1 (.give none (.a [.i x1.1.1, .i x1.1.2.1, .s x1.1.2.2]) [.h code, .i ((x1.2.1 : Nat) : Int), .i x1.2.2]) (px (Q2 (hx1 ▸ XE code ci ch)) p0)) ?_
 refine Qe ?_
 obtain ⟨x2, hx2⟩ : ∃ z : Int × Nat × Int, Qk code x1.2.1 x1.2.2 10 = z := ⟨_, rfl⟩
 have hbx2 := hx2 ▸ Qy code x1.2.1 x1.2.2 10
 refine tu Qb [(2, .p 2 0), (3, .p 3 0), (7, .i x2.1)] [] [(2, [.i 0, .i 0, .s ⟨#[]⟩]), (3, [.i x1.1.1, .i x1.1.2.1, .s x1.1.2.2]), (60000, [.h code, .i ((x2.2.1 : Nat) : Int), .i x2.2.2])] [60000] (po 1 (.give none (.i x2.1) [.h code, .i ((x2.2.1 : Nat) : Int), .i x2.2.2]) (px (Q2 (hx2 ▸ Q7 code x1.2.1 x1.2.2 10)) p0)) ?_
 refine Qt ?_
 refine sn Qb [0, 2, 3, 7, 8] [2, 3, 60000] (p0) ?_
 refine ck (x2.1 == (0 : Int)) (fun h3 => ?_) (fun h3 => ?_)
 ·
  have h3d := eq_of_beq h3
  obtain ⟨x4, hx4⟩ : ∃ z : Int × Nat × Int, Qk code x2.2.1 x2.2.2 5 = z := ⟨_, rfl⟩
  have hbx4 := hx4 ▸ Qy code x2.2.1 x2.2.2 5
  refine qn Qb [0, 2, 3] [2, 3, 60000] (po 1 (.give none (.i x4.1) [.h code, .i ((x4.2.1 : Nat) : Int), .i x4.2.2]) (px (Q2 (hx4 ▸ Q7 code x2.2.1 x2.2.2 5)) (pe 2 (Jb (IntWalk.i64_in (x4.1 - 1) (by omega))) p0))) ?_
  refine tu Qb [] [3, 7] [(2, [.i (x4.1 - 1), .i x1.1.2.1, .s x1.1.2.2]), (60000, [.h code, .i ((x4.2.1 : Nat) : Int), .i x4.2.2])] [2, 3, 60000] (p0) ?_
  refine Qf ?_
  have hE5 : Wx code ci ch = (((x4.1 - 1), x1.1.2.1, x1.1.2.2), x4.2.1, x4.2.2) := Ys hx1 (Ys hx2 (Q8 h3 (Ys hx4 (rfl))))
  exact He [] (congrArg (fun z => (.a [.i z.1.1, .i z.1.2.1, .s z.1.2.2] : AV)) hE5.symm) (congrArg (fun z => ([.h code, .i ((z.2.1 : Nat) : Int), .i z.2.2] : List C)) hE5.symm)
 ·
  refine tn Qb [0, 2, 3, 7, 14] [2, 3, 60000] (p0) ?_
  refine ck (x2.1 == (1 : Int)) (fun h6 => ?_) (fun h6 => ?_)
  ·
   obtain ⟨x7, hx7⟩ : ∃ z : Int × Nat × Int, Y4 code x2.2.1 x2.2.2 [-1, 0, 999, 1000, 9223372036854775807] = z := ⟨_, rfl⟩
   refine qu Qb [] [7] [(3, [.i x1.1.1, .i x7.1, .s x1.1.2.2]), (60000, [.h code, .i ((x7.2.1 : Nat) : Int), .i x7.2.2])] [3, 60000] (po 2 (.give none (.i x7.1) [.h code, .i ((x7.2.1 : Nat) : Int), .i x7.2.2]) (px (Q2 (hx7 ▸ Vi code x2.2.1 x2.2.2 [-1, 0, 999, 1000, 9223372036854775807] (Nat.zero_lt_succ _))) p0)) ?_
   refine sn Qb [0, 2] [2, 60000] (p0) ?_
   refine Qf ?_
   have hE8 : Wx code ci ch = ((x1.1.1, x7.1, x1.1.2.2), x7.2.1, x7.2.2) := Ys hx1 (Ys hx2 (Qn h3 (Q8 h6 (Ys hx7 (rfl)))))
   exact He [] (congrArg (fun z => (.a [.i z.1.1, .i z.1.2.1, .s z.1.2.2] : AV)) hE8.symm) (congrArg (fun z => ([.h code, .i ((z.2.1 : Nat) : Int), .i z.2.2] : List C)) hE8.symm)
  ·
   refine tu Qb [(20, .b (x2.1 == (2 : Int)))] [7] [] [] (p0) ?_
   refine ck (x2.1 == (2 : Int)) (fun h9 => ?_) (fun h9 => ?_)
   ·
    obtain ⟨x10, hx10⟩ : ∃ z : ByteArray × Nat × Int, Yd code x2.2.1 x2.2.2 [⟨#[]⟩, ⟨#[65]⟩, ⟨#[97, 98, 99, 100, 101, 102, 103]⟩, ⟨#[97, 98, 99, 100, 101, 102]⟩, ⟨#[97, 32, 98]⟩] = z := ⟨_, rfl⟩
    refine rn Qb [0, 2, 3] [2, 3, 60000] (po 2 (.give none (.s x10.1) [.h code, .i ((x10.2.1 : Nat) : Int), .i x10.2.2]) (px (Q2 (hx10 ▸ Kh code x2.2.1 x2.2.2 [⟨#[]⟩, ⟨#[65]⟩, ⟨#[97, 98, 99, 100, 101, 102, 103]⟩, ⟨#[97, 98, 99, 100, 101, 102]⟩, ⟨#[97, 32, 98]⟩] (Nat.zero_lt_succ _))) p0)) ?_
    refine tn Qb [0, 2] [2, 60000] (p0) ?_
    refine Qf ?_
    have hE11 : Wx code ci ch = ((x1.1.1, x1.1.2.1, x10.1), x10.2.1, x10.2.2) := Ys hx1 (Ys hx2 (Qn h3 (Qn h6 (Q8 h9 (Ys hx10 (rfl))))))
    exact He [] (congrArg (fun z => (.a [.i z.1.1, .i z.1.2.1, .s z.1.2.2] : AV)) hE11.symm) (congrArg (fun z => ([.h code, .i ((z.2.1 : Nat) : Int), .i z.2.2] : List C)) hE11.symm)
   ·
    refine Qj ?_
    refine sn Qb [0, 2] [2, 60000] (p0) ?_
    refine Qf ?_
    have hE12 : Wx code ci ch = (x1.1, x2.2.1, x2.2.2) := Ys hx1 (Ys hx2 (Qn h3 (Qn h6 (Qn h9 (rfl)))))
    exact He [] (congrArg (fun z => (.a [.i z.1.1, .i z.1.2.1, .s z.1.2.2] : AV)) hE12.symm) (congrArg (fun z => ([.h code, .i ((z.2.1 : Nat) : Int), .i z.2.2] : List C)) hE12.symm)
def H8 (code : (List UInt8)) (ci : Nat) (ch : Int) : ByteArray × Nat × Int := (lt (α := ByteArray × Nat × Int) (Yd code ci ch [⟨#[97]⟩, ⟨#[98]⟩, ⟨#[110]⟩, ⟨#[116]⟩, ⟨#[97]⟩, ⟨#[98]⟩, ⟨#[116]⟩, ⟨#[122]⟩, ⟨#[65]⟩, ⟨#[]⟩]) (fun x1 => (x1.1, x1.2.1, x1.2.2)))
theorem Pg (code : (List UInt8)) (ci : Nat) (ch : Int) : AGive Tryz.prog 103 [.h code, .i ((ci : Nat) : Int), .i ch] [] (.s (((H8 code ci ch)).1)) [.h code, .i ((((H8 code ci ch)).2.1 : Nat) : Int), .i (((H8 code ci ch)).2.2)] := by
 refine Kf (tt := tt) Qb Tryz.func103 (fn := Tryz.f103) rfl (by unfold C9; kernel_rfl) (Nat.le_of_ble_eq_true rfl) (Nat.le_of_ble_eq_true rfl) rfl rfl fun w0 F0 hG => ?_
 refine sn Qb [0, 2] [60000] (p0) ?_
 obtain ⟨x1, hx1⟩ : ∃ z : ByteArray × Nat × Int, Yd code ci ch [⟨#[97]⟩, ⟨#[98]⟩, ⟨#[110]⟩, ⟨#[116]⟩, ⟨#[97]⟩, ⟨#[98]⟩, ⟨#[116]⟩, ⟨#[122]⟩, ⟨#[65]⟩, ⟨#[]⟩] = z := ⟨_, rfl⟩
 refine tn Qb [0, 2] [60000] (po 2 (.give none (.s x1.1) [.h code, .i ((x1.2.1 : Nat) : Int), .i x1.2.2]) (px (Q2 (hx1 ▸ Kh code ci ch [⟨#[97]⟩, ⟨#[98]⟩, ⟨#[110]⟩, ⟨#[116]⟩, ⟨#[97]⟩, ⟨#[98]⟩, ⟨#[116]⟩, ⟨#[122]⟩, ⟨#[65]⟩, ⟨#[]⟩] (Nat.zero_lt_succ _))) p0)) ?_
 refine Qf ?_
 have hE2 : H8 code ci ch = (x1.1, x1.2.1, x1.2.2) := Ys hx1 (rfl)
 exact He [] (congrArg (fun z => (.s z.1 : AV)) hE2.symm) (congrArg (fun z => ([.h code, .i ((z.2.1 : Nat) : Int), .i z.2.2] : List C)) hE2.symm)
def U6 (code : (List UInt8)) (ci : Nat) (ch : Int) : (List Zq) × Nat × Int := (lt (α := Int × Nat × Int) (Qk code ci ch 8) (fun x1 => (bif (x1.1 == (0 : Int)) then (lt (α := Int × Nat × Int) (Qk code x1.2.1 x1.2.2 4) (fun x3 => (List.take (Int.toNat x3.1) Qx, x3.2.1, x3.2.2))) else (bif (x1.1 == (1 : Int)) then (lt (α := Int × Nat × Int) (Qk code x1.2.1 x1.2.2 4) (fun x8 => (lt (α := Int × Nat × Int) (Qk code x8.2.1 x8.2.2 5) (fun x9 => (List.set Qx (Int.toNat x8.1) ((nth Qx (Int.toNat x8.1)).1, (x9.1 - 1)), x9.2.1, x9.2.2))))) else (bif (x1.1 == (2 : Int)) then (lt (α := Int × Nat × Int) (Qk code x1.2.1 x1.2.2 4) (fun x15 => (lt (α := ByteArray × Nat × Int) (H8 code x15.2.1 x15.2.2) (fun x16 => (List.set Qx (Int.toNat x15.1) (x16.1, (nth Qx (Int.toNat x15.1)).2), x16.2.1, x16.2.2))))) else (bif (x1.1 == (3 : Int)) then (lt (α := ByteArray × Nat × Int) (Yd code x1.2.1 x1.2.2 [⟨#[117]⟩, ⟨#[122]⟩, ⟨#[97]⟩]) (fun x22 => (Qx ++ [((x22.1, 1) : Zq)], x22.2.1, x22.2.2))) else (bif (x1.1 == (4 : Int)) then (Qx ++ [((⟨#[117]⟩, 1) : Zq), ((⟨#[118]⟩, 2) : Zq)], x1.2.1, x1.2.2) else (Qx, x1.2.1, x1.2.2))))))))
theorem WT (code : (List UInt8)) (ci : Nat) (ch : Int) : AGive Tryz.prog 81 [.h code, .i ((ci : Nat) : Int), .i ch] [] (.h (((U6 code ci ch)).1)) [.h code, .i ((((U6 code ci ch)).2.1 : Nat) : Int), .i (((U6 code ci ch)).2.2)] := by
 refine Kf (tt := tt) Qb Tryz.func81 (fn := Tryz.f81) rfl (by unfold C9; kernel_rfl) (Nat.le_of_ble_eq_true rfl) (Nat.le_of_ble_eq_true rfl) rfl rfl fun w0 F0 hG => ?_
 have hu4 : List.length Qx = 4 := rfl
 refine sn Qb [0, 2] [60000] (p0) ?_
 refine tn Qb [0, 2, 3] [60000] (pc 0 (M3) p0) ?_
 refine Qe ?_
 obtain ⟨x1, hx1⟩ : ∃ z : Int × Nat × Int, Qk code ci ch 8 = z := ⟨_, rfl⟩
 have hbx1 := hx1 ▸ Qy code ci ch 8
 refine tu Qb [(2, .e 0), (3, .o 256 Qx), (6, .i x1.1)] [] [(60000, [.h code, .i ((x1.2.1 : Nat) : Int), .i x1.2.2])] [60000] (po 1 (.give none (.i x1.1) [.h code, .i ((x1.2.1 : Nat) : Int), .i x1.2.2]) (px (Q2 (hx1 ▸ Q7 code ci ch 8)) p0)) ?_
 refine Qt ?_
 refine sn Qb [0, 2, 3, 6, 7] [60000] (p0) ?_
 refine ck (x1.1 == (0 : Int)) (fun h2 => ?_) (fun h2 => ?_)
 ·
  have h2d := eq_of_beq h2
  obtain ⟨x3, hx3⟩ : ∃ z : Int × Nat × Int, Qk code x1.2.1 x1.2.2 4 = z := ⟨_, rfl⟩
  have hbx3 := hx3 ▸ Qy code x1.2.1 x1.2.2 4
  refine wT 3 0 (.own true 256) Qx (fun hw4 hl5 => ?_)
  refine qn Qb [0, 2, 3] [60000] (po 2 (.give none (.i x3.1) [.h code, .i ((x3.2.1 : Nat) : Int), .i x3.2.2]) (px (Q2 (hx3 ▸ Q7 code x1.2.1 x1.2.2 4)) (pe 3 (Lk (.vw 256) 2 (Int.toNat x3.1) x3.1 Qx rfl) (px (Ek (lo := 0) (hi := x3.1) (n := (List.length (eL Qx))) (Tj (by omega) (by omega) (by omega))) p0)))) ?_
  refine tu Qb [(2, .v 256 (List.take (Int.toNat x3.1) Qx))] [2, 3, 6] [(60000, [.h code, .i ((x3.2.1 : Nat) : Int), .i x3.2.2])] [60000] (p0) ?_
  refine Qf ?_
  have hE6 : U6 code ci ch = (List.take (Int.toNat x3.1) Qx, x3.2.1, x3.2.2) := Ys hx1 (Q8 h2 (Ys hx3 (rfl)))
  exact He [256] (congrArg (fun z => (.h z.1 : AV)) hE6.symm) (congrArg (fun z => ([.h code, .i ((z.2.1 : Nat) : Int), .i z.2.2] : List C)) hE6.symm)
 ·
  have h2d := Yb h2
  refine tn Qb [0, 2, 3, 6, 13] [60000] (p0) ?_
  refine ck (x1.1 == (1 : Int)) (fun h7 => ?_) (fun h7 => ?_)
  ·
   have h7d := eq_of_beq h7
   obtain ⟨x8, hx8⟩ : ∃ z : Int × Nat × Int, Qk code x1.2.1 x1.2.2 4 = z := ⟨_, rfl⟩
   have hbx8 := hx8 ▸ Qy code x1.2.1 x1.2.2 4
   obtain ⟨x9, hx9⟩ : ∃ z : Int × Nat × Int, Qk code x8.2.1 x8.2.2 5 = z := ⟨_, rfl⟩
   have hbx9 := hx9 ▸ Qy code x8.2.1 x8.2.2 5
   refine wT 3 0 (.own true 256) Qx (fun hw11 hl12 => ?_)
   have hx10 := ng Qx (Int.toNat x8.1)
   refine qu Qb [(3, .one (.slc (.own true 256) 2 (setRow (eL Qx) (Int.toNat x8.1) 1 [.i (x9.1 - 1)])))] [3, 6] [(60000, [.h code, .i ((x9.2.1 : Nat) : Int), .i x9.2.2])] [60000] (po 2 (.give none (.i x8.1) [.h code, .i ((x8.2.1 : Nat) : Int), .i x8.2.2]) (px (Q2 (hx8 ▸ Q7 code x1.2.1 x1.2.2 4)) (po 4 (.give none (.i x9.1) [.h code, .i ((x9.2.1 : Nat) : Int), .i x9.2.2]) (px (Q2 (hx9 ▸ Q7 code x8.2.1 x8.2.2 5)) (pe 5 (Jb (IntWalk.i64_in (x9.1 - 1) (by omega))) (pG 6 x8.1 hx10 p0)))))) ?_
   refine eqn [(3, .o 256 (List.set Qx (Int.toNat x8.1) ((nth Qx (Int.toNat x8.1)).1, (x9.1 - 1))))] [3] [] [] (by rw [Z0 (y := ((nth Qx (Int.toNat x8.1)).1, (x9.1 - 1))) hx10 rfl]; first | done | kernel_rfl) ?_
   refine sn Qb [0, 2] [60000] (p0) ?_
   refine Qf ?_
   have hE13 : U6 code ci ch = (List.set Qx (Int.toNat x8.1) ((nth Qx (Int.toNat x8.1)).1, (x9.1 - 1)), x9.2.1, x9.2.2) := Ys hx1 (Qn h2 (Q8 h7 (Ys hx8 (Ys hx9 (rfl)))))
   exact He [256] (congrArg (fun z => (.h z.1 : AV)) hE13.symm) (congrArg (fun z => ([.h code, .i ((z.2.1 : Nat) : Int), .i z.2.2] : List C)) hE13.symm)
  ·
   have h7d := Yb h7
   refine tu Qb [(23, .b (x1.1 == (2 : Int)))] [] [] [] (p0) ?_
   refine ck (x1.1 == (2 : Int)) (fun h14 => ?_) (fun h14 => ?_)
   ·
    have h14d := eq_of_beq h14
    obtain ⟨x15, hx15⟩ : ∃ z : Int × Nat × Int, Qk code x1.2.1 x1.2.2 4 = z := ⟨_, rfl⟩
    have hbx15 := hx15 ▸ Qy code x1.2.1 x1.2.2 4
    obtain ⟨x16, hx16⟩ : ∃ z : ByteArray × Nat × Int, H8 code x15.2.1 x15.2.2 = z := ⟨_, rfl⟩
    refine wT 3 0 (.own true 256) Qx (fun hw18 hl19 => ?_)
    have hx17 := ng Qx (Int.toNat x15.1)
    refine ru Qb [(3, .one (.slc (.own true 256) 2 (setRow (eL Qx) (Int.toNat x15.1) 0 [.s x16.1])))] [3, 6, 23] [(60000, [.h code, .i ((x16.2.1 : Nat) : Int), .i x16.2.2])] [60000] (po 2 (.give none (.i x15.1) [.h code, .i ((x15.2.1 : Nat) : Int), .i x15.2.2]) (px (Q2 (hx15 ▸ Q7 code x1.2.1 x1.2.2 4)) (po 4 (.give none (.s x16.1) [.h code, .i ((x16.2.1 : Nat) : Int), .i x16.2.2]) (px (Q2 (hx16 ▸ Pg code x15.2.1 x15.2.2)) (pG 5 x15.1 hx17 p0))))) ?_
    refine eqn [(3, .o 256 (List.set Qx (Int.toNat x15.1) (x16.1, (nth Qx (Int.toNat x15.1)).2)))] [3] [] [] (by rw [Z0 (y := (x16.1, (nth Qx (Int.toNat x15.1)).2)) hx17 rfl]; first | done | kernel_rfl) ?_
    refine sn Qb [0, 2] [60000] (p0) ?_
    refine Qf ?_
    have hE20 : U6 code ci ch = (List.set Qx (Int.toNat x15.1) (x16.1, (nth Qx (Int.toNat x15.1)).2), x16.2.1, x16.2.2) := Ys hx1 (Qn h2 (Qn h7 (Q8 h14 (Ys hx15 (Ys hx16 (rfl))))))
    exact He [256] (congrArg (fun z => (.h z.1 : AV)) hE20.symm) (congrArg (fun z => ([.h code, .i ((z.2.1 : Nat) : Int), .i z.2.2] : List C)) hE20.symm)
   ·
    have h14d := Yb h14
    refine sn Qb [0, 2, 3, 6, 32] [60000] (p0) ?_
    refine ck (x1.1 == (3 : Int)) (fun h21 => ?_) (fun h21 => ?_)
    ·
     have h21d := eq_of_beq h21
     obtain ⟨x22, hx22⟩ : ∃ z : ByteArray × Nat × Int, Yd code x1.2.1 x1.2.2 [⟨#[117]⟩, ⟨#[122]⟩, ⟨#[97]⟩] = z := ⟨_, rfl⟩
     refine wT 3 0 (.own true 256) Qx (fun hw23 hl24 => ?_)
     refine qu Qb [(3, .one (.slc (.own true 2560) 2 ((eL Qx) ++ [[.s x22.1, .i 1]])))] [3, 6, 23] [(60000, [.h code, .i ((x22.2.1 : Nat) : Int), .i x22.2.2])] [60000] (po 3 (.give none (.s x22.1) [.h code, .i ((x22.2.1 : Nat) : Int), .i x22.2.2]) (px (Q2 (hx22 ▸ Kh code x1.2.1 x1.2.2 [⟨#[117]⟩, ⟨#[122]⟩, ⟨#[97]⟩] (Nat.zero_lt_succ _))) (pa Qx [((x22.1, 1) : Zq)] p0))) ?_
     refine eqn [(3, .o 2560 (Qx ++ [((x22.1, 1) : Zq)]))] [3] [] [] (by rw [show ((eL Qx) ++ [[.s x22.1, .i 1]]) = (eL (Qx ++ [((x22.1, 1) : Zq)])) from Ky (rfl) (rfl)]; first | done | kernel_rfl) ?_
     refine sn Qb [0, 2] [60000] (p0) ?_
     refine Qf ?_
     have hE25 : U6 code ci ch = (Qx ++ [((x22.1, 1) : Zq)], x22.2.1, x22.2.2) := Ys hx1 (Qn h2 (Qn h7 (Qn h14 (Q8 h21 (Ys hx22 (rfl))))))
     exact He [2560] (congrArg (fun z => (.h z.1 : AV)) hE25.symm) (congrArg (fun z => ([.h code, .i ((z.2.1 : Nat) : Int), .i z.2.2] : List C)) hE25.symm)
    ·
     have h21d := Yb h21
     refine tn Qb [0, 2, 3, 41] [60000] (p0) ?_
     refine ck (x1.1 == (4 : Int)) (fun h26 => ?_) (fun h26 => ?_)
     ·
      have h26d := eq_of_beq h26
      refine wT 3 0 (.own true 256) Qx (fun hw27 hl28 => ?_)
      refine qu Qb [(3, .one (.slc (.own true 3008) 2 ((eL Qx) ++ [[.s ⟨#[117]⟩, .i 1], [.s ⟨#[118]⟩, .i 2]])))] [3, 6, 23] [] [] (pa Qx [((⟨#[117]⟩, 1) : Zq), ((⟨#[118]⟩, 2) : Zq)] p0) ?_
      refine eqn [(3, .o 3008 (Qx ++ [((⟨#[117]⟩, 1) : Zq), ((⟨#[118]⟩, 2) : Zq)]))] [3] [] [] (by rw [show ((eL Qx) ++ [[.s ⟨#[117]⟩, .i 1], [.s ⟨#[118]⟩, .i 2]]) = (eL (Qx ++ [((⟨#[117]⟩, 1) : Zq), ((⟨#[118]⟩, 2) : Zq)])) from Ky (rfl) (rfl)]; first | done | kernel_rfl) ?_
      refine sn Qb [0, 2] [60000] (p0) ?_
      refine Qf ?_
      have hE29 : U6 code ci ch = (Qx ++ [((⟨#[117]⟩, 1) : Zq), ((⟨#[118]⟩, 2) : Zq)], x1.2.1, x1.2.2) := Ys hx1 (Qn h2 (Qn h7 (Qn h14 (Qn h21 (Q8 h26 (rfl))))))
      exact He [3008] (congrArg (fun z => (.h z.1 : AV)) hE29.symm) (congrArg (fun z => ([.h code, .i ((z.2.1 : Nat) : Int), .i z.2.2] : List C)) hE29.symm)
     ·
      refine Qj ?_
      refine tu Qb [(2, .o 256 Qx)] [2, 3, 6, 23] [] [] (p0) ?_
      refine Qf ?_
      have hE30 : U6 code ci ch = (Qx, x1.2.1, x1.2.2) := Ys hx1 (Qn h2 (Qn h7 (Qn h14 (Qn h21 (Qn h26 (rfl))))))
      exact He [256] (congrArg (fun z => (.h z.1 : AV)) hE30.symm) (congrArg (fun z => ([.h code, .i ((z.2.1 : Nat) : Int), .i z.2.2] : List C)) hE30.symm)
def Vn (code : (List UInt8)) (ci : Nat) (ch : Int) : X4 × Nat × Int := (lt (α := Int × Nat × Int) (Qk code ci ch 7) (fun x1 => (lt (α := X4 × Nat × Int) (Jo code x1.2.1 x1.2.2 (1 + x1.1)) (fun x2 => (lt (α := Int × Nat × Int) (Qk code x2.2.1 x2.2.2 14) (fun x3 => (bif (x3.1 == (0 : Int)) then (lt (α := Int × Nat × Int) (Y4 code x3.2.1 x3.2.2 [0, 60, 61, -1]) (fun x5 => ((x5.1, x2.1.2.1, x2.1.2.2.1, x2.1.2.2.2.1, x2.1.2.2.2.2), x5.2.1, x5.2.2))) else (bif (x3.1 == (1 : Int)) then (lt (α := Int × Nat × Int) (Y4 code x3.2.1 x3.2.2 [-1, 2, 3]) (fun x8 => ((x2.1.1, x8.1, x2.1.2.2.1, x2.1.2.2.2.1, x2.1.2.2.2.2), x8.2.1, x8.2.2))) else (bif (x3.1 == (2 : Int)) then (lt (α := Int × Nat × Int) (Y4 code x3.2.1 x3.2.2 [-1, 60, 61, 9223372036854775807]) (fun x11 => ((x2.1.1, x2.1.2.1, x2.1.2.2.1, x11.1, x2.1.2.2.2.2), x11.2.1, x11.2.2))) else (bif (x3.1 == (3 : Int)) then (lt (α := ByteArray × Nat × Int) (H8 code x3.2.1 x3.2.2) (fun x14 => (lt (α := Wg × Nat × Int) (Wx code x14.2.1 x14.2.2) (fun x15 => ((x2.1.1, x2.1.2.1, x2.1.2.2.1, x2.1.2.2.2.1, x2.1.2.2.2.2 ++ [(x14.1, x15.1)]), x15.2.1, x15.2.2))))) else (bif (x3.1 == (4 : Int)) then ((Xf x2.1 ⟨#[97]⟩ (Xc ⟨#[114, 101, 100]⟩)), x3.2.1, x3.2.2) else (x2.1, x3.2.1, x3.2.2))))))))))))
theorem WU (code : (List UInt8)) (ci : Nat) (ch : Int) : AGive Tryz.prog 80 [.h code, .i ((ci : Nat) : Int), .i ch] [] (.a [.i ((((Vn code ci ch)).1).1), .i ((((Vn code ci ch)).1).2.1), .b ((((Vn code ci ch)).1).2.2.1), .i ((((Vn code ci ch)).1).2.2.2.1), .o 0 ((((Vn code ci ch)).1).2.2.2.2)]) [.h code, .i ((((Vn code ci ch)).2.1 : Nat) : Int), .i (((Vn code ci ch)).2.2)] := by
 refine Kf (tt := tt) Qb Tryz.func80 (fn := Tryz.f80) rfl (by unfold C9; kernel_rfl) (Nat.le_of_ble_eq_true rfl) (Nat.le_of_ble_eq_true rfl) rfl rfl fun w0 F0 hG => ?_
 refine sn Qb [0, 2] [2, 60000] (p0) ?_
 obtain ⟨x1, hx1⟩ : ∃ z : Int × Nat × Int, Qk code ci ch 7 = z := ⟨_, rfl⟩
 have hbx1 := hx1 ▸ Qy code ci ch 7
 obtain ⟨x2, hx2⟩ : ∃ z : X4 × Nat × Int, Jo code x1.2.1 x1.2.2 (1 + x1.1) = z := ⟨_, rfl⟩
 have hlx2 := TN code x1.2.1 x1.2.2 (1 + x1.1)
 rw [hx2] at hlx2
 refine tn Qb [0, 2, 3] [2, 3, 60000] (po 2 (.give none (.i x1.1) [.h code, .i ((x1.2.1 : Nat) : Int), .i x1.2.2]) (px (Q2 (hx1 ▸ Q7 code ci ch 7)) (pe 3 (Jb (IntWalk.i64_in (1 + x1.1) (by omega))) (po 4 (.give none (.a [.i x2.1.1, .i x2.1.2.1, .b x2.1.2.2.1, .i x2.1.2.2.2.1, .o 0 x2.1.2.2.2.2]) [.h code, .i ((x2.2.1 : Nat) : Int), .i x2.2.2]) (px (Q2 (hx2 ▸ Io code x1.2.1 x1.2.2 (1 + x1.1))) p0))))) ?_
 refine Qe ?_
 obtain ⟨x3, hx3⟩ : ∃ z : Int × Nat × Int, Qk code x2.2.1 x2.2.2 14 = z := ⟨_, rfl⟩
 have hbx3 := hx3 ▸ Qy code x2.2.1 x2.2.2 14
 refine tu Qb [(2, .p 2 0), (3, .p 3 0), (10, .i x3.1)] [] [(2, [.i 0, .i 0, .b false, .i 0, .e 4]), (3, [.i x2.1.1, .i x2.1.2.1, .b x2.1.2.2.1, .i x2.1.2.2.2.1, .o 512 x2.1.2.2.2.2]), (60000, [.h code, .i ((x3.2.1 : Nat) : Int), .i x3.2.2])] [60000] (po 1 (.give none (.i x3.1) [.h code, .i ((x3.2.1 : Nat) : Int), .i x3.2.2]) (px (Q2 (hx3 ▸ Q7 code x2.2.1 x2.2.2 14)) p0)) ?_
 refine Qt ?_
 refine sn Qb [0, 2, 3, 10, 11] [2, 3, 60000] (p0) ?_
 refine ck (x3.1 == (0 : Int)) (fun h4 => ?_) (fun h4 => ?_)
 ·
  obtain ⟨x5, hx5⟩ : ∃ z : Int × Nat × Int, Y4 code x3.2.1 x3.2.2 [0, 60, 61, -1] = z := ⟨_, rfl⟩
  refine qn Qb [0, 2, 3] [2, 3, 60000] (po 2 (.give none (.i x5.1) [.h code, .i ((x5.2.1 : Nat) : Int), .i x5.2.2]) (px (Q2 (hx5 ▸ Vi code x3.2.1 x3.2.2 [0, 60, 61, -1] (Nat.zero_lt_succ _))) p0)) ?_
  refine tu Qb [] [3, 10] [(2, [.i x5.1, .i x2.1.2.1, .b x2.1.2.2.1, .i x2.1.2.2.2.1, .o 512 x2.1.2.2.2.2]), (60000, [.h code, .i ((x5.2.1 : Nat) : Int), .i x5.2.2])] [2, 3, 60000] (p0) ?_
  refine Qf ?_
  have hE6 : Vn code ci ch = ((x5.1, x2.1.2.1, x2.1.2.2.1, x2.1.2.2.2.1, x2.1.2.2.2.2), x5.2.1, x5.2.2) := Ys hx1 (Ys hx2 (Ys hx3 (Q8 h4 (Ys hx5 (rfl)))))
  exact He [] (congrArg (fun z => (.a [.i z.1.1, .i z.1.2.1, .b z.1.2.2.1, .i z.1.2.2.2.1, .o 0 z.1.2.2.2.2] : AV)) hE6.symm) (congrArg (fun z => ([.h code, .i ((z.2.1 : Nat) : Int), .i z.2.2] : List C)) hE6.symm)
 ·
  have h4d := Yb h4
  refine tn Qb [0, 2, 3, 10, 17] [2, 3, 60000] (p0) ?_
  refine ck (x3.1 == (1 : Int)) (fun h7 => ?_) (fun h7 => ?_)
  ·
   obtain ⟨x8, hx8⟩ : ∃ z : Int × Nat × Int, Y4 code x3.2.1 x3.2.2 [-1, 2, 3] = z := ⟨_, rfl⟩
   refine qu Qb [] [10] [(3, [.i x2.1.1, .i x8.1, .b x2.1.2.2.1, .i x2.1.2.2.2.1, .o 512 x2.1.2.2.2.2]), (60000, [.h code, .i ((x8.2.1 : Nat) : Int), .i x8.2.2])] [3, 60000] (po 2 (.give none (.i x8.1) [.h code, .i ((x8.2.1 : Nat) : Int), .i x8.2.2]) (px (Q2 (hx8 ▸ Vi code x3.2.1 x3.2.2 [-1, 2, 3] (Nat.zero_lt_succ _))) p0)) ?_
   refine sn Qb [0, 2] [2, 60000] (p0) ?_
   refine Qf ?_
   have hE9 : Vn code ci ch = ((x2.1.1, x8.1, x2.1.2.2.1, x2.1.2.2.2.1, x2.1.2.2.2.2), x8.2.1, x8.2.2) := Ys hx1 (Ys hx2 (Ys hx3 (Qn h4 (Q8 h7 (Ys hx8 (rfl))))))
   exact He [] (congrArg (fun z => (.a [.i z.1.1, .i z.1.2.1, .b z.1.2.2.1, .i z.1.2.2.2.1, .o 0 z.1.2.2.2.2] : AV)) hE9.symm) (congrArg (fun z => ([.h code, .i ((z.2.1 : Nat) : Int), .i z.2.2] : List C)) hE9.symm)
  ·
   have h7d := Yb h7
   refine tu Qb [(23, .b (x3.1 == (2 : Int)))] [] [] [] (p0) ?_
   refine ck (x3.1 == (2 : Int)) (fun h10 => ?_) (fun h10 => ?_)
   ·
    obtain ⟨x11, hx11⟩ : ∃ z : Int × Nat × Int, Y4 code x3.2.1 x3.2.2 [-1, 60, 61, 9223372036854775807] = z := ⟨_, rfl⟩
    refine rn Qb [0, 2, 3] [2, 3, 60000] (po 2 (.give none (.i x11.1) [.h code, .i ((x11.2.1 : Nat) : Int), .i x11.2.2]) (px (Q2 (hx11 ▸ Vi code x3.2.1 x3.2.2 [-1, 60, 61, 9223372036854775807] (Nat.zero_lt_succ _))) p0)) ?_
    refine tn Qb [0, 2] [2, 60000] (p0) ?_
    refine Qf ?_
    have hE12 : Vn code ci ch = ((x2.1.1, x2.1.2.1, x2.1.2.2.1, x11.1, x2.1.2.2.2.2), x11.2.1, x11.2.2) := Ys hx1 (Ys hx2 (Ys hx3 (Qn h4 (Qn h7 (Q8 h10 (Ys hx11 (rfl)))))))
    exact He [] (congrArg (fun z => (.a [.i z.1.1, .i z.1.2.1, .b z.1.2.2.1, .i z.1.2.2.2.1, .o 0 z.1.2.2.2.2] : AV)) hE12.symm) (congrArg (fun z => ([.h code, .i ((z.2.1 : Nat) : Int), .i z.2.2] : List C)) hE12.symm)
   ·
    have h10d := Yb h10
    refine sn Qb [0, 2, 3, 10, 29] [2, 3, 60000] (p0) ?_
    refine ck (x3.1 == (3 : Int)) (fun h13 => ?_) (fun h13 => ?_)
    ·
     have h13d := eq_of_beq h13
     obtain ⟨x14, hx14⟩ : ∃ z : ByteArray × Nat × Int, H8 code x3.2.1 x3.2.2 = z := ⟨_, rfl⟩
     obtain ⟨x15, hx15⟩ : ∃ z : Wg × Nat × Int, Wx code x14.2.1 x14.2.2 = z := ⟨_, rfl⟩
     refine wB 3 4 (.own true 512) x2.1.2.2.2.2 (fun hw16 hl17 => ?_)
     refine qU Qb Yn [] [10, 23] [(3, [.i x2.1.1, .i x2.1.2.1, .b x2.1.2.2.1, .i x2.1.2.2.2.1, .slc (.own true 2496) 4 ((eL x2.1.2.2.2.2) ++ [[.s x14.1, .i x15.1.1, .i x15.1.2.1, .s x15.1.2.2]])]), (60000, [.h code, .i ((x15.2.1 : Nat) : Int), .i x15.2.2])] [3, 60000] (po 3 (.give none (.s x14.1) [.h code, .i ((x14.2.1 : Nat) : Int), .i x14.2.2]) (px (Q2 (hx14 ▸ Pg code x3.2.1 x3.2.2)) (po 5 (.give none (.a [.i x15.1.1, .i x15.1.2.1, .s x15.1.2.2]) [.h code, .i ((x15.2.1 : Nat) : Int), .i x15.2.2]) (px (Q2 (hx15 ▸ Rw code x14.2.1 x14.2.2)) (pa x2.1.2.2.2.2 [(x14.1, x15.1)] p0))))) ?_
     refine eqn [] [] [(3, [.i x2.1.1, .i x2.1.2.1, .b x2.1.2.2.1, .i x2.1.2.2.2.1, .o 2496 (x2.1.2.2.2.2 ++ [(x14.1, x15.1)])])] [3] (by rw [show ((eL x2.1.2.2.2.2) ++ [[.s x14.1, .i x15.1.1, .i x15.1.2.1, .s x15.1.2.2]]) = (eL (x2.1.2.2.2.2 ++ [(x14.1, x15.1)])) from Ky (rfl) (rfl)]; first | done | kernel_rfl) ?_
     refine sn Qb [0, 2] [2, 60000] (p0) ?_
     refine Qf ?_
     have hE18 : Vn code ci ch = ((x2.1.1, x2.1.2.1, x2.1.2.2.1, x2.1.2.2.2.1, x2.1.2.2.2.2 ++ [(x14.1, x15.1)]), x15.2.1, x15.2.2) := Ys hx1 (Ys hx2 (Ys hx3 (Qn h4 (Qn h7 (Qn h10 (Q8 h13 (Ys hx14 (Ys hx15 (rfl)))))))))
     exact He [] (congrArg (fun z => (.a [.i z.1.1, .i z.1.2.1, .b z.1.2.2.1, .i z.1.2.2.2.1, .o 0 z.1.2.2.2.2] : AV)) hE18.symm) (congrArg (fun z => ([.h code, .i ((z.2.1 : Nat) : Int), .i z.2.2] : List C)) hE18.symm)
    ·
     have h13d := Yb h13
     refine tn Qb [0, 2, 3, 41] [2, 3, 60000] (p0) ?_
     refine ck (x3.1 == (4 : Int)) (fun h19 => ?_) (fun h19 => ?_)
     ·
      have h19d := eq_of_beq h19
      refine qU Qb Yn [] [10, 23] [(3, [.i ((Xf x2.1 ⟨#[97]⟩ (Xc ⟨#[114, 101, 100]⟩)).1), .i ((Xf x2.1 ⟨#[97]⟩ (Xc ⟨#[114, 101, 100]⟩)).2.1), .b ((Xf x2.1 ⟨#[97]⟩ (Xc ⟨#[114, 101, 100]⟩)).2.2.1), .i ((Xf x2.1 ⟨#[97]⟩ (Xc ⟨#[114, 101, 100]⟩)).2.2.2.1), .o 2880 ((Xf x2.1 ⟨#[97]⟩ (Xc ⟨#[114, 101, 100]⟩)).2.2.2.2)])] [3] (pc 1 (U5 ⟨#[114, 101, 100]⟩) (pc 2 (Ct x2.1 ⟨#[97]⟩ (Xc ⟨#[114, 101, 100]⟩) (by first | omega | (simp; done) | (simp; omega))) p0)) ?_
      refine sn Qb [0, 2] [2, 60000] (p0) ?_
      refine Qf ?_
      have hE20 : Vn code ci ch = ((Xf x2.1 ⟨#[97]⟩ (Xc ⟨#[114, 101, 100]⟩)), x3.2.1, x3.2.2) := Ys hx1 (Ys hx2 (Ys hx3 (Qn h4 (Qn h7 (Qn h10 (Qn h13 (Q8 h19 (rfl))))))))
      exact He [] (congrArg (fun z => (.a [.i z.1.1, .i z.1.2.1, .b z.1.2.2.1, .i z.1.2.2.2.1, .o 0 z.1.2.2.2.2] : AV)) hE20.symm) (congrArg (fun z => ([.h code, .i ((z.2.1 : Nat) : Int), .i z.2.2] : List C)) hE20.symm)
     ·
      refine Qj ?_
      refine tu Qb [] [3, 10, 23] [(2, [.i x2.1.1, .i x2.1.2.1, .b x2.1.2.2.1, .i x2.1.2.2.2.1, .o 512 x2.1.2.2.2.2])] [2, 3] (p0) ?_
      refine Qf ?_
      have hE21 : Vn code ci ch = (x2.1, x3.2.1, x3.2.2) := Ys hx1 (Ys hx2 (Ys hx3 (Qn h4 (Qn h7 (Qn h10 (Qn h13 (Qn h19 (rfl))))))))
      exact He [] (congrArg (fun z => (.a [.i z.1.1, .i z.1.2.1, .b z.1.2.2.1, .i z.1.2.2.2.1, .o 0 z.1.2.2.2.2] : AV)) hE21.symm) (congrArg (fun z => ([.h code, .i ((z.2.1 : Nat) : Int), .i z.2.2] : List C)) hE21.symm)
def Ak (code : (List UInt8)) (s0 : Q5 × Nat × Int) : Rd (Q5 × Nat × Int) (Q5 × Nat × Int) (Q5 × Nat × Int) := (bif decide ((s0.1.2.1.length : Int) < (12 : Int)) then (lt (α := X4 × Nat × Int) (Jo code s0.2.1 s0.2.2 1) (fun x16 => (.next ((((Yg s0.1 x16.1)).1), x16.2.1, x16.2.2)))) else (.brk (s0.1, s0.2.1, s0.2.2)))
def Vo (code : (List UInt8)) (ci : Nat) (ch : Int) : Q5 × Nat × Int := (lt (α := Q5 × Nat × Int) (Zr code ci ch) (fun x1 => (lt (α := Int × Nat × Int) (Qk code x1.2.1 x1.2.2 14) (fun x2 => (bif (x2.1 == (0 : Int)) then (lt (α := Int × Nat × Int) (Y4 code x2.2.1 x2.2.2 [0, 60, 61, 62]) (fun x4 => ((x1.1.1, x1.1.2.1, x4.1), x4.2.1, x4.2.2))) else (bif (x2.1 == (1 : Int)) then (lt (α := X4 × Nat × Int) (Vn code x2.2.1 x2.2.2) (fun x7 => ((x1.1.1, x1.1.2.1 ++ [x7.1], x1.1.2.2), x7.2.1, x7.2.2))) else (bif (x2.1 == (2 : Int)) then (lt (α := (List Zq) × Nat × Int) (U6 code x2.2.1 x2.2.2) (fun x12 => ((x12.1, x1.1.2.1, x1.1.2.2), x12.2.1, x12.2.2))) else (bif (x2.1 == (3 : Int)) then (Out.on (E0 (Ak code) 13 (x1.1, x2.2.1, x2.2.2)) (fun y0 => (y0.1, y0.2.1, y0.2.2))) else (x1.1, x2.2.1, x2.2.2)))))))))
theorem WV (code : List UInt8) (ci : Nat) (ch : Int) {s : Q5} (h : S5 s) : (whl (Ak code) 13 (s, ci, ch)).isSome = true :=
  AN (fun s => S5 s.1) (fun s => (s.1.2.1.length : Int)) 12 (fun s s' hi h => by
    unfold Ak lt at h
    by_cases hc : (s.1.2.1.length : Int) < 12
    · simp only [decide_eq_true hc, cond_true] at h
      have h := Rd.next.inj h
      obtain ⟨h1, h2⟩ := TL hi (by omega) (PZ code s.2.1 s.2.2 1)
      rw [← h]
      exact ⟨hc, by dsimp only; omega, h2⟩
    · simp only [decide_eq_false hc, cond_false] at h
      cases h) 12 _ h (by show (12 : Int) ≤ (s.2.1.length : Int) + 12; omega)
theorem WW (code : (List UInt8)) (ci : Nat) (ch : Int) : AGive Tryz.prog 55 [.h code, .i ((ci : Nat) : Int), .i ch] [] (.a [.h ((((Vo code ci ch)).1).1), .q 0 ((((Vo code ci ch)).1).2.1), .i ((((Vo code ci ch)).1).2.2)]) [.h code, .i ((((Vo code ci ch)).2.1 : Nat) : Int), .i (((Vo code ci ch)).2.2)] := by
 refine Kf (tt := tt) Qb Tryz.func55 (fn := Tryz.f55) rfl (by unfold C9; kernel_rfl) (Nat.le_of_ble_eq_true rfl) (Nat.le_of_ble_eq_true rfl) rfl rfl fun w0 F0 hG => ?_
 refine sn Qb [0, 2] [2, 60000] (p0) ?_
 obtain ⟨x1, hx1⟩ : ∃ z : Q5 × Nat × Int, Zr code ci ch = z := ⟨_, rfl⟩
 have hsx1 := Qa6 code ci ch
 rw [hx1] at hsx1
 refine tn Qb [0, 2, 3] [2, 3, 60000] (po 1 (.give none (.a [.o 0 x1.1.1, .q 1 x1.1.2.1, .i x1.1.2.2]) [.h code, .i ((x1.2.1 : Nat) : Int), .i x1.2.2]) (px (Q2 (hx1 ▸ Dv code ci ch)) p0)) ?_
 refine Qe ?_
 obtain ⟨x2, hx2⟩ : ∃ z : Int × Nat × Int, Qk code x1.2.1 x1.2.2 14 = z := ⟨_, rfl⟩
 have hbx2 := hx2 ▸ Qy code x1.2.1 x1.2.2 14
 refine tu Qb [(2, .p 2 0), (3, .p 3 0), (7, .i x2.1)] [] [(2, [.e 2, .e 5, .i 0]), (3, [.o 320 x1.1.1, .q 321 x1.1.2.1, .i x1.1.2.2]), (60000, [.h code, .i ((x2.2.1 : Nat) : Int), .i x2.2.2])] [60000] (po 1 (.give none (.i x2.1) [.h code, .i ((x2.2.1 : Nat) : Int), .i x2.2.2]) (px (Q2 (hx2 ▸ Q7 code x1.2.1 x1.2.2 14)) p0)) ?_
 refine Qt ?_
 refine sn Qb [0, 2, 3, 7, 8] [2, 3, 60000] (p0) ?_
 refine ck (x2.1 == (0 : Int)) (fun h3 => ?_) (fun h3 => ?_)
 ·
  obtain ⟨x4, hx4⟩ : ∃ z : Int × Nat × Int, Y4 code x2.2.1 x2.2.2 [0, 60, 61, 62] = z := ⟨_, rfl⟩
  refine qn Qb [0, 2, 3] [2, 3, 60000] (po 2 (.give none (.i x4.1) [.h code, .i ((x4.2.1 : Nat) : Int), .i x4.2.2]) (px (Q2 (hx4 ▸ Vi code x2.2.1 x2.2.2 [0, 60, 61, 62] (Nat.zero_lt_succ _))) p0)) ?_
  refine tu Qb [] [3, 7] [(2, [.o 320 x1.1.1, .q 321 x1.1.2.1, .i x4.1]), (60000, [.h code, .i ((x4.2.1 : Nat) : Int), .i x4.2.2])] [2, 3, 60000] (p0) ?_
  refine Qf ?_
  have hE5 : Vo code ci ch = ((x1.1.1, x1.1.2.1, x4.1), x4.2.1, x4.2.2) := Ys hx1 (Ys hx2 (Q8 h3 (Ys hx4 (rfl))))
  exact He [320] (congrArg (fun z => (.a [.h z.1.1, .q 0 z.1.2.1, .i z.1.2.2] : AV)) hE5.symm) (congrArg (fun z => ([.h code, .i ((z.2.1 : Nat) : Int), .i z.2.2] : List C)) hE5.symm)
 ·
  have h3d := Yb h3
  refine tn Qb [0, 2, 3, 7, 14] [2, 3, 60000] (p0) ?_
  refine ck (x2.1 == (1 : Int)) (fun h6 => ?_) (fun h6 => ?_)
  ·
   have h6d := eq_of_beq h6
   obtain ⟨x7, hx7⟩ : ∃ z : X4 × Nat × Int, Vn code x2.2.1 x2.2.2 = z := ⟨_, rfl⟩
   refine wB 3 1 (.own false 321) x1.1.2.1 (fun hw8 hl9 => ?_)
   refine qU Qb Yn [] [7] [(3, [.o 320 x1.1.1, .slc (.own false 1344) 5 ((eL x1.1.2.1) ++ [[.i x7.1.1, .i x7.1.2.1, .b x7.1.2.2.1, .i x7.1.2.2.2.1, .h x7.1.2.2.2.2]]), .i x1.1.2.2]), (60000, [.h code, .i ((x7.2.1 : Nat) : Int), .i x7.2.2])] [3, 60000] (po 3 (.give none (.a [.i x7.1.1, .i x7.1.2.1, .b x7.1.2.2.1, .i x7.1.2.2.2.1, .o 0 x7.1.2.2.2.2]) [.h code, .i ((x7.2.1 : Nat) : Int), .i x7.2.2]) (px (Q2 (hx7 ▸ WU code x2.2.1 x2.2.2)) (pa x1.1.2.1 [x7.1] p0))) ?_
   refine eqn [] [] [(3, [.o 320 x1.1.1, .q 1344 (x1.1.2.1 ++ [x7.1]), .i x1.1.2.2])] [3] (by rw [show ((eL x1.1.2.1) ++ [[.i x7.1.1, .i x7.1.2.1, .b x7.1.2.2.1, .i x7.1.2.2.2.1, .h x7.1.2.2.2.2]]) = (eL (x1.1.2.1 ++ [x7.1])) from Ky (rfl) (rfl)]; first | done | kernel_rfl) ?_
   refine sn Qb [0, 2] [2, 60000] (p0) ?_
   refine Qf ?_
   have hE10 : Vo code ci ch = ((x1.1.1, x1.1.2.1 ++ [x7.1], x1.1.2.2), x7.2.1, x7.2.2) := Ys hx1 (Ys hx2 (Qn h3 (Q8 h6 (Ys hx7 (rfl)))))
   exact He [320] (congrArg (fun z => (.a [.h z.1.1, .q 0 z.1.2.1, .i z.1.2.2] : AV)) hE10.symm) (congrArg (fun z => ([.h code, .i ((z.2.1 : Nat) : Int), .i z.2.2] : List C)) hE10.symm)
  ·
   refine tu Qb [(23, .b (x2.1 == (2 : Int)))] [] [] [] (p0) ?_
   refine ck (x2.1 == (2 : Int)) (fun h11 => ?_) (fun h11 => ?_)
   ·
    obtain ⟨x12, hx12⟩ : ∃ z : (List Zq) × Nat × Int, U6 code x2.2.1 x2.2.2 = z := ⟨_, rfl⟩
    refine rn Qb [0, 2, 3] [2, 3, 60000] (po 1 (.give none (.h x12.1) [.h code, .i ((x12.2.1 : Nat) : Int), .i x12.2.2]) (px (Q2 (hx12 ▸ WT code x2.2.1 x2.2.2)) p0)) ?_
    refine tn Qb [0, 2] [2, 60000] (p0) ?_
    refine Qf ?_
    have hE13 : Vo code ci ch = ((x12.1, x1.1.2.1, x1.1.2.2), x12.2.1, x12.2.2) := Ys hx1 (Ys hx2 (Qn h3 (Qn h6 (Q8 h11 (Ys hx12 (rfl))))))
    exact He [] (congrArg (fun z => (.a [.h z.1.1, .q 0 z.1.2.1, .i z.1.2.2] : AV)) hE13.symm) (congrArg (fun z => ([.h code, .i ((z.2.1 : Nat) : Int), .i z.2.2] : List C)) hE13.symm)
   ·
    refine sn Qb [0, 2, 3, 28] [2, 3, 60000] (p0) ?_
    refine ck (x2.1 == (3 : Int)) (fun h14 => ?_) (fun h14 => ?_)
    ·
     refine mz [(28, .b (x2.1 == (3 : Int)))] [7, 23] [] [] ?_
     refine blw (fun (s0 : Q5 × Nat × Int) => []) [28] (fun s0 => [(3, [.o 147206 s0.1.1, .q 147207 s0.1.2.1, .i s0.1.2.2]), (60000, [.h code, .i ((s0.2.1 : Nat) : Int), .i s0.2.2])]) [3, 60000] (fun (y0 : Q5 × Nat × Int) => []) [28] (fun y0 => [(3, [.o 147356 y0.1.1, .q 147357 y0.1.2.1, .i y0.1.2.2]), (60000, [.h code, .i ((y0.2.1 : Nat) : Int), .i y0.2.2])]) [3, 60000] (fun (k0 : Nat) (s0 : Q5 × Nat × Int) => whl (Ak code) k0 s0 = some (E0 (Ak code) 13 (x1.1, x2.2.1, x2.2.2))) (fun (y0 : Q5 × Nat × Int) => (E0 (Ak code) 13 (x1.1, x2.2.1, x2.2.2)) = .brk y0) 13 (x1.1, x2.2.1, x2.2.2) (Xy [(320, 147206), (321, 147207)] (by kernel_rfl)) (Ca (WV code _ _ hsx1.1)) (fun _ h => Dn h) (fun k0 s0 hI0 => ?_) (fun y0 hD0 => ?_)
     ·
      refine Qe ?_
      refine sn Qb [0, 2, 3, 33] [2, 3, 60000] (pl 2 s0.1.2.1 p0) ?_
      refine ck (decide ((s0.1.2.1.length : Int) < (12 : Int))) (fun h15 => ?_) (fun h15 => ?_)
      ·
       refine Qj ?_
       refine Qt ?_
       obtain ⟨x16, hx16⟩ : ∃ z : X4 × Nat × Int, Jo code s0.2.1 s0.2.2 1 = z := ⟨_, rfl⟩
       refine qN Qb Yn [0, 2, 3] [2, 3, 60000] (po 2 (.give none (.a [.i x16.1.1, .i x16.1.2.1, .b x16.1.2.2.1, .i x16.1.2.2.2.1, .o 0 x16.1.2.2.2.2]) [.h code, .i ((x16.2.1 : Nat) : Int), .i x16.2.2]) (px (Q2 (hx16 ▸ Io code s0.2.1 s0.2.2 1)) (pc 3 (Ix s0.1 x16.1) p0))) ?_
       exact Exists.intro ((((Yg s0.1 x16.1)).1), x16.2.1, x16.2.2) (And.intro (F5 [] [] [2433] [(2432, 147206), (2433, 147207)] (by kernel_rfl)) (wn hI0 (Q8 h15 (Ys hx16 (rfl)))))
      ·
       refine Q3 ?_
       exact Exists.intro _ (And.intro (Xy [(147206, 147356), (147207, 147357)] (by kernel_rfl)) (wb hI0 (Qn h15 (rfl))))
     ·
      refine sn Qb [0, 2] [2, 60000] (p0) ?_
      refine Qf ?_
      have hE17 : Vo code ci ch = (y0.1, y0.2.1, y0.2.2) := Ys hx1 (Ys hx2 (Qn h3 (Qn h6 (Qn h11 (Q8 h14 (Wf hD0 (rfl)))))))
      exact He [147356] (congrArg (fun z => (.a [.h z.1.1, .q 0 z.1.2.1, .i z.1.2.2] : AV)) hE17.symm) (congrArg (fun z => ([.h code, .i ((z.2.1 : Nat) : Int), .i z.2.2] : List C)) hE17.symm)
    ·
     refine Qj ?_
     refine tn Qb [0, 2] [2, 60000] (p0) ?_
     refine Qf ?_
     have hE18 : Vo code ci ch = (x1.1, x2.2.1, x2.2.2) := Ys hx1 (Ys hx2 (Qn h3 (Qn h6 (Qn h11 (Qn h14 (rfl))))))
     exact He [320] (congrArg (fun z => (.a [.h z.1.1, .q 0 z.1.2.1, .i z.1.2.2] : AV)) hE18.symm) (congrArg (fun z => ([.h code, .i ((z.2.1 : Nat) : Int), .i z.2.2] : List C)) hE18.symm)
def Uf (code : (List UInt8)) (ci : Nat) (ch : Int) : (List X9) × Nat × Int := (lt (α := (List X9) × Nat × Int) (Jj code ci ch) (fun x1 => (lt (α := Int × Nat × Int) (Qk code x1.2.1 x1.2.2 (x1.1.length : Int)) (fun x2 => (lt (α := Int × Nat × Int) (Qk code x2.2.1 x2.2.2 10) (fun x3 => (bif (x3.1 == (0 : Int)) then (lt (α := Int × Nat × Int) (Qk code x3.2.1 x3.2.2 12) (fun x5 => (List.set x1.1 (Int.toNat x2.1) ((x5.1 - 1), (nth x1.1 (Int.toNat x2.1)).2.1, (nth x1.1 (Int.toNat x2.1)).2.2.1, (nth x1.1 (Int.toNat x2.1)).2.2.2.1, ((nth x1.1 (Int.toNat x2.1)).2.2.2.2.1, (nth x1.1 (Int.toNat x2.1)).2.2.2.2.2.1, (nth x1.1 (Int.toNat x2.1)).2.2.2.2.2.2)), x5.2.1, x5.2.2))) else (bif (x3.1 == (1 : Int)) then (lt (α := Int × Nat × Int) (Y4 code x3.2.1 x3.2.2 [-1, 0, x2.1, 8, 9223372036854775807]) (fun x11 => (List.set x1.1 (Int.toNat x2.1) ((nth x1.1 (Int.toNat x2.1)).1, x11.1, (nth x1.1 (Int.toNat x2.1)).2.2.1, (nth x1.1 (Int.toNat x2.1)).2.2.2.1, ((nth x1.1 (Int.toNat x2.1)).2.2.2.2.1, (nth x1.1 (Int.toNat x2.1)).2.2.2.2.2.1, (nth x1.1 (Int.toNat x2.1)).2.2.2.2.2.2)), x11.2.1, x11.2.2))) else (bif (x3.1 == (2 : Int)) then (lt (α := ByteArray × Nat × Int) (Yd code x3.2.1 x3.2.2 [⟨#[]⟩, ⟨#[97]⟩, ⟨#[100, 97]⟩, ⟨#[97, 98, 99, 100, 101, 102, 103]⟩, ⟨#[65]⟩]) (fun x17 => (List.set x1.1 (Int.toNat x2.1) ((nth x1.1 (Int.toNat x2.1)).1, (nth x1.1 (Int.toNat x2.1)).2.1, (nth x1.1 (Int.toNat x2.1)).2.2.1, x17.1, ((nth x1.1 (Int.toNat x2.1)).2.2.2.2.1, (nth x1.1 (Int.toNat x2.1)).2.2.2.2.2.1, (nth x1.1 (Int.toNat x2.1)).2.2.2.2.2.2)), x17.2.1, x17.2.2))) else (bif (x3.1 == (3 : Int)) then (lt (α := X9 × Nat × Int) (Zn code x3.2.1 x3.2.2) (fun x23 => (x1.1 ++ [x23.1], x23.2.1, x23.2.2))) else (bif (x3.1 == (4 : Int)) then (lt (α := Wg × Nat × Int) (Wx code x3.2.1 x3.2.2) (fun x28 => (List.set x1.1 (Int.toNat x2.1) ((nth x1.1 (Int.toNat x2.1)).1, (nth x1.1 (Int.toNat x2.1)).2.1, (nth x1.1 (Int.toNat x2.1)).2.2.1, (nth x1.1 (Int.toNat x2.1)).2.2.2.1, x28.1), x28.2.1, x28.2.2))) else (bif (x3.1 == (5 : Int)) then ([], x3.2.1, x3.2.2) else (x1.1, x3.2.1, x3.2.2)))))))))))))
theorem WX (code : (List UInt8)) (ci : Nat) (ch : Int) : AGive Tryz.prog 83 [.h code, .i ((ci : Nat) : Int), .i ch] [] (.o 0 (((Uf code ci ch)).1)) [.h code, .i ((((Uf code ci ch)).2.1 : Nat) : Int), .i (((Uf code ci ch)).2.2)] := by
 refine Kf (tt := tt) Qb Tryz.func83 (fn := Tryz.f83) rfl (by unfold C9; kernel_rfl) (Nat.le_of_ble_eq_true rfl) (Nat.le_of_ble_eq_true rfl) rfl rfl fun w0 F0 hG => ?_
 refine sn Qb [0, 2] [60000] (p0) ?_
 obtain ⟨x1, hx1⟩ : ∃ z : (List X9) × Nat × Int, Jj code ci ch = z := ⟨_, rfl⟩
 have hbx1 := hx1 ▸ JV code ci ch
 refine tn Qb [0, 2, 3] [60000] (po 1 (.give none (.o 0 x1.1) [.h code, .i ((x1.2.1 : Nat) : Int), .i x1.2.2]) (px (Q2 (hx1 ▸ Di code ci ch)) p0)) ?_
 obtain ⟨x2, hx2⟩ : ∃ z : Int × Nat × Int, Qk code x1.2.1 x1.2.2 (x1.1.length : Int) = z := ⟨_, rfl⟩
 have hbx2 := hx2 ▸ Qy code x1.2.1 x1.2.2 (x1.1.length : Int)
 refine tu Qb [(2, .e 0), (3, .o 384 x1.1), (4, .i x2.1)] [] [(60000, [.h code, .i ((x2.2.1 : Nat) : Int), .i x2.2.2])] [60000] (pl 2 x1.1 (po 3 (.give none (.i x2.1) [.h code, .i ((x2.2.1 : Nat) : Int), .i x2.2.2]) (px (Q2 (hx2 ▸ Q7 code x1.2.1 x1.2.2 (x1.1.length : Int))) p0))) ?_
 refine Qe ?_
 obtain ⟨x3, hx3⟩ : ∃ z : Int × Nat × Int, Qk code x2.2.1 x2.2.2 10 = z := ⟨_, rfl⟩
 have hbx3 := hx3 ▸ Qy code x2.2.1 x2.2.2 10
 refine sn Qb [0, 2, 3, 4, 12] [60000] (po 1 (.give none (.i x3.1) [.h code, .i ((x3.2.1 : Nat) : Int), .i x3.2.2]) (px (Q2 (hx3 ▸ Q7 code x2.2.1 x2.2.2 10)) p0)) ?_
 refine Qt ?_
 refine tn Qb [0, 2, 3, 4, 12, 13] [60000] (p0) ?_
 refine ck (x3.1 == (0 : Int)) (fun h4 => ?_) (fun h4 => ?_)
 ·
  have h4d := eq_of_beq h4
  obtain ⟨x5, hx5⟩ : ∃ z : Int × Nat × Int, Qk code x3.2.1 x3.2.2 12 = z := ⟨_, rfl⟩
  have hbx5 := hx5 ▸ Qy code x3.2.1 x3.2.2 12
  refine wT 3 0 (.own true 384) x1.1 (fun hw7 hl8 => ?_)
  have hx6 := ng x1.1 (Int.toNat x2.1)
  refine qu Qb [(3, .one (.slc (.own true 384) 7 (setRow (eL x1.1) (Int.toNat x2.1) 0 [.i (x5.1 - 1)])))] [3, 4] [(60000, [.h code, .i ((x5.2.1 : Nat) : Int), .i x5.2.2])] [60000] (po 3 (.give none (.i x5.1) [.h code, .i ((x5.2.1 : Nat) : Int), .i x5.2.2]) (px (Q2 (hx5 ▸ Q7 code x3.2.1 x3.2.2 12)) (pe 4 (Jb (IntWalk.i64_in (x5.1 - 1) (by omega))) (pG 5 x2.1 hx6 p0)))) ?_
  refine eqn [(3, .o 384 (List.set x1.1 (Int.toNat x2.1) ((x5.1 - 1), (nth x1.1 (Int.toNat x2.1)).2.1, (nth x1.1 (Int.toNat x2.1)).2.2.1, (nth x1.1 (Int.toNat x2.1)).2.2.2.1, ((nth x1.1 (Int.toNat x2.1)).2.2.2.2.1, (nth x1.1 (Int.toNat x2.1)).2.2.2.2.2.1, (nth x1.1 (Int.toNat x2.1)).2.2.2.2.2.2))))] [3] [] [] (by rw [Z0 (y := ((x5.1 - 1), (nth x1.1 (Int.toNat x2.1)).2.1, (nth x1.1 (Int.toNat x2.1)).2.2.1, (nth x1.1 (Int.toNat x2.1)).2.2.2.1, ((nth x1.1 (Int.toNat x2.1)).2.2.2.2.1, (nth x1.1 (Int.toNat x2.1)).2.2.2.2.2.1, (nth x1.1 (Int.toNat x2.1)).2.2.2.2.2.2))) hx6 rfl]; first | done | kernel_rfl) ?_
  refine sn Qb [0, 2] [60000] (p0) ?_
  refine Qf ?_
  have hE9 : Uf code ci ch = (List.set x1.1 (Int.toNat x2.1) ((x5.1 - 1), (nth x1.1 (Int.toNat x2.1)).2.1, (nth x1.1 (Int.toNat x2.1)).2.2.1, (nth x1.1 (Int.toNat x2.1)).2.2.2.1, ((nth x1.1 (Int.toNat x2.1)).2.2.2.2.1, (nth x1.1 (Int.toNat x2.1)).2.2.2.2.2.1, (nth x1.1 (Int.toNat x2.1)).2.2.2.2.2.2)), x5.2.1, x5.2.2) := Ys hx1 (Ys hx2 (Ys hx3 (Q8 h4 (Ys hx5 (rfl)))))
  exact He [] (congrArg (fun z => (.o 0 z.1 : AV)) hE9.symm) (congrArg (fun z => ([.h code, .i ((z.2.1 : Nat) : Int), .i z.2.2] : List C)) hE9.symm)
 ·
  have h4d := Yb h4
  refine tu Qb [(12, .i x3.1), (22, .b (x3.1 == (1 : Int)))] [] [(60000, [.h code, .i ((x3.2.1 : Nat) : Int), .i x3.2.2])] [60000] (p0) ?_
  refine ck (x3.1 == (1 : Int)) (fun h10 => ?_) (fun h10 => ?_)
  ·
   have h10d := eq_of_beq h10
   obtain ⟨x11, hx11⟩ : ∃ z : Int × Nat × Int, Y4 code x3.2.1 x3.2.2 [-1, 0, x2.1, 8, 9223372036854775807] = z := ⟨_, rfl⟩
   refine wT 3 0 (.own true 384) x1.1 (fun hw13 hl14 => ?_)
   have hx12 := ng x1.1 (Int.toNat x2.1)
   refine ru Qb [(3, .one (.slc (.own true 384) 7 (setRow (eL x1.1) (Int.toNat x2.1) 1 [.i x11.1])))] [3, 4, 12, 22] [(60000, [.h code, .i ((x11.2.1 : Nat) : Int), .i x11.2.2])] [60000] (po 5 (.give none (.i x11.1) [.h code, .i ((x11.2.1 : Nat) : Int), .i x11.2.2]) (px (Q2 (hx11 ▸ Vi code x3.2.1 x3.2.2 [-1, 0, x2.1, 8, 9223372036854775807] (Nat.zero_lt_succ _))) (pG 6 x2.1 hx12 p0))) ?_
   refine eqn [(3, .o 384 (List.set x1.1 (Int.toNat x2.1) ((nth x1.1 (Int.toNat x2.1)).1, x11.1, (nth x1.1 (Int.toNat x2.1)).2.2.1, (nth x1.1 (Int.toNat x2.1)).2.2.2.1, ((nth x1.1 (Int.toNat x2.1)).2.2.2.2.1, (nth x1.1 (Int.toNat x2.1)).2.2.2.2.2.1, (nth x1.1 (Int.toNat x2.1)).2.2.2.2.2.2))))] [3] [] [] (by rw [Z0 (y := ((nth x1.1 (Int.toNat x2.1)).1, x11.1, (nth x1.1 (Int.toNat x2.1)).2.2.1, (nth x1.1 (Int.toNat x2.1)).2.2.2.1, ((nth x1.1 (Int.toNat x2.1)).2.2.2.2.1, (nth x1.1 (Int.toNat x2.1)).2.2.2.2.2.1, (nth x1.1 (Int.toNat x2.1)).2.2.2.2.2.2))) hx12 rfl]; first | done | kernel_rfl) ?_
   refine sn Qb [0, 2] [60000] (p0) ?_
   refine Qf ?_
   have hE15 : Uf code ci ch = (List.set x1.1 (Int.toNat x2.1) ((nth x1.1 (Int.toNat x2.1)).1, x11.1, (nth x1.1 (Int.toNat x2.1)).2.2.1, (nth x1.1 (Int.toNat x2.1)).2.2.2.1, ((nth x1.1 (Int.toNat x2.1)).2.2.2.2.1, (nth x1.1 (Int.toNat x2.1)).2.2.2.2.2.1, (nth x1.1 (Int.toNat x2.1)).2.2.2.2.2.2)), x11.2.1, x11.2.2) := Ys hx1 (Ys hx2 (Ys hx3 (Qn h4 (Q8 h10 (Ys hx11 (rfl))))))
   exact He [] (congrArg (fun z => (.o 0 z.1 : AV)) hE15.symm) (congrArg (fun z => ([.h code, .i ((z.2.1 : Nat) : Int), .i z.2.2] : List C)) hE15.symm)
  ·
   have h10d := Yb h10
   refine sn Qb [0, 2, 3, 4, 12, 32] [60000] (p0) ?_
   refine ck (x3.1 == (2 : Int)) (fun h16 => ?_) (fun h16 => ?_)
   ·
    have h16d := eq_of_beq h16
    obtain ⟨x17, hx17⟩ : ∃ z : ByteArray × Nat × Int, Yd code x3.2.1 x3.2.2 [⟨#[]⟩, ⟨#[97]⟩, ⟨#[100, 97]⟩, ⟨#[97, 98, 99, 100, 101, 102, 103]⟩, ⟨#[65]⟩] = z := ⟨_, rfl⟩
    refine wT 3 0 (.own true 384) x1.1 (fun hw19 hl20 => ?_)
    have hx18 := ng x1.1 (Int.toNat x2.1)
    refine qu Qb [(3, .one (.slc (.own true 384) 7 (setRow (eL x1.1) (Int.toNat x2.1) 3 [.s x17.1])))] [3, 4, 12, 22] [(60000, [.h code, .i ((x17.2.1 : Nat) : Int), .i x17.2.2])] [60000] (po 4 (.give none (.s x17.1) [.h code, .i ((x17.2.1 : Nat) : Int), .i x17.2.2]) (px (Q2 (hx17 ▸ Kh code x3.2.1 x3.2.2 [⟨#[]⟩, ⟨#[97]⟩, ⟨#[100, 97]⟩, ⟨#[97, 98, 99, 100, 101, 102, 103]⟩, ⟨#[65]⟩] (Nat.zero_lt_succ _))) (pG 5 x2.1 hx18 p0))) ?_
    refine eqn [(3, .o 384 (List.set x1.1 (Int.toNat x2.1) ((nth x1.1 (Int.toNat x2.1)).1, (nth x1.1 (Int.toNat x2.1)).2.1, (nth x1.1 (Int.toNat x2.1)).2.2.1, x17.1, ((nth x1.1 (Int.toNat x2.1)).2.2.2.2.1, (nth x1.1 (Int.toNat x2.1)).2.2.2.2.2.1, (nth x1.1 (Int.toNat x2.1)).2.2.2.2.2.2))))] [3] [] [] (by rw [Z0 (y := ((nth x1.1 (Int.toNat x2.1)).1, (nth x1.1 (Int.toNat x2.1)).2.1, (nth x1.1 (Int.toNat x2.1)).2.2.1, x17.1, ((nth x1.1 (Int.toNat x2.1)).2.2.2.2.1, (nth x1.1 (Int.toNat x2.1)).2.2.2.2.2.1, (nth x1.1 (Int.toNat x2.1)).2.2.2.2.2.2))) hx18 rfl]; first | done | kernel_rfl) ?_
    refine sn Qb [0, 2] [60000] (p0) ?_
    refine Qf ?_
    have hE21 : Uf code ci ch = (List.set x1.1 (Int.toNat x2.1) ((nth x1.1 (Int.toNat x2.1)).1, (nth x1.1 (Int.toNat x2.1)).2.1, (nth x1.1 (Int.toNat x2.1)).2.2.1, x17.1, ((nth x1.1 (Int.toNat x2.1)).2.2.2.2.1, (nth x1.1 (Int.toNat x2.1)).2.2.2.2.2.1, (nth x1.1 (Int.toNat x2.1)).2.2.2.2.2.2)), x17.2.1, x17.2.2) := Ys hx1 (Ys hx2 (Ys hx3 (Qn h4 (Qn h10 (Q8 h16 (Ys hx17 (rfl)))))))
    exact He [] (congrArg (fun z => (.o 0 z.1 : AV)) hE21.symm) (congrArg (fun z => ([.h code, .i ((z.2.1 : Nat) : Int), .i z.2.2] : List C)) hE21.symm)
   ·
    have h16d := Yb h16
    refine tn Qb [0, 2, 3, 4, 12, 41] [60000] (p0) ?_
    refine ck (x3.1 == (3 : Int)) (fun h22 => ?_) (fun h22 => ?_)
    ·
     have h22d := eq_of_beq h22
     obtain ⟨x23, hx23⟩ : ∃ z : X9 × Nat × Int, Zn code x3.2.1 x3.2.2 = z := ⟨_, rfl⟩
     refine wT 3 0 (.own true 384) x1.1 (fun hw24 hl25 => ?_)
     refine qu Qb [(3, .one (.slc (.own true 3008) 7 ((eL x1.1) ++ [[.i x23.1.1, .i x23.1.2.1, .i x23.1.2.2.1, .s x23.1.2.2.2.1, .i x23.1.2.2.2.2.1, .i x23.1.2.2.2.2.2.1, .s x23.1.2.2.2.2.2.2]])))] [3, 4, 12, 22] [(60000, [.h code, .i ((x23.2.1 : Nat) : Int), .i x23.2.2])] [60000] (po 2 (.give none (.a [.i x23.1.1, .i x23.1.2.1, .i x23.1.2.2.1, .s x23.1.2.2.2.1, .i x23.1.2.2.2.2.1, .i x23.1.2.2.2.2.2.1, .s x23.1.2.2.2.2.2.2]) [.h code, .i ((x23.2.1 : Nat) : Int), .i x23.2.2]) (px (Q2 (hx23 ▸ Ip code x3.2.1 x3.2.2)) (pa x1.1 [x23.1] p0))) ?_
     refine eqn [(3, .o 3008 (x1.1 ++ [x23.1]))] [3] [] [] (by rw [show ((eL x1.1) ++ [[.i x23.1.1, .i x23.1.2.1, .i x23.1.2.2.1, .s x23.1.2.2.2.1, .i x23.1.2.2.2.2.1, .i x23.1.2.2.2.2.2.1, .s x23.1.2.2.2.2.2.2]]) = (eL (x1.1 ++ [x23.1])) from Ky (rfl) (rfl)]; first | done | kernel_rfl) ?_
     refine sn Qb [0, 2] [60000] (p0) ?_
     refine Qf ?_
     have hE26 : Uf code ci ch = (x1.1 ++ [x23.1], x23.2.1, x23.2.2) := Ys hx1 (Ys hx2 (Ys hx3 (Qn h4 (Qn h10 (Qn h16 (Q8 h22 (Ys hx23 (rfl))))))))
     exact He [] (congrArg (fun z => (.o 0 z.1 : AV)) hE26.symm) (congrArg (fun z => ([.h code, .i ((z.2.1 : Nat) : Int), .i z.2.2] : List C)) hE26.symm)
    ·
     have h22d := Yb h22
     refine tu Qb [(48, .b (x3.1 == (4 : Int)))] [22] [] [] (p0) ?_
     refine ck (x3.1 == (4 : Int)) (fun h27 => ?_) (fun h27 => ?_)
     ·
      have h27d := eq_of_beq h27
      obtain ⟨x28, hx28⟩ : ∃ z : Wg × Nat × Int, Wx code x3.2.1 x3.2.2 = z := ⟨_, rfl⟩
      refine wT 3 0 (.own true 384) x1.1 (fun hw30 hl31 => ?_)
      have hx29 := ng x1.1 (Int.toNat x2.1)
      refine ru Qb [(3, .one (.slc (.own true 384) 7 (setRow (eL x1.1) (Int.toNat x2.1) 4 [.i x28.1.1, .i x28.1.2.1, .s x28.1.2.2])))] [3, 4, 12, 48] [(60000, [.h code, .i ((x28.2.1 : Nat) : Int), .i x28.2.2])] [60000] (po 3 (.give none (.a [.i x28.1.1, .i x28.1.2.1, .s x28.1.2.2]) [.h code, .i ((x28.2.1 : Nat) : Int), .i x28.2.2]) (px (Q2 (hx28 ▸ Rw code x3.2.1 x3.2.2)) (pG 4 x2.1 hx29 p0))) ?_
      refine eqn [(3, .o 384 (List.set x1.1 (Int.toNat x2.1) ((nth x1.1 (Int.toNat x2.1)).1, (nth x1.1 (Int.toNat x2.1)).2.1, (nth x1.1 (Int.toNat x2.1)).2.2.1, (nth x1.1 (Int.toNat x2.1)).2.2.2.1, x28.1)))] [3] [] [] (by rw [Z0 (y := ((nth x1.1 (Int.toNat x2.1)).1, (nth x1.1 (Int.toNat x2.1)).2.1, (nth x1.1 (Int.toNat x2.1)).2.2.1, (nth x1.1 (Int.toNat x2.1)).2.2.2.1, x28.1)) hx29 rfl]; first | done | kernel_rfl) ?_
      refine sn Qb [0, 2] [60000] (p0) ?_
      refine Qf ?_
      have hE32 : Uf code ci ch = (List.set x1.1 (Int.toNat x2.1) ((nth x1.1 (Int.toNat x2.1)).1, (nth x1.1 (Int.toNat x2.1)).2.1, (nth x1.1 (Int.toNat x2.1)).2.2.1, (nth x1.1 (Int.toNat x2.1)).2.2.2.1, x28.1), x28.2.1, x28.2.2) := Ys hx1 (Ys hx2 (Ys hx3 (Qn h4 (Qn h10 (Qn h16 (Qn h22 (Q8 h27 (Ys hx28 (rfl)))))))))
      exact He [] (congrArg (fun z => (.o 0 z.1 : AV)) hE32.symm) (congrArg (fun z => ([.h code, .i ((z.2.1 : Nat) : Int), .i z.2.2] : List C)) hE32.symm)
     ·
      refine sn Qb [0, 2, 3, 56] [60000] (p0) ?_
      refine ck (x3.1 == (5 : Int)) (fun h33 => ?_) (fun h33 => ?_)
      ·
       refine qn Qb [0, 2, 3] [60000] (p0) ?_
       refine tu Qb [] [3, 4, 12, 48] [] [] (p0) ?_
       refine opn [(false, 2, 0, true, 384000, 7)] ?_
       refine Qf ?_
       have hE34 : Uf code ci ch = ([], x3.2.1, x3.2.2) := Ys hx1 (Ys hx2 (Ys hx3 (Qn h4 (Qn h10 (Qn h16 (Qn h22 (Qn h27 (Q8 h33 (rfl)))))))))
       exact He [] (congrArg (fun z => (.o 0 z.1 : AV)) hE34.symm) (congrArg (fun z => ([.h code, .i ((z.2.1 : Nat) : Int), .i z.2.2] : List C)) hE34.symm)
      ·
       refine Qj ?_
       refine tn Qb [0, 2] [60000] (p0) ?_
       refine Qf ?_
       have hE35 : Uf code ci ch = (x1.1, x3.2.1, x3.2.2) := Ys hx1 (Ys hx2 (Ys hx3 (Qn h4 (Qn h10 (Qn h16 (Qn h22 (Qn h27 (Qn h33 (rfl)))))))))
       exact He [] (congrArg (fun z => (.o 0 z.1 : AV)) hE35.symm) (congrArg (fun z => ([.h code, .i ((z.2.1 : Nat) : Int), .i z.2.2] : List C)) hE35.symm)
def Al (code : (List UInt8)) (s0 : (List Y5) × Nat × Int) : Rd ((List Y5) × Nat × Int) ((List Y5) × Nat × Int) ((List Y5) × Nat × Int) := (lt (α := Int × Nat × Int) (Qk code s0.2.1 s0.2.2 2) (fun x17 => (bif decide ((s0.1.length : Int) < (5 + x17.1)) then (lt (α := (List X9) × Nat × Int) (Jj code x17.2.1 x17.2.2) (fun x20 => (.next (s0.1 ++ [((nth ([⟨#[100, 97]⟩, ⟨#[100, 98]⟩, ⟨#[100, 99]⟩, ⟨#[100, 100]⟩, ⟨#[100, 101]⟩, ⟨#[100, 102]⟩] : (List ByteArray)) (Int.toNat (s0.1.length : Int))), x20.1)], x20.2.1, x20.2.2)))) else (.brk (s0.1, x17.2.1, x17.2.2)))))
def Hn (code : (List UInt8)) (ci : Nat) (ch : Int) : (List Y5) × Nat × Int := (lt (α := (List Y5) × Nat × Int) (K1 code ci ch) (fun x1 => (lt (α := Int × Nat × Int) (Qk code x1.2.1 x1.2.2 (x1.1.length : Int)) (fun x2 => (lt (α := Int × Nat × Int) (Qk code x2.2.1 x2.2.2 10) (fun x3 => (bif (x3.1 == (0 : Int)) then (lt (α := ByteArray × Nat × Int) (Yd code x3.2.1 x3.2.2 [⟨#[]⟩, ⟨#[65]⟩, ⟨#[122, 122]⟩, ⟨#[97, 98, 99, 100, 101, 102, 103]⟩]) (fun x5 => (List.set x1.1 (Int.toNat x2.1) (x5.1, (nth x1.1 (Int.toNat x2.1)).2), x5.2.1, x5.2.2))) else (bif (x3.1 == (1 : Int)) then (lt (α := (List X9) × Nat × Int) (Uf code x3.2.1 x3.2.2) (fun x11 => (List.set x1.1 (Int.toNat x2.1) ((nth x1.1 (Int.toNat x2.1)).1, x11.1), x11.2.1, x11.2.2))) else (bif (x3.1 == (2 : Int)) then (Out.on (E0 (Al code) 7 (x1.1, x3.2.1, x3.2.2)) (fun y0 => (y0.1, y0.2.1, y0.2.2))) else (bif (x3.1 == (3 : Int)) then ([], x3.2.1, x3.2.2) else (x1.1, x3.2.1, x3.2.2)))))))))))
theorem WY (code : List UInt8) (d : List Y5) (ci : Nat) (ch : Int) : (whl (Al code) 7 (d, ci, ch)).isSome = true :=
  AN (fun _ => True) (fun s => (s.1.length : Int)) 6 (fun s s' _ h => by
    unfold Al lt at h
    have hb := Qy code s.2.1 s.2.2 2
    generalize Qk code s.2.1 s.2.2 2 = x at h hb
    by_cases hc : (s.1.length : Int) < 5 + x.1
    · simp only [decide_eq_true hc, cond_true] at h
      have h := Rd.next.inj h
      rw [← h]
      refine ⟨by omega, by simp, trivial⟩
    · simp only [decide_eq_false hc, cond_false] at h
      cases h) 6 _ trivial (by show (6 : Int) ≤ (d.length : Int) + 6; omega)
theorem WZ (code : (List UInt8)) (ci : Nat) (ch : Int) : AGive Tryz.prog 56 [.h code, .i ((ci : Nat) : Int), .i ch] [] (.o 0 (((Hn code ci ch)).1)) [.h code, .i ((((Hn code ci ch)).2.1 : Nat) : Int), .i (((Hn code ci ch)).2.2)] := by
 refine Kf (tt := tt) Qb Tryz.func56 (fn := Tryz.f56) rfl (by unfold C9; kernel_rfl) (Nat.le_of_ble_eq_true rfl) (Nat.le_of_ble_eq_true rfl) rfl rfl fun w0 F0 hG => ?_
 refine sn Qb [0, 2] [60000] (p0) ?_
 obtain ⟨x1, hx1⟩ : ∃ z : (List Y5) × Nat × Int, K1 code ci ch = z := ⟨_, rfl⟩
 have hlx1 := TO code ci ch
 rw [hx1] at hlx1
 refine tn Qb [0, 2, 3] [60000] (po 1 (.give none (.o 0 x1.1) [.h code, .i ((x1.2.1 : Nat) : Int), .i x1.2.2]) (px (Q2 (hx1 ▸ Pb code ci ch)) p0)) ?_
 obtain ⟨x2, hx2⟩ : ∃ z : Int × Nat × Int, Qk code x1.2.1 x1.2.2 (x1.1.length : Int) = z := ⟨_, rfl⟩
 have hbx2 := hx2 ▸ Qy code x1.2.1 x1.2.2 (x1.1.length : Int)
 refine tu Qb [(2, .e 0), (3, .o 384 x1.1), (4, .i x2.1)] [] [(60000, [.h code, .i ((x2.2.1 : Nat) : Int), .i x2.2.2])] [60000] (pl 2 x1.1 (po 3 (.give none (.i x2.1) [.h code, .i ((x2.2.1 : Nat) : Int), .i x2.2.2]) (px (Q2 (hx2 ▸ Q7 code x1.2.1 x1.2.2 (x1.1.length : Int))) p0))) ?_
 refine Qe ?_
 obtain ⟨x3, hx3⟩ : ∃ z : Int × Nat × Int, Qk code x2.2.1 x2.2.2 10 = z := ⟨_, rfl⟩
 have hbx3 := hx3 ▸ Qy code x2.2.1 x2.2.2 10
 refine sn Qb [0, 2, 3, 4, 12] [60000] (po 1 (.give none (.i x3.1) [.h code, .i ((x3.2.1 : Nat) : Int), .i x3.2.2]) (px (Q2 (hx3 ▸ Q7 code x2.2.1 x2.2.2 10)) p0)) ?_
 refine Qt ?_
 refine tn Qb [0, 2, 3, 4, 12, 13] [60000] (p0) ?_
 refine ck (x3.1 == (0 : Int)) (fun h4 => ?_) (fun h4 => ?_)
 ·
  have h4d := eq_of_beq h4
  obtain ⟨x5, hx5⟩ : ∃ z : ByteArray × Nat × Int, Yd code x3.2.1 x3.2.2 [⟨#[]⟩, ⟨#[65]⟩, ⟨#[122, 122]⟩, ⟨#[97, 98, 99, 100, 101, 102, 103]⟩] = z := ⟨_, rfl⟩
  refine wT 3 0 (.own true 384) x1.1 (fun hw7 hl8 => ?_)
  have hx6 := ng x1.1 (Int.toNat x2.1)
  refine qu Qb [(3, .one (.slc (.own true 384) 2 (setRow (eL x1.1) (Int.toNat x2.1) 0 [.s x5.1])))] [3, 4] [(60000, [.h code, .i ((x5.2.1 : Nat) : Int), .i x5.2.2])] [60000] (po 4 (.give none (.s x5.1) [.h code, .i ((x5.2.1 : Nat) : Int), .i x5.2.2]) (px (Q2 (hx5 ▸ Kh code x3.2.1 x3.2.2 [⟨#[]⟩, ⟨#[65]⟩, ⟨#[122, 122]⟩, ⟨#[97, 98, 99, 100, 101, 102, 103]⟩] (Nat.zero_lt_succ _))) (pG 5 x2.1 hx6 p0))) ?_
  refine eqn [(3, .o 384 (List.set x1.1 (Int.toNat x2.1) (x5.1, (nth x1.1 (Int.toNat x2.1)).2)))] [3] [] [] (by rw [Z0 (y := (x5.1, (nth x1.1 (Int.toNat x2.1)).2)) hx6 rfl]; first | done | kernel_rfl) ?_
  refine sn Qb [0, 2] [60000] (p0) ?_
  refine Qf ?_
  have hE9 : Hn code ci ch = (List.set x1.1 (Int.toNat x2.1) (x5.1, (nth x1.1 (Int.toNat x2.1)).2), x5.2.1, x5.2.2) := Ys hx1 (Ys hx2 (Ys hx3 (Q8 h4 (Ys hx5 (rfl)))))
  exact He [] (congrArg (fun z => (.o 0 z.1 : AV)) hE9.symm) (congrArg (fun z => ([.h code, .i ((z.2.1 : Nat) : Int), .i z.2.2] : List C)) hE9.symm)
 ·
  have h4d := Yb h4
  refine tu Qb [(12, .i x3.1), (22, .b (x3.1 == (1 : Int)))] [] [(60000, [.h code, .i ((x3.2.1 : Nat) : Int), .i x3.2.2])] [60000] (p0) ?_
  refine ck (x3.1 == (1 : Int)) (fun h10 => ?_) (fun h10 => ?_)
  ·
   have h10d := eq_of_beq h10
   obtain ⟨x11, hx11⟩ : ∃ z : (List X9) × Nat × Int, Uf code x3.2.1 x3.2.2 = z := ⟨_, rfl⟩
   refine wT 3 0 (.own true 384) x1.1 (fun hw13 hl14 => ?_)
   have hx12 := ng x1.1 (Int.toNat x2.1)
   refine ru Qb [(3, .one (.slc (.own true 384) 2 (setRow (eL x1.1) (Int.toNat x2.1) 1 [.h x11.1])))] [3, 4, 12, 22] [(60000, [.h code, .i ((x11.2.1 : Nat) : Int), .i x11.2.2])] [60000] (po 3 (.give none (.o 0 x11.1) [.h code, .i ((x11.2.1 : Nat) : Int), .i x11.2.2]) (px (Q2 (hx11 ▸ WX code x3.2.1 x3.2.2)) (pG 4 x2.1 hx12 p0))) ?_
   refine eqn [(3, .o 384 (List.set x1.1 (Int.toNat x2.1) ((nth x1.1 (Int.toNat x2.1)).1, x11.1)))] [3] [] [] (by rw [Z0 (y := ((nth x1.1 (Int.toNat x2.1)).1, x11.1)) hx12 rfl]; first | done | kernel_rfl) ?_
   refine sn Qb [0, 2] [60000] (p0) ?_
   refine Qf ?_
   have hE15 : Hn code ci ch = (List.set x1.1 (Int.toNat x2.1) ((nth x1.1 (Int.toNat x2.1)).1, x11.1), x11.2.1, x11.2.2) := Ys hx1 (Ys hx2 (Ys hx3 (Qn h4 (Q8 h10 (Ys hx11 (rfl))))))
   exact He [] (congrArg (fun z => (.o 0 z.1 : AV)) hE15.symm) (congrArg (fun z => ([.h code, .i ((z.2.1 : Nat) : Int), .i z.2.2] : List C)) hE15.symm)
  ·
   have h10d := Yb h10
   refine sn Qb [0, 2, 3, 12, 30] [60000] (p0) ?_
   refine ck (x3.1 == (2 : Int)) (fun h16 => ?_) (fun h16 => ?_)
   ·
    have h16d := eq_of_beq h16
    refine mz [(30, .b (x3.1 == (2 : Int)))] [4, 22] [] [] ?_
    refine blw (fun (s0 : (List Y5) × Nat × Int) => [(3, .o 147202 s0.1)]) [3, 12, 30] (fun s0 => [(60000, [.h code, .i ((s0.2.1 : Nat) : Int), .i s0.2.2])]) [60000] (fun (y0 : (List Y5) × Nat × Int) => [(3, .o 147352 y0.1)]) [3, 12, 30] (fun y0 => [(60000, [.h code, .i ((y0.2.1 : Nat) : Int), .i y0.2.2])]) [60000] (fun (k0 : Nat) (s0 : (List Y5) × Nat × Int) => whl (Al code) k0 s0 = some (E0 (Al code) 7 (x1.1, x3.2.1, x3.2.2))) (fun (y0 : (List Y5) × Nat × Int) => (E0 (Al code) 7 (x1.1, x3.2.1, x3.2.2)) = .brk y0) 7 (x1.1, x3.2.1, x3.2.2) (Xy [(384, 147202)] (by kernel_rfl)) (Ca (WY code _ _ _)) (fun _ h => Dn h) (fun k0 s0 hI0 => ?_) (fun y0 hD0 => ?_)
    ·
     refine Qe ?_
     obtain ⟨x17, hx17⟩ : ∃ z : Int × Nat × Int, Qk code s0.2.1 s0.2.2 2 = z := ⟨_, rfl⟩
     have hbx17 := hx17 ▸ Qy code s0.2.1 s0.2.2 2
     refine sn Qb [0, 2, 3, 37] [60000] (pl 1 s0.1 (po 3 (.give none (.i x17.1) [.h code, .i ((x17.2.1 : Nat) : Int), .i x17.2.2]) (px (Q2 (hx17 ▸ Q7 code s0.2.1 s0.2.2 2)) (pe 4 (Jb (IntWalk.i64_in (5 + x17.1) (by omega))) p0)))) ?_
     refine ck (decide ((s0.1.length : Int) < (5 + x17.1))) (fun h18 => ?_) (fun h18 => ?_)
     ·
      have h18d := of_decide_eq_true h18
      refine Qj ?_
      refine Qt ?_
      have hx19 := ng ([⟨#[100, 97]⟩, ⟨#[100, 98]⟩, ⟨#[100, 99]⟩, ⟨#[100, 100]⟩, ⟨#[100, 101]⟩, ⟨#[100, 102]⟩] : (List ByteArray)) (Int.toNat (s0.1.length : Int)) (by simp only [List.length_cons, List.length_nil]; omega)
      obtain ⟨x20, hx20⟩ : ∃ z : (List X9) × Nat × Int, Jj code x17.2.1 x17.2.2 = z := ⟨_, rfl⟩
      have hbx20 := hx20 ▸ JV code x17.2.1 x17.2.2
      refine wT 3 0 (.own true 147202) s0.1 (fun hw21 hl22 => ?_)
      refine qU Qb Yn [(3, .one (.slc (.own true 3072) 2 ((eL s0.1) ++ [[.s (nth ([⟨#[100, 97]⟩, ⟨#[100, 98]⟩, ⟨#[100, 99]⟩, ⟨#[100, 100]⟩, ⟨#[100, 101]⟩, ⟨#[100, 102]⟩] : (List ByteArray)) (Int.toNat (s0.1.length : Int))), .h x20.1]])))] [3] [(60000, [.h code, .i ((x20.2.1 : Nat) : Int), .i x20.2.2])] [60000] (pl 3 s0.1 (pG 4 (s0.1.length : Int) hx19 (po 7 (.give none (.o 0 x20.1) [.h code, .i ((x20.2.1 : Nat) : Int), .i x20.2.2]) (px (Q2 (hx20 ▸ Di code x17.2.1 x17.2.2)) (pa s0.1 [((nth ([⟨#[100, 97]⟩, ⟨#[100, 98]⟩, ⟨#[100, 99]⟩, ⟨#[100, 100]⟩, ⟨#[100, 101]⟩, ⟨#[100, 102]⟩] : (List ByteArray)) (Int.toNat (s0.1.length : Int))), x20.1)] p0))))) ?_
      exact Exists.intro (s0.1 ++ [((nth ([⟨#[100, 97]⟩, ⟨#[100, 98]⟩, ⟨#[100, 99]⟩, ⟨#[100, 100]⟩, ⟨#[100, 101]⟩, ⟨#[100, 102]⟩] : (List ByteArray)) (Int.toNat (s0.1.length : Int))), x20.1)], x20.2.1, x20.2.2) (And.intro (Xy [(3072, 147202)] (by rw [show ((eL s0.1) ++ [[.s (nth ([⟨#[100, 97]⟩, ⟨#[100, 98]⟩, ⟨#[100, 99]⟩, ⟨#[100, 100]⟩, ⟨#[100, 101]⟩, ⟨#[100, 102]⟩] : (List ByteArray)) (Int.toNat (s0.1.length : Int))), .h x20.1]]) = (eL (s0.1 ++ [((nth ([⟨#[100, 97]⟩, ⟨#[100, 98]⟩, ⟨#[100, 99]⟩, ⟨#[100, 100]⟩, ⟨#[100, 101]⟩, ⟨#[100, 102]⟩] : (List ByteArray)) (Int.toNat (s0.1.length : Int))), x20.1)])) from Ky (rfl) (rfl)]; first | done | kernel_rfl)) (wn hI0 (Ys hx17 (Q8 h18 (Ys hx20 (rfl))))))
     ·
      refine Q3 ?_
      exact Exists.intro (s0.1, x17.2.1, x17.2.2) (And.intro (Xy [(147202, 147352)] (by kernel_rfl)) (wb hI0 (Ys hx17 (Qn h18 (rfl)))))
    ·
     refine sn Qb [0, 2] [60000] (p0) ?_
     refine Qf ?_
     have hE23 : Hn code ci ch = (y0.1, y0.2.1, y0.2.2) := Ys hx1 (Ys hx2 (Ys hx3 (Qn h4 (Qn h10 (Q8 h16 (Wf hD0 (rfl)))))))
     exact He [] (congrArg (fun z => (.o 0 z.1 : AV)) hE23.symm) (congrArg (fun z => ([.h code, .i ((z.2.1 : Nat) : Int), .i z.2.2] : List C)) hE23.symm)
   ·
    refine tn Qb [0, 2, 3, 49] [60000] (p0) ?_
    refine ck (x3.1 == (3 : Int)) (fun h24 => ?_) (fun h24 => ?_)
    ·
     refine qu Qb [(3, .e 0)] [3, 4, 12, 22] [] [] (p0) ?_
     refine su Qb [] [3] [] [] (p0) ?_
     refine opn [(false, 2, 0, true, 384000, 2)] ?_
     refine Qf ?_
     have hE25 : Hn code ci ch = ([], x3.2.1, x3.2.2) := Ys hx1 (Ys hx2 (Ys hx3 (Qn h4 (Qn h10 (Qn h16 (Q8 h24 (rfl)))))))
     exact He [] (congrArg (fun z => (.o 0 z.1 : AV)) hE25.symm) (congrArg (fun z => ([.h code, .i ((z.2.1 : Nat) : Int), .i z.2.2] : List C)) hE25.symm)
    ·
     refine Qj ?_
     refine tu Qb [(2, .o 384 x1.1)] [2, 3, 4, 12, 22] [] [] (p0) ?_
     refine Qf ?_
     have hE26 : Hn code ci ch = (x1.1, x3.2.1, x3.2.2) := Ys hx1 (Ys hx2 (Ys hx3 (Qn h4 (Qn h10 (Qn h16 (Qn h24 (rfl)))))))
     exact He [] (congrArg (fun z => (.o 0 z.1 : AV)) hE26.symm) (congrArg (fun z => ([.h code, .i ((z.2.1 : Nat) : Int), .i z.2.2] : List C)) hE26.symm)
def Wb (code : (List UInt8)) (ci : Nat) (ch : Int) : Q5 × (List Y5) × Nat × Int := (lt (α := Q5 × Nat × Int) (Zr code ci ch) (fun x1 => (lt (α := Bool × Nat × Int) (Y2 code x1.2.1 x1.2.2 12) (fun x2 => (lt (α := Q5 × Nat × Int) (bif x2.1 then (lt (α := Q5 × Nat × Int) (Vo code x2.2.1 x2.2.2) (fun x3 => (x3.1, x3.2.1, x3.2.2))) else (x1.1, x2.2.1, x2.2.2)) (fun x3 => (lt (α := Bool × Nat × Int) (Y2 code x3.2.1 x3.2.2 5) (fun x6 => (bif x6.1 then (lt (α := (List Y5) × Nat × Int) (Hn code x6.2.1 x6.2.2) (fun x8 => (x3.1, x8.1, x8.2.1, x8.2.2))) else (lt (α := (List Y5) × Nat × Int) (J9 code x6.2.1 x6.2.2) (fun x10 => (x3.1, x10.1, x10.2.1, x10.2.2))))))))))))
theorem Ph (code : (List UInt8)) (ci : Nat) (ch : Int) : AGive Tryz.prog 27 [.h code, .i ((ci : Nat) : Int), .i ch] [] (.tup [(true, [.h ((((Wb code ci ch)).1).1), .q 0 ((((Wb code ci ch)).1).2.1), .i ((((Wb code ci ch)).1).2.2)]), (false, [.h (((Wb code ci ch)).2.1)])]) [.h code, .i ((((Wb code ci ch)).2.2.1 : Nat) : Int), .i (((Wb code ci ch)).2.2.2)] := by
 refine Kf (tt := tt) Qb Tryz.func27 (fn := Tryz.f27) rfl (by unfold C9; kernel_rfl) (Nat.le_of_ble_eq_true rfl) (Nat.le_of_ble_eq_true rfl) rfl rfl fun w0 F0 hG => ?_
 refine sn Qb [0, 2, 3] [2, 60000] (p0) ?_
 obtain ⟨x1, hx1⟩ : ∃ z : Q5 × Nat × Int, Zr code ci ch = z := ⟨_, rfl⟩
 refine tn Qb [0, 2, 3, 4] [2, 4, 60000] (po 1 (.give none (.a [.o 0 x1.1.1, .q 1 x1.1.2.1, .i x1.1.2.2]) [.h code, .i ((x1.2.1 : Nat) : Int), .i x1.2.2]) (px (Q2 (hx1 ▸ Dv code ci ch)) p0)) ?_
 refine Qe ?_
 obtain ⟨x2, hx2⟩ : ∃ z : Bool × Nat × Int, Y2 code x1.2.1 x1.2.2 12 = z := ⟨_, rfl⟩
 refine tu Qb [(2, .p 2 0), (3, .e 0), (4, .p 4 0), (8, .b x2.1)] [] [(2, [.e 2, .e 5, .i 0]), (4, [.o 384 x1.1.1, .q 385 x1.1.2.1, .i x1.1.2.2]), (60000, [.h code, .i ((x2.2.1 : Nat) : Int), .i x2.2.2])] [60000] (po 1 (.give none (.b x2.1) [.h code, .i ((x2.2.1 : Nat) : Int), .i x2.2.2]) (px (Q2 (hx2 ▸ Vc code x1.2.1 x1.2.2 12)) p0)) ?_
 obtain ⟨x3, hx3⟩ : ∃ z : Q5 × Nat × Int, (bif x2.1 then (lt (α := Q5 × Nat × Int) (Vo code x2.2.1 x2.2.2) (fun x3 => (x3.1, x3.2.1, x3.2.2))) else (x1.1, x2.2.1, x2.2.2)) = z := ⟨_, rfl⟩
 refine jn [] [8] [(4, [.h x3.1.1, .q 448512 x3.1.2.1, .i x3.1.2.2]), (60000, [.h code, .i ((x3.2.1 : Nat) : Int), .i x3.2.2])] [4, 60000] x2.1 (fun h4 => ?_) (fun h4 => ?_) ?_
 ·
  refine ckt h4 ?_
  obtain ⟨x5, hx5⟩ : ∃ z : Q5 × Nat × Int, Vo code x2.2.1 x2.2.2 = z := ⟨_, rfl⟩
  refine rn Qb [0, 2, 3, 4] [2, 4, 60000] (po 1 (.give none (.a [.h x5.1.1, .q 0 x5.1.2.1, .i x5.1.2.2]) [.h code, .i ((x5.2.1 : Nat) : Int), .i x5.2.2]) (px (Q2 (hx5 ▸ WW code x2.2.1 x2.2.2)) p0)) ?_
  obtain rfl : x3 = (x5.1, x5.2.1, x5.2.2) := hx3.symm.trans (show (bif x2.1 then (lt (α := Q5 × Nat × Int) (Vo code x2.2.1 x2.2.2) (fun x3 => (x3.1, x3.2.1, x3.2.2))) else (x1.1, x2.2.1, x2.2.2)) = (x5.1, x5.2.1, x5.2.2) from Q8 h4 (Ys hx5 (rfl)))
  exact ⟨rfl, Xy [(640, 448512)] (by kernel_rfl)⟩
 ·
  refine ckf h4 ?_
  refine Qj ?_
  obtain rfl : x3 = (x1.1, x2.2.1, x2.2.2) := hx3.symm.trans (show (bif x2.1 then (lt (α := Q5 × Nat × Int) (Vo code x2.2.1 x2.2.2) (fun x3 => (x3.1, x3.2.1, x3.2.2))) else (x1.1, x2.2.1, x2.2.2)) = (x1.1, x2.2.1, x2.2.2) from Qn h4 (rfl))
  exact ⟨rfl, F5 [] [384] [] [(385, 448512)] (by kernel_rfl)⟩
 refine Qe ?_
 obtain ⟨x6, hx6⟩ : ∃ z : Bool × Nat × Int, Y2 code x3.2.1 x3.2.2 5 = z := ⟨_, rfl⟩
 refine sn Qb [0, 2, 3, 4, 12] [2, 4, 60000] (po 1 (.give none (.b x6.1) [.h code, .i ((x6.2.1 : Nat) : Int), .i x6.2.2]) (px (Q2 (hx6 ▸ Vc code x3.2.1 x3.2.2 5)) p0)) ?_
 refine ck x6.1 (fun h7 => ?_) (fun h7 => ?_)
 ·
  obtain ⟨x8, hx8⟩ : ∃ z : (List Y5) × Nat × Int, Hn code x6.2.1 x6.2.2 = z := ⟨_, rfl⟩
  refine tN Qb Yn [0, 2, 3, 4] [2, 4, 60000] (po 2 (.give none (.o 0 x8.1) [.h code, .i ((x8.2.1 : Nat) : Int), .i x8.2.2]) (px (Q2 (hx8 ▸ WZ code x6.2.1 x6.2.2)) p0)) ?_
  refine Qf ?_
  have hE9 : Wb code ci ch = (x3.1, x8.1, x8.2.1, x8.2.2) := Ys hx1 (Ys hx2 (Ys hx3 (Ys hx6 (Q8 h7 (Ys hx8 (rfl))))))
  exact He [960] (congrArg (fun z => (.tup [(true, [.h z.1.1, .q 0 z.1.2.1, .i z.1.2.2]), (false, [.h z.2.1])] : AV)) hE9.symm) (congrArg (fun z => ([.h code, .i ((z.2.2.1 : Nat) : Int), .i z.2.2.2] : List C)) hE9.symm)
 ·
  refine Qj ?_
  obtain ⟨x10, hx10⟩ : ∃ z : (List Y5) × Nat × Int, J9 code x6.2.1 x6.2.2 = z := ⟨_, rfl⟩
  have hbx10 := hx10 ▸ PY code x6.2.1 x6.2.2
  refine tN Qb Yn [0, 2, 3] [2, 60000] (po 2 (.give none (.h x10.1) [.h code, .i ((x10.2.1 : Nat) : Int), .i x10.2.2]) (px (Q2 (hx10 ▸ Pe code x6.2.1 x6.2.2)) p0)) ?_
  refine Qf ?_
  have hE11 : Wb code ci ch = (x3.1, x10.1, x10.2.1, x10.2.2) := Ys hx1 (Ys hx2 (Ys hx3 (Ys hx6 (Qn h7 (Ys hx10 (rfl))))))
  exact He [] (congrArg (fun z => (.tup [(true, [.h z.1.1, .q 0 z.1.2.1, .i z.1.2.2]), (false, [.h z.2.1])] : AV)) hE11.symm) (congrArg (fun z => ([.h code, .i ((z.2.2.1 : Nat) : Int), .i z.2.2.2] : List C)) hE11.symm)
open GoE (enc wide)
def Cv (n : Int) (k0 : Nat) (a0 : Int) (_ : Unit) : Rd ((List Int)) (Unit) (Int) := (bif decide (a0 < n) then (.next ()) else (.brk ((k0 : Nat) : Int)))
def Cw (k0 : Nat) (_ : Unit) : Int := ((k0 : Nat) : Int)
def Ws (list : (List Int)) (n : Int) : (List Int) := (Out.on (Xm (Cv n) Cw list 0 ()) (fun y0 => (bif (decide (y0 < (list.length : Int)) && ((nth list (Int.toNat y0)) == n)) then list else List.take (Int.toNat y0) list ++ [n] ++ (List.drop (Int.toNat y0) list))))
theorem M5 (list : (List Int)) (n : Int) (hp : list.length < 1073741824) : ACalls Tryz.prog 65 [.h list, .i n] (.h (Ws list n)) := by
 refine en Qb Tryz.func65 fun w0 F0 hG => ?_
 refine sn Qb [0, 1, 4] [] (p0) ?_
 refine tn Qb [0, 1, 4, 5] [] (p0) ?_
 refine Qe ?_
 refine mz [(4, .e 0), (5, .i 0)] [] [] [] ?_
 refine wT 0 0 .sh list (fun hw1 hl2 => ?_)
 refine Qbp (Cv n) Cw list () (fun k0 _ => [(5, .i ((k0 : Nat) : Int))]) [5] (fun y0 => [(5, .i y0)]) [5] (fun y0 => 0 ≤ y0 ∧ y0 ≤ (list.length : Int)) (Qd (by kernel_rfl)) (fun k0 s0 hk0 hI0 => ?_) (fun k0 s0 hk0 hI0 => ?_) (fun y0 hD0 => ?_)
 ·
  obtain ⟨a0, hx0⟩ := Xk (l := list) (i := k0) hk0
  refine Qe ?_
  refine sn Qb [0, 1, 4, 5, 18] [] (pl 2 list (pe 3 (Qs (decide_eq_true (p := ((k0 : Nat) : Int) < (list.length : Int)) (by omega))) (pn 7 hx0 p0))) ?_
  refine ck (decide (a0 < n)) (fun h3 => ?_) (fun h3 => ?_)
  ·
   have h3d := of_decide_eq_true h3
   refine Qj ?_
   refine Qt ?_
   refine qn Qb [0, 1, 4, 5] [] (pe 1 (Jb (Qv k0 (by omega))) p0) ?_
   exact Exists.intro _ (And.intro (Qd (by kernel_rfl)) (Qz hx0 (Q8 h3 (rfl)) hI0))
  ·
   have h3d := of_decide_eq_false h3
   refine Q3 ?_
   exact Exists.intro ((k0 : Nat) : Int) (And.intro (Qd (by kernel_rfl)) ⟨R9 hx0 (Qn h3 (rfl)) hI0, by first | omega | (simp only [List.length_set]; omega)⟩)
 ·
  refine Qe ?_
  refine sn Qb [0, 1, 4, 5, 18] [] (pl 2 list (pe 3 (Qs (decide_eq_false (p := ((k0 : Nat) : Int) < (list.length : Int)) (by omega))) p0)) ?_
  refine ckF ?_
  refine Q3 ?_
  exact Exists.intro ((k0 : Nat) : Int) (And.intro (Qd (by kernel_rfl)) ⟨Xl hk0 (rfl) hI0, by first | omega | (simp only [List.length_set]; omega)⟩)
 ·
  have hD0_0 := hD0.2
  refine Qe ?_
  refine Qe ?_
  refine jn [(32, .b (decide (y0 < (list.length : Int)) && ((nth list (Int.toNat y0)) == n)))] [] [] [] (decide (y0 < (list.length : Int))) (fun h4 => ?_) (fun h4 => ?_) ?_
  ·
   have h4d := of_decide_eq_true h4
   have hx5 := ng list (Int.toNat y0)
   refine rn Qb [0, 1, 4, 5, 32] [] (pl 2 list (pt 3 h4 (pg 7 y0 hx5 p0))) ?_
   exact ⟨rfl, Qd (by rw [h4]; first | done | kernel_rfl)⟩
  ·
   refine rn Qb [0, 1, 4, 5, 32] [] (pl 2 list (pf 3 h4 p0)) ?_
   exact ⟨rfl, Qd (by rw [h4]; first | done | kernel_rfl)⟩
  refine ck (decide (y0 < (list.length : Int)) && ((nth list (Int.toNat y0)) == n)) (fun h6 => ?_) (fun h6 => ?_)
  ·
   refine sn Qb [0, 1, 4, 5] [] (p0) ?_
   refine Qf ?_
   exact ph0 [] (Wf hD0.1 (Q8 h6 (rfl)))
  ·
   refine Qj ?_
   have hl7 : List.length (List.take (Int.toNat y0) list) ≤ 1073741824 := Af (Oi (Int.toNat y0) (hw1))
   refine su Qb [(6, .one (.slc (.own true 2624) 1 (([] ++ (eL (List.take (Int.toNat y0) list))) ++ [[.i n]])))] [1, 32] [] [] (pe 3 (Lk .sh 1 (Int.toNat y0) y0 list rfl) (px (Ek (lo := 0) (hi := y0) (n := (List.length (eL list))) (Tj (by omega) (by omega) (by omega))) (po 4 (.flat) (px (Hy (n := (([] : List (List PV)).length + ((eL (List.take (Int.toNat y0) list)) : List (List PV)).length)) (B9 (rfl) (Ym (List.take (Int.toNat y0) list)) (by first | omega | (simp only [List.length_cons, List.length_nil]; omega) | (simp; omega) | simp))) (px (Ub (Wm (List.take (Int.toNat y0) list))) (px (Hy (n := ((([] ++ (eL (List.take (Int.toNat y0) list))) : List (List PV)).length + ([[.i n]] : List (List PV)).length)) (by simp [Ym]; omega)) p0)))))) ?_
   refine eqn [(6, .o 2624 (List.take (Int.toNat y0) list ++ [n]))] [6] [] [] (by rw [show (([] ++ (eL (List.take (Int.toNat y0) list))) ++ [[.i n]]) = (eL (List.take (Int.toNat y0) list ++ [n])) from Ky (rfl) (rfl)]; first | done | kernel_rfl) ?_
   refine wT 6 0 (.own true 2624) (List.take (Int.toNat y0) list ++ [n]) (fun hw8 hl9 => ?_)
   have hl10 : List.length (List.drop (Int.toNat y0) list) ≤ 1073741824 := Af (Oj (Int.toNat y0) (hw1))
   refine su Qb [(4, .one (.slc (.own true 2944) 1 ((eL (List.take (Int.toNat y0) list ++ [n])) ++ (eL (List.drop (Int.toNat y0) list)))))] [0, 4, 5, 6] [] [] (pe 3 (ZU .sh 1 (Int.toNat y0) y0 list rfl) (px (Ek (lo := y0) (hi := (((eL list) : List (List PV)).length : Int)) (n := (List.length (eL list))) (ZV (by omega) (by omega))) (po 4 (.flat) (pa (List.take (Int.toNat y0) list ++ [n]) (List.drop (Int.toNat y0) list) (px (Ub (Wm (List.drop (Int.toNat y0) list))) p0))))) ?_
   refine eqn [(4, .o 2944 (List.take (Int.toNat y0) list ++ [n] ++ (List.drop (Int.toNat y0) list)))] [4] [] [] (by rw [show ((eL (List.take (Int.toNat y0) list ++ [n])) ++ (eL (List.drop (Int.toNat y0) list))) = (eL (List.take (Int.toNat y0) list ++ [n] ++ (List.drop (Int.toNat y0) list))) from Ky (rfl) (rfl)]; first | done | kernel_rfl) ?_
   refine Qf ?_
   exact ph0 [2944] (Wf hD0.1 (Qn h6 (rfl)))
def Ki (id : Int) (q0 : (List Int)) : Bool := (J0 q0 id)
theorem Lz (id : Int) (q0 : (List Int)) : ACalls Tryz.prog 68 [.i id, .one (.rptr .sh [.h q0])] (.b (Ki id q0)) := by
 refine en Qb Tryz.func68 fun w0 F0 hG => ?_
 refine sn Qb [0, 1, 3] [] (p0) ?_
 refine tn Qb [3] [] (pc 2 (El q0 id) p0) ?_
 refine Qf ?_
 exact pb [] (show Ki id q0 = (J0 q0 id) from rfl)
def Kp (c0 : (List Int)) (k0 : Nat) (a0 : Int) (_ : Unit) : Rd (Int) (Unit) (Unit) := (bif (Ki a0 c0) then (.ret ((k0 : Nat) : Int)) else (.next ()))
def Kq (_ : Nat) (_ : Unit) : Unit := ()
def Qr (s_ : (List Int)) (c0 : (List Int)) : Int := (Out.on (Xm (Kp c0) Kq s_ 0 ()) (fun _ => -1))
theorem Kr (s_ : (List Int)) (c0 : (List Int)) : Qr s_ c0 = ixF (fun a => Ki a c0) s_ := PT (fun _ _ _ => rfl) s_
theorem Ax (s_ : (List Int)) (c0 : (List Int)) : -1 ≤ Qr s_ c0 ∧ Qr s_ c0 < (List.length s_ : Int) := by rw [Kr]; exact T8 _ _
theorem Bv (s_ : (List Int)) (c0 : (List Int)) : ACalls Tryz.prog 90 [.h s_, .one (.fnr 68 [[.h c0]])] (.i (Qr s_ c0)) := by
 refine en Qb Tryz.func90 fun w0 F0 hG => ?_
 refine sn Qb [0, 1, 4] [] (p0) ?_
 refine Qe ?_
 refine tn Qb [0, 1, 4, 7, 8] [] (pl 1 s_ p0) ?_
 refine mz [(4, .i 0), (7, .i (s_.length : Int)), (8, .i 0)] [] [] [] ?_
 refine wT 0 0 .sh s_ (fun hw1 hl2 => ?_)
 refine Mq (Kp c0) Kq s_ () (fun k0 _ => [(8, .i ((k0 : Nat) : Int))]) [8] (fun _ => []) [0, 1, 7, 8] (Qd (by kernel_rfl)) (fun k0 s0 hk0 hI0 => ?_) (fun k0 s0 hk0 hI0 => ?_) (fun y0 hD0 => ?_)
 ·
  obtain ⟨a0, hx0⟩ := Xk (l := s_) (i := k0) hk0
  refine sn Qb [0, 1, 4, 7, 8, 9] [] (pe 0 (Qs (decide_eq_true (p := ((k0 : Nat) : Int) < (s_.length : Int)) (by omega))) p0) ?_
  refine Qe ?_
  refine ckT ?_
  refine Qj ?_
  refine Qe ?_
  refine Qt ?_
  refine tn Qb [0, 1, 4, 5, 7, 8] [] (p0) ?_
  refine tu Qb [(5, .i ((k0 : Nat) : Int)), (16, .b (Ki a0 c0))] [] [] [] (pn 3 hx0 (pc 5 (Lz a0 c0) p0)) ?_
  refine ck (Ki a0 c0) (fun h3 => ?_) (fun h3 => ?_)
  ·
   refine sn Qb [0, 1, 4, 7, 8] [] (p0) ?_
   refine Qf ?_
   have hr4 : (Xm (Kp c0) Kq s_ 0 ()) = .ret ((k0 : Nat) : Int) := Z1 hx0 (Q8 h3 (rfl)) hI0
   exact pi [] (Gu hr4)
  ·
   refine Qj ?_
   refine rn Qb [0, 1, 4, 7, 8] [] (pe 0 (Jb (Qv k0 (by omega))) p0) ?_
   exact Exists.intro _ (And.intro (Qd (by kernel_rfl)) (Qz hx0 (Qn h3 (rfl)) hI0))
 ·
  refine sn Qb [0, 1, 4, 7, 8, 9] [] (pe 0 (Qs (decide_eq_false (p := ((k0 : Nat) : Int) < (s_.length : Int)) (by omega))) p0) ?_
  refine Qe ?_
  refine ckF ?_
  refine Q3 ?_
  exact Exists.intro _ (And.intro (Qd (by kernel_rfl)) (Xl hk0 (rfl) hI0))
 ·
  refine sn Qb [4] [] (p0) ?_
  refine Qf ?_
  exact pi [] (Wf hD0 (rfl))
def Yk (c0 : (List Int)) (s0 : (List Int) × Int × Int) : Rd ((List Int)) ((List Int) × Int × Int) ((List Int) × Int) := (bif decide (s0.2.2 < (s0.1.length : Int)) then (bif (!(Ki (nth s0.1 (Int.toNat s0.2.2)) c0)) then (.next (List.set s0.1 (Int.toNat s0.2.1) (nth s0.1 (Int.toNat s0.2.2)), (s0.2.1 + 1), (s0.2.2 + 1))) else (.next (s0.1, s0.2.1, (s0.2.2 + 1)))) else (.brk (s0.1, s0.2.1)))
def Xn (s_ : (List Int)) (c0 : (List Int)) : (List Int) := (bif ((Qr s_ c0) == (-1 : Int)) then s_ else (Out.on (E0 (Yk c0) (List.length s_ + 1) (s_, (Qr s_ c0), ((Qr s_ c0) + 1))) (fun y0 => List.take (Int.toNat y0.2) y0.1)))
theorem Wk (c0 : (List Int)) : T9 (Yk c0) (fun a => Ki a c0) := by
 intro s i j hij hj
 unfold Yk
 by_cases h : (j : Int) < (s.length : Int) <;> cases hp : Ki (nth s j) c0 <;> simp [h, hp]
theorem Ay (s_ : (List Int)) (c0 : (List Int)) (hp : List.length s_ ≤ 1073741824) (h : Qr s_ c0 ≠ -1) : (whl (Yk c0) (List.length s_ + 1) (s_, Qr s_ c0, Qr s_ c0 + 1)).isSome = true := OJ (Wk c0) hp (Kr s_ c0) h
theorem Wl (s_ : (List Int)) (c0 : (List Int)) (hp : List.length s_ ≤ 1073741824) : Xn s_ c0 = s_.filter (fun a => !(Ki a c0)) := by
 unfold Xn
 exact Qa2 (Wk c0) hp (Kr s_ c0)
theorem Av (s_ : (List Int)) (c0 : (List Int)) (hp : List.length s_ ≤ 1073741824) : List.length (Xn s_ c0) ≤ List.length s_ := by rw [Wl _ _ hp]; exact List.length_filter_le _ _
theorem Az (s_ : (List Int)) (c0 : (List Int)) : ATake Tryz.prog 67 1 (eL s_) [.one (.fnr 68 [[.h c0]])] true false (eL (Xn s_ c0)) := by
 refine OE (tt := tt) Qb Tryz.func67 (fn := Tryz.f67) rfl (by unfold C9; kernel_rfl) (Nat.le_of_ble_eq_true rfl) (by simp [AV.cells, C.key, C.bkeys]) (t := 4) rfl fun w0 F0 hG => ?_
 refine wT 0 0 (.own false 63) s_ (fun hw1 hl2 => ?_)
 have hix := Ax s_ c0
 refine sn Qb [0, 1, 4] [] (p0) ?_
 refine tn Qb [0, 1, 4, 5] [] (pc 2 (Bv s_ c0) p0) ?_
 refine Qe ?_
 refine tu Qb [(4, .e 0), (5, .i (Qr s_ c0)), (12, .b ((Qr s_ c0) == (-1 : Int)))] [] [] [] (p0) ?_
 refine ck ((Qr s_ c0) == (-1 : Int)) (fun h3 => ?_) (fun h3 => ?_)
 ·
  refine sn Qb [0, 1, 4, 5] [] (p0) ?_
  refine Qf ?_
  have hE4 : Xn s_ c0 = s_ := Q8 h3 (rfl)
  exact ⟨.inl rfl, 63, by rw [hE4]; kernel_rfl⟩
 ·
  have h3d := Yb h3
  refine Qj ?_
  refine Qe ?_
  refine sn Qb [0, 1, 4, 5, 6] [] (pe 1 (Jb (IntWalk.i64_in ((Qr s_ c0) + 1) (by omega))) p0) ?_
  refine mz [(6, .i ((Qr s_ c0) + 1))] [12] [] [] ?_
  refine blw (fun (s0 : (List Int) × Int × Int) => [(0, .q 63 s0.1), (5, .i s0.2.1), (6, .i s0.2.2)]) [0, 5, 6] (fun s0 => []) [] (fun (y0 : (List Int) × Int) => [(0, .q 63 y0.1), (5, .i y0.2)]) [0, 1, 5, 6] (fun y0 => []) [] (fun (k0 : Nat) (s0 : (List Int) × Int × Int) => whl (Yk c0) k0 s0 = some (E0 (Yk c0) (List.length s_ + 1) (s_, (Qr s_ c0), ((Qr s_ c0) + 1))) ∧ 0 ≤ s0.2.1 ∧ s0.2.1 < s0.2.2 ∧ s0.2.2 ≤ (List.length s0.1 : Int) ∧ List.length s0.1 = List.length s_) (fun (y0 : (List Int) × Int) => (E0 (Yk c0) (List.length s_ + 1) (s_, (Qr s_ c0), ((Qr s_ c0) + 1))) = .brk y0 ∧ 0 ≤ y0.2 ∧ y0.2 < (List.length y0.1 : Int) ∧ List.length y0.1 = List.length s_) (List.length s_ + 1) (s_, (Qr s_ c0), ((Qr s_ c0) + 1)) (Qd (by kernel_rfl)) ⟨Ca (Ay s_ c0 hl2 h3d), (by first | omega | (dsimp only; omega) | rfl), (by first | omega | (dsimp only; omega) | rfl), (by first | omega | (dsimp only; omega) | rfl), (by first | omega | (dsimp only; omega) | rfl)⟩ (fun _ h => Dn h.1) (fun k0 s0 hI0 => ?_) (fun y0 hD0 => ?_)
  ·
   have hA0_0 := hI0.2.1
   have hA0_1 := hI0.2.2.1
   have hA0_2 := hI0.2.2.2.1
   have hA0_3 := hI0.2.2.2.2
   refine Qe ?_
   refine sn Qb [0, 1, 4, 5, 6, 19] [] (pl 2 s0.1 p0) ?_
   refine ck (decide (s0.2.2 < (s0.1.length : Int))) (fun h5 => ?_) (fun h5 => ?_)
   ·
    have h5d := of_decide_eq_true h5
    refine Qj ?_
    refine Qe ?_
    refine Qt ?_
    refine wT 0 0 (.own false 63) s0.1 (fun hw7 hl8 => ?_)
    have hx6 := ng s0.1 (Int.toNat s0.2.2)
    refine tn Qb [0, 1, 4, 5, 6, 7] [] (pG 2 s0.2.2 hx6 p0) ?_
    refine tu Qb [(7, .i (nth s0.1 (Int.toNat s0.2.2))), (29, .b (!(Ki (nth s0.1 (Int.toNat s0.2.2)) c0)))] [] [] [] (pc 2 (Lz (nth s0.1 (Int.toNat s0.2.2)) c0) p0) ?_
    refine ck (!(Ki (nth s0.1 (Int.toNat s0.2.2)) c0)) (fun h9 => ?_) (fun h9 => ?_)
    ·
     have hx10 := ng s0.1 (Int.toNat s0.2.1)
     refine su Qb [(0, .one (.slc (.own false 63) 1 (setRow (eL s0.1) (Int.toNat s0.2.1) 0 [.i (nth s0.1 (Int.toNat s0.2.2))])))] [0, 7, 29] [] [] (pG 3 s0.2.1 hx10 p0) ?_
     refine eqn [(0, .q 63 (List.set s0.1 (Int.toNat s0.2.1) (nth s0.1 (Int.toNat s0.2.2))))] [0] [] [] (by rw [Z0 (y := (nth s0.1 (Int.toNat s0.2.2))) hx10 rfl]; first | done | kernel_rfl) ?_
     refine rn Qb [0, 1, 4, 5, 6] [] (pe 1 (Jb (IntWalk.i64_in (s0.2.1 + 1) (by omega))) p0) ?_
     refine qn Qb [0, 1, 4, 5, 6] [] (pe 1 (Jb (IntWalk.i64_in (s0.2.2 + 1) (by omega))) p0) ?_
     exact Exists.intro (List.set s0.1 (Int.toNat s0.2.1) (nth s0.1 (Int.toNat s0.2.2)), (s0.2.1 + 1), (s0.2.2 + 1)) (And.intro (Qd (by kernel_rfl)) ⟨wn hI0.1 (Q8 h5 (Q8 h9 (rfl))), (by first | omega | (dsimp only; omega) | (simp only [List.length_set]; omega)), (by first | omega | (dsimp only; omega) | (simp only [List.length_set]; omega)), (by first | omega | (dsimp only; omega) | (simp only [List.length_set]; omega)), (by first | omega | (dsimp only; omega) | (simp only [List.length_set]; omega))⟩)
    ·
     refine Qj ?_
     refine rn Qb [0, 1, 4, 5, 6] [] (pe 1 (Jb (IntWalk.i64_in (s0.2.2 + 1) (by omega))) p0) ?_
     exact Exists.intro (s0.1, s0.2.1, (s0.2.2 + 1)) (And.intro (Qd (by kernel_rfl)) ⟨wn hI0.1 (Q8 h5 (Qn h9 (rfl))), (by first | omega | (dsimp only; omega) | (simp only [List.length_set]; omega)), (by first | omega | (dsimp only; omega) | (simp only [List.length_set]; omega)), (by first | omega | (dsimp only; omega) | (simp only [List.length_set]; omega)), (by first | omega | (dsimp only; omega) | (simp only [List.length_set]; omega))⟩)
   ·
    have h5d := of_decide_eq_false h5
    refine Q3 ?_
    exact Exists.intro (s0.1, s0.2.1) (And.intro (Qd (by kernel_rfl)) ⟨wb hI0.1 (Qn h5 (rfl)), by first | omega | (simp only [List.length_set]; omega), by first | omega | (simp only [List.length_set]; omega), by first | omega | (simp only [List.length_set]; omega)⟩)
  ·
   have hD0_0 := hD0.2.1
   have hD0_1 := hD0.2.2.1
   have hD0_2 := hD0.2.2.2
   refine Qe ?_
   refine IZ Qb rfl (by kernel_rfl) rfl rfl rfl rfl rfl (by omega) (by rw [Ym]; omega) (fun lc11 hllc11 htlc11 => ?_)
   refine sn Qb [4] [] (po 2 (.cut (eL (List.take (Int.toNat y0.2) y0.1))) (px (Qbm (show .one (.slc (.own false 0) 1 ((lc11.take (Int.toNat y0.2)).drop (Int.toNat 0))) = .q 0 (List.take (Int.toNat y0.2) y0.1) from (congrArg (fun z => AV.one (.slc (.own false 0) 1 (z.drop (Int.toNat 0)))) htlc11).trans (Lk (.own false 0) 1 (Int.toNat y0.2) y0.2 y0.1 rfl))) (px (Ek (lo := 0) (hi := y0.2) (n := (List.length lc11)) (Qa1 (by omega) (by rw [hllc11, Ym]; omega))) p0))) ?_
   refine Qf ?_
   have hE12 : Xn s_ c0 = List.take (Int.toNat y0.2) y0.1 := Qn h3 (Wf hD0.1 (rfl))
   exact ⟨.inl rfl, 0, by rw [hE12]; kernel_rfl⟩
def Ir (a_ : (List Int)) (b : (List Int)) : (List Int) := Xn a_ b
theorem Wo (a_ : (List Int)) (b : (List Int)) : ACalls Tryz.prog 45 [.h a_, .h b] (.o 0 (Ir a_ b)) := by
 refine en Qb Tryz.func45 fun w0 F0 hG => ?_
 refine sn Qb [0, 3, 4] [3] (p0) ?_
 refine wT 0 0 .sh a_ (fun hw1 hl2 => ?_)
 have hq3 := Av a_ b hl2
 refine tn Qb [4] [] (pc 1 (E4 a_) (po 3 (.take false false (eL (Xn a_ b))) (px (Tb (EH (Az a_ b) (Wm _))) (px (Ub (Wm a_)) (px (Ub (Wm (Xn a_ b))) p0))))) ?_
 refine Qf ?_
 exact po0 [] (show Ir a_ b = Xn a_ b from rfl)
end Go.Proofs.YtockoklfegpgeaaGreat
namespace Go.Proofs.YtockoklfegpgeaaGreat
open Go.RowKit
theorem JZ : ∀ (a b : List Int), a.Pairwise (· < ·) → b.Pairwise (· < ·) → (∀ x, x ∈ a ↔ x ∈ b) → a = b
  | [], [], _, _, _ => rfl
  | [], y :: b, _, _, h => by have := (h y).2 (by simp); simp at this
  | x :: a, [], _, _, h => by have := (h x).1 (by simp); simp at this
  | x :: a, y :: b, ha, hb, h => by
    rw [List.pairwise_cons] at ha hb
    have h1 : x = y := by
      have hx := (h x).1 (by simp)
      have hy := (h y).2 (by simp)
      simp only [List.mem_cons] at hx hy
      rcases hx with e | hx
      · exact e
      · rcases hy with e | hy
        · exact e.symm
        · have h1 := ha.1 y hy
          have h2 := hb.1 x hx
          omega
    subst h1
    congr 1
    refine JZ a b ha.2 hb.2 fun z => ?_
    have hz := h z
    simp only [List.mem_cons] at hz
    constructor
    · intro hm
      have hlt := ha.1 z hm
      rcases hz.1 (.inr hm) with e | e
      · omega
      · exact e
    · intro hm
      have hlt := hb.1 z hm
      rcases hz.2 (.inr hm) with e | e
      · omega
      · exact e
def Is : List Int → Int → List Int
  | [], n => [n]
  | x :: l, n => if x < n then x :: Is l n else if x = n then x :: l else n :: x :: l
theorem QB (n x : Int) : ∀ l : List Int, x ∈ Is l n ↔ x = n ∨ x ∈ l
  | [] => by simp [Is]
  | y :: l => by
    unfold Is
    by_cases h1 : y < n
    · rw [if_pos h1, List.mem_cons, QB n x l, List.mem_cons]
      constructor
      · rintro (h | h | h)
        · exact .inr (.inl h)
        · exact .inl h
        · exact .inr (.inr h)
      · rintro (h | h | h)
        · exact .inr (.inl h)
        · exact .inl h
        · exact .inr (.inr h)
    · rw [if_neg h1]
      by_cases h2 : y = n
      · rw [if_pos h2, h2]; simp
      · rw [if_neg h2]; simp
theorem UA (n : Int) : ∀ l : List Int, l.Pairwise (· < ·) → (Is l n).Pairwise (· < ·)
  | [], _ => by simp [Is]
  | y :: l, h => by
    rw [List.pairwise_cons] at h
    unfold Is
    by_cases h1 : y < n
    · rw [if_pos h1, List.pairwise_cons]
      refine ⟨fun z hz => ?_, UA n l h.2⟩
      rcases (QB n z l).1 hz with e | e
      · omega
      · exact h.1 z e
    · rw [if_neg h1]
      by_cases h2 : y = n
      · rw [if_pos h2, List.pairwise_cons]; exact h
      · rw [if_neg h2, List.pairwise_cons, List.pairwise_cons]
        refine ⟨fun z hz => ?_, h⟩
        rcases List.mem_cons.1 hz with e | e
        · omega
        · have := h.1 z e; omega
theorem UB (n : Int) : ∀ l : List Int, (Is l n).length ≤ l.length + 1
  | [] => by simp [Is]
  | y :: l => by
    have h := UB n l
    unfold Is
    split
    · simp only [List.length_cons]; omega
    · split
      · simp
      · simp
def Ux (l : List Int) (n : Int) : Nat := (l.takeWhile (fun x => decide (x < n))).length
theorem CT (n : Int) : ∀ l : List Int, Is l n = if l[Ux l n]? = some n then l else l.take (Ux l n) ++ [n] ++ l.drop (Ux l n)
  | [] => by simp [Is, Ux]
  | y :: l => by
    have ih := CT n l
    unfold Is Ux
    by_cases h1 : y < n
    · rw [if_pos h1, ih]
      simp only [List.takeWhile_cons, h1, decide_true, if_true, List.length_cons, List.getElem?_cons_succ, List.take_succ_cons, List.drop_succ_cons]
      unfold Ux
      split <;> simp
    · rw [if_neg h1]
      simp only [List.takeWhile_cons, h1, decide_false, List.length_nil, List.getElem?_cons_zero, Option.some.injEq, List.take_zero, List.drop_zero]
      by_cases h2 : y = n
      · rw [if_pos h2]; simp [h2]
      · rw [if_neg h2]; simp [h2]
def Rx (l : List Int) (xs : List Int) : List Int := xs.foldl Is l
theorem Gs (x : Int) : ∀ (xs l : List Int), x ∈ Rx l xs ↔ x ∈ xs ∨ x ∈ l
  | [], l => by simp [Rx]
  | n :: xs, l => by
    have h := Gs x xs (Is l n)
    unfold Rx at h ⊢
    rw [List.foldl_cons, h, QB, List.mem_cons]
    constructor
    · rintro (h | h | h)
      · exact .inl (.inr h)
      · exact .inl (.inl h)
      · exact .inr h
    · rintro ((h | h) | h)
      · exact .inr (.inl h)
      · exact .inl h
      · exact .inr (.inr h)
theorem Gt : ∀ (xs l : List Int), l.Pairwise (· < ·) → (Rx l xs).Pairwise (· < ·)
  | [], _, h => h
  | n :: xs, l, h => Gt xs (Is l n) (UA n l h)
def less (ids removed : List Int) : List Int := ids.filter (fun x => !removed.contains x)
def Rh (ids added removed : List Int) : List Int := Rx (Rx [] (less ids removed)) added
theorem Fw (ids removed : List Int) : (less ids removed).length ≤ ids.length := List.length_filter_le _ _
theorem QC (d : Array Int) (hs : ∀ i j, i ≤ j → j < d.size → d[i]! ≤ d[j]!) : ∀ m, m ≤ d.size → (Lib.compactUpTo d m).Pairwise (· < ·) ∧ ∀ x, x ∈ Lib.compactUpTo d m ↔ ∃ j, j < m ∧ d[j]! = x
  | 0, _ => by simp [Lib.compactUpTo]
  | m + 1, hm => by
    obtain ⟨h1, h2⟩ := QC d hs m (by omega)
    rw [Lib.compactUpTo_succ]
    by_cases hk : Lib.keeps d m = true
    · rw [if_pos hk]
      refine ⟨?_, fun x => ?_⟩
      · rw [List.pairwise_append]
        refine ⟨h1, by simp, fun a ha b hb => ?_⟩
        obtain ⟨j, hj, rfl⟩ := (h2 a).1 ha
        obtain rfl : b = d[m]! := by simpa using hb
        have hle := hs j (m - 1) (by omega) (by omega)
        have hle2 := hs (m - 1) m (by omega) (by omega)
        have hne : d[m]! ≠ d[m - 1]! := by
          unfold Lib.keeps at hk
          simp only [Bool.or_eq_true, beq_iff_eq, bne_iff_ne, decide_eq_true_eq] at hk
          rcases hk with h | h
          · omega
          · exact h
        omega
      · rw [List.mem_append, h2 x]
        constructor
        · rintro (⟨j, hj, e⟩ | h)
          · exact ⟨j, by omega, e⟩
          · exact ⟨m, by omega, by simpa using (by simpa using h : x = d[m]!).symm⟩
        · rintro ⟨j, hj, e⟩
          by_cases hjm : j = m
          · subst hjm; exact .inr (by simp [e])
          · exact .inl ⟨j, by omega, e⟩
    · rw [if_neg hk, List.append_nil]
      refine ⟨h1, fun x => ?_⟩
      rw [h2 x]
      have hm0 : m ≠ 0 ∧ d[m]! = d[m - 1]! := by
        unfold Lib.keeps at hk
        simp only [Bool.or_eq_true, beq_iff_eq, bne_iff_ne, decide_eq_true_eq, not_or, Decidable.not_not] at hk
        exact hk
      constructor
      · rintro ⟨j, hj, e⟩; exact ⟨j, by omega, e⟩
      · rintro ⟨j, hj, e⟩
        by_cases hjm : j = m
        · subst hjm; exact ⟨j - 1, by omega, hm0.2 ▸ e⟩
        · exact ⟨j, by omega, e⟩
theorem UC (l : List Int) (a : List Int) (ha : a.Pairwise (· < ·)) (hm : ∀ x, x ∈ a ↔ x ∈ l) : Lib.compact (l.mergeSort fun x y => decide (x ≤ y)) = a := by
  have hp := List.mergeSort_perm l (fun x y => decide (x ≤ y))
  have hs := List.pairwise_mergeSort (le := fun (x y : Int) => decide (x ≤ y)) (fun a b c h1 h2 => by simp at h1 h2 ⊢; omega) (fun a b => by simp; omega) l
  generalize (l.mergeSort fun x y => decide (x ≤ y)) = s at hp hs
  have hsz : s.toArray.size = s.length := by simp
  have hget : ∀ j, j < s.length → s.toArray[j]! = s[j]! := fun j hj => by simp
  have hmono : ∀ i j, i ≤ j → j < s.toArray.size → s.toArray[i]! ≤ s.toArray[j]! := fun i j hij hj => by
    rw [hsz] at hj
    rw [hget i (by omega), hget j hj, getElem!_pos s i (by omega), getElem!_pos s j hj]
    by_cases e : i = j
    · subst e; exact Int.le_refl _
    · have := List.pairwise_iff_getElem.1 hs i j (by omega) hj (by omega)
      simpa using this
  obtain ⟨h1, h2⟩ := QC s.toArray hmono s.length (by omega)
  refine JZ _ _ h1 ha fun x => ?_
  show x ∈ Lib.compactUpTo s.toArray s.length ↔ _
  rw [h2 x, hm x, ← hp.mem_iff]
  constructor
  · rintro ⟨j, hj, e⟩
    rw [hget j hj, getElem!_pos s j hj] at e
    exact e ▸ List.getElem_mem hj
  · intro h
    obtain ⟨j, hj, e⟩ := List.getElem_of_mem h
    exact ⟨j, hj, by rw [hget j hj, getElem!_pos s j hj]; exact e⟩
theorem Ri (ids added removed : List Int) : Lib.compact ((less ids removed ++ added).mergeSort fun x y => decide (x ≤ y)) = Rh ids added removed :=
  UC _ _ (Gt _ _ (Gt _ _ (by simp))) fun x => by
    unfold Rh
    rw [Gs, Gs, List.mem_append]
    simp only [List.not_mem_nil, or_false]
    exact Or.comm
end Go.Proofs.YtockoklfegpgeaaGreat
namespace Go.Proofs.YtockoklfegpgeaaGreat
open Go.RowKit
theorem UD (n : Int) : ∀ (l : List Int) (k : Nat), Xm (Cv n) Cw l k () = .brk (((k + Ux l n : Nat)) : Int)
  | [], k => by simp [Xm, Cw, Ux]
  | a :: l, k => by
    simp only [Xm, Cv]
    by_cases h : a < n
    · have e : Ux (a :: l) n = Ux l n + 1 := by simp [Ux, h]
      rw [decide_eq_true h, e]
      simp only [cond_true]
      rw [UD n l (k + 1), show k + 1 + Ux l n = k + (Ux l n + 1) by omega]
    · have e : Ux (a :: l) n = 0 := by simp [Ux, h]
      rw [decide_eq_false h, e]
      rfl
theorem QD (l : List Int) (n : Int) : Ws l n = Is l n := by
  unfold Ws
  rw [UD, CT]
  simp only [Out.on, Nat.zero_add, Int.toNat_natCast]
  by_cases h : l[Ux l n]? = some n
  · obtain ⟨hlt, _⟩ := List.getElem?_eq_some_iff.1 h
    rw [if_pos h, decide_eq_true (by omega : ((Ux l n : Nat) : Int) < (l.length : Int)), Lh h]
    simp
  · rw [if_neg h]
    have hc : (decide (((Ux l n : Nat) : Int) < (l.length : Int)) && (nth l (Ux l n) == n)) = false := by
      by_cases hlt : Ux l n < l.length
      · have : nth l (Ux l n) ≠ n := fun e => h (by rw [Ho hlt, e])
        rw [beq_eq_false_iff_ne.2 this, Bool.and_false]
      · rw [decide_eq_false (by omega), Bool.false_and]
    rw [hc, cond_false]
theorem KA (l : List Int) (n : Int) : List.length (Ws l n) ≤ List.length l + 1 := by rw [QD]; exact UB n l
end Go.Proofs.YtockoklfegpgeaaGreat
namespace Go.Proofs.YtockoklfegpgeaaGreat
open Go.RowKit
theorem Up {a b : List Int} (hp : List.length a ≤ 1073741824) : Ir a b = less a b := by
  unfold Ir
  rw [Wl a b hp]
  unfold less
  refine List.filter_congr fun x _ => ?_
  have h : Ki x b = b.contains x := by
    rw [Bool.eq_iff_iff]
    have := Re b x
    unfold K5 at this
    show J0 b x = true ↔ _
    rw [this]
    simp
  rw [h]
open GoE (enc wide)
def Zs (ids : (List Int)) (added : (List Int)) (removed : (List Int)) : (List Int) := VT (P4 (less ids removed ++ added))
theorem XF (ids : (List Int)) (added : (List Int)) (removed : (List Int)) (hp : List.length ids + List.length added ≤ 536870912) : ACalls Tryz.prog 41 [.h ids, .h added, .h removed] (.o 0 (Zs ids added removed)) := by
 refine en Qb Tryz.func41 fun w0 F0 hG => ?_
 have hll := Fw ids removed
 refine sn Qb [0, 1, 2, 6] [] (p0) ?_
 refine wT 0 0 .sh ids (fun hw1 hl2 => ?_)
 refine wT 1 0 .sh added (fun hw3 hl4 => ?_)
 refine tu Qb [(6, .e 0), (7, .one (.slc (.own true 768) 1 ((eL (less ids removed)) ++ (eL added))))] [0, 1, 2] [] [] (pc 2 ((Up hl2) ▸ Wo ids removed) (po 4 (.flat) (pa (less ids removed) added (px (Ub (Wm added)) p0)))) ?_
 refine eqn [(7, .o 768 (less ids removed ++ added))] [7] [] [] (by rw [show ((eL (less ids removed)) ++ (eL added)) = (eL (less ids removed ++ added)) from Ky (rfl) (rfl)]; first | done | kernel_rfl) ?_
 refine E9 [768] rfl ?_
 refine su Qb [(7, .one (.slc (.own false 768) 1 (OO (eL (less ids removed ++ added)) 0 4294967296 (List.flatten (eL (P4 (less ids removed ++ added)))))))] [7] [] [] (po 1 (.take false true (eL (P4 (less ids removed ++ added)))) (px (Tb (SU (less ids removed ++ added))) p0)) ?_
 refine eqn [(7, .q 768 (P4 (less ids removed ++ added)))] [7] [] [] (by rw [BU (fun _ => rfl) (VU _)]; first | done | kernel_rfl) ?_
 refine sn Qb [6] [] (po 1 (.take false false (eL (VT (P4 (less ids removed ++ added))))) (px (Tb (SV (P4 (less ids removed ++ added)))) p0)) ?_
 refine AF 6 (k := 1024) (n := 1) (by kernel_rfl) (Wm (VT (P4 (less ids removed ++ added)))) ?_
 refine Qf ?_
 exact po0 [] (show Zs ids added removed = VT (P4 (less ids removed ++ added)) from rfl)
def Uq (d : DU) (_ : Nat) (a0 : Int) (s0 : (List Int)) : Rd ((List Int)) ((List Int)) ((List Int)) := (bif (!(Xx d.2.2 a0)) then (.next (Ws s0 a0)) else (.next s0))
def H9 (_ : Nat) (s0 : (List Int)) : (List Int) := s0
def Ur (_ : Nat) (a1 : Int) (s1 : (List Int)) : Rd ((List Int)) ((List Int)) ((List Int)) := (.next (Ws s1 a1))
def Aa (_ : Nat) (s1 : (List Int)) : (List Int) := s1
def Vd (ids : (List Int)) (d : DU) : (List Int) := (Out.on (Xm (Uq d) H9 ids 0 []) (fun y0 => (Out.on (Xm Ur Aa d.2.1 0 y0) (fun y1 => y1))))
theorem Ms (ids : (List Int)) (d : DU) (hp : List.length ids + List.length d.2.1 ≤ 536870912) : ACalls Tryz.prog 42 [.h ids, .a [.s d.1, .h d.2.1, .h d.2.2]] (.o 0 (Vd ids d)) := by
 refine en Qb Tryz.func42 fun w0 F0 hG => ?_
 refine sn Qb [0, 3, 4] [3] (p0) ?_
 refine tn Qb [0, 3, 4, 5] [3] (p0) ?_
 refine Qe ?_
 refine tu Qb [(3, .p 3 0), (4, .e 0), (5, .one (.slc (.own true 512) 1 [])), (6, .i 0)] [1] [(3, [.s d.1, .h d.2.1, .h d.2.2])] [] (p0) ?_
 refine wT 0 0 .sh ids (fun hw1 hl2 => ?_)
 refine PG (Uq d) H9 ids [] (fun k0 s0 => [(5, .h s0), (6, .i ((k0 : Nat) : Int))]) [5, 6] (fun y0 => [(5, .h y0)]) [0, 5, 6] (fun k0 s0 => List.length s0 ≤ k0) (fun y0 => List.length y0 ≤ List.length ids) (F5 [] [512] [] [] (by kernel_rfl)) (by simp) (fun k0 s0 hk0 hI0 => ?_) (fun k0 s0 hk0 hI0 => ?_) (fun y0 hD0 => ?_)
 ·
  have hA0_0 := hI0.2
  obtain ⟨a0, hx0⟩ := Xk (l := ids) (i := k0) hk0
  refine Qe ?_
  refine sn Qb [0, 3, 4, 5, 6, 12] [3] (pl 2 ids (pe 3 (Qs (decide_eq_true (p := ((k0 : Nat) : Int) < (ids.length : Int)) (by omega))) p0)) ?_
  refine ckT ?_
  refine Qj ?_
  refine Qe ?_
  refine Qt ?_
  refine tN Qb Yn [0, 3, 4, 5, 6, 22] [3] (pn 4 hx0 (pc 6 (Wa d.2.2 a0) p0)) ?_
  refine ck (!(Xx d.2.2 a0)) (fun h3 => ?_) (fun h3 => ?_)
  ·
   refine qu Qb [(5, .h (Ws s0 a0))] [5] [] [] (pn 3 hx0 (pc 5 (M5 s0 a0 (by omega)) p0)) ?_
   refine rn Qb [0, 3, 4, 5, 6] [3] (pe 1 (Jb (Qv k0 (by omega))) p0) ?_
   exact Exists.intro (Ws s0 a0) (And.intro (Qd (by kernel_rfl)) ⟨Qz hx0 (Q8 h3 (rfl)) hI0.1, (by first | omega | (have hz := KA s0 a0; omega))⟩)
  ·
   refine Qj ?_
   refine qu Qb [(6, .i ((k0 + 1 : Nat) : Int))] [6] [] [] (pe 1 (Jb (Qv k0 (by omega))) p0) ?_
   exact Exists.intro s0 (And.intro (Qd (by kernel_rfl)) ⟨Qz hx0 (Qn h3 (rfl)) hI0.1, (by first | omega | (have hz := KA s0 a0; omega))⟩)
 ·
  have hA0_0 := hI0.2
  refine Qe ?_
  refine sn Qb [0, 3, 4, 5, 6, 12] [3] (pl 2 ids (pe 3 (Qs (decide_eq_false (p := ((k0 : Nat) : Int) < (ids.length : Int)) (by omega))) p0)) ?_
  refine ckF ?_
  refine Q3 ?_
  exact Exists.intro s0 (And.intro (Qd (by kernel_rfl)) ⟨Xl hk0 (rfl) hI0.1, by first | omega | (simp only [List.length_set]; omega)⟩)
 ·
  have hD0_0 := hD0.2
  refine Qe ?_
  refine sn Qb [3, 4, 5, 7] [3] (p0) ?_
  refine mz [(7, .i 0)] [] [] [] ?_
  refine wB 3 1 .sh d.2.1 (fun hw4 hl5 => ?_)
  refine HQ Ur Aa d.2.1 y0 (fun k1 s1 => [(5, .h s1), (7, .i ((k1 : Nat) : Int))]) [5, 7] (fun _ _ => []) [] (fun y1 => [(5, .h y1)]) [3, 5, 7] (fun _ => []) [3] (fun k1 s1 => List.length s1 ≤ List.length ids + k1) (Qd (by kernel_rfl)) (by first | omega | (simp; omega)) (fun k1 s1 hk1 hI1 => ?_) (fun k1 s1 hk1 hI1 => ?_) (fun y1 hD1 => ?_)
  ·
   have hA1_0 := hI1.2
   obtain ⟨a1, hx1⟩ := Xk (l := d.2.1) (i := k1) hk1
   refine Qe ?_
   refine sn Qb [3, 4, 5, 7, 33] [3] (pl 3 d.2.1 (pe 4 (Qs (decide_eq_true (p := ((k1 : Nat) : Int) < (d.2.1.length : Int)) (by omega))) p0)) ?_
   refine ckT ?_
   refine Qj ?_
   refine Qe ?_
   refine Qt ?_
   refine qn Qb [3, 4, 5, 7] [3] (pn 4 hx1 (pc 6 (M5 s1 a1 (by omega)) p0)) ?_
   refine qu Qb [(5, .h (Ws s1 a1)), (7, .i ((k1 + 1 : Nat) : Int))] [5, 7] [] [] (pe 1 (Jb (Qv k1 (by omega))) p0) ?_
   exact Exists.intro (Ws s1 a1) (And.intro (Qd (by kernel_rfl)) ⟨Qz hx1 (rfl) hI1.1, (by first | omega | (have hz := KA s1 a1; omega))⟩)
  ·
   have hA1_0 := hI1.2
   refine Qe ?_
   refine sn Qb [3, 4, 5, 7, 33] [3] (pl 3 d.2.1 (pe 4 (Qs (decide_eq_false (p := ((k1 : Nat) : Int) < (d.2.1.length : Int)) (by omega))) p0)) ?_
   refine ckF ?_
   refine Q3 ?_
   exact Exists.intro _ (And.intro (Qd (by kernel_rfl)) (Xl hk1 (rfl) hI1.1))
  ·
   refine wT 5 0 .sh y1 (fun hw6 hl7 => ?_)
   refine sn Qb [4] [] (po 2 (.flat) (px (Hy (n := (([] : List (List PV)).length + ((eL y1) : List (List PV)).length)) (B9 (rfl) (Ym y1) (by first | omega | (simp only [List.length_cons, List.length_nil]; omega) | (simp; omega) | simp))) (px (Ub (Wm y1)) p0))) ?_
   refine Qf ?_
   exact po0 [] (Wf hD0.1 (Wf hD1 (rfl)))
end Go.Proofs.YtockoklfegpgeaaGreat
namespace Go.Proofs.YtockoklfegpgeaaGreat
open Go.RowKit
theorem L3 (l : List Int) (x : Int) : Xx l x = l.contains x := by
  rw [← PO, Bool.eq_iff_iff, Re]
  simp
theorem KB (d : DU) : ∀ (l : List Int) (k : Nat) (s : List Int), Xm (Uq d) H9 l k s = .brk (Rx s (less l d.2.2))
  | [], k, s => rfl
  | a :: l, k, s => by
    simp only [Xm, Uq, L3]
    cases h : d.2.2.contains a with
    | true =>
      have e : less (a :: l) d.2.2 = less l d.2.2 := by
        show List.filter _ (a :: l) = _
        rw [List.filter_cons, h]; rfl
      rw [e]
      exact KB d l (k + 1) s
    | false =>
      have e : less (a :: l) d.2.2 = a :: less l d.2.2 := by
        show List.filter _ (a :: l) = _
        rw [List.filter_cons, h]; rfl
      rw [e, QD]
      exact KB d l (k + 1) (Is s a)
theorem CU : ∀ (l : List Int) (k : Nat) (s : List Int), Xm Ur Aa l k s = .brk (Rx s l)
  | [], k, s => rfl
  | a :: l, k, s => by
    simp only [Xm, Ur, QD]
    exact CU l (k + 1) (Is s a)
theorem CV (ids : List Int) (d : DU) : Vd ids d = Zs ids d.2.1 d.2.2 := by
  unfold Vd Zs
  rw [KB]
  simp only [Out.on]
  rw [CU]
  exact (Ri ids d.2.1 d.2.2).symm
theorem D7 (ids a r : List Int) : List.length (Zs ids a r) ≤ List.length ids + List.length a := by
  unfold Zs
  have h1 := GX (P4 (less ids r ++ a))
  rw [VU, List.length_append] at h1
  have h2 := Fw ids r
  omega
theorem UE (ids : List Int) (d : DU) : List.length (Vd ids d) ≤ List.length ids + List.length d.2.1 := by rw [CV]; exact D7 ids d.2.1 d.2.2
theorem Pi {α : Type} [GoD α] (l m : List α) : GoD.size (l ++ m) = GoD.size l + GoD.size m := by
  simp only [Gh, List.length_append, List.map_append, List.sum_append]
  omega
theorem Pj {α : Type} [GoD α] (a : α) : GoD.size [a] = 1 + GoD.size a := by simp [Gh]
theorem Rj {α : Type} [GoD α] {l : List α} {k : Nat} {x : α} (h : l[k]? = some x) : GoD.size (List.take (k + 1) l) = GoD.size (List.take k l) + (1 + GoD.size x) := by
  rw [List.take_add_one, h, Pi]
  show _ + GoD.size [x] = _
  rw [Pj]
theorem L4 {α : Type} [GoD α] (l : List α) (k : Nat) : GoD.size (List.take k l) ≤ GoD.size l := by
  conv => rhs; rw [← List.take_append_drop k l, Pi]
  exact Nat.le_add_right _ _
theorem Rk (e : Yp) : List.length e.2.1 ≤ GoD.size e := by
  have h : GoD.size e = 0 + (GoD.size e.2.1 + GoD.size e.2.2) := rfl
  rw [Gr] at h
  omega
theorem Fk {ids : List Int} {l : List Yp} {k : Nat} {x : Yp} {s : List Int} {n : Nat} (hx : l[k]? = some x) (hs : List.length s ≤ List.length ids + GoD.size (List.take k l)) (hn : n ≤ List.length s + List.length x.2.1) : n ≤ List.length ids + GoD.size (List.take (k + 1) l) := by
  rw [Rj hx]
  have := Rk x
  omega
theorem QE {ids : List Int} {l : List Yp} {k : Nat} {x : Yp} {s : List Int} (hx : l[k]? = some x) (hs : List.length s ≤ List.length ids + GoD.size (List.take k l)) (hp : List.length ids + GoD.size l ≤ 536870912) : List.length s + List.length x.2.1 ≤ 536870912 := by
  have h1 := Fk (n := List.length s + List.length x.2.1) hx hs (Nat.le_refl _)
  have h2 := L4 l (k + 1)
  omega
theorem Vp (w : Yu) : GoD.size w = w.2.1.size + (List.length w.2.2.1 + GoD.size w.2.2.2) := by
  have h : GoD.size w = 0 + (w.2.1.size + (GoD.size w.2.2.1 + GoD.size w.2.2.2)) := rfl
  rw [Gr] at h
  omega
open GoE (enc wide)
def K2 (_ : Nat) (a0 : Yp) (s0 : (List Int)) : Rd ((List Int)) ((List Int)) ((List Int)) := (.next (Zs s0 a0.2.1 a0.2.2))
def W5 (_ : Nat) (s0 : (List Int)) : (List Int) := s0
def Qp (ids : (List Int)) (events : (List Yp)) : (List Int) := (Out.on (Xm K2 W5 events 0 ids) (fun y0 => y0))
theorem Us (ids : (List Int)) (events : (List Yp)) (hp : List.length ids + GoD.size events ≤ 536870912) : ACalls Tryz.prog 18 [.h ids, .h events] (.o 0 (Qp ids events)) := by
 refine en Qb Tryz.func18 fun w0 F0 hG => ?_
 refine sn Qb [0, 1, 4] [] (p0) ?_
 refine tn Qb [1, 4, 5] [] (pc 1 (E4 ids) p0) ?_
 refine Qe ?_
 refine tu Qb [(4, .e 0), (5, .o 576 ids), (10, .h events), (11, .i (events.length : Int)), (12, .i 0)] [0, 1] [] [] (pl 1 events p0) ?_
 refine wT 10 0 .sh events (fun hw1 hl2 => ?_)
 refine BM K2 W5 events ids (fun k0 s0 => [(5, .o 147201 s0), (12, .i ((k0 : Nat) : Int))]) [5, 12] (fun y0 => [(5, .o 147351 y0)]) [5, 10, 11, 12] (fun k0 s0 => List.length s0 ≤ List.length ids + GoD.size (List.take k0 events)) (Xy [(576, 147201)] (by kernel_rfl)) (by simp) (fun k0 s0 hk0 hI0 => ?_) (fun k0 s0 hk0 hI0 => ?_) (fun y0 hD0 => ?_)
 ·
  have hA0_0 := hI0.2
  obtain ⟨a0, hx0⟩ := Xk (l := events) (i := k0) hk0
  refine su Qb [(13, .b true)] [] [] [] (pe 0 (Qs (decide_eq_true (p := ((k0 : Nat) : Int) < (events.length : Int)) (by omega))) p0) ?_
  refine Qe ?_
  refine ckT ?_
  refine Qj ?_
  refine Qe ?_
  refine Qt ?_
  refine sn Qb [4, 5, 7, 10, 11, 12] [7] (pn 0 hx0 p0) ?_
  refine qn Qb [4, 5, 10, 11, 12] [] (pc 5 (XF s0 a0.2.1 a0.2.2 (QE hx0 hA0_0 hp)) p0) ?_
  refine qu Qb [(5, .o 1344 (Zs s0 a0.2.1 a0.2.2)), (12, .i ((k0 + 1 : Nat) : Int))] [5, 12, 13] [] [] (pe 0 (Jb (Qv k0 (by omega))) p0) ?_
  exact Exists.intro (Zs s0 a0.2.1 a0.2.2) (And.intro (Xy [(1344, 147201)] (by kernel_rfl)) ⟨Qz hx0 (rfl) hI0.1, (by first | exact Fk hx0 hA0_0 (D7 _ _ _) | exact Fk hx0 hA0_0 (UE _ _))⟩)
 ·
  have hA0_0 := hI0.2
  refine su Qb [(13, .b false)] [] [] [] (pe 0 (Qs (decide_eq_false (p := ((k0 : Nat) : Int) < (events.length : Int)) (by omega))) p0) ?_
  refine Qe ?_
  refine ckF ?_
  refine Q3 ?_
  exact Exists.intro _ (And.intro (Xy [(147201, 147351)] (by kernel_rfl)) (Xl hk0 (rfl) hI0.1))
 ·
  refine sn Qb [4] [] (p0) ?_
  refine Qf ?_
  exact po0 [] (Wf hD0 (rfl))
def Qi (w : Yu) : (List Int) := (Qp w.2.2.1 w.2.2.2)
theorem Ve (w : Yu) (hp : GoD.size w ≤ 536870912) : ACalls Tryz.prog 22 [.a [.i w.1, .s w.2.1, .h w.2.2.1, .h w.2.2.2]] (.o 0 (Qi w)) := by
 refine en Qb Tryz.func22 fun w0 F0 hG => ?_
 refine sn Qb [1, 2] [1] (p0) ?_
 refine tn Qb [2] [] (pc 4 (Us w.2.2.1 w.2.2.2 (by have hz := Vp w; omega)) p0) ?_
 refine Qf ?_
 exact po0 [] (show Qi w = (Qp w.2.2.1 w.2.2.2) from rfl)
def Hc (_ : Nat) (a0 : Yp) (s0 : (List Int)) : Rd ((List Int)) ((List Int)) ((List Int)) := (.next (Vd s0 (⟨#[]⟩, a0.2.1, a0.2.2)))
def Bw (_ : Nat) (s0 : (List Int)) : (List Int) := s0
def X8 (ids : (List Int)) (list : (List Yp)) : (List Int) := (Out.on (Xm Hc Bw list 0 ids) (fun y0 => y0))
theorem Ut (ids : (List Int)) (list : (List Yp)) (hp : List.length ids + GoD.size list ≤ 536870912) : ACalls Tryz.prog 19 [.h ids, .h list] (.o 0 (X8 ids list)) := by
 refine en Qb Tryz.func19 fun w0 F0 hG => ?_
 refine sn Qb [0, 1, 4] [] (p0) ?_
 refine wT 0 0 .sh ids (fun hw1 hl2 => ?_)
 refine tn Qb [1, 4, 5] [] (po 2 (.flat) (px (Hy (n := (([] : List (List PV)).length + ((eL ids) : List (List PV)).length)) (B9 (rfl) (Ym ids) (by first | omega | (simp only [List.length_cons, List.length_nil]; omega) | (simp; omega) | simp))) (px (Ub (Wm ids)) p0))) ?_
 refine Qe ?_
 refine tu Qb [(4, .e 0), (5, .o 576 ids), (6, .i 0)] [0] [] [] (p0) ?_
 refine wT 1 0 .sh list (fun hw3 hl4 => ?_)
 refine BM Hc Bw list ids (fun k0 s0 => [(5, .o 147202 s0), (6, .i ((k0 : Nat) : Int))]) [5, 6] (fun y0 => [(5, .o 147352 y0)]) [1, 5, 6] (fun k0 s0 => List.length s0 ≤ List.length ids + GoD.size (List.take k0 list)) (Xy [(576, 147202)] (by kernel_rfl)) (by simp) (fun k0 s0 hk0 hI0 => ?_) (fun k0 s0 hk0 hI0 => ?_) (fun y0 hD0 => ?_)
 ·
  have hA0_0 := hI0.2
  obtain ⟨a0, hx0⟩ := Xk (l := list) (i := k0) hk0
  refine Qe ?_
  refine sn Qb [1, 4, 5, 6, 13] [] (pl 2 list (pe 3 (Qs (decide_eq_true (p := ((k0 : Nat) : Int) < (list.length : Int)) (by omega))) p0)) ?_
  refine ckT ?_
  refine Qj ?_
  refine Qe ?_
  refine Qt ?_
  refine qN Qb Yn [1, 4, 5, 6] [] (pn 3 hx0 (pn 8 hx0 (pc 12 (Ms s0 (⟨#[]⟩, a0.2.1, a0.2.2) (QE hx0 hA0_0 hp)) p0))) ?_
  refine qu Qb [(5, .o 1792 (Vd s0 (⟨#[]⟩, a0.2.1, a0.2.2))), (6, .i ((k0 + 1 : Nat) : Int))] [5, 6] [] [] (pe 1 (Jb (Qv k0 (by omega))) p0) ?_
  exact Exists.intro (Vd s0 (⟨#[]⟩, a0.2.1, a0.2.2)) (And.intro (Xy [(1792, 147202)] (by kernel_rfl)) ⟨Qz hx0 (rfl) hI0.1, (by first | exact Fk hx0 hA0_0 (D7 _ _ _) | exact Fk hx0 hA0_0 (UE _ _))⟩)
 ·
  have hA0_0 := hI0.2
  refine Qe ?_
  refine sn Qb [1, 4, 5, 6, 13] [] (pl 2 list (pe 3 (Qs (decide_eq_false (p := ((k0 : Nat) : Int) < (list.length : Int)) (by omega))) p0)) ?_
  refine ckF ?_
  refine Q3 ?_
  exact Exists.intro _ (And.intro (Xy [(147202, 147352)] (by kernel_rfl)) (Xl hk0 (rfl) hI0.1))
 ·
  refine sn Qb [4] [] (p0) ?_
  refine Qf ?_
  exact po0 [] (Wf hD0 (rfl))
def Q4 (w : Yu) : (List Int) := (X8 w.2.2.1 w.2.2.2)
theorem Fx (w : Yu) (hp : GoD.size w ≤ 536870912) : ACalls Tryz.prog 23 [.a [.i w.1, .s w.2.1, .h w.2.2.1, .h w.2.2.2]] (.o 0 (Q4 w)) := by
 refine en Qb Tryz.func23 fun w0 F0 hG => ?_
 refine sn Qb [1, 2] [1] (p0) ?_
 refine tn Qb [2] [] (pc 4 (Ut w.2.2.1 w.2.2.2 (by have hz := Vp w; omega)) p0) ?_
 refine Qf ?_
 exact po0 [] (show Q4 w = (X8 w.2.2.1 w.2.2.2) from rfl)
def X5 (e_ : Yp) : Yp := e_
theorem L5 (e_ : Yp) : ACalls Tryz.prog 38 [.a [.i e_.1, .h e_.2.1, .h e_.2.2]] (.a [.i ((X5 e_).1), .o 0 ((X5 e_).2.1), .o 1 ((X5 e_).2.2)]) := by
 refine en Qb Tryz.func38 fun w0 F0 hG => ?_
 refine sn Qb [1, 2] [1, 2] (p0) ?_
 refine tN Qb Yn [2] [2] (pc 4 (E4 e_.2.1) (pc 7 (E4 e_.2.2) p0)) ?_
 refine Qf ?_
 exact pz [] (show X5 e_ = e_ from rfl) (fun z => .a [.i z.1, .o 0 z.2.1, .o 1 z.2.2])
def Ei (_ : Nat) (a0 : Yp) (s0 : (List Yp)) : Rd (Yu) ((List Yp)) ((List Yp)) := (.next (s0 ++ [(X5 a0)]))
def Iz (_ : Nat) (s0 : (List Yp)) : (List Yp) := s0
def X6 (w : Yu) : Yu := (Out.on (Xm Ei Iz w.2.2.2 0 []) (fun y0 => (w.1, w.2.1, w.2.2.1, y0)))
theorem QF (w : Yu) : ACalls Tryz.prog 29 [.a [.i w.1, .s w.2.1, .h w.2.2.1, .h w.2.2.2]] (.a [.i ((X6 w).1), .s ((X6 w).2.1), .o 0 ((X6 w).2.2.1), .o 1 ((X6 w).2.2.2)]) := by
 refine en Qb Tryz.func29 fun w0 F0 hG => ?_
 refine sn Qb [1, 2] [1, 2] (p0) ?_
 refine tn Qb [1, 2, 3] [1, 2] (p0) ?_
 refine Qe ?_
 refine tu Qb [(1, .p 1 0), (2, .p 2 0), (3, .one (.slc (.own true 384) 3 [])), (8, .h w.2.2.2), (9, .i (w.2.2.2.length : Int)), (10, .i 0)] [0] [(1, [.i w.1, .s w.2.1, .h w.2.2.1, .h w.2.2.2]), (2, [.i 0, .s ⟨#[]⟩, .e 1, .e 3])] [] (pl 2 w.2.2.2 p0) ?_
 refine wT 8 0 .sh w.2.2.2 (fun hw1 hl2 => ?_)
 refine BM Ei Iz w.2.2.2 [] (fun k0 s0 => [(3, .o 147202 s0), (10, .i ((k0 : Nat) : Int))]) [3, 10] (fun y0 => [(3, .o 147352 y0)]) [3, 8, 9, 10] (fun k0 s0 => List.length s0 ≤ k0) (Xy [(384, 147202)] (by kernel_rfl)) (by simp) (fun k0 s0 hk0 hI0 => ?_) (fun k0 s0 hk0 hI0 => ?_) (fun y0 hD0 => ?_)
 ·
  have hA0_0 := hI0.2
  obtain ⟨a0, hx0⟩ := Xk (l := w.2.2.2) (i := k0) hk0
  refine su Qb [(11, .b true)] [] [] [] (pe 0 (Qs (decide_eq_true (p := ((k0 : Nat) : Int) < (w.2.2.2.length : Int)) (by omega))) p0) ?_
  refine Qe ?_
  refine ckT ?_
  refine Qj ?_
  refine Qe ?_
  refine Qt ?_
  refine sn Qb [1, 2, 3, 5, 8, 9, 10] [1, 2, 5] (pn 0 hx0 p0) ?_
  refine wT 3 0 (.own true 147202) s0 (fun hw3 hl4 => ?_)
  refine qu Qb [(3, .one (.slc (.own true 1152) 3 ((eL s0) ++ [[.i ((X5 a0).1), .h ((X5 a0).2.1), .h ((X5 a0).2.2)]])))] [3, 11] [] [] (pc 2 (L5 a0) (pa s0 [(X5 a0)] p0)) ?_
  refine eqn [(3, .o 1152 (s0 ++ [(X5 a0)]))] [3] [] [] (by rw [show ((eL s0) ++ [[.i ((X5 a0).1), .h ((X5 a0).2.1), .h ((X5 a0).2.2)]]) = (eL (s0 ++ [(X5 a0)])) from Ky (rfl) (rfl)]; first | done | kernel_rfl) ?_
  refine rn Qb [1, 2, 3, 8, 9, 10] [1, 2] (pe 0 (Jb (Qv k0 (by omega))) p0) ?_
  exact Exists.intro (s0 ++ [(X5 a0)]) (And.intro (Xy [(1152, 147202)] (by kernel_rfl)) ⟨Qz hx0 (rfl) hI0.1, by first | omega | (simp; omega) | simp⟩)
 ·
  have hA0_0 := hI0.2
  refine su Qb [(11, .b false)] [] [] [] (pe 0 (Qs (decide_eq_false (p := ((k0 : Nat) : Int) < (w.2.2.2.length : Int)) (by omega))) p0) ?_
  refine Qe ?_
  refine ckF ?_
  refine Q3 ?_
  exact Exists.intro _ (And.intro (Xy [(147202, 147352)] (by kernel_rfl)) (Xl hk0 (rfl) hI0.1))
 ·
  refine sn Qb [1, 2, 3] [1, 2] (pc 2 (E4 w.2.2.1) p0) ?_
  refine tn Qb [1, 2] [1, 2] (p0) ?_
  refine tu Qb [] [1, 3] [(2, [.i w.1, .s w.2.1, .o 1408 w.2.2.1, .o 147352 y0])] [1, 2] (p0) ?_
  refine Qf ?_
  exact pz [] (show X6 w = _ from Wf hD0 (rfl)) (fun z => .a [.i z.1, .s z.2.1, .o 0 z.2.2.1, .o 1 z.2.2.2])
def Bb (_ : Nat) (a0 : Yp) (s0 : (List Yp)) : Rd ((List Yp)) ((List Yp)) ((List Yp)) := (.next (s0 ++ [a0]))
def Ej (_ : Nat) (s0 : (List Yp)) : (List Yp) := s0
def Hd (list : (List Yp)) : (List Yp) := (Out.on (Xm Bb Ej list 0 []) (fun y0 => y0))
theorem L6 (list : (List Yp)) : ACalls Tryz.prog 39 [.h list] (.o 0 (Hd list)) := by
 refine en Qb Tryz.func39 fun w0 F0 hG => ?_
 refine sn Qb [0, 2] [] (p0) ?_
 refine tn Qb [0, 2, 3] [] (p0) ?_
 refine Qe ?_
 refine tu Qb [(2, .e 0), (3, .one (.slc (.own true 320) 3 [])), (4, .i 0)] [] [] [] (p0) ?_
 refine wT 0 0 .sh list (fun hw1 hl2 => ?_)
 refine BM Bb Ej list [] (fun k0 s0 => [(3, .o 147202 s0), (4, .i ((k0 : Nat) : Int))]) [3, 4] (fun y0 => [(3, .o 147352 y0)]) [0, 3, 4] (fun k0 s0 => List.length s0 ≤ k0) (Xy [(320, 147202)] (by kernel_rfl)) (by simp) (fun k0 s0 hk0 hI0 => ?_) (fun k0 s0 hk0 hI0 => ?_) (fun y0 hD0 => ?_)
 ·
  have hA0_0 := hI0.2
  obtain ⟨a0, hx0⟩ := Xk (l := list) (i := k0) hk0
  refine Qe ?_
  refine sn Qb [0, 2, 3, 4, 9] [] (pl 2 list (pe 3 (Qs (decide_eq_true (p := ((k0 : Nat) : Int) < (list.length : Int)) (by omega))) p0)) ?_
  refine ckT ?_
  refine Qj ?_
  refine Qe ?_
  refine Qt ?_
  have hl3 : List.length a0.2.1 ≤ 1073741824 := Af (NE (R8 (ZT hx0 (hw1))))
  have hl4 : List.length a0.2.2 ≤ 1073741824 := Af (R8 (R8 (ZT hx0 (hw1))))
  refine wT 3 0 (.own true 147202) s0 (fun hw5 hl6 => ?_)
  refine qU Qb Yn [(3, .one (.slc (.own true 2176) 3 ((eL s0) ++ [[.i a0.1, .slc 1 ([] ++ (eL a0.2.1)), .slc 1 ([] ++ (eL a0.2.2))]])))] [3] [] [] (pn 3 hx0 (pn 9 hx0 (po 12 (.flat) (px (Hy (n := (([] : List (List PV)).length + ((eL a0.2.1) : List (List PV)).length)) (B9 (rfl) (Ym a0.2.1) (by first | omega | (simp only [List.length_cons, List.length_nil]; omega) | (simp; omega) | simp))) (px (Ub (Wm a0.2.1)) (pn 16 hx0 (po 19 (.flat) (px (Hy (n := (([] : List (List PV)).length + ((eL a0.2.2) : List (List PV)).length)) (B9 (rfl) (Ym a0.2.2) (by first | omega | (simp only [List.length_cons, List.length_nil]; omega) | (simp; omega) | simp))) (px (Ub (Wm a0.2.2)) (px (Hy (n := (((eL s0) : List (List PV)).length + ([[.i a0.1, .slc 1 ([] ++ (eL a0.2.1)), .slc 1 ([] ++ (eL a0.2.2))]] : List (List PV)).length)) (B9 (Ym s0) (rfl) (by first | omega | (simp only [List.length_cons, List.length_nil]; omega) | (simp; omega) | simp))) p0)))))))))) ?_
  refine eqn [(3, .o 2176 (s0 ++ [a0]))] [3] [] [] (by rw [show ((eL s0) ++ [[.i a0.1, .slc 1 ([] ++ (eL a0.2.1)), .slc 1 ([] ++ (eL a0.2.2))]]) = (eL (s0 ++ [a0])) from Ky (rfl) (rfl)]; first | done | kernel_rfl) ?_
  refine rn Qb [0, 2, 3, 4] [] (pe 1 (Jb (Qv k0 (by omega))) p0) ?_
  exact Exists.intro (s0 ++ [a0]) (And.intro (Xy [(2176, 147202)] (by kernel_rfl)) ⟨Qz hx0 (rfl) hI0.1, by first | omega | (simp; omega) | simp⟩)
 ·
  have hA0_0 := hI0.2
  refine Qe ?_
  refine sn Qb [0, 2, 3, 4, 9] [] (pl 2 list (pe 3 (Qs (decide_eq_false (p := ((k0 : Nat) : Int) < (list.length : Int)) (by omega))) p0)) ?_
  refine ckF ?_
  refine Q3 ?_
  exact Exists.intro _ (And.intro (Xy [(147202, 147352)] (by kernel_rfl)) (Xl hk0 (rfl) hI0.1))
 ·
  refine sn Qb [2] [] (p0) ?_
  refine Qf ?_
  exact po0 [] (Wf hD0 (rfl))
def Qm (w : Yu) : Yu := (w.1, w.2.1, w.2.2.1, (Hd w.2.2.2))
theorem KC (w : Yu) : ACalls Tryz.prog 35 [.a [.i w.1, .s w.2.1, .h w.2.2.1, .h w.2.2.2]] (.a [.i ((Qm w).1), .s ((Qm w).2.1), .o 0 ((Qm w).2.2.1), .o 1 ((Qm w).2.2.2)]) := by
 refine en Qb Tryz.func35 fun w0 F0 hG => ?_
 refine sn Qb [1, 2] [1, 2] (p0) ?_
 refine wB 1 2 .sh w.2.2.1 (fun hw1 hl2 => ?_)
 refine tN Qb Yn [2] [2] (po 7 (.flat) (px (Hy (n := (([] : List (List PV)).length + ((eL w.2.2.1) : List (List PV)).length)) (B9 (rfl) (Ym w.2.2.1) (by first | omega | (simp only [List.length_cons, List.length_nil]; omega) | (simp; omega) | simp))) (px (Ub (Wm w.2.2.1)) (pc 10 (L6 w.2.2.2) p0)))) ?_
 refine Qf ?_
 exact pz [] (show Qm w = (w.1, w.2.1, w.2.2.1, (Hd w.2.2.2)) from rfl) (fun z => .a [.i z.1, .s z.2.1, .o 0 z.2.2.1, .o 1 z.2.2.2])
def Y3 (a_ : (List Int)) (b : (List Int)) : (List Int) × (List Int) := ((less b a_), (less a_ b))
theorem KD (a_ : (List Int)) (b : (List Int)) : ACalls Tryz.prog 30 [.h a_, .h b] (.tup [(false, [.o 0 (((Y3 a_ b)).1)]), (false, [.o 1 (((Y3 a_ b)).2)])]) := by
 refine en Qb Tryz.func30 fun w0 F0 hG => ?_
 refine sn Qb [0, 1, 4, 5] [] (p0) ?_
 refine wT 1 0 .sh b (fun hw1 hl2 => ?_)
 refine wT 0 0 .sh a_ (fun hw3 hl4 => ?_)
 refine tn Qb [4, 5] [] (pc 2 ((Up hl2) ▸ Wo b a_) (pc 5 ((Up hl4) ▸ Wo a_ b) p0)) ?_
 refine Qf ?_
 exact pz [] (show Y3 a_ b = ((less b a_), (less a_ b)) from rfl) (fun z => .tup [(false, [.o 0 z.1]), (false, [.o 1 z.2])])
def Gb (a_ : (List Int)) (_ : Nat) (a0 : Int) (s0 : (List Int)) : Rd ((List Int) × (List Int)) ((List Int)) ((List Int)) := (bif (!(Xx a_ a0)) then (.next (s0 ++ [a0])) else (.next s0))
def Gc (_ : Nat) (s0 : (List Int)) : (List Int) := s0
def Gd (b : (List Int)) (_ : Nat) (a1 : Int) (s1 : (List Int)) : Rd ((List Int) × (List Int)) ((List Int)) ((List Int)) := (bif (!(Xx b a1)) then (.next (s1 ++ [a1])) else (.next s1))
def Ge (_ : Nat) (s1 : (List Int)) : (List Int) := s1
def Yy (a_ : (List Int)) (b : (List Int)) : (List Int) × (List Int) := (Out.on (Xm (Gb a_) Gc b 0 []) (fun y0 => (Out.on (Xm (Gd b) Ge a_ 0 []) (fun y1 => (y0, y1)))))
theorem KE (a_ : (List Int)) (b : (List Int)) : ACalls Tryz.prog 36 [.h a_, .h b] (.tup [(false, [.o 0 (((Yy a_ b)).1)]), (false, [.o 1 (((Yy a_ b)).2)])]) := by
 refine en Qb Tryz.func36 fun w0 F0 hG => ?_
 refine sn Qb [0, 1, 4, 5] [] (p0) ?_
 refine tn Qb [0, 1, 4, 5, 6] [] (p0) ?_
 refine tu Qb [(4, .e 0), (5, .e 0), (6, .one (.slc (.own true 640) 1 [])), (7, .one (.slc (.own true 704) 1 []))] [] [] [] (p0) ?_
 refine Qe ?_
 refine su Qb [(8, .i 0)] [] [] [] (p0) ?_
 refine wT 1 0 .sh b (fun hw1 hl2 => ?_)
 refine BM (Gb a_) Gc b [] (fun k0 s0 => [(6, .o 147204 s0), (8, .i ((k0 : Nat) : Int))]) [6, 8] (fun y0 => [(6, .o 147354 y0)]) [6, 8] (fun k0 s0 => List.length s0 ≤ k0) (Xy [(640, 147204)] (by kernel_rfl)) (by simp) (fun k0 s0 hk0 hI0 => ?_) (fun k0 s0 hk0 hI0 => ?_) (fun y0 hD0 => ?_)
 ·
  have hA0_0 := hI0.2
  obtain ⟨a0, hx0⟩ := Xk (l := b) (i := k0) hk0
  refine Qe ?_
  refine su Qb [(15, .b true)] [] [] [] (pl 2 b (pe 3 (Qs (decide_eq_true (p := ((k0 : Nat) : Int) < (b.length : Int)) (by omega))) p0)) ?_
  refine ckT ?_
  refine Qj ?_
  refine Qe ?_
  refine Qt ?_
  refine sn Qb [0, 1, 4, 5, 6, 7, 8, 24] [] (pn 3 hx0 (pc 5 (Wa a_ a0) p0)) ?_
  refine ck (!(Xx a_ a0)) (fun h3 => ?_) (fun h3 => ?_)
  ·
   refine wT 6 0 (.own true 147204) s0 (fun hw4 hl5 => ?_)
   refine qu Qb [(6, .one (.slc (.own true 1984) 1 ((eL s0) ++ [[.i a0]])))] [6, 15] [] [] (pn 3 hx0 (pa s0 [a0] p0)) ?_
   refine eqn [(6, .o 1984 (s0 ++ [a0]))] [6] [] [] (by rw [show ((eL s0) ++ [[.i a0]]) = (eL (s0 ++ [a0])) from Ky (rfl) (rfl)]; first | done | kernel_rfl) ?_
   refine rn Qb [0, 1, 4, 5, 6, 7, 8] [] (pe 1 (Jb (Qv k0 (by omega))) p0) ?_
   exact Exists.intro (s0 ++ [a0]) (And.intro (Xy [(1984, 147204)] (by kernel_rfl)) ⟨Qz hx0 (Q8 h3 (rfl)) hI0.1, by first | omega | (simp; omega) | simp⟩)
  ·
   refine Qj ?_
   refine qn Qb [0, 1, 4, 5, 6, 7, 8] [] (pe 1 (Jb (Qv k0 (by omega))) p0) ?_
   exact Exists.intro s0 (And.intro (Qd (by kernel_rfl)) ⟨Qz hx0 (Qn h3 (rfl)) hI0.1, by first | omega | (simp; omega) | simp⟩)
 ·
  have hA0_0 := hI0.2
  refine Qe ?_
  refine su Qb [(15, .b false)] [] [] [] (pl 2 b (pe 3 (Qs (decide_eq_false (p := ((k0 : Nat) : Int) < (b.length : Int)) (by omega))) p0)) ?_
  refine ckF ?_
  refine Q3 ?_
  exact Exists.intro _ (And.intro (Xy [(147204, 147354)] (by kernel_rfl)) (Xl hk0 (rfl) hI0.1))
 ·
  refine Qe ?_
  refine su Qb [(9, .i 0)] [] [] [] (p0) ?_
  refine wT 0 0 .sh a_ (fun hw6 hl7 => ?_)
  refine BM (Gd b) Ge a_ [] (fun k1 s1 => [(7, .o 147205 s1), (9, .i ((k1 : Nat) : Int))]) [7, 9] (fun y1 => [(7, .o 147355 y1)]) [0, 1, 7, 9] (fun k1 s1 => List.length s1 ≤ k1) (Xy [(704, 147205)] (by kernel_rfl)) (by simp) (fun k1 s1 hk1 hI1 => ?_) (fun k1 s1 hk1 hI1 => ?_) (fun y1 hD1 => ?_)
  ·
   have hA1_0 := hI1.2
   obtain ⟨a1, hx1⟩ := Xk (l := a_) (i := k1) hk1
   refine Qe ?_
   refine su Qb [(35, .b true)] [] [] [] (pl 2 a_ (pe 3 (Qs (decide_eq_true (p := ((k1 : Nat) : Int) < (a_.length : Int)) (by omega))) p0)) ?_
   refine ckT ?_
   refine Qj ?_
   refine Qe ?_
   refine Qt ?_
   refine sn Qb [0, 1, 4, 5, 6, 7, 9, 44] [] (pn 3 hx1 (pc 5 (Wa b a1) p0)) ?_
   refine ck (!(Xx b a1)) (fun h8 => ?_) (fun h8 => ?_)
   ·
    refine wT 7 0 (.own true 147205) s1 (fun hw9 hl10 => ?_)
    refine qu Qb [(7, .one (.slc (.own true 3264) 1 ((eL s1) ++ [[.i a1]])))] [7, 35] [] [] (pn 3 hx1 (pa s1 [a1] p0)) ?_
    refine eqn [(7, .o 3264 (s1 ++ [a1]))] [7] [] [] (by rw [show ((eL s1) ++ [[.i a1]]) = (eL (s1 ++ [a1])) from Ky (rfl) (rfl)]; first | done | kernel_rfl) ?_
    refine rn Qb [0, 1, 4, 5, 6, 7, 9] [] (pe 1 (Jb (Qv k1 (by omega))) p0) ?_
    exact Exists.intro (s1 ++ [a1]) (And.intro (Xy [(3264, 147205)] (by kernel_rfl)) ⟨Qz hx1 (Q8 h8 (rfl)) hI1.1, by first | omega | (simp; omega) | simp⟩)
   ·
    refine Qj ?_
    refine qn Qb [0, 1, 4, 5, 6, 7, 9] [] (pe 1 (Jb (Qv k1 (by omega))) p0) ?_
    exact Exists.intro s1 (And.intro (Qd (by kernel_rfl)) ⟨Qz hx1 (Qn h8 (rfl)) hI1.1, by first | omega | (simp; omega) | simp⟩)
  ·
   have hA1_0 := hI1.2
   refine Qe ?_
   refine su Qb [(35, .b false)] [] [] [] (pl 2 a_ (pe 3 (Qs (decide_eq_false (p := ((k1 : Nat) : Int) < (a_.length : Int)) (by omega))) p0)) ?_
   refine ckF ?_
   refine Q3 ?_
   exact Exists.intro _ (And.intro (Xy [(147205, 147355)] (by kernel_rfl)) (Xl hk1 (rfl) hI1.1))
  ·
   refine sn Qb [4, 5] [] (p0) ?_
   refine Qf ?_
   exact pz [] (show Yy a_ b = _ from Wf hD0 (Wf hD1 (rfl))) (fun z => .tup [(false, [.o 0 z.1]), (false, [.o 1 z.2])])
end Go.Proofs.YtockoklfegpgeaaGreat
namespace Go.Proofs.YtockoklfegpgeaaGreat
open Go.RowKit
theorem Pk (ids : List Int) (l : List Yp) : X8 ids l = Qp ids l := by
  unfold X8 Qp
  rw [E3 (f := Hc) (g := K2) (e := Bw) (e' := W5) (fun _ _ => rfl) l 0 _ (fun i a t _ => by
    unfold Hc K2
    rw [CV])]
theorem YX (w : Yu) : Q4 w = Qi w := Pk w.2.2.1 w.2.2.2
theorem Fy (w : Yu) : X6 w = w := by
  unfold X6
  rw [Ib (f := Ei) (g := X5) (fun _ _ _ => rfl)]
  show (w.1, w.2.1, w.2.2.1, [] ++ w.2.2.2.map X5) = w
  rw [show X5 = id from rfl, List.map_id]
  rfl
theorem U7 (w : Yu) : Qm w = w := by
  unfold Qm Hd
  rw [Ib (f := Bb) (g := id) (fun _ _ _ => rfl)]
  show (w.1, w.2.1, w.2.2.1, [] ++ w.2.2.2.map id) = w
  rw [List.map_id]
  rfl
theorem KF (w : Yu) : List.length ((X6 w)).2.2.2 = List.length w.2.2.2 := by rw [Fy]
theorem AO (w : Yu) : List.length ((Qm w)).2.2.2 = List.length w.2.2.2 := by rw [U7]
theorem Pm (w : Yu) : List.length w.2.2.2 ≤ GoD.size w := by
  have h := Vp w
  have h2 : List.length w.2.2.2 ≤ GoD.size w.2.2.2 := by rw [Gh]; omega
  omega
open GoE (enc wide)
def Xw (w : Yu) (version : Int) (s_ : Q5) (d : (List Y5)) : Yu := (bif decide (IntKind.i64.wrap (((((Y3 (Qi w) (Q0 s_ d w.1 w.2.1))).1).length : Int) + ((((Y3 (Qi w) (Q0 s_ d w.1 w.2.1))).2).length : Int)) > (0 : Int)) then ((X6 w).1, (X6 w).2.1, (X6 w).2.2.1, (X6 w).2.2.2 ++ [(version, ((Y3 (Qi w) (Q0 s_ d w.1 w.2.1))).1, ((Y3 (Qi w) (Q0 s_ d w.1 w.2.1))).2)]) else (X6 w))
theorem UF (w : Yu) (version : Int) (s_ : Q5) (d : (List Y5)) (hp : GoD.size w ≤ 536870912) : ACalls Tryz.prog 6 [.a [.i w.1, .s w.2.1, .h w.2.2.1, .h w.2.2.2], .i version, .a [.h s_.1, .h s_.2.1, .i s_.2.2], .h d] (.a [.i ((Xw w version s_ d).1), .s ((Xw w version s_ d).2.1), .o 0 ((Xw w version s_ d).2.2.1), .o 1 ((Xw w version s_ d).2.2.2)]) := by
 refine en Qb Tryz.func6 fun w0 F0 hG => ?_
 have hcl := KF w
 have hse := Pm w
 refine sn Qb [1, 3, 4, 6, 8] [4, 6, 8] (p0) ?_
 refine tn Qb [1, 3, 4, 6, 8, 9] [4, 6, 8, 9] (pc 1 (QF w) p0) ?_
 refine tU Qb Yn [(8, .p 8 0), (9, .p 9 0), (10, .o 1536 (((Y3 (Qi w) (Q0 s_ d w.1 w.2.1))).1)), (11, .o 1537 (((Y3 (Qi w) (Q0 s_ d w.1 w.2.1))).2))] [0, 2, 3] [(8, [.i 0, .s ⟨#[]⟩, .e 1, .e 3]), (9, [.i ((X6 w).1), .s ((X6 w).2.1), .o 832 ((X6 w).2.2.1), .o 833 ((X6 w).2.2.2)])] [] (pc 1 (Ve w (by first | omega | (rw [U7]; omega) | exact Nat.le_trans (findWatch_size x i) hp | exact Nat.le_trans (findWatch_sizeS x i) hp)) (pc 8 (O5 s_ d w.1 w.2.1) (pc 9 (KD (Qi w) (Q0 s_ d w.1 w.2.1)) p0))) ?_
 refine Qe ?_
 refine sn Qb [1, 8, 9, 10, 11, 32] [8, 9] (pl 1 (((Y3 (Qi w) (Q0 s_ d w.1 w.2.1))).1) (pl 3 (((Y3 (Qi w) (Q0 s_ d w.1 w.2.1))).2) p0)) ?_
 refine ck (decide (IntKind.i64.wrap (((((Y3 (Qi w) (Q0 s_ d w.1 w.2.1))).1).length : Int) + ((((Y3 (Qi w) (Q0 s_ d w.1 w.2.1))).2).length : Int)) > (0 : Int))) (fun h1 => ?_) (fun h1 => ?_)
 ·
  have h1d := of_decide_eq_true h1
  refine wB 9 3 (.own true 833) ((X6 w).2.2.2) (fun hw2 hl3 => ?_)
  refine qu Qb [] [1, 10, 11] [(9, [.i ((X6 w).1), .s ((X6 w).2.1), .o 832 ((X6 w).2.2.1), .slc (.own true 2560) 3 ((eL ((X6 w).2.2.2)) ++ [[.i version, .h (((Y3 (Qi w) (Q0 s_ d w.1 w.2.1))).1), .h (((Y3 (Qi w) (Q0 s_ d w.1 w.2.1))).2)]])])] [9] (pa ((X6 w).2.2.2) [(version, ((Y3 (Qi w) (Q0 s_ d w.1 w.2.1))).1, ((Y3 (Qi w) (Q0 s_ d w.1 w.2.1))).2)] p0) ?_
  refine eqn [] [] [(9, [.i ((X6 w).1), .s ((X6 w).2.1), .o 832 ((X6 w).2.2.1), .o 2560 ((X6 w).2.2.2 ++ [(version, ((Y3 (Qi w) (Q0 s_ d w.1 w.2.1))).1, ((Y3 (Qi w) (Q0 s_ d w.1 w.2.1))).2)])])] [9] (by rw [show ((eL ((X6 w).2.2.2)) ++ [[.i version, .h (((Y3 (Qi w) (Q0 s_ d w.1 w.2.1))).1), .h (((Y3 (Qi w) (Q0 s_ d w.1 w.2.1))).2)]]) = (eL ((X6 w).2.2.2 ++ [(version, ((Y3 (Qi w) (Q0 s_ d w.1 w.2.1))).1, ((Y3 (Qi w) (Q0 s_ d w.1 w.2.1))).2)])) from Ky (rfl) (rfl)]; first | done | kernel_rfl) ?_
  refine sn Qb [8] [8] (p0) ?_
  refine Qf ?_
  exact pz [] (show Xw w version s_ d = _ from Q8 h1 (rfl)) (fun z => .a [.i z.1, .s z.2.1, .o 0 z.2.2.1, .o 1 z.2.2.2])
 ·
  refine Qj ?_
  refine tn Qb [8] [8] (p0) ?_
  refine Qf ?_
  exact pz [] (show Xw w version s_ d = _ from Qn h1 (rfl)) (fun z => .a [.i z.1, .s z.2.1, .o 0 z.2.2.1, .o 1 z.2.2.2])
def Zg (w : Yu) (version : Int) (s_ : Q5) (d : (List Y5)) : Yu := (bif (decide (((((Yy (Q4 (Qm w)) (Xg s_ d ((Qm w).1) ((Qm w).2.1)))).1).length : Int) > (0 : Int)) || decide (((((Yy (Q4 (Qm w)) (Xg s_ d ((Qm w).1) ((Qm w).2.1)))).2).length : Int) > (0 : Int))) then ((Qm w).1, (Qm w).2.1, (Qm w).2.2.1, (Qm w).2.2.2 ++ [(version, ((Yy (Q4 (Qm w)) (Xg s_ d ((Qm w).1) ((Qm w).2.1)))).1, ((Yy (Q4 (Qm w)) (Xg s_ d ((Qm w).1) ((Qm w).2.1)))).2)]) else (Qm w))
theorem Ab (w : Yu) (version : Int) (s_ : Q5) (d : (List Y5)) (hp : GoD.size w ≤ 536870912) : ACalls Tryz.prog 12 [.a [.i w.1, .s w.2.1, .h w.2.2.1, .h w.2.2.2], .i version, .a [.h s_.1, .h s_.2.1, .i s_.2.2], .h d] (.a [.i ((Zg w version s_ d).1), .s ((Zg w version s_ d).2.1), .o 0 ((Zg w version s_ d).2.2.1), .o 1 ((Zg w version s_ d).2.2.2)]) := by
 refine en Qb Tryz.func12 fun w0 F0 hG => ?_
 have hcl := AO w
 have hse := Pm w
 refine sn Qb [1, 3, 4, 6, 8] [4, 6, 8] (p0) ?_
 refine tn Qb [1, 3, 4, 6, 8] [4, 6, 8] (pc 1 (KC w) p0) ?_
 refine tU Qb Yn [(4, .p 4 0), (8, .p 8 0), (9, .o 1472 (((Yy (Q4 (Qm w)) (Xg s_ d ((Qm w).1) ((Qm w).2.1)))).1)), (10, .o 1473 (((Yy (Q4 (Qm w)) (Xg s_ d ((Qm w).1) ((Qm w).2.1)))).2))] [0, 2, 3] [(4, [.i ((Qm w).1), .s ((Qm w).2.1), .o 768 ((Qm w).2.2.1), .o 769 ((Qm w).2.2.2)]), (8, [.i 0, .s ⟨#[]⟩, .e 1, .e 3])] [] (pc 1 (Fx (Qm w) (by first | omega | (rw [U7]; omega) | exact Nat.le_trans (findWatch_size x i) hp | exact Nat.le_trans (findWatch_sizeS x i) hp)) (pc 8 (Hb s_ d ((Qm w).1) ((Qm w).2.1)) (pc 9 (KE (Q4 (Qm w)) (Xg s_ d ((Qm w).1) ((Qm w).2.1))) p0))) ?_
 refine Qe ?_
 refine Qe ?_
 refine jn [(33, .b (decide (((((Yy (Q4 (Qm w)) (Xg s_ d ((Qm w).1) ((Qm w).2.1)))).1).length : Int) > (0 : Int)) || decide (((((Yy (Q4 (Qm w)) (Xg s_ d ((Qm w).1) ((Qm w).2.1)))).2).length : Int) > (0 : Int))))] [] [] [] (decide (((((Yy (Q4 (Qm w)) (Xg s_ d ((Qm w).1) ((Qm w).2.1)))).1).length : Int) > (0 : Int))) (fun h1 => ?_) (fun h1 => ?_) ?_
 ·
  refine ru Qb [(33, .b true)] [] [] [] (pl 1 (((Yy (Q4 (Qm w)) (Xg s_ d ((Qm w).1) ((Qm w).2.1)))).1) (pt 2 h1 p0)) ?_
  exact ⟨rfl, Qd (by rw [h1]; first | done | kernel_rfl)⟩
 ·
  refine rn Qb [1, 4, 8, 9, 10, 33] [4, 8] (pl 1 (((Yy (Q4 (Qm w)) (Xg s_ d ((Qm w).1) ((Qm w).2.1)))).1) (pf 2 h1 (pl 5 (((Yy (Q4 (Qm w)) (Xg s_ d ((Qm w).1) ((Qm w).2.1)))).2) p0))) ?_
  exact ⟨rfl, Qd (by rw [h1]; first | done | kernel_rfl)⟩
 refine ck (decide (((((Yy (Q4 (Qm w)) (Xg s_ d ((Qm w).1) ((Qm w).2.1)))).1).length : Int) > (0 : Int)) || decide (((((Yy (Q4 (Qm w)) (Xg s_ d ((Qm w).1) ((Qm w).2.1)))).2).length : Int) > (0 : Int))) (fun h2 => ?_) (fun h2 => ?_)
 ·
  refine wB 4 3 (.own true 769) ((Qm w).2.2.2) (fun hw3 hl4 => ?_)
  refine ru Qb [] [1, 9, 10, 33] [(4, [.i ((Qm w).1), .s ((Qm w).2.1), .o 768 ((Qm w).2.2.1), .slc (.own true 2624) 3 ((eL ((Qm w).2.2.2)) ++ [[.i version, .h (((Yy (Q4 (Qm w)) (Xg s_ d ((Qm w).1) ((Qm w).2.1)))).1), .h (((Yy (Q4 (Qm w)) (Xg s_ d ((Qm w).1) ((Qm w).2.1)))).2)]])])] [4] (pa ((Qm w).2.2.2) [(version, ((Yy (Q4 (Qm w)) (Xg s_ d ((Qm w).1) ((Qm w).2.1)))).1, ((Yy (Q4 (Qm w)) (Xg s_ d ((Qm w).1) ((Qm w).2.1)))).2)] p0) ?_
  refine eqn [] [] [(4, [.i ((Qm w).1), .s ((Qm w).2.1), .o 768 ((Qm w).2.2.1), .o 2624 ((Qm w).2.2.2 ++ [(version, ((Yy (Q4 (Qm w)) (Xg s_ d ((Qm w).1) ((Qm w).2.1)))).1, ((Yy (Q4 (Qm w)) (Xg s_ d ((Qm w).1) ((Qm w).2.1)))).2)])])] [4] (by rw [show ((eL ((Qm w).2.2.2)) ++ [[.i version, .h (((Yy (Q4 (Qm w)) (Xg s_ d ((Qm w).1) ((Qm w).2.1)))).1), .h (((Yy (Q4 (Qm w)) (Xg s_ d ((Qm w).1) ((Qm w).2.1)))).2)]]) = (eL ((Qm w).2.2.2 ++ [(version, ((Yy (Q4 (Qm w)) (Xg s_ d ((Qm w).1) ((Qm w).2.1)))).1, ((Yy (Q4 (Qm w)) (Xg s_ d ((Qm w).1) ((Qm w).2.1)))).2)])) from Ky (rfl) (rfl)]; first | done | kernel_rfl) ?_
  refine sn Qb [8] [8] (p0) ?_
  refine Qf ?_
  exact pz [] (show Zg w version s_ d = _ from Q8 h2 (rfl)) (fun z => .a [.i z.1, .s z.2.1, .o 0 z.2.2.1, .o 1 z.2.2.2])
 ·
  refine Qj ?_
  refine sn Qb [8] [8] (p0) ?_
  refine Qf ?_
  exact pz [] (show Zg w version s_ d = _ from Qn h2 (rfl)) (fun z => .a [.i z.1, .s z.2.1, .o 0 z.2.2.1, .o 1 z.2.2.2])
end Go.Proofs.YtockoklfegpgeaaGreat
namespace Go.Proofs.YtockoklfegpgeaaGreat
open Go.RowKit
theorem LJ {R : Type} {f : Nat → Int → List Int → Rd R (List Int) (List Int)} {e : Nat → List Int → List Int} {b : List Int} (hf : ∀ k a s, f k a s = bif (!(Xx b a)) then .next (s ++ [a]) else .next s) (he : ∀ k s, e k s = s) (l : List Int) : Xm f e l 0 [] = .brk (less l b) := by
  rw [Hz (p := fun x => !b.contains x) (g := fun x => x) (fun k a s => by rw [hf, L3])]
  rw [he, List.nil_append, List.map_id']
  rfl
theorem EL (a b : List Int) : Yy a b = Y3 a b := by
  unfold Yy Y3
  rw [LJ (f := Gb a) (e := Gc) (b := a) (fun _ _ _ => rfl) (fun _ _ => rfl), LJ (f := Gd b) (e := Ge) (b := b) (fun _ _ _ => rfl) (fun _ _ => rfl)]
  rfl
theorem QG : ∀ (l : List Yp) (k : Nat) (s : List Int), ∃ t, Xm K2 W5 l k s = .brk t ∧ t.length ≤ s.length + GoD.size l
  | [], k, s => ⟨s, rfl, Nat.le_add_right _ _⟩
  | x :: l, k, s => by
    obtain ⟨t, h1, h2⟩ := QG l (k + 1) (Zs s x.2.1 x.2.2)
    refine ⟨t, h1, ?_⟩
    have h3 := D7 s x.2.1 x.2.2
    have h4 := Rk x
    have h5 : GoD.size (x :: l) = GoD.size [x] + GoD.size l := Pi [x] l
    rw [Pj] at h5
    omega
theorem Nv (w : Yu) : List.length (Qi w) ≤ GoD.size w := by
  have hw := Vp w
  unfold Qi Qp
  obtain ⟨t, h1, h2⟩ := QG w.2.2.2 0 w.2.2.1
  rw [h1]
  simp only [Out.on]
  omega
theorem UG (w : Yu) (v : Int) (s : Q5) (d : List Y5) (hp : GoD.size w ≤ 536870912) : Zg w v s d = Xw w v s d := by
  unfold Zg Xw
  rw [U7, Fy, YX, Gq, EL]
  have h1 := Nv w
  have h2 := Cr s d w.1 w.2.1
  unfold Y3
  have h3 := Fw (Q0 s d w.1 w.2.1) (Qi w)
  have h4 := Fw (Qi w) (Q0 s d w.1 w.2.1)
  generalize less (Q0 s d w.1 w.2.1) (Qi w) = a at h3 ⊢
  generalize less (Qi w) (Q0 s d w.1 w.2.1) = b at h4 ⊢
  have hw : IntKind.i64.wrap ((a.length : Int) + (b.length : Int)) = (a.length : Int) + (b.length : Int) := IntWalk.i64_in _ (by omega)
  simp only [hw]
  have hc : (decide ((a.length : Int) > (0 : Int)) || decide ((b.length : Int) > (0 : Int))) = decide ((a.length : Int) + (b.length : Int) > (0 : Int)) := by
    rw [Bool.eq_iff_iff]; simp only [Bool.or_eq_true, decide_eq_true_eq]; omega
  rw [hc]
theorem QH (w : Yu) (v : Int) (s : Q5) (d : List Y5) : GoD.size (Xw w v s d) ≤ 2 * GoD.size w + 13 := by
  unfold Xw
  rw [Fy]
  have h1 := Nv w
  have h2 := Cr s d w.1 w.2.1
  unfold Y3
  have h3 := Fw (Q0 s d w.1 w.2.1) (Qi w)
  have h4 := Fw (Qi w) (Q0 s d w.1 w.2.1)
  generalize less (Q0 s d w.1 w.2.1) (Qi w) = a at h3 ⊢
  generalize less (Qi w) (Q0 s d w.1 w.2.1) = b at h4 ⊢
  cases decide (IntKind.i64.wrap ((a.length : Int) + (b.length : Int)) > (0 : Int)) with
  | false => simp only [cond_false]; omega
  | true =>
    simp only [cond_true]
    have hw := Vp w
    rw [Vp]
    show w.2.1.size + (List.length w.2.2.1 + GoD.size (w.2.2.2 ++ [((v, a, b) : Yp)])) ≤ _
    rw [Pi, Pj]
    have he : GoD.size ((v, a, b) : Yp) = 0 + (GoD.size a + GoD.size b) := rfl
    rw [Gr, Gr] at he
    omega
end Go.Proofs.YtockoklfegpgeaaGreat
namespace Go.Proofs.YtockoklfegpgeaaGreat
open Go.RowKit
theorem EM (k : Nat) : (nth ([⟨#[100, 97]⟩, ⟨#[100, 98]⟩, ⟨#[100, 99]⟩, ⟨#[100, 100]⟩] : List ByteArray) k).size ≤ 2 := by
  match k with
  | 0 | 1 | 2 | 3 => exact Nat.le_refl 2
  | n + 4 => exact Nat.zero_le 2
theorem LL (code : List UInt8) (ci : Nat) (ch : Int) : ∀ a, a ∈ (K1 code ci ch).1 → a.1.size ≤ 2 := by
  unfold K1
  obtain ⟨t, ht⟩ := Mo (f := Zu code) (fun s r => by
    unfold Zu lt
    generalize Qk code s.2.2.1 s.2.2.2 4 = x
    simp only
    generalize decide (s.2.1 < 1 + x.1) = c
    cases c <;> simp) 5 ([], 0, ci, ch)
  have := Pa (f := Zu code) (I := fun s => ∀ a, a ∈ s.1 → a.1.size ≤ 2) (J := fun t => ∀ a, a ∈ t.1 → a.1.size ≤ 2) (fun s s' hi h => by
    unfold Zu lt at h
    generalize Qk code s.2.2.1 s.2.2.2 4 = x at h
    simp only at h
    revert h
    generalize decide (s.2.1 < 1 + x.1) = c
    intro h
    cases c with
    | true =>
      simp only [cond_true] at h
      have h := Rd.next.inj h
      rw [← h]
      intro a ha
      rcases List.mem_append.1 ha with ha | ha
      · exact hi a ha
      · rw [List.mem_singleton.1 ha]; exact EM _
    | false => simp at h) (fun s t hi h => by
    unfold Zu lt at h
    generalize Qk code s.2.2.1 s.2.2.2 4 = x at h
    simp only at h
    revert h
    generalize decide (s.2.1 < 1 + x.1) = c
    intro h
    cases c with
    | true => simp at h
    | false =>
      simp only [cond_false] at h
      have h := Rd.brk.inj h
      rw [← h]
      exact hi) (n := 5) (s := ([], 0, ci, ch)) (t := t) (by intro a ha; simp at ha) (Iq code ci ch) ht
  rw [ht]
  exact this
theorem UH (code : List UInt8) (ci : Nat) (ch : Int) (k : Nat) : (nth (J9 code ci ch).1 k).1.size ≤ 2 := by
  have key : ∀ a, a ∈ (J9 code ci ch).1 → a.1.size ≤ 2 := by
    unfold J9 lt
    have h11 := LL code ci ch
    generalize K1 code ci ch = x at h11
    obtain ⟨t, ht⟩ := Mo (f := Ju) (fun s r => by
      unfold Ju
      generalize (decide ((s.length : Int) > (0 : Int)) && (!(Kc s))) = c
      cases c <;> simp) (List.length x.1 + 1) x.1
    have hj := Pa (f := Ju) (I := fun s => ∀ a, a ∈ s → a.1.size ≤ 2) (J := fun t => ∀ a, a ∈ t → a.1.size ≤ 2) (fun s s' hi h => by
      unfold Ju at h
      revert h
      generalize (decide ((s.length : Int) > (0 : Int)) && (!(Kc s))) = c
      intro h
      cases c with
      | true =>
        simp only [cond_true] at h
        have h := Rd.next.inj h
        rw [← h]
        exact fun a ha => hi a (List.mem_of_mem_take ha)
      | false => simp at h) (fun s t hi h => by
      unfold Ju at h
      revert h
      generalize (decide ((s.length : Int) > (0 : Int)) && (!(Kc s))) = c
      intro h
      cases c with
      | true => simp at h
      | false =>
        simp only [cond_false] at h
        have h := Rd.brk.inj h
        rw [← h]; exact hi) (n := List.length x.1 + 1) (s := x.1) (t := t) h11 (Pd code x.1) ht
    simp only [ht, Out.on]
    cases ((t.length : Int) == 0) with
    | true =>
      intro a ha
      obtain rfl := List.mem_singleton.1 ha
      exact Nat.le_refl 2
    | false => exact hj
  by_cases hk : k < (J9 code ci ch).1.length
  · exact key _ (List.mem_of_getElem? (Ho hk))
  · have : nth (J9 code ci ch).1 k = default := by simp [nth, List.getD, List.getElem?_eq_none (Nat.le_of_not_lt hk)]
    rw [this]; exact Nat.zero_le 2
def W29 (i : Int) (w : Yu) : Prop := (i = 1 ∧ GoD.size w ≤ 100) ∨ (i = 2 ∧ GoD.size w ≤ 213) ∨ (i = 3 ∧ GoD.size w ≤ 439) ∨ (i = 4 ∧ GoD.size w ≤ 891) ∨ (i = 5 ∧ GoD.size w ≤ 1795)
theorem QI {i : Int} {w : Yu} (h : W29 i w) : GoD.size w ≤ 1795 := by unfold W29 at h; omega
theorem TP {i : Int} {w : Yu} (h : W29 i w) : 1 ≤ i := by unfold W29 at h; omega
theorem UI (w : Yu) (v : Int) (s : Q5) (d : List Y5) (hp : GoD.size w ≤ 536870912) : GoD.size (Zg w v s d) ≤ 2 * GoD.size w + 13 := by rw [UG w v s d hp]; exact QH w v s d
theorem CW {i : Int} {w : Yu} {v : Int} {s : Q5} {d : List Y5} (h : W29 i w) (hi : i ≤ 4) : W29 (i + 1) (Zg w v s d) := by
  have h1 := QI h
  have h2 := UI w v s d (by omega)
  unfold W29 at h ⊢
  omega
theorem UJ {s : Q5} {d : List Y5} {u : Int} {n : ByteArray} (h : n.size ≤ 2) : W29 1 (Yj s d u n) := by
  refine .inl ⟨rfl, ?_⟩
  rw [Vp]
  have h1 := XC s d u n
  have h2 : GoD.size (Yj s d u n).2.2.2 = 0 := rfl
  rw [h2]
  show n.size + (List.length (Xg s d u n) + 0) ≤ 100
  omega
theorem Pn (code : List UInt8) (ci : Nat) (ch : Int) : (Kl code ci ch).1.length ≤ 7 := by
  unfold Kl
  obtain ⟨s', h1, h2⟩ := CQ (f := Cu code) (e := Ey) (I := fun k s => s.1.length ≤ k) (fun k s hi => by
    unfold Cu lt
    generalize Y2 code s.2.1 s.2.2 2 = x
    dsimp only
    cases x.1 with
    | true => exact ⟨(s.1 ++ [((k + 1 : Nat) : Int)], x.2.1, x.2.2), rfl, by simp; omega⟩
    | false => exact ⟨(s.1, x.2.1, x.2.2), rfl, Nat.le_succ_of_le hi⟩) 7 0 ([], ci, ch) (Nat.zero_le _)
  have h1 : Vz (Cu code) Ey (Int.toNat ((8 : Int) - 1)) 0 ([], ci, ch) = _ := h1
  rw [h1]
  exact h2
/-! ### a watch that is looked through -/
theorem EN {w : Yu} {k : Nat} {a : Yp} {s : List Int} (hx : w.2.2.2[k]? = some a) (hs : List.length s ≤ List.length w.2.2.1 + GoD.size (List.take k w.2.2.2)) (hp : GoD.size w ≤ 268435456) : List.length s + GoD.size [a] ≤ 536870912 := by
  have h1 := Rj hx
  have h2 := L4 w.2.2.2 (k + 1)
  have h3 := Vp w
  rw [Pj]
  omega
theorem EO {w : Yu} {k : Nat} {a : Yp} {s : List Int} (hx : w.2.2.2[k]? = some a) (hs : List.length s ≤ List.length w.2.2.1 + GoD.size (List.take k w.2.2.2)) : List.length (X8 s [a]) ≤ List.length w.2.2.1 + GoD.size (List.take (k + 1) w.2.2.2) := by
  rw [Pk]
  show (Zs s a.2.1 a.2.2).length ≤ _
  have h1 := D7 s a.2.1 a.2.2
  have h2 := Rj hx
  have h3 := Rk a
  omega
end Go.Proofs.YtockoklfegpgeaaGreat
