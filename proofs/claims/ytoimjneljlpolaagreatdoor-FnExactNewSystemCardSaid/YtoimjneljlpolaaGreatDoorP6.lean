/- Texts of this proof, put together by a program: Yne, Yng, Ynh, Yni, Ma, He, Lw, Sz, Fam. -/
import Derived.Test.YtoimjneljlpolaaGreatDoorP5
import Derived.KernelRfl
import Derived.Test.YtoimjneljlpolaaGreatDoorProg
import Derived.Laws.IdiomStrings
set_option linter.unusedVariables false
set_option linter.unusedSimpArgs false
namespace Go.Proofs.YtoimjneljlpolaaGreatDoor
section
open Go.RowKit
open GoE (enc wide)
def Qq (s_ : ByteArray) : Int × Xq × Bool := (0, (([], [], 0), []), false)
theorem implDecodeSlot_a (s_ : ByteArray) (hs : s_ = ⟨#[]⟩) : ACalls Tryz.prog 124 [.s s_] (.tup [(false, [.i (((Qq s_)).1)]), (true, [.o 0 ((((Qq s_)).2.1).1.1), .o 1 ((((Qq s_)).2.1).1.2.1), .i ((((Qq s_)).2.1).1.2.2), .o 2 ((((Qq s_)).2.1).2)]), (false, [.b (((Qq s_)).2.2)])]) := by
 refine en Qa Tryz.func124 fun w0 F0 hG => ?_
 have hsz : ByteArray.size s_ = 0 := by rw [hs]; rfl
 refine sn Qa [0, 2, 3, 4] [3] (p0) ?_
 refine stT 0 0 s_ (fun hs1 => ?_)
 refine tn Qa [0, 2, 3, 4, 5] [3] (pc 1 (stringsSplit_a s_ 10 (by omega)) p0) ?_
 refine Qb ?_
 refine tu Qa [(2, .i 0), (3, .p 3 0), (4, .b false), (5, .o 704 (strCut 10 s_)), (14, .b true)] [] [(3, [.e 2, .e 5, .i 0, .e 2])] [] (pl 1 (strCut 10 s_) (pe 2 (show .b (decide (((strCut 10 s_).length : Int) < (2 : Int))) = .b true from Qk (one_line hs)) p0)) ?_
 refine ckT ?_
 refine su Qa [] [14] [] [] (p0) ?_
 refine opn [(true, 3, 0, true, 384000, 2), (true, 3, 1, true, 384001, 5), (true, 3, 3, true, 384002, 2)] ?_
 refine Qf ?_
 exact pz [] (show Qq s_ = (0, (([], [], 0), []), false) from rfl) (fun z => .tup [(false, [.i z.1]), (true, [.o 0 z.2.1.1.1, .o 1 z.2.1.1.2.1, .i z.2.1.1.2.2, .o 2 z.2.1.2]), (false, [.b z.2.2])])
def Qr (s_ : ByteArray) : Int × Xq × Bool := (0, (([], [], 0), []), false)
theorem specDecodeSlot_a (s_ : ByteArray) (hs : s_ = ⟨#[]⟩) : ACalls Tryz.prog 81 [.s s_] (.tup [(false, [.i (((Qr s_)).1)]), (true, [.o 0 ((((Qr s_)).2.1).1.1), .o 1 ((((Qr s_)).2.1).1.2.1), .i ((((Qr s_)).2.1).1.2.2), .o 2 ((((Qr s_)).2.1).2)]), (false, [.b (((Qr s_)).2.2)])]) := by
 refine en Qa Tryz.func81 fun w0 F0 hG => ?_
 have hsz : ByteArray.size s_ = 0 := by rw [hs]; rfl
 refine sn Qa [0, 2, 3, 4] [3] (p0) ?_
 refine tn Qa [0, 2, 3, 4, 5] [3] (pc 1 (specl27Cut_a s_ (by omega)) p0) ?_
 refine Qb ?_
 refine tu Qa [(2, .i 0), (3, .p 3 0), (4, .b false), (5, .o 704 (specl27Cut s_)), (14, .b true)] [] [(3, [.e 2, .e 5, .i 0, .e 2])] [] (pl 1 (specl27Cut s_) (pe 2 (show .b (((specl27Cut s_).length : Int) == (0 : Int)) = .b true from Qk (no_line hs)) p0)) ?_
 refine ckT ?_
 refine su Qa [] [14] [] [] (p0) ?_
 refine opn [(true, 3, 0, true, 384000, 2), (true, 3, 1, true, 384001, 5), (true, 3, 3, true, 384002, 2)] ?_
 refine Qf ?_
 exact pz [] (show Qr s_ = (0, (([], [], 0), []), false) from rfl) (fun z => .tup [(false, [.i z.1]), (true, [.o 0 z.2.1.1.1, .o 1 z.2.1.1.2.1, .i z.2.1.1.2.2, .o 2 z.2.1.2]), (false, [.b z.2.2])])
def Xk (s_ : (List X4)) : Yv := (s_, [], 1)
theorem implNewStore_a (s_ : (List X4)) : ACalls Tryz.prog 26 [.h s_] (.a [.o 0 ((Xk s_).1), .o 1 ((Xk s_).2.1), .i ((Xk s_).2.2)]) := by
 refine en Qa Tryz.func26 fun w0 F0 hG => ?_
 refine sn Qa [0, 2] [2] (p0) ?_
 refine tn Qa [2] [2] (pc 1 (cloneField_a s_) p0) ?_
 refine opn [(true, 2, 1, true, 384000, 5)] ?_
 refine Qf ?_
 exact pz [] (show Xk s_ = (s_, [], 1) from rfl) (fun z => .a [.o 0 z.1, .o 1 z.2.1, .i z.2.2])
def Xv (s_ : (List X4)) : Yv := (s_, [], 1)
theorem specNewStore_a (s_ : (List X4)) : ACalls Tryz.prog 18 [.h s_] (.a [.o 0 ((Xv s_).1), .o 1 ((Xv s_).2.1), .i ((Xv s_).2.2)]) := by
 refine en Qa Tryz.func18 fun w0 F0 hG => ?_
 refine sn Qa [0, 2] [2] (p0) ?_
 refine wT 0 0 .sh s_ (fun hw1 hl2 => ?_)
 refine tn Qa [2] [2] (po 2 (.flat) (px (ob_len (n := (([] : List (List PV)).length + ((eL s_) : List (List PV)).length)) (len_of (rfl) (Ym s_) (by first | omega | (simp only [List.length_cons, List.length_nil]; omega) | (simp; omega) | simp))) (px (ob_flat (flat_eL s_)) p0))) ?_
 refine opn [(true, 2, 1, true, 384000, 5)] ?_
 refine Qf ?_
 exact pz [] (show Xv s_ = (s_, [], 1) from rfl) (fun z => .a [.o 0 z.1, .o 1 z.2.1, .i z.2.2])
def Kv (n : Int) : Bool := (!(Xj n 0 999))
theorem implIsValidQuota_1_a (n : Int) : ACalls Tryz.prog 55 [.i n] (.b (Kv n)) := by
 refine en Qa Tryz.func55 fun w0 F0 hG => ?_
 refine sn Qa [0, 2] [] (p0) ?_
 refine tn Qa [2] [] (pc 1 (Zc n 0 999) p0) ?_
 refine Qf ?_
 exact pb [] (show Kv n = (!(Xj n 0 999)) from rfl)
def Yf (k0 : Nat) (a0 : Int) (_ : Unit) : Rd (Int) (Unit) (Unit) := (bif (Kv a0) then (.ret ((k0 : Nat) : Int)) else (.next ()))
def Yt (_ : Nat) (_ : Unit) : Unit := ()
def Zb (s_ : (List Int)) : Int := (Out.on (Xz Yf Yt s_ 0 ()) (fun _ => -1))
theorem slicesIndexFunc_int_implIsValidQuota_1_a (s_ : (List Int)) : ACalls Tryz.prog 86 [.h s_, .one (.fnr 55 [])] (.i (Zb s_)) := by
 refine en Qa Tryz.func86 fun w0 F0 hG => ?_
 refine sn Qa [0, 1, 4] [] (p0) ?_
 refine Qb ?_
 refine tn Qa [0, 1, 4, 7, 8] [] (pl 1 s_ p0) ?_
 refine mz [(4, .i 0), (7, .i (s_.length : Int)), (8, .i 0)] [] [] [] ?_
 refine wT 0 0 .sh s_ (fun hw1 hl2 => ?_)
 refine blL0 Yf Yt s_ () (fun k0 _ => [(8, .i ((k0 : Nat) : Int))]) [8] (fun _ => []) [0, 1, 7, 8] wf0 (fun k0 s0 hk0 hI0 => ?_) (fun k0 s0 hk0 hI0 => ?_) (fun y0 hD0 => ?_)
 ·
  obtain ⟨a0, hx0⟩ := Xt (l := s_) (i := k0) hk0
  refine sn Qa [0, 1, 4, 7, 8, 9] [] (pe 0 (Qk (decide_eq_true (p := ((k0 : Nat) : Int) < (s_.length : Int)) (by omega))) p0) ?_
  refine Qb ?_
  refine ckT ?_
  refine Qg ?_
  refine Qb ?_
  refine Qs ?_
  refine tn Qa [0, 1, 4, 5, 7, 8] [] (p0) ?_
  refine tu Qa [(5, .i ((k0 : Nat) : Int)), (16, .b (Kv a0))] [] [] [] (pn 3 hx0 (pc 5 (implIsValidQuota_1_a a0) p0)) ?_
  refine ck (Kv a0) (fun h3 => ?_) (fun h3 => ?_)
  ·
   refine sn Qa [0, 1, 4, 7, 8] [] (p0) ?_
   refine Qf ?_
   have hr4 : (Xz Yf Yt s_ 0 ()) = .ret ((k0 : Nat) : Int) := Ja hx0 (Xw h3 (rfl)) hI0
   exact pi [] (on_r hr4)
  refine Qg ?_
  refine rn Qa [0, 1, 4, 7, 8] [] (pe 0 (J7 (Qp k0 (by omega))) p0) ?_
  exact xw _ (Qu hx0 (Qm h3 (rfl)) hI0)
 ·
  refine sn Qa [0, 1, 4, 7, 8, 9] [] (pe 0 (Qk (decide_eq_false (p := ((k0 : Nat) : Int) < (s_.length : Int)) (by omega))) p0) ?_
  refine Qb ?_
  refine ckF ?_
  refine Q7 ?_
  exact xw _ (Xx hk0 (rfl) hI0)
 refine sn Qa [4] [] (p0) ?_
 refine Qf ?_
 exact pi [] (on_b hD0 (rfl))
def X0 (s_ : (List Int)) : Bool := decide ((Zb s_) ≥ (0 : Int))
theorem slicesContainsFunc_int_implIsValidQuota_1_a (s_ : (List Int)) : ACalls Tryz.prog 54 [.h s_, .one (.fnr 55 [])] (.b (X0 s_)) := by
 refine en Qa Tryz.func54 fun w0 F0 hG => ?_
 refine sn Qa [0, 1, 4] [] (p0) ?_
 refine tn Qa [4] [] (pc 2 (slicesIndexFunc_int_implIsValidQuota_1_a s_) p0) ?_
 refine Qf ?_
 exact pb [] (show X0 s_ = decide ((Zb s_) ≥ (0 : Int)) from rfl)
def Zu (quota : (List Int)) : Bool := (((quota.length : Int) == (3 : Int)) && (!(X0 quota)))
theorem implIsValidQuota_a (quota : (List Int)) : ACalls Tryz.prog 24 [.h quota] (.b (Zu quota)) := by
 refine en Qa Tryz.func24 fun w0 F0 hG => ?_
 refine sn Qa [0, 2] [] (p0) ?_
 refine Qb ?_
 refine mz [(2, .b false)] [] [] [] ?_
 refine jn [(2, .b (((quota.length : Int) == (3 : Int)) && (!(X0 quota))))] [0, 2] [] [] ((quota.length : Int) == (3 : Int)) (fun h1 => ?_) (fun h1 => ?_) ?_
 ·
  refine rn Qa [2] [] (pl 1 quota (pt 2 h1 (pc 5 (slicesContainsFunc_int_implIsValidQuota_1_a quota) p0))) ?_
  exact ⟨rfl, Qd (by rw [h1] <;> kernel_rfl)⟩
 ·
  refine rn Qa [2] [] (pl 1 quota (pf 2 h1 p0)) ?_
  exact ⟨rfl, Qd (by rw [h1] <;> kernel_rfl)⟩
 refine Qf ?_
 exact pb [] (show Zu quota = (((quota.length : Int) == (3 : Int)) && (!(X0 quota))) from rfl)
def Vp (_ : Nat) (a0 : Int) (_ : Unit) : Rd (Bool) (Unit) (Unit) := (bif (!(Qo a0 0 999)) then (.ret false) else (.next ()))
def specIsValidQuota_e0 (_ : Nat) (_ : Unit) : Unit := ()
def J6 (quota : (List Int)) : Bool := (Out.on (Xz Vp specIsValidQuota_e0 quota 0 ()) (fun _ => ((quota.length : Int) == (3 : Int))))
theorem specIsValidQuota_a (quota : (List Int)) : ACalls Tryz.prog 19 [.h quota] (.b (J6 quota)) := by
 refine en Qa Tryz.func19 fun w0 F0 hG => ?_
 refine sn Qa [0, 2] [] (p0) ?_
 refine Qb ?_
 refine tn Qa [0, 2, 3] [] (p0) ?_
 refine mz [(2, .b false), (3, .i 0)] [] [] [] ?_
 refine wT 0 0 .sh quota (fun hw1 hl2 => ?_)
 refine blL0 Vp specIsValidQuota_e0 quota () (fun k0 _ => [(3, .i ((k0 : Nat) : Int))]) [3] (fun _ => []) [3] wf0 (fun k0 s0 hk0 hI0 => ?_) (fun k0 s0 hk0 hI0 => ?_) (fun y0 hD0 => ?_)
 ·
  obtain ⟨a0, hx0⟩ := Xt (l := quota) (i := k0) hk0
  refine Qb ?_
  refine sn Qa [0, 2, 3, 7] [] (pl 2 quota (pe 3 (Qk (decide_eq_true (p := ((k0 : Nat) : Int) < (quota.length : Int)) (by omega))) p0)) ?_
  refine ckT ?_
  refine Qg ?_
  refine Qb ?_
  refine Qs ?_
  refine tn Qa [0, 2, 3, 15] [] (pn 2 hx0 (pc 4 (Yb a0 0 999) p0)) ?_
  refine ck (!(Qo a0 0 999)) (fun h3 => ?_) (fun h3 => ?_)
  ·
   refine tu Qa [] [] [] [] (p0) ?_
   refine Qf ?_
   have hr4 : (Xz Vp specIsValidQuota_e0 quota 0 ()) = .ret false := Ja hx0 (Xw h3 (rfl)) hI0
   exact pb [] (on_r hr4)
  have h3n : (Qo a0 0 999) = true := Zl h3
  have h3nw := l01In_iff.1 h3n
  refine Qg ?_
  refine qu Qa [(3, .i ((k0 + 1 : Nat) : Int))] [3] [] [] (pe 1 (J7 (Qp k0 (by omega))) p0) ?_
  exact xw _ (Qu hx0 (Qm h3 (rfl)) hI0)
 ·
  refine Qb ?_
  refine sn Qa [0, 2, 3, 7] [] (pl 2 quota (pe 3 (Qk (decide_eq_false (p := ((k0 : Nat) : Int) < (quota.length : Int)) (by omega))) p0)) ?_
  refine ckF ?_
  refine Q7 ?_
  exact xw _ (Xx hk0 (rfl) hI0)
 refine sn Qa [2] [] (pl 1 quota p0) ?_
 refine Qf ?_
 exact pb [] (on_b hD0 (rfl))
def Yq (f : Zr) : Zr := f
theorem implcopyFile_a (f : Zr) : ACalls Tryz.prog 122 [.a [.i f.1, .i f.2.1, .b f.2.2.1, .i f.2.2.2.1, .h f.2.2.2.2]] (.a [.i ((Yq f).1), .i ((Yq f).2.1), .b ((Yq f).2.2.1), .i ((Yq f).2.2.2.1), .o 0 ((Yq f).2.2.2.2)]) := by
 refine en Qa Tryz.func122 fun w0 F0 hG => ?_
 refine sn Qa [1, 2] [1, 2] (p0) ?_
 refine tn Qa [1, 2] [1, 2] (pc 2 (cloneAttr_a f.2.2.2.2) p0) ?_
 refine tu Qa [(2, .p 2 0)] [0] [(2, [.i f.1, .i f.2.1, .b f.2.2.1, .i f.2.2.2.1, .o 320 f.2.2.2.2])] [] (p0) ?_
 refine Qf ?_
 exact pz [] (show Yq f = f from rfl) (fun z => .a [.i z.1, .i z.2.1, .b z.2.2.1, .i z.2.2.2.1, .o 0 z.2.2.2.2])
def implcopyFiles_f0 (_ : Nat) (a0 : Zr) (s0 : (List Zr)) : Rd ((List Zr)) ((List Zr)) ((List Zr)) := (.next (s0 ++ [(Yq a0)]))
def implcopyFiles_e0 (_ : Nat) (s0 : (List Zr)) : (List Zr) := s0
def implcopyFiles (l : (List Zr)) : (List Zr) := (Out.on (Xz implcopyFiles_f0 implcopyFiles_e0 l 0 []) (fun y0 => y0))
theorem implcopyFiles_a (l : (List Zr)) : ACalls Tryz.prog 89 [.h l] (.o 0 (implcopyFiles l)) := by
 refine en Qa Tryz.func89 fun w0 F0 hG => ?_
 refine sn Qa [0, 2] [] (p0) ?_
 refine tn Qa [0, 2, 3] [] (p0) ?_
 refine Qb ?_
 refine tu Qa [(2, .e 0), (3, .one (.slc (.own true 384) 5 [])), (7, .h l), (8, .i (l.length : Int)), (9, .i 0)] [0] [] [] (pl 1 l p0) ?_
 refine wT 7 0 .sh l (fun hw1 hl2 => ?_)
 refine blL1 implcopyFiles_f0 implcopyFiles_e0 l [] (fun k0 s0 => [(3, .o 147201 s0), (9, .i ((k0 : Nat) : Int))]) [3, 9] (fun y0 => [(3, .o 147351 y0)]) [3, 7, 8, 9] (fun k0 s0 => List.length s0 ≤ k0) (Yw [(384, 147201)] (by kernel_rfl)) (by simp) (fun k0 s0 hk0 hI0 => ?_) (fun k0 s0 hk0 hI0 => ?_) (fun y0 hD0 => ?_)
 ·
  have hA0_0 := hI0.2
  obtain ⟨a0, hx0⟩ := Xt (l := l) (i := k0) hk0
  refine sn Qa [2, 3, 7, 8, 9, 10] [] (pe 0 (Qk (decide_eq_true (p := ((k0 : Nat) : Int) < (l.length : Int)) (by omega))) p0) ?_
  refine Qb ?_
  refine ckT ?_
  refine Qg ?_
  refine Qb ?_
  refine Qs ?_
  refine tn Qa [2, 3, 5, 7, 8, 9] [5] (pn 0 hx0 p0) ?_
  refine wT 3 0 (.own true 147201) s0 (fun hw3 hl4 => ?_)
  refine qu Qa [(3, .one (.slc (.own true 1088) 5 ((eL s0) ++ [[.i ((Yq a0).1), .i ((Yq a0).2.1), .b ((Yq a0).2.2.1), .i ((Yq a0).2.2.2.1), .h ((Yq a0).2.2.2.2)]])))] [3] [] [] (pc 2 (implcopyFile_a a0) (pa s0 [(Yq a0)] p0)) ?_
  refine eqn [(3, .o 1088 (s0 ++ [(Yq a0)]))] [3] [] [] (by rw [show ((eL s0) ++ [[.i ((Yq a0).1), .i ((Yq a0).2.1), .b ((Yq a0).2.2.1), .i ((Yq a0).2.2.2.1), .h ((Yq a0).2.2.2.2)]]) = (eL (s0 ++ [(Yq a0)])) from app_eL (rfl) (rfl)]; first | done | kernel_rfl) ?_
  refine rn Qa [2, 3, 7, 8, 9] [] (pe 0 (J7 (Qp k0 (by omega))) p0) ?_
  exact Exists.intro (s0 ++ [(Yq a0)]) (And.intro (Yw [(1088, 147201)] (by kernel_rfl)) ⟨Qu hx0 (rfl) hI0.1, by first | omega | (simp; omega) | simp⟩)
 ·
  have hA0_0 := hI0.2
  refine sn Qa [2, 3, 7, 8, 9, 10] [] (pe 0 (Qk (decide_eq_false (p := ((k0 : Nat) : Int) < (l.length : Int)) (by omega))) p0) ?_
  refine Qb ?_
  refine ckF ?_
  refine Q7 ?_
  exact Exists.intro _ (And.intro (Yw [(147201, 147351)] (by kernel_rfl)) (Xx hk0 (rfl) hI0.1))
 refine sn Qa [2] [] (p0) ?_
 refine Qf ?_
 exact po0 [] (on_b hD0 (rfl))
def implcopyStore (s_ : Yv) : Yv := (s_.1, (implcopyFiles s_.2.1), s_.2.2)
theorem implcopyStore_a (s_ : Yv) : ACalls Tryz.prog 58 [.a [.h s_.1, .h s_.2.1, .i s_.2.2]] (.a [.o 0 ((implcopyStore s_).1), .o 1 ((implcopyStore s_).2.1), .i ((implcopyStore s_).2.2)]) := by
 refine en Qa Tryz.func58 fun w0 F0 hG => ?_
 refine sn Qa [1, 2] [1, 2] (p0) ?_
 refine tN Qa Y2 [2] [2] (pc 2 (cloneField_a s_.1) (pc 5 (implcopyFiles_a s_.2.1) p0)) ?_
 refine Qf ?_
 exact pz [] (show implcopyStore s_ = (s_.1, (implcopyFiles s_.2.1), s_.2.2) from rfl) (fun z => .a [.o 0 z.1, .o 1 z.2.1, .i z.2.2])
def K1 (x : Y7) : Y7 := x
theorem implcopyDir_a (x : Y7) : ACalls Tryz.prog 90 [.a [.s x.1, .h x.2]] (.a [.s ((K1 x).1), .o 0 ((K1 x).2)]) := by
 refine en Qa Tryz.func90 fun w0 F0 hG => ?_
 refine sn Qa [1, 2] [1, 2] (p0) ?_
 refine tn Qa [1, 2] [1, 2] (pc 2 (cloneNode_a x.2) p0) ?_
 refine tu Qa [(2, .p 2 0)] [0] [(2, [.s x.1, .o 320 x.2])] [] (p0) ?_
 refine Qf ?_
 exact pz [] (show K1 x = x from rfl) (fun z => .a [.s z.1, .o 0 z.2])
def implcopyDirs_f0 (_ : Nat) (a0 : Y7) (s0 : (List Y7)) : Rd ((List Y7)) ((List Y7)) ((List Y7)) := (.next (s0 ++ [(K1 a0)]))
def implcopyDirs_e0 (_ : Nat) (s0 : (List Y7)) : (List Y7) := s0
def implcopyDirs (d : (List Y7)) : (List Y7) := (Out.on (Xz implcopyDirs_f0 implcopyDirs_e0 d 0 []) (fun y0 => y0))
theorem implcopyDirs_a (d : (List Y7)) : ACalls Tryz.prog 59 [.h d] (.o 0 (implcopyDirs d)) := by
 refine en Qa Tryz.func59 fun w0 F0 hG => ?_
 refine sn Qa [0, 2] [] (p0) ?_
 refine tn Qa [0, 2, 3] [] (p0) ?_
 refine Qb ?_
 refine tu Qa [(2, .e 0), (3, .one (.slc (.own true 384) 2 [])), (7, .h d), (8, .i (d.length : Int)), (9, .i 0)] [0] [] [] (pl 1 d p0) ?_
 refine wT 7 0 .sh d (fun hw1 hl2 => ?_)
 refine blL1 implcopyDirs_f0 implcopyDirs_e0 d [] (fun k0 s0 => [(3, .o 147201 s0), (9, .i ((k0 : Nat) : Int))]) [3, 9] (fun y0 => [(3, .o 147351 y0)]) [3, 7, 8, 9] (fun k0 s0 => List.length s0 ≤ k0) (Yw [(384, 147201)] (by kernel_rfl)) (by simp) (fun k0 s0 hk0 hI0 => ?_) (fun k0 s0 hk0 hI0 => ?_) (fun y0 hD0 => ?_)
 ·
  have hA0_0 := hI0.2
  obtain ⟨a0, hx0⟩ := Xt (l := d) (i := k0) hk0
  refine sn Qa [2, 3, 7, 8, 9, 10] [] (pe 0 (Qk (decide_eq_true (p := ((k0 : Nat) : Int) < (d.length : Int)) (by omega))) p0) ?_
  refine Qb ?_
  refine ckT ?_
  refine Qg ?_
  refine Qb ?_
  refine Qs ?_
  refine tn Qa [2, 3, 5, 7, 8, 9] [5] (pn 0 hx0 p0) ?_
  refine wT 3 0 (.own true 147201) s0 (fun hw3 hl4 => ?_)
  refine qu Qa [(3, .one (.slc (.own true 1088) 2 ((eL s0) ++ [[.s ((K1 a0).1), .h ((K1 a0).2)]])))] [3] [] [] (pc 2 (implcopyDir_a a0) (pa s0 [(K1 a0)] p0)) ?_
  refine eqn [(3, .o 1088 (s0 ++ [(K1 a0)]))] [3] [] [] (by rw [show ((eL s0) ++ [[.s ((K1 a0).1), .h ((K1 a0).2)]]) = (eL (s0 ++ [(K1 a0)])) from app_eL (rfl) (rfl)]; first | done | kernel_rfl) ?_
  refine rn Qa [2, 3, 7, 8, 9] [] (pe 0 (J7 (Qp k0 (by omega))) p0) ?_
  exact Exists.intro (s0 ++ [(K1 a0)]) (And.intro (Yw [(1088, 147201)] (by kernel_rfl)) ⟨Qu hx0 (rfl) hI0.1, by first | omega | (simp; omega) | simp⟩)
 ·
  have hA0_0 := hI0.2
  refine sn Qa [2, 3, 7, 8, 9, 10] [] (pe 0 (Qk (decide_eq_false (p := ((k0 : Nat) : Int) < (d.length : Int)) (by omega))) p0) ?_
  refine Qb ?_
  refine ckF ?_
  refine Q7 ?_
  exact Exists.intro _ (And.intro (Yw [(147201, 147351)] (by kernel_rfl)) (Xx hk0 (rfl) hI0.1))
 refine sn Qa [2] [] (p0) ?_
 refine Qf ?_
 exact po0 [] (on_b hD0 (rfl))
def Qw (s_ : Yv) (d : (List Y7)) : CatalogD × Bool := (bif (!(((Jm s_ d)).2)) then ((([], [], 0), [], []), false) else (((implcopyStore s_), (implcopyDirs d), ((Jm s_ d)).1), true))
theorem implNewCatalog_a (s_ : Yv) (d : (List Y7)) : ACalls Tryz.prog 25 [.a [.h s_.1, .h s_.2.1, .i s_.2.2], .h d] (.tup [(true, [.o 0 ((((Qw s_ d)).1).1.1), .o 1 ((((Qw s_ d)).1).1.2.1), .i ((((Qw s_ d)).1).1.2.2), .o 2 ((((Qw s_ d)).1).2.1), .o 3 ((((Qw s_ d)).1).2.2)]), (false, [.b (((Qw s_ d)).2)])]) := by
 refine en Qa Tryz.func25 fun w0 F0 hG => ?_
 refine sn Qa [1, 2, 4, 5] [2, 4] (p0) ?_
 refine tn Qa [1, 2, 4, 5, 6, 7] [2, 4] (pc 2 (implEvaluate_a s_ d) p0) ?_
 refine Qb ?_
 refine tu Qa [(2, .p 2 0), (4, .p 4 0), (5, .b false), (6, .o 704 (((Jm s_ d)).1)), (15, .b (!(((Jm s_ d)).2)))] [0] [(2, [.h s_.1, .h s_.2.1, .i s_.2.2]), (4, [.e 2, .e 5, .i 0, .e 2, .e 2])] [] (p0) ?_
 refine ck (!(((Jm s_ d)).2)) (fun h1 => ?_) (fun h1 => ?_)
 ·
  refine su Qa [] [15] [] [] (p0) ?_
  refine opn [(true, 4, 0, true, 384000, 2), (true, 4, 1, true, 384001, 5), (true, 4, 3, true, 384002, 2), (true, 4, 4, true, 384003, 2)] ?_
  refine Qf ?_
  exact pz [] (show Qw s_ d = _ from Xw h1 (rfl)) (fun z => .tup [(true, [.o 0 z.1.1.1, .o 1 z.1.1.2.1, .i z.1.1.2.2, .o 2 z.1.2.1, .o 3 z.1.2.2]), (false, [.b z.2])])
 refine Qg ?_
 refine sn Qa [4, 5] [4] (pc 1 (implcopyStore_a s_) (pc 3 (implcopyDirs_a d) p0)) ?_
 refine Qf ?_
 exact pz [] (show Qw s_ d = _ from Qm h1 (rfl)) (fun z => .tup [(true, [.o 0 z.1.1.1, .o 1 z.1.1.2.1, .i z.1.1.2.2, .o 2 z.1.2.1, .o 3 z.1.2.2]), (false, [.b z.2])])
def Xs (s_ : Yv) (d : (List Y7)) : CatalogD × Bool := (bif (!(((Va s_ d)).2)) then ((([], [], 0), [], []), false) else (((Vo s_), (specl11Copy d), ((Va s_ d)).1), true))
theorem specNewCatalog_a (s_ : Yv) (d : (List Y7)) : ACalls Tryz.prog 17 [.a [.h s_.1, .h s_.2.1, .i s_.2.2], .h d] (.tup [(true, [.o 0 ((((Xs s_ d)).1).1.1), .o 1 ((((Xs s_ d)).1).1.2.1), .i ((((Xs s_ d)).1).1.2.2), .o 2 ((((Xs s_ d)).1).2.1), .o 3 ((((Xs s_ d)).1).2.2)]), (false, [.b (((Xs s_ d)).2)])]) := by
 refine en Qa Tryz.func17 fun w0 F0 hG => ?_
 refine sn Qa [1, 2, 4, 5] [2, 4] (p0) ?_
 refine tn Qa [1, 2, 4, 5, 6, 7] [2, 4] (pc 2 (specEvaluate_a s_ d) p0) ?_
 refine Qb ?_
 refine tu Qa [(2, .p 2 0), (4, .p 4 0), (5, .b false), (6, .o 704 (((Va s_ d)).1)), (15, .b (!(((Va s_ d)).2)))] [0] [(2, [.h s_.1, .h s_.2.1, .i s_.2.2]), (4, [.e 2, .e 5, .i 0, .e 2, .e 2])] [] (p0) ?_
 refine ck (!(((Va s_ d)).2)) (fun h1 => ?_) (fun h1 => ?_)
 ·
  refine su Qa [] [15] [] [] (p0) ?_
  refine opn [(true, 4, 0, true, 384000, 2), (true, 4, 1, true, 384001, 5), (true, 4, 3, true, 384002, 2), (true, 4, 4, true, 384003, 2)] ?_
  refine Qf ?_
  exact pz [] (show Xs s_ d = _ from Xw h1 (rfl)) (fun z => .tup [(true, [.o 0 z.1.1.1, .o 1 z.1.1.2.1, .i z.1.1.2.2, .o 2 z.1.2.1, .o 3 z.1.2.2]), (false, [.b z.2])])
 refine Qg ?_
 refine sn Qa [4, 5] [4] (pc 1 (specl05Copy_a s_) (pc 3 (specl11Copy_a d) p0)) ?_
 refine Qf ?_
 exact pz [] (show Xs s_ d = _ from Qm h1 (rfl)) (fun z => .tup [(true, [.o 0 z.1.1.1, .o 1 z.1.1.2.1, .i z.1.1.2.2, .o 2 z.1.2.1, .o 3 z.1.2.2]), (false, [.b z.2])])
def Xl (x : SystemD) : Xq := ((implcopyStore x.1.1), (implcopyDirs x.1.2.1))
theorem implSystemSnapshot_a (x : SystemD) : ACalls Tryz.prog 28 [.a [.h x.1.1.1, .h x.1.1.2.1, .i x.1.1.2.2, .h x.1.2.1, .h x.1.2.2, .s x.2.1.1, .s x.2.1.2, .i x.2.2.1, .h x.2.2.2.1, .h x.2.2.2.2.1, .h x.2.2.2.2.2]] (.a [.o 0 ((Xl x).1.1), .o 1 ((Xl x).1.2.1), .i ((Xl x).1.2.2), .o 2 ((Xl x).2)]) := by
 refine en Qa Tryz.func28 fun w0 F0 hG => ?_
 refine sn Qa [1, 2] [1, 2] (p0) ?_
 refine tN Qa Y2 [2] [2] (pc 3 (implcopyStore_a x.1.1) (pc 7 (implcopyDirs_a x.1.2.1) p0)) ?_
 refine Qf ?_
 exact pz [] (show Xl x = ((implcopyStore x.1.1), (implcopyDirs x.1.2.1)) from rfl) (fun z => .a [.o 0 z.1.1, .o 1 z.1.2.1, .i z.1.2.2, .o 2 z.2])
def K8 (k_ : (List Yg)) (k0 : Nat) (a0 : Yg) (_ : Unit) : Rd (Bool) (Unit) (Unit) := (bif ((!(Qo a0.1 1 1000000000)) || ((!(Qx a0.2.1)) || ((!(Qo a0.2.2 0 99)) || (decide (((k0 : Nat) : Int) > (0 : Int)) && decide ((nth k_ (Int.toNat (((k0 : Nat) : Int) - 1))).1 ≥ a0.1))))) then (.ret false) else (.next ()))
def specAreValidVersions_e0 (_ : Nat) (_ : Unit) : Unit := ()
def X3 (k_ : (List Yg)) : Bool := (Out.on (Xz (K8 k_) specAreValidVersions_e0 k_ 0 ()) (fun _ => decide ((k_.length : Int) ≤ (6 : Int))))
theorem specAreValidVersions_a (k_ : (List Yg)) : ACalls Tryz.prog 52 [.h k_] (.b (X3 k_)) := by
 refine en Qa Tryz.func52 fun w0 F0 hG => ?_
 refine sn Qa [0, 2] [] (p0) ?_
 refine Qb ?_
 refine tn Qa [0, 2, 3] [] (p0) ?_
 refine mz [(2, .b false), (3, .i 0)] [] [] [] ?_
 refine wT 0 0 .sh k_ (fun hw1 hl2 => ?_)
 refine blL0 (K8 k_) specAreValidVersions_e0 k_ () (fun k0 _ => [(3, .i ((k0 : Nat) : Int))]) [3] (fun _ => []) [3] wf0 (fun k0 s0 hk0 hI0 => ?_) (fun k0 s0 hk0 hI0 => ?_) (fun y0 hD0 => ?_)
 ·
  obtain ⟨a0, hx0⟩ := Xt (l := k_) (i := k0) hk0
  refine Qb ?_
  refine sn Qa [0, 2, 3, 7] [] (pl 2 k_ (pe 3 (Qk (decide_eq_true (p := ((k0 : Nat) : Int) < (k_.length : Int)) (by omega))) p0)) ?_
  refine ckT ?_
  refine Qg ?_
  refine Qb ?_
  refine Qs ?_
  refine Qb ?_
  refine mz [(7, .b true)] [] [] [] ?_
  refine jn [(52, .b ((!(Qo a0.1 1 1000000000)) || ((!(Qx a0.2.1)) || ((!(Qo a0.2.2 0 99)) || (decide (((k0 : Nat) : Int) > (0 : Int)) && decide ((nth k_ (Int.toNat (((k0 : Nat) : Int) - 1))).1 ≥ a0.1))))))] [7] [] [] (!(Qo a0.1 1 1000000000)) (fun h3 => ?_) (fun h3 => ?_) ?_
  ·
   have h3n : (Qo a0.1 1 1000000000) = false := bnot_t h3
   refine rN Qa Y2 [0, 2, 3, 52] [] (pn 2 hx0 (pc 5 (cb h3n (Yb a0.1 1 1000000000)) (pe 6 (show .b (!false) = .b true from rfl) p0))) ?_
   exact ⟨rfl, Qd (by rw [h3] <;> kernel_rfl)⟩
  ·
   have h3n : (Qo a0.1 1 1000000000) = true := Zl h3
   have h3nw := l01In_iff.1 h3n
   refine Xo (!(Qx a0.2.1)) (fun h4 => ?_) (fun h4 => ?_)
   ·
    have h4n : (Qx a0.2.1) = false := bnot_t h4
    refine rN Qa Y2 [0, 2, 3, 52] [] (pn 2 hx0 (pc 5 (cb h3n (Yb a0.1 1 1000000000)) (pe 6 (show .b (!true) = .b false from rfl) (pn 10 hx0 (pc 13 (cb h4n (Z8 a0.2.1)) (pe 14 (show .b (!false) = .b true from rfl) p0)))))) ?_
    exact ⟨rfl, Qd (by rw [h3, h4] <;> kernel_rfl)⟩
   have h4n : (Qx a0.2.1) = true := Zl h4
   refine Xo (!(Qo a0.2.2 0 99)) (fun h5 => ?_) (fun h5 => ?_)
   ·
    have h5n : (Qo a0.2.2 0 99) = false := bnot_t h5
    refine rN Qa Y2 [0, 2, 3, 52] [] (pn 2 hx0 (pc 5 (cb h3n (Yb a0.1 1 1000000000)) (pe 6 (show .b (!true) = .b false from rfl) (pn 10 hx0 (pc 13 (cb h4n (Z8 a0.2.1)) (pe 14 (show .b (!true) = .b false from rfl) (pn 19 hx0 (pc 22 (cb h5n (Yb a0.2.2 0 99)) (pe 23 (show .b (!false) = .b true from rfl) p0))))))))) ?_
    exact ⟨rfl, Qd (by rw [h3, h4, h5] <;> kernel_rfl)⟩
   have h5n : (Qo a0.2.2 0 99) = true := Zl h5
   have h5nw := l01In_iff.1 h5n
   refine Xo (decide (((k0 : Nat) : Int) > (0 : Int))) (fun h6 => ?_) (fun h6 => ?_)
   ·
    have h6d := of_decide_eq_true h6
    have hx7 := ng k_ (Int.toNat (((k0 : Nat) : Int) - 1))
    refine rN Qa Y2 [0, 2, 3, 52] [] (pn 2 hx0 (pc 5 (cb h3n (Yb a0.1 1 1000000000)) (pe 6 (show .b (!true) = .b false from rfl) (pn 10 hx0 (pc 13 (cb h4n (Z8 a0.2.1)) (pe 14 (show .b (!true) = .b false from rfl) (pn 19 hx0 (pc 22 (cb h5n (Yb a0.2.2 0 99)) (pe 23 (show .b (!true) = .b false from rfl) (pt 27 h6 (pe 31 (J7 (IntWalk.i64_in (((k0 : Nat) : Int) - 1) (by omega))) (pg 32 (((k0 : Nat) : Int) - 1) hx7 (pn 37 hx0 p0))))))))))))) ?_
    exact ⟨rfl, Qd (by rw [h3, h4, h5, h6] <;> kernel_rfl)⟩
   refine rN Qa Y2 [0, 2, 3, 52] [] (pn 2 hx0 (pc 5 (cb h3n (Yb a0.1 1 1000000000)) (pe 6 (show .b (!true) = .b false from rfl) (pn 10 hx0 (pc 13 (cb h4n (Z8 a0.2.1)) (pe 14 (show .b (!true) = .b false from rfl) (pn 19 hx0 (pc 22 (cb h5n (Yb a0.2.2 0 99)) (pe 23 (show .b (!true) = .b false from rfl) (pf 27 h6 p0)))))))))) ?_
   exact ⟨rfl, Qd (by rw [h3, h4, h5, h6] <;> kernel_rfl)⟩
  refine ck ((!(Qo a0.1 1 1000000000)) || ((!(Qx a0.2.1)) || ((!(Qo a0.2.2 0 99)) || (decide (((k0 : Nat) : Int) > (0 : Int)) && decide ((nth k_ (Int.toNat (((k0 : Nat) : Int) - 1))).1 ≥ a0.1))))) (fun h8 => ?_) (fun h8 => ?_)
  ·
   refine sn Qa [0, 2, 3] [] (p0) ?_
   refine Qf ?_
   have hr9 : (Xz (K8 k_) specAreValidVersions_e0 k_ 0 ()) = .ret false := Ja hx0 (Xw h8 (rfl)) hI0
   exact pb [] (on_r hr9)
  have h8l : ((!(Qo a0.1 1 1000000000))) = false := or_l h8
  have h8ln : (Qo a0.1 1 1000000000) = true := Zl h8l
  have h8lnw := l01In_iff.1 h8ln
  have h8r : (((!(Qx a0.2.1)) || ((!(Qo a0.2.2 0 99)) || (decide (((k0 : Nat) : Int) > (0 : Int)) && decide ((nth k_ (Int.toNat (((k0 : Nat) : Int) - 1))).1 ≥ a0.1))))) = false := or_r h8
  have h8rr : (((!(Qo a0.2.2 0 99)) || (decide (((k0 : Nat) : Int) > (0 : Int)) && decide ((nth k_ (Int.toNat (((k0 : Nat) : Int) - 1))).1 ≥ a0.1)))) = false := or_r h8r
  have h8rrl : ((!(Qo a0.2.2 0 99))) = false := or_l h8rr
  have h8rrln : (Qo a0.2.2 0 99) = true := Zl h8rrl
  have h8rrlnw := l01In_iff.1 h8rrln
  refine Qg ?_
  refine rn Qa [0, 2, 3] [] (pe 1 (J7 (Qp k0 (by omega))) p0) ?_
  exact xw _ (Qu hx0 (Qm h8 (rfl)) hI0)
 ·
  refine Qb ?_
  refine sn Qa [0, 2, 3, 7] [] (pl 2 k_ (pe 3 (Qk (decide_eq_false (p := ((k0 : Nat) : Int) < (k_.length : Int)) (by omega))) p0)) ?_
  refine ckF ?_
  refine Q7 ?_
  exact xw _ (Xx hk0 (rfl) hI0)
 refine sn Qa [2] [] (pl 1 k_ p0) ?_
 refine Qf ?_
 exact pb [] (on_b hD0 (rfl))
def Jn (k_ : (List Yg)) (version : Int) (x : Xq) : (List Yg) × Bool := (bif ((!(X3 k_)) || (!(X3 (Jl k_ ++ [((version, (Xc x), 0) : Yg)])))) then ((Jl k_), false) else (Jl k_ ++ [((version, (Xc x), 0) : Yg)], true))
theorem specAppendVersion_a (k_ : (List Yg)) (version : Int) (x : Xq) (hp : (k_.length : Int) < 1073741824) : ACalls Tryz.prog 21 [.h k_, .i version, .a [.h x.1.1, .h x.1.2.1, .i x.1.2.2, .h x.2]] (.tup [(false, [.o 0 (((Jn k_ version x)).1)]), (false, [.b (((Jn k_ version x)).2)])]) := by
 refine en Qa Tryz.func21 fun w0 F0 hG => ?_
 have hcl := l28Copy_len k_
 refine sn Qa [0, 1, 5, 6, 7] [5] (p0) ?_
 refine tU Qa Y2 [(6, .e 0), (7, .b false), (8, .one (.slc (.own true 1024) 6 ((eL (Jl k_)) ++ [[.i version, .h ((Xc x).1.1), .h ((Xc x).1.2.1), .i ((Xc x).1.2.2), .h ((Xc x).2), .i 0]])))] [1, 2] [] [] (pc 1 (specl28Copy_a k_) (pc 4 (specl28State_a x) (pa (Jl k_) [((version, (Xc x), 0) : Yg)] p0))) ?_
 refine eqn [(8, .o 1024 (Jl k_ ++ [((version, (Xc x), 0) : Yg)]))] [8] [] [] (by rw [show ((eL (Jl k_)) ++ [[.i version, .h ((Xc x).1.1), .h ((Xc x).1.2.1), .i ((Xc x).1.2.2), .h ((Xc x).2), .i 0]]) = (eL (Jl k_ ++ [((version, (Xc x), 0) : Yg)])) from app_eL (rfl) (rfl)]; first | done | kernel_rfl) ?_
 refine Qb ?_
 refine Qb ?_
 refine jn [(24, .b ((!(X3 k_)) || (!(X3 (Jl k_ ++ [((version, (Xc x), 0) : Yg)])))))] [] [] [] (!(X3 k_)) (fun h1 => ?_) (fun h1 => ?_) ?_
 ·
  have h1n : (X3 k_) = false := bnot_t h1
  refine rn Qa [0, 6, 7, 8, 24] [] (pc 1 (cb h1n (specAreValidVersions_a k_)) (pe 2 (show .b (!false) = .b true from rfl) p0)) ?_
  exact ⟨rfl, Qd (by rw [h1] <;> kernel_rfl)⟩
 ·
  have h1n : (X3 k_) = true := Zl h1
  refine rn Qa [0, 6, 7, 8, 24] [] (pc 1 (cb h1n (specAreValidVersions_a k_)) (pe 2 (show .b (!true) = .b false from rfl) (pc 5 (specAreValidVersions_a (Jl k_ ++ [((version, (Xc x), 0) : Yg)])) p0))) ?_
  exact ⟨rfl, Qd (by rw [h1] <;> kernel_rfl)⟩
 refine ck ((!(X3 k_)) || (!(X3 (Jl k_ ++ [((version, (Xc x), 0) : Yg)])))) (fun h2 => ?_) (fun h2 => ?_)
 ·
  refine sn Qa [6, 7, 8] [] (pc 1 (specl28Copy_a k_) p0) ?_
  refine Qf ?_
  exact pz [] (show Jn k_ version x = _ from Xw h2 (rfl)) (fun z => .tup [(false, [.o 0 z.1]), (false, [.b z.2])])
 refine Qg ?_
 refine sn Qa [6, 7] [] (p0) ?_
 refine Qf ?_
 exact pz [] (show Jn k_ version x = _ from Qm h2 (rfl)) (fun z => .tup [(false, [.o 0 z.1]), (false, [.b z.2])])
def Yx (d : DiskD) : Int × Xq × Bool × Bool := (bif (((Qq d.2)).2.2 && ((!(((Qq d.1)).2.2)) || decide (((Qq d.2)).1 > ((Qq d.1)).1))) then (((Qq d.2)).1, (((Qq d.2)).2.1), true, false) else (((Qq d.1)).1, (((Qq d.1)).2.1), ((Qq d.1)).2.2, ((Qq d.1)).2.2))
theorem impllatestSlot_a (d : DiskD) (ha : d.1 = ⟨#[]⟩) (hb : d.2 = ⟨#[]⟩) : ACalls Tryz.prog 91 [.a [.s d.1, .s d.2]] (.tup [(false, [.i (((Yx d)).1)]), (true, [.o 0 ((((Yx d)).2.1).1.1), .o 1 ((((Yx d)).2.1).1.2.1), .i ((((Yx d)).2.1).1.2.2), .o 2 ((((Yx d)).2.1).2)]), (false, [.b (((Yx d)).2.2.1)]), (false, [.b (((Yx d)).2.2.2)])]) := by
 refine en Qa Tryz.func91 fun w0 F0 hG => ?_
 refine sn Qa [1, 2, 3, 4, 5] [1, 3] (p0) ?_
 refine tn Qa [1, 2, 3, 4, 5, 6, 7, 8] [1, 3, 7] (pc 2 (implDecodeSlot_a d.1 (by first | assumption | rfl)) p0) ?_
 refine tu Qa [(2, .i 0), (3, .p 3 0), (4, .b false), (5, .b false), (6, .i (((Qq d.1)).1)), (7, .p 7 0), (8, .b (((Qq d.1)).2.2)), (9, .i (((Qq d.2)).1)), (10, .p 10 0), (11, .b (((Qq d.2)).2.2))] [0] [(3, [.e 2, .e 5, .i 0, .e 2]), (7, [.o 960 ((((Qq d.1)).2.1).1.1), .o 961 ((((Qq d.1)).2.1).1.2.1), .i ((((Qq d.1)).2.1).1.2.2), .o 962 ((((Qq d.1)).2.1).2)]), (10, [.o 1408 ((((Qq d.2)).2.1).1.1), .o 1409 ((((Qq d.2)).2.1).1.2.1), .i ((((Qq d.2)).2.1).1.2.2), .o 1410 ((((Qq d.2)).2.1).2)])] [] (pc 2 (implDecodeSlot_a d.2 (by first | assumption | rfl)) p0) ?_
 refine Qb ?_
 refine Qb ?_
 refine jn [(35, .b (((Qq d.2)).2.2 && ((!(((Qq d.1)).2.2)) || decide (((Qq d.2)).1 > ((Qq d.1)).1))))] [11] [] [] (((Qq d.2)).2.2) (fun h1 => ?_) (fun h1 => ?_) ?_
 ·
  refine Xo (!(((Qq d.1)).2.2)) (fun h2 => ?_) (fun h2 => ?_)
  ·
   have h2n : (((Qq d.1)).2.2) = false := bnot_t h2
   refine ru Qa [(35, .b true)] [11] [] [] (pt 0 h1 (pf 2 h2n (pe 3 (show .b (!false) = .b true from rfl) p0))) ?_
   exact ⟨rfl, Qd (by rw [h1, h2] <;> kernel_rfl)⟩
  have h2n : (((Qq d.1)).2.2) = true := Zl h2
  refine rn Qa [2, 3, 4, 5, 6, 7, 8, 9, 10, 35] [3, 7, 10] (pt 0 h1 (pt 2 h2n (pe 3 (show .b (!true) = .b false from rfl) p0))) ?_
  exact ⟨rfl, Qd (by rw [h1, h2] <;> kernel_rfl)⟩
 ·
  refine ru Qa [(35, .b false)] [11] [] [] (pf 0 h1 p0) ?_
  exact ⟨rfl, Qd (by rw [h1] <;> kernel_rfl)⟩
 refine ck (((Qq d.2)).2.2 && ((!(((Qq d.1)).2.2)) || decide (((Qq d.2)).1 > ((Qq d.1)).1))) (fun h3 => ?_) (fun h3 => ?_)
 ·
  have h3l : (((Qq d.2)).2.2) = true := and_l h3
  have h3r : (((!(((Qq d.1)).2.2)) || decide (((Qq d.2)).1 > ((Qq d.1)).1))) = true := and_r h3
  refine sN Qa Y2 [2, 3, 4, 5, 6, 7, 8] [3, 7] (p0) ?_
  refine Qf ?_
  exact pz [] (show Yx d = _ from Xw h3 (rfl)) (fun z => .tup [(false, [.i z.1]), (true, [.o 0 z.2.1.1.1, .o 1 z.2.1.1.2.1, .i z.2.1.1.2.2, .o 2 z.2.1.2]), (false, [.b z.2.2.1]), (false, [.b z.2.2.2])])
 refine Qg ?_
 refine sN Qa Y2 [2, 3, 4, 5] [3] (p0) ?_
 refine Qf ?_
 exact pz [] (show Yx d = _ from Qm h3 (rfl)) (fun z => .tup [(false, [.i z.1]), (true, [.o 0 z.2.1.1.1, .o 1 z.2.1.1.2.1, .i z.2.1.1.2.2, .o 2 z.2.1.2]), (false, [.b z.2.2.1]), (false, [.b z.2.2.2])])
def Q9 (d : DiskD) : Int × Xq × Bool × Bool := (bif (((Qr d.1)).2.2 && ((!(((Qr d.2)).2.2)) || decide (((Qr d.1)).1 ≥ ((Qr d.2)).1))) then (((Qr d.1)).1, (((Qr d.1)).2.1), true, true) else (((Qr d.2)).1, (((Qr d.2)).2.1), ((Qr d.2)).2.2, false))
theorem specl27Newest_a (d : DiskD) (ha : d.1 = ⟨#[]⟩) (hb : d.2 = ⟨#[]⟩) : ACalls Tryz.prog 47 [.a [.s d.1, .s d.2]] (.tup [(false, [.i (((Q9 d)).1)]), (true, [.o 0 ((((Q9 d)).2.1).1.1), .o 1 ((((Q9 d)).2.1).1.2.1), .i ((((Q9 d)).2.1).1.2.2), .o 2 ((((Q9 d)).2.1).2)]), (false, [.b (((Q9 d)).2.2.1)]), (false, [.b (((Q9 d)).2.2.2)])]) := by
 refine en Qa Tryz.func47 fun w0 F0 hG => ?_
 refine sn Qa [1, 2, 3, 4, 5] [1, 3] (p0) ?_
 refine tn Qa [1, 2, 3, 4, 5, 6, 7, 8] [1, 3, 7] (pc 2 (specDecodeSlot_a d.1 (by first | assumption | rfl)) p0) ?_
 refine tu Qa [(2, .i 0), (3, .p 3 0), (4, .b false), (5, .b false), (6, .i (((Qr d.1)).1)), (7, .p 7 0), (8, .b (((Qr d.1)).2.2)), (9, .i (((Qr d.2)).1)), (10, .p 10 0), (11, .b (((Qr d.2)).2.2))] [0] [(3, [.e 2, .e 5, .i 0, .e 2]), (7, [.o 960 ((((Qr d.1)).2.1).1.1), .o 961 ((((Qr d.1)).2.1).1.2.1), .i ((((Qr d.1)).2.1).1.2.2), .o 962 ((((Qr d.1)).2.1).2)]), (10, [.o 1408 ((((Qr d.2)).2.1).1.1), .o 1409 ((((Qr d.2)).2.1).1.2.1), .i ((((Qr d.2)).2.1).1.2.2), .o 1410 ((((Qr d.2)).2.1).2)])] [] (pc 2 (specDecodeSlot_a d.2 (by first | assumption | rfl)) p0) ?_
 refine Qb ?_
 refine Qb ?_
 refine jn [(35, .b (((Qr d.1)).2.2 && ((!(((Qr d.2)).2.2)) || decide (((Qr d.1)).1 ≥ ((Qr d.2)).1))))] [8] [] [] (((Qr d.1)).2.2) (fun h1 => ?_) (fun h1 => ?_) ?_
 ·
  refine Xo (!(((Qr d.2)).2.2)) (fun h2 => ?_) (fun h2 => ?_)
  ·
   have h2n : (((Qr d.2)).2.2) = false := bnot_t h2
   refine ru Qa [(35, .b true)] [8] [] [] (pt 0 h1 (pf 2 h2n (pe 3 (show .b (!false) = .b true from rfl) p0))) ?_
   exact ⟨rfl, Qd (by rw [h1, h2] <;> kernel_rfl)⟩
  have h2n : (((Qr d.2)).2.2) = true := Zl h2
  refine rn Qa [2, 3, 4, 5, 6, 7, 9, 10, 11, 35] [3, 7, 10] (pt 0 h1 (pt 2 h2n (pe 3 (show .b (!true) = .b false from rfl) p0))) ?_
  exact ⟨rfl, Qd (by rw [h1, h2] <;> kernel_rfl)⟩
 ·
  refine ru Qa [(35, .b false)] [8] [] [] (pf 0 h1 p0) ?_
  exact ⟨rfl, Qd (by rw [h1] <;> kernel_rfl)⟩
 refine ck (((Qr d.1)).2.2 && ((!(((Qr d.2)).2.2)) || decide (((Qr d.1)).1 ≥ ((Qr d.2)).1))) (fun h3 => ?_) (fun h3 => ?_)
 ·
  have h3l : (((Qr d.1)).2.2) = true := and_l h3
  have h3r : (((!(((Qr d.2)).2.2)) || decide (((Qr d.1)).1 ≥ ((Qr d.2)).1))) = true := and_r h3
  refine sN Qa Y2 [2, 3, 4, 5, 9, 10, 11] [3, 10] (p0) ?_
  refine Qf ?_
  exact pz [] (show Q9 d = _ from Xw h3 (rfl)) (fun z => .tup [(false, [.i z.1]), (true, [.o 0 z.2.1.1.1, .o 1 z.2.1.1.2.1, .i z.2.1.1.2.2, .o 2 z.2.1.2]), (false, [.b z.2.2.1]), (false, [.b z.2.2.2])])
 refine Qg ?_
 refine sN Qa Y2 [2, 3, 4, 5] [3] (p0) ?_
 refine Qf ?_
 exact pz [] (show Q9 d = _ from Qm h3 (rfl)) (fun z => .tup [(false, [.i z.1]), (true, [.o 0 z.2.1.1.1, .o 1 z.2.1.1.2.1, .i z.2.1.1.2.2, .o 2 z.2.1.2]), (false, [.b z.2.2.1]), (false, [.b z.2.2.2])])
def Xi (d : DiskD) (x : Xq) : ByteArray × Bool := ((Yp (IntKind.i64.wrap (((Yx d)).1 + 1)) x), (!(((Yx d)).2.2.2)))
theorem implnextSlot_a (d : DiskD) (x : Xq) (ha : d.1 = ⟨#[]⟩) (hb : d.2 = ⟨#[]⟩) (hf : List.length x.1.2.1 = 0) (hd : List.length x.2 = 0) : ACalls Tryz.prog 61 [.a [.s d.1, .s d.2], .a [.h x.1.1, .h x.1.2.1, .i x.1.2.2, .h x.2]] (.tup [(false, [.s (((Xi d x)).1)]), (false, [.b (((Xi d x)).2)])]) := by
 refine en Qa Tryz.func61 fun w0 F0 hG => ?_
 refine sn Qa [2, 3, 4, 5] [2, 3] (p0) ?_
 refine tn Qa [3, 4, 5, 6, 9] [3] (pc 1 (impllatestSlot_a d (by first | assumption | rfl | exact (Je _ _ _ _ _ _).1 | exact (Je _ _ _ _ _ _).2) (by first | assumption | rfl | exact (Je _ _ _ _ _ _).1 | exact (Je _ _ _ _ _ _).2)) p0) ?_
 refine tu Qa [(4, .s (Yp (IntKind.i64.wrap (((Yx d)).1 + 1)) x)), (5, .b (!(((Yx d)).2.2.2)))] [0, 1] [] [] (pc 3 (implEncodeSlot_a (IntKind.i64.wrap (((Yx d)).1 + 1)) x (by first | assumption | rfl) (by first | assumption | rfl)) p0) ?_
 refine Qf ?_
 exact pz [] (show Xi d x = ((Yp (IntKind.i64.wrap (((Yx d)).1 + 1)) x), (!(((Yx d)).2.2.2))) from rfl) (fun z => .tup [(false, [.s z.1]), (false, [.b z.2])])
def Z0 (d : DiskD) (x : Xq) (keep : Int) : DiskD × Bool := (bif ((((Xi d x)).1).toList == (⟨#[]⟩ : ByteArray).toList) then (d, false) else (bif ((Xi d x)).2 then (((ByteArray.extract (((Xi d x)).1) (Int.toNat 0) (Int.toNat (Jy keep 0 (ByteArray.size (((Xi d x)).1) : Int)))), d.2), ((ByteArray.extract (((Xi d x)).1) (Int.toNat 0) (Int.toNat (Jy keep 0 (ByteArray.size (((Xi d x)).1) : Int)))).toList == (((Xi d x)).1).toList)) else ((d.1, (ByteArray.extract (((Xi d x)).1) (Int.toNat 0) (Int.toNat (Jy keep 0 (ByteArray.size (((Xi d x)).1) : Int))))), ((ByteArray.extract (((Xi d x)).1) (Int.toNat 0) (Int.toNat (Jy keep 0 (ByteArray.size (((Xi d x)).1) : Int)))).toList == (((Xi d x)).1).toList))))
theorem implWriteSlot_a (d : DiskD) (x : Xq) (keep : Int) (ha : d.1 = ⟨#[]⟩) (hb : d.2 = ⟨#[]⟩) (hf : List.length x.1.2.1 = 0) (hd : List.length x.2 = 0) : ACalls Tryz.prog 29 [.a [.s d.1, .s d.2], .a [.h x.1.1, .h x.1.2.1, .i x.1.2.2, .h x.2], .i keep] (.tup [(true, [.s ((((Z0 d x keep)).1).1), .s ((((Z0 d x keep)).1).2)]), (false, [.b (((Z0 d x keep)).2)])]) := by
 refine en Qa Tryz.func29 fun w0 F0 hG => ?_
 refine sn Qa [2, 3, 4, 6, 7] [3, 4, 6] (p0) ?_
 refine tn Qa [2, 3, 6, 7, 8, 9] [3, 6] (pc 2 (implnextSlot_a d x (by first | assumption | rfl | exact (Je _ _ _ _ _ _).1 | exact (Je _ _ _ _ _ _).2) (by first | assumption | rfl | exact (Je _ _ _ _ _ _).1 | exact (Je _ _ _ _ _ _).2) (by first | assumption | rfl | exact (Je _ _ _ _ _ _).1 | exact (Je _ _ _ _ _ _).2) (by first | assumption | rfl | exact (Je _ _ _ _ _ _).1 | exact (Je _ _ _ _ _ _).2)) p0) ?_
 refine Qb ?_
 refine tu Qa [(3, .p 3 0), (6, .p 6 0), (7, .b false), (8, .s (((Xi d x)).1)), (9, .b (((Xi d x)).2)), (18, .b ((((Xi d x)).1).toList == (⟨#[]⟩ : ByteArray).toList))] [0, 1] [(3, [.s d.1, .s d.2]), (6, [.s ⟨#[]⟩, .s ⟨#[]⟩])] [] (p0) ?_
 refine ck ((((Xi d x)).1).toList == (⟨#[]⟩ : ByteArray).toList) (fun h1 => ?_) (fun h1 => ?_)
 ·
  refine sn Qa [2, 3, 6, 7, 8, 9] [3, 6] (p0) ?_
  refine Qf ?_
  exact pz [] (show Z0 d x keep = _ from Xw h1 (rfl)) (fun z => .tup [(true, [.s z.1.1, .s z.1.2]), (false, [.b z.2])])
 refine Qg ?_
 have hk2 := clamp_bd keep (ByteArray.size (((Xi d x)).1) : Int) (by omega)
 refine stT 8 0 (((Xi d x)).1) (fun hs3 => ?_)
 refine sn Qa [3, 6, 7, 8, 9, 10] [3, 6] (pc 4 (implClamp_a keep 0 (ByteArray.size (((Xi d x)).1) : Int)) (px (ob_rng (lo := 0) (hi := (Jy keep 0 (ByteArray.size (((Xi d x)).1) : Int))) (n := (ByteArray.size (((Xi d x)).1))) (⟨by omega, by omega, by omega⟩)) p0)) ?_
 refine Qb ?_
 refine tn Qa [3, 6, 7, 8, 10, 26] [3, 6] (p0) ?_
 refine ck (((Xi d x)).2) (fun h4 => ?_) (fun h4 => ?_)
 ·
  refine qu Qa [(10, .s (ByteArray.extract (((Xi d x)).1) (Int.toNat 0) (Int.toNat (Jy keep 0 (ByteArray.size (((Xi d x)).1) : Int)))))] [2, 9, 18] [(3, [.s (ByteArray.extract (((Xi d x)).1) (Int.toNat 0) (Int.toNat (Jy keep 0 (ByteArray.size (((Xi d x)).1) : Int)))), .s d.2])] [3] (p0) ?_
  refine sn Qa [6, 7] [6] (p0) ?_
  refine Qf ?_
  exact pz [] (show Z0 d x keep = _ from Qm h1 (Xw h4 (rfl))) (fun z => .tup [(true, [.s z.1.1, .s z.1.2]), (false, [.b z.2])])
 refine qu Qa [(10, .s (ByteArray.extract (((Xi d x)).1) (Int.toNat 0) (Int.toNat (Jy keep 0 (ByteArray.size (((Xi d x)).1) : Int)))))] [2, 9, 18] [(3, [.s d.1, .s (ByteArray.extract (((Xi d x)).1) (Int.toNat 0) (Int.toNat (Jy keep 0 (ByteArray.size (((Xi d x)).1) : Int))))])] [3] (p0) ?_
 refine sn Qa [6, 7] [6] (p0) ?_
 refine Qf ?_
 exact pz [] (show Z0 d x keep = _ from Qm h1 (Qm h4 (rfl))) (fun z => .tup [(true, [.s z.1.1, .s z.1.2]), (false, [.b z.2])])
def Ji (d : DiskD) (x : Xq) (keep : Int) : DiskD × Bool := (bif ((X1 (IntKind.i64.wrap (((Q9 d)).1 + 1)) x).toList == (⟨#[]⟩ : ByteArray).toList) then (d, false) else (bif ((Q9 d)).2.2.2 then ((d.1, (ByteArray.extract (X1 (IntKind.i64.wrap (((Q9 d)).1 + 1)) x) (Int.toNat 0) (Int.toNat (specClamp keep 0 (ByteArray.size (X1 (IntKind.i64.wrap (((Q9 d)).1 + 1)) x) : Int))))), ((specClamp keep 0 (ByteArray.size (X1 (IntKind.i64.wrap (((Q9 d)).1 + 1)) x) : Int)) == (ByteArray.size (X1 (IntKind.i64.wrap (((Q9 d)).1 + 1)) x) : Int))) else (((ByteArray.extract (X1 (IntKind.i64.wrap (((Q9 d)).1 + 1)) x) (Int.toNat 0) (Int.toNat (specClamp keep 0 (ByteArray.size (X1 (IntKind.i64.wrap (((Q9 d)).1 + 1)) x) : Int)))), d.2), ((specClamp keep 0 (ByteArray.size (X1 (IntKind.i64.wrap (((Q9 d)).1 + 1)) x) : Int)) == (ByteArray.size (X1 (IntKind.i64.wrap (((Q9 d)).1 + 1)) x) : Int)))))
theorem specWriteSlot_a (d : DiskD) (x : Xq) (keep : Int) (ha : d.1 = ⟨#[]⟩) (hb : d.2 = ⟨#[]⟩) (hf : List.length x.1.2.1 = 0) (hd : List.length x.2 = 0) : ACalls Tryz.prog 20 [.a [.s d.1, .s d.2], .a [.h x.1.1, .h x.1.2.1, .i x.1.2.2, .h x.2], .i keep] (.tup [(true, [.s ((((Ji d x keep)).1).1), .s ((((Ji d x keep)).1).2)]), (false, [.b (((Ji d x keep)).2)])]) := by
 refine en Qa Tryz.func20 fun w0 F0 hG => ?_
 refine sn Qa [2, 3, 4, 6, 7] [3, 4, 6] (p0) ?_
 refine tn Qa [2, 3, 4, 6, 7, 8, 11] [3, 4, 6] (pc 1 (specl27Newest_a d (by first | assumption | rfl | exact (Je _ _ _ _ _ _).1 | exact (Je _ _ _ _ _ _).2) (by first | assumption | rfl | exact (Je _ _ _ _ _ _).1 | exact (Je _ _ _ _ _ _).2)) p0) ?_
 refine tu Qa [(3, .p 3 0), (6, .p 6 0), (7, .b false), (11, .b (((Q9 d)).2.2.2)), (12, .s (X1 (IntKind.i64.wrap (((Q9 d)).1 + 1)) x))] [0, 1] [(3, [.s d.1, .s d.2]), (6, [.s ⟨#[]⟩, .s ⟨#[]⟩])] [] (pc 3 (specEncodeSlot_a (IntKind.i64.wrap (((Q9 d)).1 + 1)) x (by first | assumption | rfl) (by first | assumption | rfl)) p0) ?_
 refine Qb ?_
 refine sn Qa [2, 3, 6, 7, 11, 12, 26] [3, 6] (p0) ?_
 refine ck ((X1 (IntKind.i64.wrap (((Q9 d)).1 + 1)) x).toList == (⟨#[]⟩ : ByteArray).toList) (fun h1 => ?_) (fun h1 => ?_)
 ·
  refine tn Qa [2, 3, 6, 7, 11, 12] [3, 6] (p0) ?_
  refine Qf ?_
  exact pz [] (show Ji d x keep = _ from Xw h1 (rfl)) (fun z => .tup [(true, [.s z.1.1, .s z.1.2]), (false, [.b z.2])])
 refine Qg ?_
 have hk2 := clamp_bdS keep (ByteArray.size (X1 (IntKind.i64.wrap (((Q9 d)).1 + 1)) x) : Int) (by omega)
 refine tn Qa [3, 6, 7, 11, 12, 13] [3, 6] (pc 3 (specClamp_a keep 0 (ByteArray.size (X1 (IntKind.i64.wrap (((Q9 d)).1 + 1)) x) : Int)) p0) ?_
 refine Qb ?_
 refine tu Qa [(13, .i (specClamp keep 0 (ByteArray.size (X1 (IntKind.i64.wrap (((Q9 d)).1 + 1)) x) : Int))), (32, .b (((Q9 d)).2.2.2))] [2, 11] [] [] (p0) ?_
 refine ck (((Q9 d)).2.2.2) (fun h3 => ?_) (fun h3 => ?_)
 ·
  refine stT 12 0 (X1 (IntKind.i64.wrap (((Q9 d)).1 + 1)) x) (fun hs4 => ?_)
  refine rn Qa [3, 6, 7, 12, 13] [3, 6] (px (ob_rng (lo := 0) (hi := (specClamp keep 0 (ByteArray.size (X1 (IntKind.i64.wrap (((Q9 d)).1 + 1)) x) : Int))) (n := (ByteArray.size (X1 (IntKind.i64.wrap (((Q9 d)).1 + 1)) x))) (⟨by omega, by omega, by omega⟩)) p0) ?_
  refine tn Qa [6, 7] [6] (p0) ?_
  refine Qf ?_
  exact pz [] (show Ji d x keep = _ from Qm h1 (Xw h3 (rfl))) (fun z => .tup [(true, [.s z.1.1, .s z.1.2]), (false, [.b z.2])])
 refine stT 12 0 (X1 (IntKind.i64.wrap (((Q9 d)).1 + 1)) x) (fun hs5 => ?_)
 refine rn Qa [3, 6, 7, 12, 13] [3, 6] (px (ob_rng (lo := 0) (hi := (specClamp keep 0 (ByteArray.size (X1 (IntKind.i64.wrap (((Q9 d)).1 + 1)) x) : Int))) (n := (ByteArray.size (X1 (IntKind.i64.wrap (((Q9 d)).1 + 1)) x))) (⟨by omega, by omega, by omega⟩)) p0) ?_
 refine tn Qa [6, 7] [6] (p0) ?_
 refine Qf ?_
 exact pz [] (show Ji d x keep = _ from Qm h1 (Qm h3 (rfl))) (fun z => .tup [(true, [.s z.1.1, .s z.1.2]), (false, [.b z.2])])
theorem newCat_empty (s : List X4) : (Qw (Xk s) []).1.1.2.1 = [] ∧ (Qw (Xk s) []).1.2.1 = [] := by
  unfold Qw
  cases (Jm (Xk s) []).2 <;> exact ⟨rfl, rfl⟩
theorem Je (s : List X4) (d : DiskD) (v : Int) (vs : List Yg) (ws : List WatchD) (q : List Int) : List.length (Xl ((Qw (Xk s) []).1, d, v, vs, ws, q)).1.2.1 = 0 ∧ List.length (Xl ((Qw (Xk s) []).1, d, v, vs, ws, q)).2 = 0 := by
  obtain ⟨h1, h2⟩ := newCat_empty s
  unfold Xl implcopyStore
  dsimp only
  rw [h1, h2]
  exact ⟨rfl, rfl⟩
open GoE (enc wide)
def Qc (s_ : (List X4)) (quota : (List Int)) : SystemD × Bool := (bif ((!(Qv s_)) || (!(Zu quota))) then (((([], [], 0), [], []), (⟨#[]⟩, ⟨#[]⟩), 0, [], [], []), false) else (((((Qw (Xk s_) [])).1), (((Z0 (⟨#[]⟩, ⟨#[]⟩) (Xl ((((Qw (Xk s_) [])).1), (⟨#[]⟩, ⟨#[]⟩), 1, [], [], quota)) 1000000000)).1), 1, [((1, (Xl ((((Qw (Xk s_) [])).1), (⟨#[]⟩, ⟨#[]⟩), 1, [], [], quota)), 0) : Yg)], [], quota), true))
theorem implNewSystem_a (s_ : (List X4)) (quota : (List Int)) : ACalls Tryz.prog 8 [.h s_, .h quota] (.tup [(true, [.o 0 ((((Qc s_ quota)).1).1.1.1), .o 1 ((((Qc s_ quota)).1).1.1.2.1), .i ((((Qc s_ quota)).1).1.1.2.2), .o 2 ((((Qc s_ quota)).1).1.2.1), .o 3 ((((Qc s_ quota)).1).1.2.2), .s ((((Qc s_ quota)).1).2.1.1), .s ((((Qc s_ quota)).1).2.1.2), .i ((((Qc s_ quota)).1).2.2.1), .o 4 ((((Qc s_ quota)).1).2.2.2.1), .o 5 ((((Qc s_ quota)).1).2.2.2.2.1), .o 6 ((((Qc s_ quota)).1).2.2.2.2.2)]), (false, [.b (((Qc s_ quota)).2)])]) := by
 refine en Qa Tryz.func8 fun w0 F0 hG => ?_
 refine sn Qa [0, 1, 4, 5] [4] (p0) ?_
 refine Qb ?_
 refine Qb ?_
 refine mz [(4, .p 4 0), (5, .b false)] [] [(4, [.e 2, .e 5, .i 0, .e 2, .e 2, .s ⟨#[]⟩, .s ⟨#[]⟩, .i 0, .e 6, .e 4, .e 1])] [] ?_
 refine jn [(17, .b ((!(Qv s_)) || (!(Zu quota))))] [] [] [] (!(Qv s_)) (fun h1 => ?_) (fun h1 => ?_) ?_
 ·
  have h1n : (Qv s_) = false := bnot_t h1
  refine rn Qa [0, 1, 4, 5, 17] [4] (pc 1 (cb h1n (Kc s_)) (pe 2 (show .b (!false) = .b true from rfl) p0)) ?_
  exact ⟨rfl, Qd (by rw [h1] <;> kernel_rfl)⟩
 ·
  have h1n : (Qv s_) = true := Zl h1
  refine rn Qa [0, 1, 4, 5, 17] [4] (pc 1 (cb h1n (Kc s_)) (pe 2 (show .b (!true) = .b false from rfl) (pc 5 (implIsValidQuota_a quota) p0))) ?_
  exact ⟨rfl, Qd (by rw [h1] <;> kernel_rfl)⟩
 refine ck ((!(Qv s_)) || (!(Zu quota))) (fun h2 => ?_) (fun h2 => ?_)
 ·
  refine su Qa [] [17] [] [] (p0) ?_
  refine opn [(true, 4, 0, true, 384000, 2), (true, 4, 1, true, 384001, 5), (true, 4, 3, true, 384002, 2), (true, 4, 4, true, 384003, 2), (true, 4, 8, true, 384004, 6), (true, 4, 9, true, 384005, 4), (true, 4, 10, true, 384006, 1)] ?_
  refine Qf ?_
  exact pz [] (show Qc s_ quota = _ from Xw h2 (rfl)) (fun z => .tup [(true, [.o 0 z.1.1.1.1, .o 1 z.1.1.1.2.1, .i z.1.1.1.2.2, .o 2 z.1.1.2.1, .o 3 z.1.1.2.2, .s z.1.2.1.1, .s z.1.2.1.2, .i z.1.2.2.1, .o 4 z.1.2.2.2.1, .o 5 z.1.2.2.2.2.1, .o 6 z.1.2.2.2.2.2]), (false, [.b z.2])])
 have h2l : ((!(Qv s_))) = false := or_l h2
 have h2ln : (Qv s_) = true := Zl h2l
 have h2r : ((!(Zu quota))) = false := or_r h2
 have h2rn : (Zu quota) = true := Zl h2r
 refine Qg ?_
 refine sn Qa [1, 4, 5, 6] [4, 6] (pc 1 (implNewStore_a s_) (pc 2 (acalls_args (.cons (ArgLe.rfl _) ( .cons (ArgLe.nil 2) (.nil))) (implNewCatalog_a (Xk s_) [])) p0)) ?_
 refine tN Qa Y2 [4, 5, 8] [4, 8] (pc 2 (cloneInt_a quota) p0) ?_
 refine tu Qa [(8, .p 8 0), (9, .p 9 0)] [0, 1, 17] [(8, [.o 1408 ((((Qw (Xk s_) [])).1).1.1), .o 1409 ((((Qw (Xk s_) [])).1).1.2.1), .i ((((Qw (Xk s_) [])).1).1.2.2), .o 1410 ((((Qw (Xk s_) [])).1).2.1), .o 1411 ((((Qw (Xk s_) [])).1).2.2), .s ⟨#[]⟩, .s ⟨#[]⟩, .i 1, .e 6, .e 4, .o 1728 quota]), (9, [.o 1920 ((Xl ((((Qw (Xk s_) [])).1), (⟨#[]⟩, ⟨#[]⟩), 1, [], [], quota)).1.1), .o 1921 ((Xl ((((Qw (Xk s_) [])).1), (⟨#[]⟩, ⟨#[]⟩), 1, [], [], quota)).1.2.1), .i ((Xl ((((Qw (Xk s_) [])).1), (⟨#[]⟩, ⟨#[]⟩), 1, [], [], quota)).1.2.2), .o 1922 ((Xl ((((Qw (Xk s_) [])).1), (⟨#[]⟩, ⟨#[]⟩), 1, [], [], quota)).2)])] [] (pc 1 (implSystemSnapshot_a ((((Qw (Xk s_) [])).1), (⟨#[]⟩, ⟨#[]⟩), 1, [], [], quota)) p0) ?_
 refine sn Qa [4, 5, 8, 9] [4, 8, 9] (pc 2 (implWriteSlot_a (⟨#[]⟩, ⟨#[]⟩) (Xl ((((Qw (Xk s_) [])).1), (⟨#[]⟩, ⟨#[]⟩), 1, [], [], quota)) 1000000000 (by first | assumption | rfl | exact (Je _ _ _ _ _ _).1 | exact (Je _ _ _ _ _ _).2) (by first | assumption | rfl | exact (Je _ _ _ _ _ _).1 | exact (Je _ _ _ _ _ _).2) (by first | assumption | rfl | exact (Je _ _ _ _ _ _).1 | exact (Je _ _ _ _ _ _).2) (by first | assumption | rfl | exact (Je _ _ _ _ _ _).1 | exact (Je _ _ _ _ _ _).2)) p0) ?_
 refine tn Qa [4, 5, 8] [4, 8] (p0) ?_
 refine tu Qa [(5, .b true)] [5, 8, 9] [(4, [.o 1408 ((((Qw (Xk s_) [])).1).1.1), .o 1409 ((((Qw (Xk s_) [])).1).1.2.1), .i ((((Qw (Xk s_) [])).1).1.2.2), .o 1410 ((((Qw (Xk s_) [])).1).2.1), .o 1411 ((((Qw (Xk s_) [])).1).2.2), .s ((((Z0 (⟨#[]⟩, ⟨#[]⟩) (Xl ((((Qw (Xk s_) [])).1), (⟨#[]⟩, ⟨#[]⟩), 1, [], [], quota)) 1000000000)).1).1), .s ((((Z0 (⟨#[]⟩, ⟨#[]⟩) (Xl ((((Qw (Xk s_) [])).1), (⟨#[]⟩, ⟨#[]⟩), 1, [], [], quota)) 1000000000)).1).2), .i 1, .o 2560 [((1, (Xl ((((Qw (Xk s_) [])).1), (⟨#[]⟩, ⟨#[]⟩), 1, [], [], quota)), 0) : Yg)], .e 4, .o 1728 quota])] [4, 8, 9] (p0) ?_
 refine opn [(true, 4, 9, true, 384000, 4)] ?_
 refine Qf ?_
 exact pz [] (show Qc s_ quota = _ from Qm h2 (rfl)) (fun z => .tup [(true, [.o 0 z.1.1.1.1, .o 1 z.1.1.1.2.1, .i z.1.1.1.2.2, .o 2 z.1.1.2.1, .o 3 z.1.1.2.2, .s z.1.2.1.1, .s z.1.2.1.2, .i z.1.2.2.1, .o 4 z.1.2.2.2.1, .o 5 z.1.2.2.2.2.1, .o 6 z.1.2.2.2.2.2]), (false, [.b z.2])])
def Zd (s_ : (List X4)) (quota : (List Int)) : SystemD × Bool := (bif ((!(((Xs (Xv s_) [])).2)) || (!(J6 quota))) then (((([], [], 0), [], []), (⟨#[]⟩, ⟨#[]⟩), 0, [], [], []), false) else (((((Xs (Xv s_) [])).1), (((Ji (⟨#[]⟩, ⟨#[]⟩) ((Xv s_), []) 1000000)).1), 1, ((Jn [] 1 ((Xv s_), []))).1, [], quota), true))
theorem specNewSystem_a (s_ : (List X4)) (quota : (List Int)) : ACalls Tryz.prog 5 [.h s_, .h quota] (.tup [(true, [.o 0 ((((Zd s_ quota)).1).1.1.1), .o 1 ((((Zd s_ quota)).1).1.1.2.1), .i ((((Zd s_ quota)).1).1.1.2.2), .o 2 ((((Zd s_ quota)).1).1.2.1), .o 3 ((((Zd s_ quota)).1).1.2.2), .s ((((Zd s_ quota)).1).2.1.1), .s ((((Zd s_ quota)).1).2.1.2), .i ((((Zd s_ quota)).1).2.2.1), .o 4 ((((Zd s_ quota)).1).2.2.2.1), .o 5 ((((Zd s_ quota)).1).2.2.2.2.1), .o 6 ((((Zd s_ quota)).1).2.2.2.2.2)]), (false, [.b (((Zd s_ quota)).2)])]) := by
 refine en Qa Tryz.func5 fun w0 F0 hG => ?_
 refine sn Qa [0, 1, 4, 5] [4] (p0) ?_
 refine tn Qa [0, 1, 4, 5, 6, 7] [4, 6] (pc 1 (specNewStore_a s_) (pc 2 (acalls_args (.cons (ArgLe.rfl _) ( .cons (ArgLe.nil 2) (.nil))) (specNewCatalog_a (Xv s_) [])) p0)) ?_
 refine Qb ?_
 refine Qb ?_
 refine mz [(4, .p 4 0), (5, .b false), (6, .p 6 0), (7, .b (((Xs (Xv s_) [])).2))] [] [(4, [.e 2, .e 5, .i 0, .e 2, .e 2, .s ⟨#[]⟩, .s ⟨#[]⟩, .i 0, .e 6, .e 4, .e 1]), (6, [.o 1024 ((((Xs (Xv s_) [])).1).1.1), .o 1025 ((((Xs (Xv s_) [])).1).1.2.1), .i ((((Xs (Xv s_) [])).1).1.2.2), .o 1026 ((((Xs (Xv s_) [])).1).2.1), .o 1027 ((((Xs (Xv s_) [])).1).2.2)])] [] ?_
 refine jn [(25, .b ((!(((Xs (Xv s_) [])).2)) || (!(J6 quota))))] [7] [] [] (!(((Xs (Xv s_) [])).2)) (fun h1 => ?_) (fun h1 => ?_) ?_
 ·
  have h1n : (((Xs (Xv s_) [])).2) = false := bnot_t h1
  refine ru Qa [(25, .b true)] [7] [] [] (pf 0 h1n (pe 1 (show .b (!false) = .b true from rfl) p0)) ?_
  exact ⟨rfl, Qd (by rw [h1] <;> kernel_rfl)⟩
 ·
  have h1n : (((Xs (Xv s_) [])).2) = true := Zl h1
  refine rn Qa [0, 1, 4, 5, 6, 25] [4, 6] (pt 0 h1n (pe 1 (show .b (!true) = .b false from rfl) (pc 4 (specIsValidQuota_a quota) p0))) ?_
  exact ⟨rfl, Qd (by rw [h1] <;> kernel_rfl)⟩
 refine ck ((!(((Xs (Xv s_) [])).2)) || (!(J6 quota))) (fun h2 => ?_) (fun h2 => ?_)
 ·
  refine su Qa [] [25] [] [] (p0) ?_
  refine opn [(true, 4, 0, true, 384000, 2), (true, 4, 1, true, 384001, 5), (true, 4, 3, true, 384002, 2), (true, 4, 4, true, 384003, 2), (true, 4, 8, true, 384004, 6), (true, 4, 9, true, 384005, 4), (true, 4, 10, true, 384006, 1)] ?_
  refine Qf ?_
  exact pz [] (show Zd s_ quota = _ from Xw h2 (rfl)) (fun z => .tup [(true, [.o 0 z.1.1.1.1, .o 1 z.1.1.1.2.1, .i z.1.1.1.2.2, .o 2 z.1.1.2.1, .o 3 z.1.1.2.2, .s z.1.2.1.1, .s z.1.2.1.2, .i z.1.2.2.1, .o 4 z.1.2.2.2.1, .o 5 z.1.2.2.2.2.1, .o 6 z.1.2.2.2.2.2]), (false, [.b z.2])])
 have h2l : ((!(((Xs (Xv s_) [])).2))) = false := or_l h2
 have h2ln : (((Xs (Xv s_) [])).2) = true := Zl h2l
 have h2r : ((!(J6 quota))) = false := or_r h2
 have h2rn : (J6 quota) = true := Zl h2r
 refine Qg ?_
 refine sn Qa [1, 4, 5, 6, 8] [4, 6, 8] (pc 1 (specNewStore_a s_) p0) ?_
 refine tn Qa [1, 4, 5, 6, 8, 9] [4, 6, 8, 9] (pc 2 (specWriteSlot_a (⟨#[]⟩, ⟨#[]⟩) ((Xv s_), []) 1000000 (by first | assumption | rfl | exact (Je _ _ _ _ _ _).1 | exact (Je _ _ _ _ _ _).2) (by first | assumption | rfl | exact (Je _ _ _ _ _ _).1 | exact (Je _ _ _ _ _ _).2) (by first | assumption | rfl | exact (Je _ _ _ _ _ _).1 | exact (Je _ _ _ _ _ _).2) (by first | assumption | rfl | exact (Je _ _ _ _ _ _).1 | exact (Je _ _ _ _ _ _).2)) p0) ?_
 refine tu Qa [(9, .p 9 0), (11, .o 2432 (((Jn [] 1 ((Xv s_), []))).1))] [0, 25] [(9, [.s ((((Ji (⟨#[]⟩, ⟨#[]⟩) ((Xv s_), []) 1000000)).1).1), .s ((((Ji (⟨#[]⟩, ⟨#[]⟩) ((Xv s_), []) 1000000)).1).2)])] [] (pc 1 (acalls_args (.cons (ArgLe.nil 6) ( .cons (ArgLe.rfl _) ( .cons (ArgLe.rfl _) (.nil)))) (specAppendVersion_a [] 1 ((Xv s_), []) (by decide))) p0) ?_
 refine wT 1 0 .sh quota (fun hw3 hl4 => ?_)
 refine sN Qa Y2 [4, 5] [4] (po 5 (.flat) (px (ob_len (n := (([] : List (List PV)).length + ((eL quota) : List (List PV)).length)) (len_of (rfl) (Ym quota) (by first | omega | (simp only [List.length_cons, List.length_nil]; omega) | (simp; omega) | simp))) (px (ob_flat (flat_eL quota)) p0))) ?_
 refine opn [(true, 4, 9, true, 384000, 4)] ?_
 refine Qf ?_
 exact pz [] (show Zd s_ quota = _ from Qm h2 (rfl)) (fun z => .tup [(true, [.o 0 z.1.1.1.1, .o 1 z.1.1.1.2.1, .i z.1.1.1.2.2, .o 2 z.1.1.2.1, .o 3 z.1.1.2.2, .s z.1.2.1.1, .s z.1.2.1.2, .i z.1.2.2.1, .o 4 z.1.2.2.2.1, .o 5 z.1.2.2.2.2.1, .o 6 z.1.2.2.2.2.2]), (false, [.b z.2])])
theorem quota_go (b : Bool) : ∀ (l : List Int) (k : Nat), Out.on (Xz Vp specIsValidQuota_e0 l k ()) (fun _ => b) = ((l.all fun n => Qo n 0 999) && b)
  | [], _ => by simp [Xz, Out.on]
  | a :: l, k => by
    simp only [Xz, Vp, List.all_cons]
    cases Qo a 0 999 with
    | false => rfl
    | true => rw [Bool.true_and]; exact quota_go b l (k + 1)
theorem quota_idx : ∀ (l : List Int) (k : Nat), decide (Out.on (Xz Yf Yt l k ()) (fun _ => (-1 : Int)) ≥ 0) = !(l.all fun n => Qo n 0 999)
  | [], _ => rfl
  | a :: l, k => by
    have e : Kv a = !(Qo a 0 999) := rfl
    simp only [Xz, Yf, List.all_cons, e]
    cases Qo a 0 999 with
    | false => exact decide_eq_true (show ((k : Nat) : Int) ≥ 0 by omega)
    | true => rw [Bool.true_and]; exact quota_idx l (k + 1)
theorem quotaV_eq (q : List Int) : J6 q = Zu q := by
  unfold J6 Zu X0 Zb
  rw [quota_idx, quota_go, Bool.not_not, Bool.and_comm]
theorem strata0 : Qj [] = ([], true) := rfl
theorem store0 (s : List X4) : Yd (s, [], 1) = Qv s := by
  unfold Yd
  show (Qv s && _) = _
  rw [show (decide ((([] : List Zr).length : Int) ≤ 12) && Xj 1 1 61) = true from rfl, Bool.and_true]
theorem eval0 (s : List X4) : Jm (s, [], 1) [] = ([], Qv s) := by
  unfold Jm Zz
  rw [strata0, store0]
  cases Qv s with
  | false => rfl
  | true => rfl
theorem newCat_is (s : List X4) (h : Qv s = true) : Qw (Xk s) [] = (((s, [], 1), [], []), true) := by
  unfold Qw Xk
  rw [eval0, h]
  rfl
theorem newCatS_is (s : List X4) : Xs (Xv s) [] = bif Qv s then (((s, [], 1), [], []), true) else ((([], [], 0), [], []), false) := by
  unfold Xs Xv
  rw [evaluate_eq, eval0]
  cases Qv s with
  | false => rfl
  | true => rfl
theorem slot_loop : ∀ (l : List ByteArray) (k : Nat) (s : ByteArray), Xz specEncodeSlot_f0 specEncodeSlot_e0 l k s = Xz Ke implEncodeSlot_e0 l k s ∧ ∃ y, Xz Ke implEncodeSlot_e0 l k s = .brk y
  | [], k, s => ⟨rfl, s, rfl⟩
  | a :: l, k, s => by
    simp only [Xz, specEncodeSlot_f0, Ke]
    rw [ByteArray.append_assoc]
    exact slot_loop l (k + 1) _
theorem encSlot_eq (n : Int) (x : Xq) : X1 n x = Yp n x := by
  unfold X1 Yp
  have e : ∀ n, Qo n 1 1000000000 = Xj n 1 1000000000 := fun n => rfl
  rw [snapV_eq, encS_form, encI_form, e, (slot_loop _ _ _).1]
  cases ((!(Qt x)) || (!(Xj n 1 1000000000))) with
  | true => rfl
  | false =>
    obtain ⟨y, hy⟩ := (slot_loop (bif !(Qt x) then [] else x.1.1.map Yl ++ [((⟨#[110, 101, 120, 116, 32]⟩ : ByteArray) ++ (Y3 x.1.2.2))]) 0 ((Y3 n) ++ (⟨#[10]⟩ : ByteArray))).2
    rw [hy]
    simp only [cond_false, Out.on]
    rw [check_eq]
theorem slot_size : ∀ (l : List ByteArray) (k : Nat) (s y : ByteArray), (∀ z, z ∈ l → z.size ≤ 40) → Xz Ke implEncodeSlot_e0 l k s = .brk y → y.size ≤ s.size + 41 * l.length
  | [], k, s, y, _, h => by
    obtain rfl : s = y := Out.brk.inj h
    exact Nat.le_add_right _ _
  | a :: l, k, s, y, hl, h => by
    simp only [Xz, Ke] at h
    have h1 := slot_size l (k + 1) _ y (fun z hz => hl z (List.mem_cons_of_mem _ hz)) h
    have h2 := hl a (List.mem_cons_self ..)
    have h3 : (⟨#[10]⟩ : ByteArray).size = 1 := rfl
    rw [ByteArray.size_append, ByteArray.size_append] at h1
    simp only [List.length_cons]
    omega
theorem encSlot_size (n : Int) (x : Xq) : (Yp n x).size ≤ 1000 := by
  unfold Yp
  cases hc : ((!(Qt x)) || (!(Xj n 1 1000000000))) with
  | true => exact Nat.zero_le _
  | false =>
    simp only [Bool.or_eq_false_iff, Bool.not_eq_false'] at hc
    have hn : 1 ≤ n ∧ n ≤ 1000000000 := within_iff.1 hc.2
    obtain ⟨y, hy⟩ := (slot_loop (Yc x) 0 ((Y3 n) ++ (⟨#[10]⟩ : ByteArray))).2
    have hb := encI_bd x
    have h1 := slot_size _ _ _ _ hb.2 hy
    rw [hy]
    have h2 := Vw (n := n) (by omega)
    have h3 := check_bd y
    have h4 := Vw (n := J5 y) (by omega)
    have h5 : (⟨#[10]⟩ : ByteArray).size = 1 := rfl
    have h6 : (⟨#[46]⟩ : ByteArray).size = 1 := rfl
    simp only [cond_false, Out.on, ByteArray.size_append] at h1 ⊢
    omega
theorem write_eq (x : Xq) : Ji (⟨#[]⟩, ⟨#[]⟩) x 1000000 = ((Z0 (⟨#[]⟩, ⟨#[]⟩) x 1000000000).1, (Ji (⟨#[]⟩, ⟨#[]⟩) x 1000000).2) := by
  have e1 : IntKind.i64.wrap ((Q9 (⟨#[]⟩, ⟨#[]⟩)).1 + 1) = 1 := rfl
  have e2 : Xi (⟨#[]⟩, ⟨#[]⟩) x = (Yp 1 x, true) := rfl
  have e3 : (Q9 (⟨#[]⟩, ⟨#[]⟩)).2.2.2 = false := rfl
  unfold Ji Z0
  rw [e1, e2, e3, encSlot_eq]
  have hs := encSlot_size 1 x
  have c1 : specClamp 1000000 0 ((Yp 1 x).size : Int) = ((Yp 1 x).size : Int) := by rw [clamp_eq _ _ _ (by omega)]; unfold Jy; omega
  have c2 : Jy 1000000000 0 ((Yp 1 x).size : Int) = ((Yp 1 x).size : Int) := by unfold Jy; omega
  simp only [c1, c2]
  cases ((Yp 1 x).toList == (⟨#[]⟩ : ByteArray).toList) <;> rfl
theorem state_id (x : Xq) : Xc x = x := by
  unfold Xc
  rw [show Vo x.1 = x.1 by
    unfold Vo
    rw [forL_map (f := specl05Copy_f0) (e := specl05Copy_e0) (g := id) (fun _ _ _ => rfl), List.map_id]
    rfl, show specl11Copy x.2 = x.2 by
    unfold specl11Copy
    rw [forL_map (f := specl11Copy_f0) (e := specl11Copy_e0) (g := id) (fun _ _ _ => rfl), List.map_id]
    rfl]
theorem append0 {x : Xq} (h : Qt x = true) : (Jn [] 1 x).1 = [((1, x, 0) : Yg)] := by
  have h1 : X3 [((1, x, 0) : Yg)] = true := by
    unfold X3
    simp only [Xz, K8]
    rw [snapV_eq, h]
    rfl
  unfold Jn
  rw [state_id]
  show (bif (!(X3 [])) || (!(X3 [((1, x, 0) : Yg)])) then _ else _ : List Yg × Bool).1 = _
  rw [h1]
  rfl
theorem newSystem_eq (s : List X4) (q : List Int) : Zd s q = Qc s q := by
  unfold Zd Qc
  rw [newCatS_is, quotaV_eq]
  cases hs : Qv s with
  | false => rfl
  | true =>
    cases Zu q with
    | false => rfl
    | true =>
      rw [newCat_is s hs]
      have hx : Xl (((s, [], 1), [], []), (⟨#[]⟩, ⟨#[]⟩), 1, [], [], q) = ((s, [], 1), []) := rfl
      have hv : Qt ((s, [], 1), []) = true := by
        unfold Qt
        rw [store0, hs]; rfl
      have e : Xv s = (s, [], 1) := rfl
      simp only [cond_true, Bool.not_true, Bool.or_self, cond_false]
      rw [hx, e, append0 hv, write_eq]
theorem newSystem_size (s : List X4) (q : List Int) (h : GoD.size s ≤ 1048576 ∧ q.length ≤ 1048576) : GoD.size (Qc s q).1 ≤ 1073741824 := by
  unfold Qc
  cases hs : Qv s with
  | false => exact Nat.zero_le _
  | true =>
    cases Zu q with
    | false => exact Nat.zero_le _
    | true =>
      rw [newCat_is s hs]
      have hx : Xl (((s, [], 1), [], []), (⟨#[]⟩, ⟨#[]⟩), 1, [], [], q) = ((s, [], 1), []) := rfl
      rw [hx]
      have hw : GoD.size (Z0 (⟨#[]⟩, ⟨#[]⟩) ((s, [], 1), []) 1000000000).1 ≤ 1000 := by
        have e2 : Xi (⟨#[]⟩, ⟨#[]⟩) ((s, [], 1), []) = (Yp 1 ((s, [], 1), []), true) := rfl
        unfold Z0
        rw [e2]
        have hz := encSlot_size 1 ((s, [], 1), [])
        cases ((Yp 1 ((s, [], 1), [])).toList == (⟨#[]⟩ : ByteArray).toList) with
        | true => exact Nat.zero_le _
        | false =>
          dsimp only [cond_false, cond_true]
          show (ByteArray.extract (Yp 1 ((s, [], 1), [])) _ _).size + 0 ≤ 1000
          rw [ByteArray.size_extract]
          omega
      have hq : GoD.size q = q.length := size_plain (fun _ => rfl)
      have hsz : GoD.size (((s, [], 1), []) : Xq) = (GoD.size s + (0 + 0)) + 0 := rfl
      show (GoD.size ((s, [], 1) : Yv) + (0 + 0)) + (GoD.size (Z0 (⟨#[]⟩, ⟨#[]⟩) ((s, [], 1), []) 1000000000).1 + (0 + (GoD.size [((1, ((s, [], 1), []), 0) : Yg)] + (0 + GoD.size q)))) ≤ 1073741824
      have e3 : GoD.size [((1, ((s, [], 1), []), 0) : Yg)] = 1 + ((0 + (GoD.size (((s, [], 1), []) : Xq) + 0)) + 0) := rfl
      have e4 : GoD.size ((s, [], 1) : Yv) = GoD.size s + (0 + 0) := rfl
      rw [e3, e4, hsz, hq]
      omega
open GoD (rd own)
set_option maxRecDepth 100000
set_option maxHeartbeats 1000000
theorem zSm : (∀ (w : World) o, (w.alloc o).heap.size = w.heap.size + 1) ∧ (∀ (w : World) a v, (w.setCell a v).heap.size = w.heap.size) ∧ ∀ w : World, w.drew.heap.size = w.heap.size := ⟨fun _ _ => World.size_alloc .., fun _ _ _ => World.size_setCell .., fun _ => rfl⟩
theorem mkLn {α : Type} [GoD α] {l : List α} {j : Nat} (h : j < l.length) (k : Nat) : (Qe (l.take j) k).1.length = j := by rw [Zm, List.length_take]; omega
abbrev mI {α : Type} [GoD α] (L : List Nat) (w : World) (oa : Option Addr) (cap : Nat) (l : List α) (k : Nat) (q i : Value) (wr : World) : Prop := ∃ j : Nat, j ≤ l.length ∧ i = .int .i64 j ∧ q = .int .i64 ((Qe (l.take j) k).2 : Nat) ∧ Hid (own L wr [.slice oa l.length cap] ((Qe (l.take j) k).1 ++ l.drop j)) ∧ Hid (Chg L w wr)
theorem digs_zero (f : Nat) : digs f 0 = [] := by cases f <;> rfl
theorem digs_fuel : ∀ (f f' k : Nat), k ≤ f → k ≤ f' → digs f k = digs f' k
  | 0, f', k, h, _ => by
    obtain rfl : k = 0 := by omega
    rw [digs_zero, digs_zero]
  | f + 1, 0, k, _, h => by
    obtain rfl : k = 0 := by omega
    rw [digs_zero, digs_zero]
  | f + 1, f' + 1, k, h, h' => by
    unfold digs
    by_cases hk : k = 0
    · rw [if_pos hk, if_pos hk]
    rw [if_neg hk, if_neg hk, digs_fuel f f' (k / 10) (by omega) (by omega)]
theorem digs_pos {k : Nat} (h : 0 < k) : digs k k = digs (k / 10) (k / 10) ++ [UInt8.ofNat (48 + k % 10)] := by
  obtain ⟨f, rfl⟩ : ∃ f, k = f + 1 := ⟨k - 1, by omega⟩
  rw [digs, if_neg (by omega), digs_fuel f ((f + 1) / 10) _ (by omega) (Nat.le_refl _)]
theorem digs_len : ∀ (n k : Nat), k < 10 ^ n → (digs k k).length ≤ n
  | 0, k, h => by
    obtain rfl : k = 0 := by simpa using h
    simp [digs_zero]
  | n + 1, k, h => by
    by_cases hk : k = 0
    · subst hk; simp [digs_zero]
    rw [digs_pos (by omega)]
    have := digs_len n (k / 10) (by rw [Nat.pow_succ] at h; omega)
    simp
    omega
theorem digs_len20 {k : Nat} (h : k ≤ 4611686018427387904) : (digs k k).length ≤ 20 := digs_len 20 k (by omega)
theorem markB_size {k : Nat} (h : k ≤ 4611686018427387904) : (markB k).size ≤ maxLen := by
  have h1 := digs_len20 h
  unfold markB maxLen
  show (List.toArray _).size ≤ _
  rw [List.size_toArray]
  split
  · simp
  simp; omega
theorem J0 (w : World) (K : Int) (k : Nat) (hK : K = k) (h1 : 1 ≤ k) (hk : k ≤ 4611686018427387904) : Calls Tryz.prog 35 #[.int .i64 K] w (Ret w (.string (markB k))) := by
  subst hK
  have hk0 : ¬ (k : Int) ≤ 0 := by omega
  have HL := Lib.hid (digs_len20 hk)
  go_enter Tryz.func35, Tryz.ntmps35
  go_wp2
  go_loopw [0, 3] (fun q s wr => ∃ (j : Nat) (out : ByteArray), q = .int .i64 j ∧ s = .string out ∧ j ≤ 4611686018427387904 ∧ Hid (digs j j ++ out.data.toList = digs k k) ∧ Below w.heap.size w wr) (fun q _ _ => (intOf q).toNat)
  case atStart => exact ⟨k, _, rfl, rfl, hk, by show _ = _; simp, Below.refl _ _⟩
  case round =>
    obtain ⟨j, out, rfl, rfl, hj, HD, hB⟩ := hrel
    have hos : out.size ≤ 20 := by
      have h := HL.out
      rw [← HD.out] at h
      simp at h
      have : out.size = out.data.size := rfl
      omega
    have hBs := hB.size
    by_cases hz : 0 < j
    · have hcv : ∀ w0 : World, Sem.run Tryz.prog (convert 104 9 (.slice (some ⟨w0.heap.size, 0, none⟩) 1 1)) (w0.alloc (.cells #[.int .u8 (48 + (j : Int) % 10)] 5)) = .ok (.string ⟨#[UInt8.ofNat (48 + j % 10)]⟩) (w0.alloc (.cells #[.int .u8 (48 + (j : Int) % 10)] 5)) := by
        intro w0
        refine run_convert_bytes_back (P := Tryz.prog) _ 104 9 5 _ 1 [UInt8.ofNat (48 + j % 10)] Tryz.underlying104 Tryz.underlying5 Tryz.underlying9 ?_
        intro i hi
        obtain rfl : i = 0 := by simp at hi; omega
        simp [Addr.add]
        omega
      have hos2 : 1 + out.size ≤ 30 := by omega
      go_wp2
      go_roundw
      case rel => exact ⟨j / 10, _, by go_num, rfl, by omega, by
        show _ = _
        rw [← HD.out, digs_pos hz]
        simp, by go_grown⟩
      case measure => simp [intOf]; omega
    obtain rfl : j = 0 := by omega
    go_wp2
    go_ret
    refine ⟨?_, hB⟩
    have h := HD.out
    rw [digs_zero] at h
    simp only [List.nil_append] at h
    have e : markB k = ⟨#[109]⟩ ++ out := by
      unfold markB
      rw [if_neg (by omega), ← h]
      apply ByteArray.ext
      simp
    rw [e]
    rfl
theorem markIntS_c (w : World) (v : Value) (l : List Int) (L : List Nat) (K : Int) (k : Nat) (hK : K = k) (h1 : 1 ≤ k) (hk : (Qe l k).2 ≤ 4611686018427387904) (ho : own L w [v] l) : Calls Tryz.prog 13 #[v, .int .i64 K] w (MarkR L w [v] (Qe l k)) := by
  subst hK
  obtain ⟨oa, cap, rfl⟩ := Yo ho
  have hlm : l.length ≤ 9223372036854775807 := len_of_own ho
  have HO := Lib.hid ho; clear ho
  go_enter Tryz.func13, Tryz.ntmps13
  go_wp2
  go_loopw [1, 5] (mI L w oa cap l k) (fun _ i _ => l.length - (intOf i).toNat)
  case atStart => exact ⟨0, Nat.zero_le _, rfl, rfl, HO.out, Chg.refl _ _⟩
  case round =>
    obtain ⟨j, hj, rfl, rfl, HW, HC⟩ := hrel
    by_cases hjl : j < l.length
    · have hx := List.getElem?_eq_getElem hjl
      have hsp := Zo l k j _ hx
      have hle := Nat.le_trans (Yu l k j _ hx) hk
      have hdr := List.drop_eq_getElem_cons hjl
      have hxl := mkLn hjl k
      have hkk : k ≤ (Qe (l.take j) k).2 := Xp _ _
      have how := HW.out
      rw [hdr] at how
      clear hx hdr HW
      generalize (Qe (l.take j) k).2 = kk at *
      generalize (Qe (l.take j) k).1 = xs at *
      generalize l[j] = x at *
      obtain ⟨g, cap', cur, e, Li, hv, hg, hroom, hgLi, hgL, hsub, hoe, hshut⟩ := own_open how
      simp only [Value.slice.injEq] at hv
      obtain ⟨rfl, hq0, rfl⟩ := hv
      clear hq0
      rw [hxl] at hroom hoe hshut
      clear hxl
      rw [show GoD.n Int = 1 from rfl] at hroom hoe hshut
      rw [Nat.mul_one] at hoe hshut
      generalize hce : (cur.toList.drop j).take 1 = ce at *
      obtain ⟨rfl, rfl, hh⟩ := hoe
      have p0 : wr.cell? ⟨g, j, none⟩ = some _ := Y0 hg hce 0 _ rfl
      have fz := K9 hg
      have hglt := Ql hg
      clear hce hg how
      have HSH := Lib.hid hshut; clear hshut
      have HSP := Lib.hid hsp; clear hsp
      have hle : kk + 1 ≤ 4611686018427387904 := hle
      have HU0 : Hid (Upd g j 1 [] wr wr) := Upd.refl _ _ _ _ _
      go_wp2
      go_roundw
      case measure => simp [intOf]; omega
      case rel =>
        refine ⟨j + 1, by omega, by go_num, ?_, ?_, ?_⟩
        · show Value.int _ _ = _
          rw [HSP.out]
          show Value.int .i64 _ = .int .i64 ((kk + 1 : Nat) : Int)
          first | go_num | (congr 1 <;> omega)
        · show own _ _ _ _
          rw [HSP.out]
          simp only [List.append_assoc, List.singleton_append]
          refine HSH.out _ [.int .i64 ((kk : Nat) : Int)] _ (by repeat (first | (with_reducible exact HU0.out) | (with_reducible refine Upd.setCell ?_ _ (by omega) _))) (own_i _ (i64_of (kk) (by omega))) ?_
          intro q u hq
          match q, hq with
          | 0, hq => obtain rfl := (Option.some.inj hq); simp [go_sem, *]
          | q + 1, hq => simp at hq
        exact HC.out.trans (((by repeat (first | (with_reducible exact HU0.out) | (with_reducible refine Upd.setCell ?_ _ (by omega) _))) : Upd g j 1 [] wr _).chg.mono (fun b hb => (List.mem_cons.1 hb).elim (fun e => e ▸ hgL) (hsub b)))
    obtain rfl : j = l.length := by omega
    have how := HW.out; have hch := HC.out
    rw [List.take_length, List.drop_length, List.append_nil] at how
    rw [List.take_length] at *
    have HW2 := Lib.hid how; have HC2 := Lib.hid hch; clear how hch
    go_wp2
    go_ret
    exact ⟨rfl, HW2.out, HC2.out⟩
theorem markEventS_c (w : World) (v : Value) (l : List EventD) (L : List Nat) (K : Int) (k : Nat) (hK : K = k) (h1 : 1 ≤ k) (hk : (Qe l k).2 ≤ 4611686018427387904) (ho : own L w [v] l) : Calls Tryz.prog 72 #[v, .int .i64 K] w (MarkR L w [v] (Qe l k)) := by
  subst hK
  obtain ⟨oa, cap, rfl⟩ := Yo ho
  have hlm : l.length ≤ 9223372036854775807 := len_of_own ho
  have HO := Lib.hid ho; clear ho
  go_enter Tryz.func72, Tryz.ntmps72
  go_wp2
  go_loopw [1, 5] (mI L w oa cap l k) (fun _ i _ => l.length - (intOf i).toNat)
  case atStart => exact ⟨0, Nat.zero_le _, rfl, rfl, HO.out, Chg.refl _ _⟩
  case round =>
    obtain ⟨j, hj, rfl, rfl, HW, HC⟩ := hrel
    by_cases hjl : j < l.length
    · have hx := List.getElem?_eq_getElem hjl
      have hsp := Zo l k j _ hx
      have hle := Nat.le_trans (Yu l k j _ hx) hk
      have hdr := List.drop_eq_getElem_cons hjl
      have hxl := mkLn hjl k
      have hkk : k ≤ (Qe (l.take j) k).2 := Xp _ _
      have how := HW.out
      rw [hdr] at how
      clear hx hdr HW
      generalize (Qe (l.take j) k).2 = kk at *
      generalize (Qe (l.take j) k).1 = xs at *
      generalize l[j] = x at *
      obtain ⟨g, cap', cur, e, Li, hv, hg, hroom, hgLi, hgL, hsub, hoe, hshut⟩ := own_open how
      simp only [Value.slice.injEq] at hv
      obtain ⟨rfl, hq0, rfl⟩ := hv
      clear hq0
      rw [hxl] at hroom hoe hshut
      clear hxl
      rw [show GoD.n EventD = 3 from rfl] at hroom hoe hshut
      generalize hce : (cur.toList.drop (j * 3)).take 3 = ce at *
      obtain ⟨v0, v1, v2⟩ := x
      obtain ⟨nd2, _, _, _, _, rfl, rfl, ⟨rfl, rfl, h0⟩, ⟨nd1, _, _, SL1, SL2, rfl, rfl, so1, so2⟩⟩ := hoe
      obtain ⟨sv1, rfl⟩ := len1 (show _ = 1 from GoD.rd_len (GoD.own_rd so1))
      obtain ⟨oa1, cp1, rfl⟩ := Yo so1
      obtain ⟨sv2, rfl⟩ := len1 (show _ = 1 from GoD.rd_len (GoD.own_rd so2))
      obtain ⟨oa2, cp2, rfl⟩ := Yo so2
      have p0 : wr.cell? ⟨g, j * 3, none⟩ = some _ := Y0 hg hce 0 _ rfl
      have p1 : wr.cell? ⟨g, j * 3 + 1, none⟩ = some _ := Y0 hg hce 1 _ rfl
      have p2 : wr.cell? ⟨g, j * 3 + 2, none⟩ = some _ := Y0 hg hce 2 _ rfl
      have fz := K9 hg
      have hglt := Ql hg
      clear hce hg how
      have HSH := Lib.hid hshut; clear hshut
      have HSP := Lib.hid hsp; clear hsp
      have hle : (Qe v2 ((Qe v1 (kk + 1)).2)).2 ≤ 4611686018427387904 := hle
      have hm1 : kk + 1 ≤ (Qe v1 (kk + 1)).2 := Xp _ _
      have hm2 : (Qe v1 (kk + 1)).2 ≤ (Qe v2 ((Qe v1 (kk + 1)).2)).2 := Xp _ _
      have HSO1 := Lib.hid so1; clear so1
      have HSO2 := Lib.hid so2; clear so2
      have HSUB := Lib.hid hsub; clear hsub
      have HU0 : Hid (Upd g (j * 3) 3 ([] ++ (SL1 ++ SL2)) wr wr) := Upd.refl _ _ _ _ _
      have tok1 : True := trivial
      have tok2 : True := trivial
      go_wp2_with (first | (go_at_call 13; have tk := tok1; clear tok1; refine Js (markIntS_c _ _ v1 SL1 _ (kk + 1) (by omega) (by omega) (by omega) (by repeat (first | (with_reducible exact HSO1.out) | (refine Zg ?_ (fun hm => hgLi (List.mem_append.2 (.inr (List.mem_append.2 (.inl hm)))))) ))) ?_; intro w1 ho1 hch hz; have c1 := fun o => hch.cell (b := g) (by go_size) (fun hm => hgLi (List.mem_append.2 (.inr (List.mem_append.2 (.inl hm))))) o; have f1 := fun o => hch.frozen (b := g) (by go_size) (fun hm => hgLi (List.mem_append.2 (.inr (List.mem_append.2 (.inl hm))))) o; have HU1 : Hid (Upd g (j * 3) 3 ([] ++ (SL1 ++ SL2)) wr w1) := Upd.mark (by repeat (first | (with_reducible exact HU0.out) | (with_reducible refine Upd.setCell ?_ _ (by omega) _))) hch (fun b hm => (List.mem_append.2 (.inr (List.mem_append.2 (.inl hm))))) (fun hm => hgLi (List.mem_append.2 (.inr (List.mem_append.2 (.inl hm))))) (by go_size); (try simp only [zSm] at hz); have HB1 := Lib.hid hch; clear hch; have HM1 := Lib.hid ho1; clear ho1) | (go_at_call 13; have tk := tok2; clear tok2; refine Js (markIntS_c _ _ v2 SL2 _ ((Qe v1 (kk + 1)).2) (by omega) (by omega) (by omega) (by repeat (first | (with_reducible exact HSO2.out) | (refine Zg ?_ (fun hm => hgLi (List.mem_append.2 (.inr (List.mem_append.2 (.inr hm)))))) | (refine Jb ?_ HB1.out (fun b hb1 hb2 => (List.nodup_append.1 nd1).2.2 _ hb2 _ hb1 rfl))))) ?_; intro w2 ho2 hch hz; have c2 := fun o => hch.cell (b := g) (by go_size) (fun hm => hgLi (List.mem_append.2 (.inr (List.mem_append.2 (.inr hm))))) o; have f2 := fun o => hch.frozen (b := g) (by go_size) (fun hm => hgLi (List.mem_append.2 (.inr (List.mem_append.2 (.inr hm))))) o; have HU2 : Hid (Upd g (j * 3) 3 ([] ++ (SL1 ++ SL2)) wr w2) := Upd.mark (by repeat (first | (with_reducible exact HU1.out) | (with_reducible refine Upd.setCell ?_ _ (by omega) _))) hch (fun b hm => (List.mem_append.2 (.inr (List.mem_append.2 (.inr hm))))) (fun hm => hgLi (List.mem_append.2 (.inr (List.mem_append.2 (.inr hm))))) (by go_size); (try simp only [zSm] at hz); have HB2 := Lib.hid hch; clear hch; have HM2 := Lib.hid ho2; clear ho2))
      go_roundw
      case measure => simp [intOf]; omega
      case rel =>
        refine ⟨j + 1, by omega, by go_num, ?_, ?_, ?_⟩
        · show Value.int _ _ = _
          rw [HSP.out]
          show Value.int .i64 _ = .int .i64 (((Qe v2 ((Qe v1 (kk + 1)).2)).2 : Nat) : Int)
          first | go_num | (congr 1 <;> omega)
        · show own _ _ _ _
          rw [HSP.out]
          simp only [List.append_assoc, List.singleton_append]
          refine HSH.out _ [.int .i64 ((kk : Nat) : Int), .slice oa1 v1.length cp1, .slice oa2 v2.length cp2] _ (by repeat (first | (with_reducible exact HU2.out) | (with_reducible refine Upd.setCell ?_ _ (by omega) _))) (Yy (own_i _ (i64_of (kk) (by omega))) (Yy (show own SL1 _ [.slice oa1 v1.length cp1] (Qe v1 (kk + 1)).1 by repeat (first | (with_reducible exact HM1.out) | (refine Zg ?_ (fun hm => hgLi (List.mem_append.2 (.inr (List.mem_append.2 (.inl hm)))))) | (refine Jb ?_ HB2.out (fun b hb1 hb2 => (List.nodup_append.1 nd1).2.2 _ hb1 _ hb2 rfl)))) (show own SL2 _ [.slice oa2 v2.length cp2] (Qe v2 ((Qe v1 (kk + 1)).2)).1 by repeat (first | (with_reducible exact HM2.out) | (refine Zg ?_ (fun hm => hgLi (List.mem_append.2 (.inr (List.mem_append.2 (.inr hm)))))) )) (fun x hx hy => (List.nodup_append.1 nd1).2.2 x hx x hy rfl)) (fun x hx hy => (List.nodup_append.1 nd2).2.2 x hx x hy rfl)) ?_
          intro q u hq
          match q, hq with
          | 0, hq => obtain rfl := (Option.some.inj hq); simp [go_sem, *]
          | 1, hq => obtain rfl := (Option.some.inj hq); simp [go_sem, *]
          | 2, hq => obtain rfl := (Option.some.inj hq); simp [go_sem, *]
          | q + 3, hq => simp at hq
        exact HC.out.trans (((by repeat (first | (with_reducible exact HU2.out) | (with_reducible refine Upd.setCell ?_ _ (by omega) _))) : Upd g (j * 3) 3 ([] ++ (SL1 ++ SL2)) wr _).chg.mono (fun b hb => (List.mem_cons.1 hb).elim (fun e => e ▸ hgL) (HSUB.out b)))
    obtain rfl : j = l.length := by omega
    have how := HW.out; have hch := HC.out
    rw [List.take_length, List.drop_length, List.append_nil] at how
    rw [List.take_length] at *
    have HW2 := Lib.hid how; have HC2 := Lib.hid hch; clear how hch
    go_wp2
    go_ret
    exact ⟨rfl, HW2.out, HC2.out⟩
theorem markWatchS_c (w : World) (v : Value) (l : List WatchD) (L : List Nat) (K : Int) (k : Nat) (hK : K = k) (h1 : 1 ≤ k) (hk : (Qe l k).2 ≤ 4611686018427387904) (ho : own L w [v] l) : Calls Tryz.prog 38 #[v, .int .i64 K] w (MarkR L w [v] (Qe l k)) := by
  subst hK
  obtain ⟨oa, cap, rfl⟩ := Yo ho
  have hlm : l.length ≤ 9223372036854775807 := len_of_own ho
  have HO := Lib.hid ho; clear ho
  go_enter Tryz.func38, Tryz.ntmps38
  go_wp2
  go_loopw [1, 5] (mI L w oa cap l k) (fun _ i _ => l.length - (intOf i).toNat)
  case atStart => exact ⟨0, Nat.zero_le _, rfl, rfl, HO.out, Chg.refl _ _⟩
  case round =>
    obtain ⟨j, hj, rfl, rfl, HW, HC⟩ := hrel
    by_cases hjl : j < l.length
    · have hx := List.getElem?_eq_getElem hjl
      have hsp := Zo l k j _ hx
      have hle := Nat.le_trans (Yu l k j _ hx) hk
      have hdr := List.drop_eq_getElem_cons hjl
      have hxl := mkLn hjl k
      have hkk : k ≤ (Qe (l.take j) k).2 := Xp _ _
      have how := HW.out
      rw [hdr] at how
      clear hx hdr HW
      generalize (Qe (l.take j) k).2 = kk at *
      generalize (Qe (l.take j) k).1 = xs at *
      generalize l[j] = x at *
      obtain ⟨g, cap', cur, e, Li, hv, hg, hroom, hgLi, hgL, hsub, hoe, hshut⟩ := own_open how
      simp only [Value.slice.injEq] at hv
      obtain ⟨rfl, hq0, rfl⟩ := hv
      clear hq0
      rw [hxl] at hroom hoe hshut
      clear hxl
      rw [show GoD.n WatchD = 4 from rfl] at hroom hoe hshut
      generalize hce : (cur.toList.drop (j * 4)).take 4 = ce at *
      obtain ⟨v0, v1, v2, v3⟩ := x
      obtain ⟨nd3, _, _, _, _, rfl, rfl, ⟨rfl, rfl, h0⟩, ⟨nd2, _, _, _, _, rfl, rfl, ⟨rfl, rfl, h1⟩, ⟨nd1, _, _, SL2, SL3, rfl, rfl, so2, so3⟩⟩⟩ := hoe
      obtain ⟨sv2, rfl⟩ := len1 (show _ = 1 from GoD.rd_len (GoD.own_rd so2))
      obtain ⟨oa2, cp2, rfl⟩ := Yo so2
      obtain ⟨sv3, rfl⟩ := len1 (show _ = 1 from GoD.rd_len (GoD.own_rd so3))
      obtain ⟨oa3, cp3, rfl⟩ := Yo so3
      have p0 : wr.cell? ⟨g, j * 4, none⟩ = some _ := Y0 hg hce 0 _ rfl
      have p1 : wr.cell? ⟨g, j * 4 + 1, none⟩ = some _ := Y0 hg hce 1 _ rfl
      have p2 : wr.cell? ⟨g, j * 4 + 2, none⟩ = some _ := Y0 hg hce 2 _ rfl
      have p3 : wr.cell? ⟨g, j * 4 + 3, none⟩ = some _ := Y0 hg hce 3 _ rfl
      have fz := K9 hg
      have hglt := Ql hg
      clear hce hg how
      have HSH := Lib.hid hshut; clear hshut
      have HSP := Lib.hid hsp; clear hsp
      have hle : (Qe v3 ((Qe v2 (kk + 1 + 1)).2)).2 ≤ 4611686018427387904 := hle
      have hm2 : kk + 1 + 1 ≤ (Qe v2 (kk + 1 + 1)).2 := Xp _ _
      have hm3 : (Qe v2 (kk + 1 + 1)).2 ≤ (Qe v3 ((Qe v2 (kk + 1 + 1)).2)).2 := Xp _ _
      have HSO2 := Lib.hid so2; clear so2
      have HSO3 := Lib.hid so3; clear so3
      have HSUB := Lib.hid hsub; clear hsub
      have HU0 : Hid (Upd g (j * 4) 4 ([] ++ ([] ++ (SL2 ++ SL3))) wr wr) := Upd.refl _ _ _ _ _
      have tok1 : True := trivial
      have tok2 : True := trivial
      have tok3 : True := trivial
      go_wp2_with (first | (go_at_call 35; have tk := tok1; clear tok1; refine (J0 _ _ (kk + 1) (by omega) (by omega) (by omega)).mono ?_; rintro e w1 ⟨rfl, hb⟩; have hz := hb.size; have c1 := fun o => bcell hb g o (by go_size); have f1 := fun o => bfroz hb g o (by go_size); have HU1 : Hid (Upd g (j * 4) 4 ([] ++ ([] ++ (SL2 ++ SL3))) wr w1) := Upd.below (by repeat (first | (with_reducible exact HU0.out) | (with_reducible refine Upd.setCell ?_ _ (by omega) _))) hb (by go_size); (try simp only [zSm] at hz); have HB1 := Lib.hid hb; clear hb) | (go_at_call 13; have tk := tok2; clear tok2; refine Js (markIntS_c _ _ v2 SL2 _ (kk + 1 + 1) (by omega) (by omega) (by omega) (by repeat (first | (with_reducible exact HSO2.out) | (refine Zg ?_ (fun hm => hgLi (List.mem_append.2 (.inr (List.mem_append.2 (.inr (List.mem_append.2 (.inl hm)))))))) | (with_reducible refine own_below ?_ HB1.out)))) ?_; intro w2 ho2 hch hz; have c2 := fun o => hch.cell (b := g) (by go_size) (fun hm => hgLi (List.mem_append.2 (.inr (List.mem_append.2 (.inr (List.mem_append.2 (.inl hm))))))) o; have f2 := fun o => hch.frozen (b := g) (by go_size) (fun hm => hgLi (List.mem_append.2 (.inr (List.mem_append.2 (.inr (List.mem_append.2 (.inl hm))))))) o; have HU2 : Hid (Upd g (j * 4) 4 ([] ++ ([] ++ (SL2 ++ SL3))) wr w2) := Upd.mark (by repeat (first | (with_reducible exact HU1.out) | (with_reducible refine Upd.setCell ?_ _ (by omega) _))) hch (fun b hm => (List.mem_append.2 (.inr (List.mem_append.2 (.inr (List.mem_append.2 (.inl hm))))))) (fun hm => hgLi (List.mem_append.2 (.inr (List.mem_append.2 (.inr (List.mem_append.2 (.inl hm))))))) (by go_size); (try simp only [zSm] at hz); have HB2 := Lib.hid hch; clear hch; have HM2 := Lib.hid ho2; clear ho2) | (go_at_call 72; have tk := tok3; clear tok3; refine Js (markEventS_c _ _ v3 SL3 _ ((Qe v2 (kk + 1 + 1)).2) (by omega) (by omega) (by omega) (by repeat (first | (with_reducible exact HSO3.out) | (refine Zg ?_ (fun hm => hgLi (List.mem_append.2 (.inr (List.mem_append.2 (.inr (List.mem_append.2 (.inr hm)))))))) | (refine Jb ?_ HB2.out (fun b hb1 hb2 => (List.nodup_append.1 nd1).2.2 _ hb2 _ hb1 rfl)) | (with_reducible refine own_below ?_ HB1.out)))) ?_; intro w3 ho3 hch hz; have c3 := fun o => hch.cell (b := g) (by go_size) (fun hm => hgLi (List.mem_append.2 (.inr (List.mem_append.2 (.inr (List.mem_append.2 (.inr hm))))))) o; have f3 := fun o => hch.frozen (b := g) (by go_size) (fun hm => hgLi (List.mem_append.2 (.inr (List.mem_append.2 (.inr (List.mem_append.2 (.inr hm))))))) o; have HU3 : Hid (Upd g (j * 4) 4 ([] ++ ([] ++ (SL2 ++ SL3))) wr w3) := Upd.mark (by repeat (first | (with_reducible exact HU2.out) | (with_reducible refine Upd.setCell ?_ _ (by omega) _))) hch (fun b hm => (List.mem_append.2 (.inr (List.mem_append.2 (.inr (List.mem_append.2 (.inr hm))))))) (fun hm => hgLi (List.mem_append.2 (.inr (List.mem_append.2 (.inr (List.mem_append.2 (.inr hm))))))) (by go_size); (try simp only [zSm] at hz); have HB3 := Lib.hid hch; clear hch; have HM3 := Lib.hid ho3; clear ho3))
      go_roundw
      case measure => simp [intOf]; omega
      case rel =>
        refine ⟨j + 1, by omega, by go_num, ?_, ?_, ?_⟩
        · show Value.int _ _ = _
          rw [HSP.out]
          show Value.int .i64 _ = .int .i64 (((Qe v3 ((Qe v2 (kk + 1 + 1)).2)).2 : Nat) : Int)
          first | go_num | (congr 1 <;> omega)
        · show own _ _ _ _
          rw [HSP.out]
          simp only [List.append_assoc, List.singleton_append]
          refine HSH.out _ [.int .i64 ((kk : Nat) : Int), .string (markB (kk + 1)), .slice oa2 v2.length cp2, .slice oa3 v3.length cp3] _ (by repeat (first | (with_reducible exact HU3.out) | (with_reducible refine Upd.setCell ?_ _ (by omega) _))) (Yy (own_i _ (i64_of (kk) (by omega))) (Yy (own_s _ (markB_size (by omega))) (Yy (show own SL2 _ [.slice oa2 v2.length cp2] (Qe v2 (kk + 1 + 1)).1 by repeat (first | (with_reducible exact HM2.out) | (refine Zg ?_ (fun hm => hgLi (List.mem_append.2 (.inr (List.mem_append.2 (.inr (List.mem_append.2 (.inl hm)))))))) | (refine Jb ?_ HB3.out (fun b hb1 hb2 => (List.nodup_append.1 nd1).2.2 _ hb1 _ hb2 rfl)))) (show own SL3 _ [.slice oa3 v3.length cp3] (Qe v3 ((Qe v2 (kk + 1 + 1)).2)).1 by repeat (first | (with_reducible exact HM3.out) | (refine Zg ?_ (fun hm => hgLi (List.mem_append.2 (.inr (List.mem_append.2 (.inr (List.mem_append.2 (.inr hm)))))))) )) (fun x hx hy => (List.nodup_append.1 nd1).2.2 x hx x hy rfl)) (fun x hx hy => (List.nodup_append.1 nd2).2.2 x hx x hy rfl)) (fun x hx hy => (List.nodup_append.1 nd3).2.2 x hx x hy rfl)) ?_
          intro q u hq
          match q, hq with
          | 0, hq => obtain rfl := (Option.some.inj hq); simp [go_sem, *]
          | 1, hq => obtain rfl := (Option.some.inj hq); simp [go_sem, *]
          | 2, hq => obtain rfl := (Option.some.inj hq); simp [go_sem, *]
          | 3, hq => obtain rfl := (Option.some.inj hq); simp [go_sem, *]
          | q + 4, hq => simp at hq
        exact HC.out.trans (((by repeat (first | (with_reducible exact HU3.out) | (with_reducible refine Upd.setCell ?_ _ (by omega) _))) : Upd g (j * 4) 4 ([] ++ ([] ++ (SL2 ++ SL3))) wr _).chg.mono (fun b hb => (List.mem_cons.1 hb).elim (fun e => e ▸ hgL) (HSUB.out b)))
    obtain rfl : j = l.length := by omega
    have how := HW.out; have hch := HC.out
    rw [List.take_length, List.drop_length, List.append_nil] at how
    rw [List.take_length] at *
    have HW2 := Lib.hid how; have HC2 := Lib.hid hch; clear how hch
    go_wp2
    go_ret
    exact ⟨rfl, HW2.out, HC2.out⟩
theorem markFieldS_c (w : World) (v : Value) (l : List X4) (L : List Nat) (K : Int) (k : Nat) (hK : K = k) (h1 : 1 ≤ k) (hk : (Qe l k).2 ≤ 4611686018427387904) (ho : own L w [v] l) : Calls Tryz.prog 12 #[v, .int .i64 K] w (MarkR L w [v] (Qe l k)) := by
  subst hK
  obtain ⟨oa, cap, rfl⟩ := Yo ho
  have hlm : l.length ≤ 9223372036854775807 := len_of_own ho
  have HO := Lib.hid ho; clear ho
  go_enter Tryz.func12, Tryz.ntmps12
  go_wp2
  go_loopw [1, 5] (mI L w oa cap l k) (fun _ i _ => l.length - (intOf i).toNat)
  case atStart => exact ⟨0, Nat.zero_le _, rfl, rfl, HO.out, Chg.refl _ _⟩
  case round =>
    obtain ⟨j, hj, rfl, rfl, HW, HC⟩ := hrel
    by_cases hjl : j < l.length
    · have hx := List.getElem?_eq_getElem hjl
      have hsp := Zo l k j _ hx
      have hle := Nat.le_trans (Yu l k j _ hx) hk
      have hdr := List.drop_eq_getElem_cons hjl
      have hxl := mkLn hjl k
      have hkk : k ≤ (Qe (l.take j) k).2 := Xp _ _
      have how := HW.out
      rw [hdr] at how
      clear hx hdr HW
      generalize (Qe (l.take j) k).2 = kk at *
      generalize (Qe (l.take j) k).1 = xs at *
      generalize l[j] = x at *
      obtain ⟨g, cap', cur, e, Li, hv, hg, hroom, hgLi, hgL, hsub, hoe, hshut⟩ := own_open how
      simp only [Value.slice.injEq] at hv
      obtain ⟨rfl, hq0, rfl⟩ := hv
      clear hq0
      rw [hxl] at hroom hoe hshut
      clear hxl
      rw [show GoD.n X4 = 2 from rfl] at hroom hoe hshut
      generalize hce : (cur.toList.drop (j * 2)).take 2 = ce at *
      obtain ⟨v0, v1⟩ := x
      obtain ⟨nd1, _, _, _, _, rfl, rfl, ⟨rfl, rfl, h0⟩, ⟨rfl, rfl, h1⟩⟩ := hoe
      have p0 : wr.cell? ⟨g, j * 2, none⟩ = some _ := Y0 hg hce 0 _ rfl
      have p1 : wr.cell? ⟨g, j * 2 + 1, none⟩ = some _ := Y0 hg hce 1 _ rfl
      have fz := K9 hg
      have hglt := Ql hg
      clear hce hg how
      have HSH := Lib.hid hshut; clear hshut
      have HSP := Lib.hid hsp; clear hsp
      have hle : kk + 1 + 1 ≤ 4611686018427387904 := hle
      have HSUB := Lib.hid hsub; clear hsub
      have HU0 : Hid (Upd g (j * 2) 2 ([] ++ []) wr wr) := Upd.refl _ _ _ _ _
      have tok1 : True := trivial
      go_wp2_with (first | (go_at_call 35; have tk := tok1; clear tok1; refine (J0 _ _ (kk) (by omega) (by omega) (by omega)).mono ?_; rintro e w1 ⟨rfl, hb⟩; have hz := hb.size; have c1 := fun o => bcell hb g o (by go_size); have f1 := fun o => bfroz hb g o (by go_size); have HU1 : Hid (Upd g (j * 2) 2 ([] ++ []) wr w1) := Upd.below (by repeat (first | (with_reducible exact HU0.out) | (with_reducible refine Upd.setCell ?_ _ (by omega) _))) hb (by go_size); (try simp only [zSm] at hz); have HB1 := Lib.hid hb; clear hb))
      go_roundw
      case measure => simp [intOf]; omega
      case rel =>
        refine ⟨j + 1, by omega, by go_num, ?_, ?_, ?_⟩
        · show Value.int _ _ = _
          rw [HSP.out]
          show Value.int .i64 _ = .int .i64 ((kk + 1 + 1 : Nat) : Int)
          first | go_num | (congr 1 <;> omega)
        · show own _ _ _ _
          rw [HSP.out]
          simp only [List.append_assoc, List.singleton_append]
          refine HSH.out _ [.string (markB (kk)), .int .i64 ((kk + 1 : Nat) : Int)] _ (by repeat (first | (with_reducible exact HU1.out) | (with_reducible refine Upd.setCell ?_ _ (by omega) _))) (Yy (own_s _ (markB_size (by omega))) (own_i _ (i64_of (kk + 1) (by omega))) (fun x hx hy => (List.nodup_append.1 nd1).2.2 x hx x hy rfl)) ?_
          intro q u hq
          match q, hq with
          | 0, hq => obtain rfl := (Option.some.inj hq); simp [go_sem, *]
          | 1, hq => obtain rfl := (Option.some.inj hq); simp [go_sem, *]
          | q + 2, hq => simp at hq
        exact HC.out.trans (((by repeat (first | (with_reducible exact HU1.out) | (with_reducible refine Upd.setCell ?_ _ (by omega) _))) : Upd g (j * 2) 2 ([] ++ []) wr _).chg.mono (fun b hb => (List.mem_cons.1 hb).elim (fun e => e ▸ hgL) (HSUB.out b)))
    obtain rfl : j = l.length := by omega
    have how := HW.out; have hch := HC.out
    rw [List.take_length, List.drop_length, List.append_nil] at how
    rw [List.take_length] at *
    have HW2 := Lib.hid how; have HC2 := Lib.hid hch; clear how hch
    go_wp2
    go_ret
    exact ⟨rfl, HW2.out, HC2.out⟩
theorem markAttrS_c (w : World) (v : Value) (l : List AttrD) (L : List Nat) (K : Int) (k : Nat) (hK : K = k) (h1 : 1 ≤ k) (hk : (Qe l k).2 ≤ 4611686018427387904) (ho : own L w [v] l) : Calls Tryz.prog 99 #[v, .int .i64 K] w (MarkR L w [v] (Qe l k)) := by
  subst hK
  obtain ⟨oa, cap, rfl⟩ := Yo ho
  have hlm : l.length ≤ 9223372036854775807 := len_of_own ho
  have HO := Lib.hid ho; clear ho
  go_enter Tryz.func99, Tryz.ntmps99
  go_wp2
  go_loopw [1, 5] (mI L w oa cap l k) (fun _ i _ => l.length - (intOf i).toNat)
  case atStart => exact ⟨0, Nat.zero_le _, rfl, rfl, HO.out, Chg.refl _ _⟩
  case round =>
    obtain ⟨j, hj, rfl, rfl, HW, HC⟩ := hrel
    by_cases hjl : j < l.length
    · have hx := List.getElem?_eq_getElem hjl
      have hsp := Zo l k j _ hx
      have hle := Nat.le_trans (Yu l k j _ hx) hk
      have hdr := List.drop_eq_getElem_cons hjl
      have hxl := mkLn hjl k
      have hkk : k ≤ (Qe (l.take j) k).2 := Xp _ _
      have how := HW.out
      rw [hdr] at how
      clear hx hdr HW
      generalize (Qe (l.take j) k).2 = kk at *
      generalize (Qe (l.take j) k).1 = xs at *
      generalize l[j] = x at *
      obtain ⟨g, cap', cur, e, Li, hv, hg, hroom, hgLi, hgL, hsub, hoe, hshut⟩ := own_open how
      simp only [Value.slice.injEq] at hv
      obtain ⟨rfl, hq0, rfl⟩ := hv
      clear hq0
      rw [hxl] at hroom hoe hshut
      clear hxl
      rw [show GoD.n AttrD = 4 from rfl] at hroom hoe hshut
      generalize hce : (cur.toList.drop (j * 4)).take 4 = ce at *
      obtain ⟨v0, ⟨v1, v2, v3⟩⟩ := x
      obtain ⟨nd3, _, _, _, _, rfl, rfl, ⟨rfl, rfl, h0⟩, ⟨nd2, _, _, _, _, rfl, rfl, ⟨rfl, rfl, h1⟩, ⟨nd1, _, _, _, _, rfl, rfl, ⟨rfl, rfl, h2⟩, ⟨rfl, rfl, h3⟩⟩⟩⟩ := hoe
      have p0 : wr.cell? ⟨g, j * 4, none⟩ = some _ := Y0 hg hce 0 _ rfl
      have p1 : wr.cell? ⟨g, j * 4 + 1, none⟩ = some _ := Y0 hg hce 1 _ rfl
      have p2 : wr.cell? ⟨g, j * 4 + 2, none⟩ = some _ := Y0 hg hce 2 _ rfl
      have p3 : wr.cell? ⟨g, j * 4 + 3, none⟩ = some _ := Y0 hg hce 3 _ rfl
      have fz := K9 hg
      have hglt := Ql hg
      clear hce hg how
      have HSH := Lib.hid hshut; clear hshut
      have HSP := Lib.hid hsp; clear hsp
      have hle : kk + 1 + 1 + 1 + 1 ≤ 4611686018427387904 := hle
      have HSUB := Lib.hid hsub; clear hsub
      have HU0 : Hid (Upd g (j * 4) 4 ([] ++ ([] ++ ([] ++ []))) wr wr) := Upd.refl _ _ _ _ _
      have tok1 : True := trivial
      have tok2 : True := trivial
      go_wp2_with (first | (go_at_call 35; have tk := tok1; clear tok1; refine (J0 _ _ (kk) (by omega) (by omega) (by omega)).mono ?_; rintro e w1 ⟨rfl, hb⟩; have hz := hb.size; have c1 := fun o => bcell hb g o (by go_size); have f1 := fun o => bfroz hb g o (by go_size); have HU1 : Hid (Upd g (j * 4) 4 ([] ++ ([] ++ ([] ++ []))) wr w1) := Upd.below (by repeat (first | (with_reducible exact HU0.out) | (with_reducible refine Upd.setCell ?_ _ (by omega) _))) hb (by go_size); (try simp only [zSm] at hz); have HB1 := Lib.hid hb; clear hb) | (go_at_call 35; have tk := tok2; clear tok2; refine (J0 _ _ (kk + 1 + 1 + 1) (by omega) (by omega) (by omega)).mono ?_; rintro e w2 ⟨rfl, hb⟩; have hz := hb.size; have c2 := fun o => bcell hb g o (by go_size); have f2 := fun o => bfroz hb g o (by go_size); have HU2 : Hid (Upd g (j * 4) 4 ([] ++ ([] ++ ([] ++ []))) wr w2) := Upd.below (by repeat (first | (with_reducible exact HU1.out) | (with_reducible refine Upd.setCell ?_ _ (by omega) _))) hb (by go_size); (try simp only [zSm] at hz); have HB2 := Lib.hid hb; clear hb))
      go_roundw
      case measure => simp [intOf]; omega
      case rel =>
        refine ⟨j + 1, by omega, by go_num, ?_, ?_, ?_⟩
        · show Value.int _ _ = _
          rw [HSP.out]
          show Value.int .i64 _ = .int .i64 ((kk + 1 + 1 + 1 + 1 : Nat) : Int)
          first | go_num | (congr 1 <;> omega)
        · show own _ _ _ _
          rw [HSP.out]
          simp only [List.append_assoc, List.singleton_append]
          refine HSH.out _ [.string (markB (kk)), .int .i64 ((kk + 1 : Nat) : Int), .int .i64 ((kk + 1 + 1 : Nat) : Int), .string (markB (kk + 1 + 1 + 1))] _ (by repeat (first | (with_reducible exact HU2.out) | (with_reducible refine Upd.setCell ?_ _ (by omega) _))) (Yy (own_s _ (markB_size (by omega))) (Yy (own_i _ (i64_of (kk + 1) (by omega))) (Yy (own_i _ (i64_of (kk + 1 + 1) (by omega))) (own_s _ (markB_size (by omega))) (fun x hx hy => (List.nodup_append.1 nd1).2.2 x hx x hy rfl)) (fun x hx hy => (List.nodup_append.1 nd2).2.2 x hx x hy rfl)) (fun x hx hy => (List.nodup_append.1 nd3).2.2 x hx x hy rfl)) ?_
          intro q u hq
          match q, hq with
          | 0, hq => obtain rfl := (Option.some.inj hq); simp [go_sem, *]
          | 1, hq => obtain rfl := (Option.some.inj hq); simp [go_sem, *]
          | 2, hq => obtain rfl := (Option.some.inj hq); simp [go_sem, *]
          | 3, hq => obtain rfl := (Option.some.inj hq); simp [go_sem, *]
          | q + 4, hq => simp at hq
        exact HC.out.trans (((by repeat (first | (with_reducible exact HU2.out) | (with_reducible refine Upd.setCell ?_ _ (by omega) _))) : Upd g (j * 4) 4 ([] ++ ([] ++ ([] ++ []))) wr _).chg.mono (fun b hb => (List.mem_cons.1 hb).elim (fun e => e ▸ hgL) (HSUB.out b)))
    obtain rfl : j = l.length := by omega
    have how := HW.out; have hch := HC.out
    rw [List.take_length, List.drop_length, List.append_nil] at how
    rw [List.take_length] at *
    have HW2 := Lib.hid how; have HC2 := Lib.hid hch; clear how hch
    go_wp2
    go_ret
    exact ⟨rfl, HW2.out, HC2.out⟩
theorem markFileS_c (w : World) (v : Value) (l : List Zr) (L : List Nat) (K : Int) (k : Nat) (hK : K = k) (h1 : 1 ≤ k) (hk : (Qe l k).2 ≤ 4611686018427387904) (ho : own L w [v] l) : Calls Tryz.prog 71 #[v, .int .i64 K] w (MarkR L w [v] (Qe l k)) := by
  subst hK
  obtain ⟨oa, cap, rfl⟩ := Yo ho
  have hlm : l.length ≤ 9223372036854775807 := len_of_own ho
  have HO := Lib.hid ho; clear ho
  go_enter Tryz.func71, Tryz.ntmps71
  go_wp2
  go_loopw [1, 5] (mI L w oa cap l k) (fun _ i _ => l.length - (intOf i).toNat)
  case atStart => exact ⟨0, Nat.zero_le _, rfl, rfl, HO.out, Chg.refl _ _⟩
  case round =>
    obtain ⟨j, hj, rfl, rfl, HW, HC⟩ := hrel
    by_cases hjl : j < l.length
    · have hx := List.getElem?_eq_getElem hjl
      have hsp := Zo l k j _ hx
      have hle := Nat.le_trans (Yu l k j _ hx) hk
      have hdr := List.drop_eq_getElem_cons hjl
      have hxl := mkLn hjl k
      have hkk : k ≤ (Qe (l.take j) k).2 := Xp _ _
      have how := HW.out
      rw [hdr] at how
      clear hx hdr HW
      generalize (Qe (l.take j) k).2 = kk at *
      generalize (Qe (l.take j) k).1 = xs at *
      generalize l[j] = x at *
      obtain ⟨g, cap', cur, e, Li, hv, hg, hroom, hgLi, hgL, hsub, hoe, hshut⟩ := own_open how
      simp only [Value.slice.injEq] at hv
      obtain ⟨rfl, hq0, rfl⟩ := hv
      clear hq0
      rw [hxl] at hroom hoe hshut
      clear hxl
      rw [show GoD.n Zr = 5 from rfl] at hroom hoe hshut
      generalize hce : (cur.toList.drop (j * 5)).take 5 = ce at *
      obtain ⟨v0, v1, v2, v3, v4⟩ := x
      obtain ⟨nd4, _, _, _, _, rfl, rfl, ⟨rfl, rfl, h0⟩, ⟨nd3, _, _, _, _, rfl, rfl, ⟨rfl, rfl, h1⟩, ⟨nd2, _, _, _, _, rfl, rfl, ⟨rfl, rfl⟩, ⟨nd1, _, _, _, SL4, rfl, rfl, ⟨rfl, rfl, h3⟩, so4⟩⟩⟩⟩ := hoe
      obtain ⟨sv4, rfl⟩ := len1 (show _ = 1 from GoD.rd_len (GoD.own_rd so4))
      obtain ⟨oa4, cp4, rfl⟩ := Yo so4
      have p0 : wr.cell? ⟨g, j * 5, none⟩ = some _ := Y0 hg hce 0 _ rfl
      have p1 : wr.cell? ⟨g, j * 5 + 1, none⟩ = some _ := Y0 hg hce 1 _ rfl
      have p2 : wr.cell? ⟨g, j * 5 + 2, none⟩ = some _ := Y0 hg hce 2 _ rfl
      have p3 : wr.cell? ⟨g, j * 5 + 3, none⟩ = some _ := Y0 hg hce 3 _ rfl
      have p4 : wr.cell? ⟨g, j * 5 + 4, none⟩ = some _ := Y0 hg hce 4 _ rfl
      have fz := K9 hg
      have hglt := Ql hg
      clear hce hg how
      have HSH := Lib.hid hshut; clear hshut
      have HSP := Lib.hid hsp; clear hsp
      have hle : (Qe v4 (kk + 1 + 1 + 1 + 1)).2 ≤ 4611686018427387904 := hle
      have hb2 := mod3_eq (kk + 1 + 1) _ (show ((kk : Int) + 1 + 1 : Int) = ((kk + 1 + 1 : Nat) : Int) by omega)
      have hm4 : kk + 1 + 1 + 1 + 1 ≤ (Qe v4 (kk + 1 + 1 + 1 + 1)).2 := Xp _ _
      have HSO4 := Lib.hid so4; clear so4
      have HSUB := Lib.hid hsub; clear hsub
      have HU0 : Hid (Upd g (j * 5) 5 ([] ++ ([] ++ ([] ++ ([] ++ SL4)))) wr wr) := Upd.refl _ _ _ _ _
      have tok1 : True := trivial
      go_wp2_with (first | (go_at_call 99; have tk := tok1; clear tok1; refine Js (markAttrS_c _ _ v4 SL4 _ (kk + 1 + 1 + 1 + 1) (by omega) (by omega) (by omega) (by repeat (first | (with_reducible exact HSO4.out) | (refine Zg ?_ (fun hm => hgLi (List.mem_append.2 (.inr (List.mem_append.2 (.inr (List.mem_append.2 (.inr (List.mem_append.2 (.inr hm)))))))))) ))) ?_; intro w1 ho1 hch hz; have c1 := fun o => hch.cell (b := g) (by go_size) (fun hm => hgLi (List.mem_append.2 (.inr (List.mem_append.2 (.inr (List.mem_append.2 (.inr (List.mem_append.2 (.inr hm))))))))) o; have f1 := fun o => hch.frozen (b := g) (by go_size) (fun hm => hgLi (List.mem_append.2 (.inr (List.mem_append.2 (.inr (List.mem_append.2 (.inr (List.mem_append.2 (.inr hm))))))))) o; have HU1 : Hid (Upd g (j * 5) 5 ([] ++ ([] ++ ([] ++ ([] ++ SL4)))) wr w1) := Upd.mark (by repeat (first | (with_reducible exact HU0.out) | (with_reducible refine Upd.setCell ?_ _ (by omega) _))) hch (fun b hm => (List.mem_append.2 (.inr (List.mem_append.2 (.inr (List.mem_append.2 (.inr (List.mem_append.2 (.inr hm))))))))) (fun hm => hgLi (List.mem_append.2 (.inr (List.mem_append.2 (.inr (List.mem_append.2 (.inr (List.mem_append.2 (.inr hm))))))))) (by go_size); (try simp only [zSm] at hz); have HB1 := Lib.hid hch; clear hch; have HM1 := Lib.hid ho1; clear ho1))
      go_roundw
      case measure => simp [intOf]; omega
      case rel =>
        refine ⟨j + 1, by omega, by go_num, ?_, ?_, ?_⟩
        · show Value.int _ _ = _
          rw [HSP.out]
          show Value.int .i64 _ = .int .i64 (((Qe v4 (kk + 1 + 1 + 1 + 1)).2 : Nat) : Int)
          first | go_num | (congr 1 <;> omega)
        · show own _ _ _ _
          rw [HSP.out]
          simp only [List.append_assoc, List.singleton_append]
          refine HSH.out _ [.int .i64 ((kk : Nat) : Int), .int .i64 ((kk + 1 : Nat) : Int), .bool ((kk + 1 + 1) % 3 == 0), .int .i64 ((kk + 1 + 1 + 1 : Nat) : Int), .slice oa4 v4.length cp4] _ (by repeat (first | (with_reducible exact HU1.out) | (with_reducible refine Upd.setCell ?_ _ (by omega) _))) (Yy (own_i _ (i64_of (kk) (by omega))) (Yy (own_i _ (i64_of (kk + 1) (by omega))) (Yy (own_b _ _) (Yy (own_i _ (i64_of (kk + 1 + 1 + 1) (by omega))) (show own SL4 _ [.slice oa4 v4.length cp4] (Qe v4 (kk + 1 + 1 + 1 + 1)).1 by repeat (first | (with_reducible exact HM1.out) | (refine Zg ?_ (fun hm => hgLi (List.mem_append.2 (.inr (List.mem_append.2 (.inr (List.mem_append.2 (.inr (List.mem_append.2 (.inr hm)))))))))) )) (fun x hx hy => (List.nodup_append.1 nd1).2.2 x hx x hy rfl)) (fun x hx hy => (List.nodup_append.1 nd2).2.2 x hx x hy rfl)) (fun x hx hy => (List.nodup_append.1 nd3).2.2 x hx x hy rfl)) (fun x hx hy => (List.nodup_append.1 nd4).2.2 x hx x hy rfl)) ?_
          intro q u hq
          match q, hq with
          | 0, hq => obtain rfl := (Option.some.inj hq); simp [go_sem, *]
          | 1, hq => obtain rfl := (Option.some.inj hq); simp [go_sem, *]
          | 2, hq => obtain rfl := (Option.some.inj hq); simp [go_sem, *]
          | 3, hq => obtain rfl := (Option.some.inj hq); simp [go_sem, *]
          | 4, hq => obtain rfl := (Option.some.inj hq); simp [go_sem, *]
          | q + 5, hq => simp at hq
        exact HC.out.trans (((by repeat (first | (with_reducible exact HU1.out) | (with_reducible refine Upd.setCell ?_ _ (by omega) _))) : Upd g (j * 5) 5 ([] ++ ([] ++ ([] ++ ([] ++ SL4)))) wr _).chg.mono (fun b hb => (List.mem_cons.1 hb).elim (fun e => e ▸ hgL) (HSUB.out b)))
    obtain rfl : j = l.length := by omega
    have how := HW.out; have hch := HC.out
    rw [List.take_length, List.drop_length, List.append_nil] at how
    rw [List.take_length] at *
    have HW2 := Lib.hid how; have HC2 := Lib.hid hch; clear how hch
    go_wp2
    go_ret
    exact ⟨rfl, HW2.out, HC2.out⟩
theorem markStore_c (w : World) (ca : List Value) (a : Yv) (L : List Nat) (K : Int) (k : Nat) (hK : K = k) (h1 : 1 ≤ k) (hk : (GoD.markT a k).2 ≤ 4611686018427387904) (ho : own L w ca a) : Calls Tryz.prog 68 #[.agg ca.toArray, .int .i64 K] w (MarkR L w ca (GoD.markT a k)) := by
  subst hK
  obtain ⟨b1, b2, b3⟩ := a
  have hk : (Qe b2 ((Qe b1 (k)).2)).2 ≤ 4611686018427387904 := hk
  have hlt := GoD.own_lt ho
  obtain ⟨nd0, _, _, SL0, _, rfl, rfl, so0, ⟨nd1, _, _, SL1, _, rfl, rfl, so1, ⟨rfl, rfl, h2⟩⟩⟩ := ho
  obtain ⟨ax0_0, rfl⟩ := len1 (show _ = 1 from GoD.rd_len (GoD.own_rd so0))
  have HSO0 := Lib.hid so0; clear so0
  have hm0 : k ≤ (Qe b1 (k)).2 := Xp _ _
  obtain ⟨ax1_0, rfl⟩ := len1 (show _ = 1 from GoD.rd_len (GoD.own_rd so1))
  have HSO1 := Lib.hid so1; clear so1
  have hm1 : (Qe b1 (k)).2 ≤ (Qe b2 ((Qe b1 (k)).2)).2 := Xp _ _
  show Calls Tryz.prog 68 #[.agg #[ax0_0, ax1_0, .int .i64 b3], .int .i64 (k : Int)] w (MarkR (SL0 ++ (SL1 ++ [])) w [ax0_0, ax1_0, .int .i64 b3] (GoD.markT ((b1, b2, b3) : Yv) k))
  have HLT := Lib.hid hlt; clear hlt
  have tok1 : True := trivial
  have tok2 : True := trivial
  go_enter Tryz.func68, Tryz.ntmps68
  go_wp2_with (first | (go_at_call 12; have tk := tok1; clear tok1; refine Js (markFieldS_c _ ax0_0 b1 SL0 _ (k) (by omega) (by omega) (show (Qe b1 (k)).2 ≤ 4611686018427387904 by omega) (by repeat (first | (with_reducible exact HSO0.out) | (refine Jp ?_) ))) ?_; intro w1 ho1 hch hz; have c1 := fun o => hch.cell (b := w.heap.size) (by go_size) (fun hm => by have := HLT.out _ (List.mem_append.2 (.inl hm)); omega) o; (try simp only [zSm] at hz); have HB1 := Lib.hid hch; clear hch; have HM1 := Lib.hid ho1; clear ho1) | (go_at_call 71; have tk := tok2; clear tok2; refine Js (markFileS_c _ ax1_0 b2 SL1 _ ((Qe b1 (k)).2) (by omega) (by omega) (show (Qe b2 ((Qe b1 (k)).2)).2 ≤ 4611686018427387904 by omega) (by repeat (first | (with_reducible exact HSO1.out) | (refine Jp ?_) | (refine Jb ?_ HB1.out (fun b hb1 hb2 => (List.nodup_append.1 nd0).2.2 _ hb2 _ (List.mem_append.2 (.inl hb1)) rfl))))) ?_; intro w2 ho2 hch hz; have c2 := fun o => hch.cell (b := w.heap.size) (by go_size) (fun hm => by have := HLT.out _ (List.mem_append.2 (.inr (List.mem_append.2 (.inl hm)))); omega) o; (try simp only [zSm] at hz); have HB2 := Lib.hid hch; clear hch; have HM2 := Lib.hid ho2; clear ho2))
  go_ret
  refine ⟨rfl, ?_, ?_⟩
  · show own (SL0 ++ (SL1 ++ [])) _ [ax0_0, ax1_0, .int .i64 b3] _
    exact (Yy (show own SL0 _ [ax0_0] (Qe b1 (k)).1 by repeat (first | (with_reducible exact HM1.out) | (refine Jp ?_) | (refine Jb ?_ HB2.out (fun b hb1 hb2 => (List.nodup_append.1 nd0).2.2 _ hb1 _ (List.mem_append.2 (.inl hb2)) rfl)))) (Yy (show own SL1 _ [ax1_0] (Qe b2 ((Qe b1 (k)).2)).1 by repeat (first | (with_reducible exact HM2.out) | (refine Jp ?_) )) (own_i _ h2) (fun x hx hy => (List.nodup_append.1 nd1).2.2 x hx x hy rfl)) (fun x hx hy => (List.nodup_append.1 nd0).2.2 x hx x hy rfl))
  show Chg (SL0 ++ (SL1 ++ [])) w _
  exact ((Chg.of_below (show Below w.heap.size w _ by go_grown)).trans (HB1.out.mono (fun b hm => (List.mem_append.2 (.inl hm))))).trans (HB2.out.mono (fun b hm => (List.mem_append.2 (.inr (List.mem_append.2 (.inl hm))))))
theorem markNodeS_c (w : World) (v : Value) (l : List Yi) (L : List Nat) (K : Int) (k : Nat) (hK : K = k) (h1 : 1 ≤ k) (hk : (Qe l k).2 ≤ 4611686018427387904) (ho : own L w [v] l) : Calls Tryz.prog 98 #[v, .int .i64 K] w (MarkR L w [v] (Qe l k)) := by
  subst hK
  obtain ⟨oa, cap, rfl⟩ := Yo ho
  have hlm : l.length ≤ 9223372036854775807 := len_of_own ho
  have HO := Lib.hid ho; clear ho
  go_enter Tryz.func98, Tryz.ntmps98
  go_wp2
  go_loopw [1, 5] (mI L w oa cap l k) (fun _ i _ => l.length - (intOf i).toNat)
  case atStart => exact ⟨0, Nat.zero_le _, rfl, rfl, HO.out, Chg.refl _ _⟩
  case round =>
    obtain ⟨j, hj, rfl, rfl, HW, HC⟩ := hrel
    by_cases hjl : j < l.length
    · have hx := List.getElem?_eq_getElem hjl
      have hsp := Zo l k j _ hx
      have hle := Nat.le_trans (Yu l k j _ hx) hk
      have hdr := List.drop_eq_getElem_cons hjl
      have hxl := mkLn hjl k
      have hkk : k ≤ (Qe (l.take j) k).2 := Xp _ _
      have how := HW.out
      rw [hdr] at how
      clear hx hdr HW
      generalize (Qe (l.take j) k).2 = kk at *
      generalize (Qe (l.take j) k).1 = xs at *
      generalize l[j] = x at *
      obtain ⟨g, cap', cur, e, Li, hv, hg, hroom, hgLi, hgL, hsub, hoe, hshut⟩ := own_open how
      simp only [Value.slice.injEq] at hv
      obtain ⟨rfl, hq0, rfl⟩ := hv
      clear hq0
      rw [hxl] at hroom hoe hshut
      clear hxl
      rw [show GoD.n Yi = 7 from rfl] at hroom hoe hshut
      generalize hce : (cur.toList.drop (j * 7)).take 7 = ce at *
      obtain ⟨v0, v1, v2, v3, ⟨v4, v5, v6⟩⟩ := x
      obtain ⟨nd6, _, _, _, _, rfl, rfl, ⟨rfl, rfl, h0⟩, ⟨nd5, _, _, _, _, rfl, rfl, ⟨rfl, rfl, h1⟩, ⟨nd4, _, _, _, _, rfl, rfl, ⟨rfl, rfl, h2⟩, ⟨nd3, _, _, _, _, rfl, rfl, ⟨rfl, rfl, h3⟩, ⟨nd2, _, _, _, _, rfl, rfl, ⟨rfl, rfl, h4⟩, ⟨nd1, _, _, _, _, rfl, rfl, ⟨rfl, rfl, h5⟩, ⟨rfl, rfl, h6⟩⟩⟩⟩⟩⟩⟩ := hoe
      have p0 : wr.cell? ⟨g, j * 7, none⟩ = some _ := Y0 hg hce 0 _ rfl
      have p1 : wr.cell? ⟨g, j * 7 + 1, none⟩ = some _ := Y0 hg hce 1 _ rfl
      have p2 : wr.cell? ⟨g, j * 7 + 2, none⟩ = some _ := Y0 hg hce 2 _ rfl
      have p3 : wr.cell? ⟨g, j * 7 + 3, none⟩ = some _ := Y0 hg hce 3 _ rfl
      have p4 : wr.cell? ⟨g, j * 7 + 4, none⟩ = some _ := Y0 hg hce 4 _ rfl
      have p5 : wr.cell? ⟨g, j * 7 + 5, none⟩ = some _ := Y0 hg hce 5 _ rfl
      have p6 : wr.cell? ⟨g, j * 7 + 6, none⟩ = some _ := Y0 hg hce 6 _ rfl
      have fz := K9 hg
      have hglt := Ql hg
      clear hce hg how
      have HSH := Lib.hid hshut; clear hshut
      have HSP := Lib.hid hsp; clear hsp
      have hle : kk + 1 + 1 + 1 + 1 + 1 + 1 + 1 ≤ 4611686018427387904 := hle
      have HSUB := Lib.hid hsub; clear hsub
      have HU0 : Hid (Upd g (j * 7) 7 ([] ++ ([] ++ ([] ++ ([] ++ ([] ++ ([] ++ [])))))) wr wr) := Upd.refl _ _ _ _ _
      have tok1 : True := trivial
      have tok2 : True := trivial
      go_wp2_with (first | (go_at_call 35; have tk := tok1; clear tok1; refine (J0 _ _ (kk + 1 + 1 + 1) (by omega) (by omega) (by omega)).mono ?_; rintro e w1 ⟨rfl, hb⟩; have hz := hb.size; have c1 := fun o => bcell hb g o (by go_size); have f1 := fun o => bfroz hb g o (by go_size); have HU1 : Hid (Upd g (j * 7) 7 ([] ++ ([] ++ ([] ++ ([] ++ ([] ++ ([] ++ [])))))) wr w1) := Upd.below (by repeat (first | (with_reducible exact HU0.out) | (with_reducible refine Upd.setCell ?_ _ (by omega) _))) hb (by go_size); (try simp only [zSm] at hz); have HB1 := Lib.hid hb; clear hb) | (go_at_call 35; have tk := tok2; clear tok2; refine (J0 _ _ (kk + 1 + 1 + 1 + 1 + 1 + 1) (by omega) (by omega) (by omega)).mono ?_; rintro e w2 ⟨rfl, hb⟩; have hz := hb.size; have c2 := fun o => bcell hb g o (by go_size); have f2 := fun o => bfroz hb g o (by go_size); have HU2 : Hid (Upd g (j * 7) 7 ([] ++ ([] ++ ([] ++ ([] ++ ([] ++ ([] ++ [])))))) wr w2) := Upd.below (by repeat (first | (with_reducible exact HU1.out) | (with_reducible refine Upd.setCell ?_ _ (by omega) _))) hb (by go_size); (try simp only [zSm] at hz); have HB2 := Lib.hid hb; clear hb))
      go_roundw
      case measure => simp [intOf]; omega
      case rel =>
        refine ⟨j + 1, by omega, by go_num, ?_, ?_, ?_⟩
        · show Value.int _ _ = _
          rw [HSP.out]
          show Value.int .i64 _ = .int .i64 ((kk + 1 + 1 + 1 + 1 + 1 + 1 + 1 : Nat) : Int)
          first | go_num | (congr 1 <;> omega)
        · show own _ _ _ _
          rw [HSP.out]
          simp only [List.append_assoc, List.singleton_append]
          refine HSH.out _ [.int .i64 ((kk : Nat) : Int), .int .i64 ((kk + 1 : Nat) : Int), .int .i64 ((kk + 1 + 1 : Nat) : Int), .string (markB (kk + 1 + 1 + 1)), .int .i64 ((kk + 1 + 1 + 1 + 1 : Nat) : Int), .int .i64 ((kk + 1 + 1 + 1 + 1 + 1 : Nat) : Int), .string (markB (kk + 1 + 1 + 1 + 1 + 1 + 1))] _ (by repeat (first | (with_reducible exact HU2.out) | (with_reducible refine Upd.setCell ?_ _ (by omega) _))) (Yy (own_i _ (i64_of (kk) (by omega))) (Yy (own_i _ (i64_of (kk + 1) (by omega))) (Yy (own_i _ (i64_of (kk + 1 + 1) (by omega))) (Yy (own_s _ (markB_size (by omega))) (Yy (own_i _ (i64_of (kk + 1 + 1 + 1 + 1) (by omega))) (Yy (own_i _ (i64_of (kk + 1 + 1 + 1 + 1 + 1) (by omega))) (own_s _ (markB_size (by omega))) (fun x hx hy => (List.nodup_append.1 nd1).2.2 x hx x hy rfl)) (fun x hx hy => (List.nodup_append.1 nd2).2.2 x hx x hy rfl)) (fun x hx hy => (List.nodup_append.1 nd3).2.2 x hx x hy rfl)) (fun x hx hy => (List.nodup_append.1 nd4).2.2 x hx x hy rfl)) (fun x hx hy => (List.nodup_append.1 nd5).2.2 x hx x hy rfl)) (fun x hx hy => (List.nodup_append.1 nd6).2.2 x hx x hy rfl)) ?_
          intro q u hq
          match q, hq with
          | 0, hq => obtain rfl := (Option.some.inj hq); simp [go_sem, *]
          | 1, hq => obtain rfl := (Option.some.inj hq); simp [go_sem, *]
          | 2, hq => obtain rfl := (Option.some.inj hq); simp [go_sem, *]
          | 3, hq => obtain rfl := (Option.some.inj hq); simp [go_sem, *]
          | 4, hq => obtain rfl := (Option.some.inj hq); simp [go_sem, *]
          | 5, hq => obtain rfl := (Option.some.inj hq); simp [go_sem, *]
          | 6, hq => obtain rfl := (Option.some.inj hq); simp [go_sem, *]
          | q + 7, hq => simp at hq
        exact HC.out.trans (((by repeat (first | (with_reducible exact HU2.out) | (with_reducible refine Upd.setCell ?_ _ (by omega) _))) : Upd g (j * 7) 7 ([] ++ ([] ++ ([] ++ ([] ++ ([] ++ ([] ++ [])))))) wr _).chg.mono (fun b hb => (List.mem_cons.1 hb).elim (fun e => e ▸ hgL) (HSUB.out b)))
    obtain rfl : j = l.length := by omega
    have how := HW.out; have hch := HC.out
    rw [List.take_length, List.drop_length, List.append_nil] at how
    rw [List.take_length] at *
    have HW2 := Lib.hid how; have HC2 := Lib.hid hch; clear how hch
    go_wp2
    go_ret
    exact ⟨rfl, HW2.out, HC2.out⟩
theorem markDirS_c (w : World) (v : Value) (l : List Y7) (L : List Nat) (K : Int) (k : Nat) (hK : K = k) (h1 : 1 ≤ k) (hk : (Qe l k).2 ≤ 4611686018427387904) (ho : own L w [v] l) : Calls Tryz.prog 69 #[v, .int .i64 K] w (MarkR L w [v] (Qe l k)) := by
  subst hK
  obtain ⟨oa, cap, rfl⟩ := Yo ho
  have hlm : l.length ≤ 9223372036854775807 := len_of_own ho
  have HO := Lib.hid ho; clear ho
  go_enter Tryz.func69, Tryz.ntmps69
  go_wp2
  go_loopw [1, 5] (mI L w oa cap l k) (fun _ i _ => l.length - (intOf i).toNat)
  case atStart => exact ⟨0, Nat.zero_le _, rfl, rfl, HO.out, Chg.refl _ _⟩
  case round =>
    obtain ⟨j, hj, rfl, rfl, HW, HC⟩ := hrel
    by_cases hjl : j < l.length
    · have hx := List.getElem?_eq_getElem hjl
      have hsp := Zo l k j _ hx
      have hle := Nat.le_trans (Yu l k j _ hx) hk
      have hdr := List.drop_eq_getElem_cons hjl
      have hxl := mkLn hjl k
      have hkk : k ≤ (Qe (l.take j) k).2 := Xp _ _
      have how := HW.out
      rw [hdr] at how
      clear hx hdr HW
      generalize (Qe (l.take j) k).2 = kk at *
      generalize (Qe (l.take j) k).1 = xs at *
      generalize l[j] = x at *
      obtain ⟨g, cap', cur, e, Li, hv, hg, hroom, hgLi, hgL, hsub, hoe, hshut⟩ := own_open how
      simp only [Value.slice.injEq] at hv
      obtain ⟨rfl, hq0, rfl⟩ := hv
      clear hq0
      rw [hxl] at hroom hoe hshut
      clear hxl
      rw [show GoD.n Y7 = 2 from rfl] at hroom hoe hshut
      generalize hce : (cur.toList.drop (j * 2)).take 2 = ce at *
      obtain ⟨v0, v1⟩ := x
      obtain ⟨nd1, _, _, _, SL1, rfl, rfl, ⟨rfl, rfl, h0⟩, so1⟩ := hoe
      obtain ⟨sv1, rfl⟩ := len1 (show _ = 1 from GoD.rd_len (GoD.own_rd so1))
      obtain ⟨oa1, cp1, rfl⟩ := Yo so1
      have p0 : wr.cell? ⟨g, j * 2, none⟩ = some _ := Y0 hg hce 0 _ rfl
      have p1 : wr.cell? ⟨g, j * 2 + 1, none⟩ = some _ := Y0 hg hce 1 _ rfl
      have fz := K9 hg
      have hglt := Ql hg
      clear hce hg how
      have HSH := Lib.hid hshut; clear hshut
      have HSP := Lib.hid hsp; clear hsp
      have hle : (Qe v1 (kk + 1)).2 ≤ 4611686018427387904 := hle
      have hm1 : kk + 1 ≤ (Qe v1 (kk + 1)).2 := Xp _ _
      have HSO1 := Lib.hid so1; clear so1
      have HSUB := Lib.hid hsub; clear hsub
      have HU0 : Hid (Upd g (j * 2) 2 ([] ++ SL1) wr wr) := Upd.refl _ _ _ _ _
      have tok1 : True := trivial
      have tok2 : True := trivial
      go_wp2_with (first | (go_at_call 35; have tk := tok1; clear tok1; refine (J0 _ _ (kk) (by omega) (by omega) (by omega)).mono ?_; rintro e w1 ⟨rfl, hb⟩; have hz := hb.size; have c1 := fun o => bcell hb g o (by go_size); have f1 := fun o => bfroz hb g o (by go_size); have HU1 : Hid (Upd g (j * 2) 2 ([] ++ SL1) wr w1) := Upd.below (by repeat (first | (with_reducible exact HU0.out) | (with_reducible refine Upd.setCell ?_ _ (by omega) _))) hb (by go_size); (try simp only [zSm] at hz); have HB1 := Lib.hid hb; clear hb) | (go_at_call 98; have tk := tok2; clear tok2; refine Js (markNodeS_c _ _ v1 SL1 _ (kk + 1) (by omega) (by omega) (by omega) (by repeat (first | (with_reducible exact HSO1.out) | (refine Zg ?_ (fun hm => hgLi (List.mem_append.2 (.inr hm)))) | (with_reducible refine own_below ?_ HB1.out)))) ?_; intro w2 ho2 hch hz; have c2 := fun o => hch.cell (b := g) (by go_size) (fun hm => hgLi (List.mem_append.2 (.inr hm))) o; have f2 := fun o => hch.frozen (b := g) (by go_size) (fun hm => hgLi (List.mem_append.2 (.inr hm))) o; have HU2 : Hid (Upd g (j * 2) 2 ([] ++ SL1) wr w2) := Upd.mark (by repeat (first | (with_reducible exact HU1.out) | (with_reducible refine Upd.setCell ?_ _ (by omega) _))) hch (fun b hm => (List.mem_append.2 (.inr hm))) (fun hm => hgLi (List.mem_append.2 (.inr hm))) (by go_size); (try simp only [zSm] at hz); have HB2 := Lib.hid hch; clear hch; have HM2 := Lib.hid ho2; clear ho2))
      go_roundw
      case measure => simp [intOf]; omega
      case rel =>
        refine ⟨j + 1, by omega, by go_num, ?_, ?_, ?_⟩
        · show Value.int _ _ = _
          rw [HSP.out]
          show Value.int .i64 _ = .int .i64 (((Qe v1 (kk + 1)).2 : Nat) : Int)
          first | go_num | (congr 1 <;> omega)
        · show own _ _ _ _
          rw [HSP.out]
          simp only [List.append_assoc, List.singleton_append]
          refine HSH.out _ [.string (markB (kk)), .slice oa1 v1.length cp1] _ (by repeat (first | (with_reducible exact HU2.out) | (with_reducible refine Upd.setCell ?_ _ (by omega) _))) (Yy (own_s _ (markB_size (by omega))) (show own SL1 _ [.slice oa1 v1.length cp1] (Qe v1 (kk + 1)).1 by repeat (first | (with_reducible exact HM2.out) | (refine Zg ?_ (fun hm => hgLi (List.mem_append.2 (.inr hm)))) )) (fun x hx hy => (List.nodup_append.1 nd1).2.2 x hx x hy rfl)) ?_
          intro q u hq
          match q, hq with
          | 0, hq => obtain rfl := (Option.some.inj hq); simp [go_sem, *]
          | 1, hq => obtain rfl := (Option.some.inj hq); simp [go_sem, *]
          | q + 2, hq => simp at hq
        exact HC.out.trans (((by repeat (first | (with_reducible exact HU2.out) | (with_reducible refine Upd.setCell ?_ _ (by omega) _))) : Upd g (j * 2) 2 ([] ++ SL1) wr _).chg.mono (fun b hb => (List.mem_cons.1 hb).elim (fun e => e ▸ hgL) (HSUB.out b)))
    obtain rfl : j = l.length := by omega
    have how := HW.out; have hch := HC.out
    rw [List.take_length, List.drop_length, List.append_nil] at how
    rw [List.take_length] at *
    have HW2 := Lib.hid how; have HC2 := Lib.hid hch; clear how hch
    go_wp2
    go_ret
    exact ⟨rfl, HW2.out, HC2.out⟩
theorem markResultS_c (w : World) (v : Value) (l : List Qh) (L : List Nat) (K : Int) (k : Nat) (hK : K = k) (h1 : 1 ≤ k) (hk : (Qe l k).2 ≤ 4611686018427387904) (ho : own L w [v] l) : Calls Tryz.prog 70 #[v, .int .i64 K] w (MarkR L w [v] (Qe l k)) := by
  subst hK
  obtain ⟨oa, cap, rfl⟩ := Yo ho
  have hlm : l.length ≤ 9223372036854775807 := len_of_own ho
  have HO := Lib.hid ho; clear ho
  go_enter Tryz.func70, Tryz.ntmps70
  go_wp2
  go_loopw [1, 5] (mI L w oa cap l k) (fun _ i _ => l.length - (intOf i).toNat)
  case atStart => exact ⟨0, Nat.zero_le _, rfl, rfl, HO.out, Chg.refl _ _⟩
  case round =>
    obtain ⟨j, hj, rfl, rfl, HW, HC⟩ := hrel
    by_cases hjl : j < l.length
    · have hx := List.getElem?_eq_getElem hjl
      have hsp := Zo l k j _ hx
      have hle := Nat.le_trans (Yu l k j _ hx) hk
      have hdr := List.drop_eq_getElem_cons hjl
      have hxl := mkLn hjl k
      have hkk : k ≤ (Qe (l.take j) k).2 := Xp _ _
      have how := HW.out
      rw [hdr] at how
      clear hx hdr HW
      generalize (Qe (l.take j) k).2 = kk at *
      generalize (Qe (l.take j) k).1 = xs at *
      generalize l[j] = x at *
      obtain ⟨g, cap', cur, e, Li, hv, hg, hroom, hgLi, hgL, hsub, hoe, hshut⟩ := own_open how
      simp only [Value.slice.injEq] at hv
      obtain ⟨rfl, hq0, rfl⟩ := hv
      clear hq0
      rw [hxl] at hroom hoe hshut
      clear hxl
      rw [show GoD.n Qh = 2 from rfl] at hroom hoe hshut
      generalize hce : (cur.toList.drop (j * 2)).take 2 = ce at *
      obtain ⟨v0, v1⟩ := x
      obtain ⟨nd1, _, _, _, SL1, rfl, rfl, ⟨rfl, rfl, h0⟩, so1⟩ := hoe
      obtain ⟨sv1, rfl⟩ := len1 (show _ = 1 from GoD.rd_len (GoD.own_rd so1))
      obtain ⟨oa1, cp1, rfl⟩ := Yo so1
      have p0 : wr.cell? ⟨g, j * 2, none⟩ = some _ := Y0 hg hce 0 _ rfl
      have p1 : wr.cell? ⟨g, j * 2 + 1, none⟩ = some _ := Y0 hg hce 1 _ rfl
      have fz := K9 hg
      have hglt := Ql hg
      clear hce hg how
      have HSH := Lib.hid hshut; clear hshut
      have HSP := Lib.hid hsp; clear hsp
      have hle : (Qe v1 (kk + 1)).2 ≤ 4611686018427387904 := hle
      have hm1 : kk + 1 ≤ (Qe v1 (kk + 1)).2 := Xp _ _
      have HSO1 := Lib.hid so1; clear so1
      have HSUB := Lib.hid hsub; clear hsub
      have HU0 : Hid (Upd g (j * 2) 2 ([] ++ SL1) wr wr) := Upd.refl _ _ _ _ _
      have tok1 : True := trivial
      have tok2 : True := trivial
      go_wp2_with (first | (go_at_call 35; have tk := tok1; clear tok1; refine (J0 _ _ (kk) (by omega) (by omega) (by omega)).mono ?_; rintro e w1 ⟨rfl, hb⟩; have hz := hb.size; have c1 := fun o => bcell hb g o (by go_size); have f1 := fun o => bfroz hb g o (by go_size); have HU1 : Hid (Upd g (j * 2) 2 ([] ++ SL1) wr w1) := Upd.below (by repeat (first | (with_reducible exact HU0.out) | (with_reducible refine Upd.setCell ?_ _ (by omega) _))) hb (by go_size); (try simp only [zSm] at hz); have HB1 := Lib.hid hb; clear hb) | (go_at_call 13; have tk := tok2; clear tok2; refine Js (markIntS_c _ _ v1 SL1 _ (kk + 1) (by omega) (by omega) (by omega) (by repeat (first | (with_reducible exact HSO1.out) | (refine Zg ?_ (fun hm => hgLi (List.mem_append.2 (.inr hm)))) | (with_reducible refine own_below ?_ HB1.out)))) ?_; intro w2 ho2 hch hz; have c2 := fun o => hch.cell (b := g) (by go_size) (fun hm => hgLi (List.mem_append.2 (.inr hm))) o; have f2 := fun o => hch.frozen (b := g) (by go_size) (fun hm => hgLi (List.mem_append.2 (.inr hm))) o; have HU2 : Hid (Upd g (j * 2) 2 ([] ++ SL1) wr w2) := Upd.mark (by repeat (first | (with_reducible exact HU1.out) | (with_reducible refine Upd.setCell ?_ _ (by omega) _))) hch (fun b hm => (List.mem_append.2 (.inr hm))) (fun hm => hgLi (List.mem_append.2 (.inr hm))) (by go_size); (try simp only [zSm] at hz); have HB2 := Lib.hid hch; clear hch; have HM2 := Lib.hid ho2; clear ho2))
      go_roundw
      case measure => simp [intOf]; omega
      case rel =>
        refine ⟨j + 1, by omega, by go_num, ?_, ?_, ?_⟩
        · show Value.int _ _ = _
          rw [HSP.out]
          show Value.int .i64 _ = .int .i64 (((Qe v1 (kk + 1)).2 : Nat) : Int)
          first | go_num | (congr 1 <;> omega)
        · show own _ _ _ _
          rw [HSP.out]
          simp only [List.append_assoc, List.singleton_append]
          refine HSH.out _ [.string (markB (kk)), .slice oa1 v1.length cp1] _ (by repeat (first | (with_reducible exact HU2.out) | (with_reducible refine Upd.setCell ?_ _ (by omega) _))) (Yy (own_s _ (markB_size (by omega))) (show own SL1 _ [.slice oa1 v1.length cp1] (Qe v1 (kk + 1)).1 by repeat (first | (with_reducible exact HM2.out) | (refine Zg ?_ (fun hm => hgLi (List.mem_append.2 (.inr hm)))) )) (fun x hx hy => (List.nodup_append.1 nd1).2.2 x hx x hy rfl)) ?_
          intro q u hq
          match q, hq with
          | 0, hq => obtain rfl := (Option.some.inj hq); simp [go_sem, *]
          | 1, hq => obtain rfl := (Option.some.inj hq); simp [go_sem, *]
          | q + 2, hq => simp at hq
        exact HC.out.trans (((by repeat (first | (with_reducible exact HU2.out) | (with_reducible refine Upd.setCell ?_ _ (by omega) _))) : Upd g (j * 2) 2 ([] ++ SL1) wr _).chg.mono (fun b hb => (List.mem_cons.1 hb).elim (fun e => e ▸ hgL) (HSUB.out b)))
    obtain rfl : j = l.length := by omega
    have how := HW.out; have hch := HC.out
    rw [List.take_length, List.drop_length, List.append_nil] at how
    rw [List.take_length] at *
    have HW2 := Lib.hid how; have HC2 := Lib.hid hch; clear how hch
    go_wp2
    go_ret
    exact ⟨rfl, HW2.out, HC2.out⟩
theorem markCatalog_c (w : World) (ca : List Value) (a : CatalogD) (L : List Nat) (K : Int) (k : Nat) (hK : K = k) (h1 : 1 ≤ k) (hk : (GoD.markT a k).2 ≤ 4611686018427387904) (ho : own L w ca a) : Calls Tryz.prog 36 #[.agg ca.toArray, .int .i64 K] w (MarkR L w ca (GoD.markT a k)) := by
  subst hK
  obtain ⟨b1, b2, b3⟩ := a
  have hk : (Qe b3 ((Qe b2 ((GoD.markT b1 (k)).2)).2)).2 ≤ 4611686018427387904 := hk
  have hlt := GoD.own_lt ho
  obtain ⟨nd0, _, _, SL0, _, rfl, rfl, so0, ⟨nd1, _, _, SL1, SL2, rfl, rfl, so1, so2⟩⟩ := ho
  obtain ⟨ax0_0, ax0_1, ax0_2, rfl⟩ := len3 (show _ = 3 from GoD.rd_len (GoD.own_rd so0))
  have HSO0 := Lib.hid so0; clear so0
  have hm0 : k ≤ (GoD.markT b1 (k)).2 := GoD.mkT_le _ _
  obtain ⟨ax1_0, rfl⟩ := len1 (show _ = 1 from GoD.rd_len (GoD.own_rd so1))
  have HSO1 := Lib.hid so1; clear so1
  have hm1 : (GoD.markT b1 (k)).2 ≤ (Qe b2 ((GoD.markT b1 (k)).2)).2 := Xp _ _
  obtain ⟨ax2_0, rfl⟩ := len1 (show _ = 1 from GoD.rd_len (GoD.own_rd so2))
  have HSO2 := Lib.hid so2; clear so2
  have hm2 : (Qe b2 ((GoD.markT b1 (k)).2)).2 ≤ (Qe b3 ((Qe b2 ((GoD.markT b1 (k)).2)).2)).2 := Xp _ _
  show Calls Tryz.prog 36 #[.agg #[ax0_0, ax0_1, ax0_2, ax1_0, ax2_0], .int .i64 (k : Int)] w (MarkR (SL0 ++ (SL1 ++ SL2)) w [ax0_0, ax0_1, ax0_2, ax1_0, ax2_0] (GoD.markT ((b1, b2, b3) : CatalogD) k))
  have HLT := Lib.hid hlt; clear hlt
  have tok1 : True := trivial
  have tok2 : True := trivial
  have tok3 : True := trivial
  go_enter Tryz.func36, Tryz.ntmps36
  go_wp2_with (first | (go_at_call 68; have tk := tok1; clear tok1; refine Js (markStore_c _ [ax0_0, ax0_1, ax0_2] b1 SL0 _ (k) (by omega) (by omega) (show (GoD.markT b1 (k)).2 ≤ 4611686018427387904 by omega) (by repeat (first | (with_reducible exact HSO0.out) | (refine Jp ?_) ))) ?_; intro w1 ho1 hch hz; have c1 := fun o => hch.cell (b := w.heap.size) (by go_size) (fun hm => by have := HLT.out _ (List.mem_append.2 (.inl hm)); omega) o; (try simp only [zSm] at hz); have HB1 := Lib.hid hch; clear hch; have HM1 := Lib.hid ho1; clear ho1) | (go_at_call 69; have tk := tok2; clear tok2; refine Js (markDirS_c _ ax1_0 b2 SL1 _ ((GoD.markT b1 (k)).2) (by omega) (by omega) (show (Qe b2 ((GoD.markT b1 (k)).2)).2 ≤ 4611686018427387904 by omega) (by repeat (first | (with_reducible exact HSO1.out) | (refine Jp ?_) | (refine Jb ?_ HB1.out (fun b hb1 hb2 => (List.nodup_append.1 nd0).2.2 _ hb2 _ (List.mem_append.2 (.inl hb1)) rfl))))) ?_; intro w2 ho2 hch hz; have c2 := fun o => hch.cell (b := w.heap.size) (by go_size) (fun hm => by have := HLT.out _ (List.mem_append.2 (.inr (List.mem_append.2 (.inl hm)))); omega) o; (try simp only [zSm] at hz); have HB2 := Lib.hid hch; clear hch; have HM2 := Lib.hid ho2; clear ho2) | (go_at_call 70; have tk := tok3; clear tok3; refine Js (markResultS_c _ ax2_0 b3 SL2 _ ((Qe b2 ((GoD.markT b1 (k)).2)).2) (by omega) (by omega) (show (Qe b3 ((Qe b2 ((GoD.markT b1 (k)).2)).2)).2 ≤ 4611686018427387904 by omega) (by repeat (first | (with_reducible exact HSO2.out) | (refine Jp ?_) | (refine Jb ?_ HB2.out (fun b hb1 hb2 => (List.nodup_append.1 nd1).2.2 _ hb2 _ hb1 rfl)) | (refine Jb ?_ HB1.out (fun b hb1 hb2 => (List.nodup_append.1 nd0).2.2 _ hb2 _ (List.mem_append.2 (.inr hb1)) rfl))))) ?_; intro w3 ho3 hch hz; have c3 := fun o => hch.cell (b := w.heap.size) (by go_size) (fun hm => by have := HLT.out _ (List.mem_append.2 (.inr (List.mem_append.2 (.inr hm)))); omega) o; (try simp only [zSm] at hz); have HB3 := Lib.hid hch; clear hch; have HM3 := Lib.hid ho3; clear ho3))
  go_ret
  refine ⟨rfl, ?_, ?_⟩
  · show own (SL0 ++ (SL1 ++ SL2)) _ [ax0_0, ax0_1, ax0_2, ax1_0, ax2_0] _
    exact (Yy (show own SL0 _ [ax0_0, ax0_1, ax0_2] (GoD.markT b1 (k)).1 by repeat (first | (with_reducible exact HM1.out) | (refine Jp ?_) | (refine Jb ?_ HB3.out (fun b hb1 hb2 => (List.nodup_append.1 nd0).2.2 _ hb1 _ (List.mem_append.2 (.inr hb2)) rfl)) | (refine Jb ?_ HB2.out (fun b hb1 hb2 => (List.nodup_append.1 nd0).2.2 _ hb1 _ (List.mem_append.2 (.inl hb2)) rfl)))) (Yy (show own SL1 _ [ax1_0] (Qe b2 ((GoD.markT b1 (k)).2)).1 by repeat (first | (with_reducible exact HM2.out) | (refine Jp ?_) | (refine Jb ?_ HB3.out (fun b hb1 hb2 => (List.nodup_append.1 nd1).2.2 _ hb1 _ hb2 rfl)))) (show own SL2 _ [ax2_0] (Qe b3 ((Qe b2 ((GoD.markT b1 (k)).2)).2)).1 by repeat (first | (with_reducible exact HM3.out) | (refine Jp ?_) )) (fun x hx hy => (List.nodup_append.1 nd1).2.2 x hx x hy rfl)) (fun x hx hy => (List.nodup_append.1 nd0).2.2 x hx x hy rfl))
  show Chg (SL0 ++ (SL1 ++ SL2)) w _
  exact (((Chg.of_below (show Below w.heap.size w _ by go_grown)).trans (HB1.out.mono (fun b hm => (List.mem_append.2 (.inl hm))))).trans (HB2.out.mono (fun b hm => (List.mem_append.2 (.inr (List.mem_append.2 (.inl hm))))))).trans (HB3.out.mono (fun b hm => (List.mem_append.2 (.inr (List.mem_append.2 (.inr hm))))))
theorem markVersionS_c (w : World) (v : Value) (l : List Yg) (L : List Nat) (K : Int) (k : Nat) (hK : K = k) (h1 : 1 ≤ k) (hk : (Qe l k).2 ≤ 4611686018427387904) (ho : own L w [v] l) : Calls Tryz.prog 37 #[v, .int .i64 K] w (MarkR L w [v] (Qe l k)) := by
  subst hK
  obtain ⟨oa, cap, rfl⟩ := Yo ho
  have hlm : l.length ≤ 9223372036854775807 := len_of_own ho
  have HO := Lib.hid ho; clear ho
  go_enter Tryz.func37, Tryz.ntmps37
  go_wp2
  go_loopw [1, 5] (mI L w oa cap l k) (fun _ i _ => l.length - (intOf i).toNat)
  case atStart => exact ⟨0, Nat.zero_le _, rfl, rfl, HO.out, Chg.refl _ _⟩
  case round =>
    obtain ⟨j, hj, rfl, rfl, HW, HC⟩ := hrel
    by_cases hjl : j < l.length
    · have hx := List.getElem?_eq_getElem hjl
      have hsp := Zo l k j _ hx
      have hle := Nat.le_trans (Yu l k j _ hx) hk
      have hdr := List.drop_eq_getElem_cons hjl
      have hxl := mkLn hjl k
      have hkk : k ≤ (Qe (l.take j) k).2 := Xp _ _
      have how := HW.out
      rw [hdr] at how
      clear hx hdr HW
      generalize (Qe (l.take j) k).2 = kk at *
      generalize (Qe (l.take j) k).1 = xs at *
      generalize l[j] = x at *
      obtain ⟨g, cap', cur, e, Li, hv, hg, hroom, hgLi, hgL, hsub, hoe, hshut⟩ := own_open how
      simp only [Value.slice.injEq] at hv
      obtain ⟨rfl, hq0, rfl⟩ := hv
      clear hq0
      rw [hxl] at hroom hoe hshut
      clear hxl
      rw [show GoD.n Yg = 6 from rfl] at hroom hoe hshut
      generalize hce : (cur.toList.drop (j * 6)).take 6 = ce at *
      obtain ⟨v0, ⟨⟨v1, v2, v3⟩, v4⟩, v5⟩ := x
      obtain ⟨nd5, _, _, _, _, rfl, rfl, ⟨rfl, rfl, h0⟩, ⟨nd4, _, _, _, _, rfl, rfl, ⟨nd3, _, _, _, SL4, rfl, rfl, ⟨nd2, _, _, SL1, _, rfl, rfl, so1, ⟨nd1, _, _, SL2, _, rfl, rfl, so2, ⟨rfl, rfl, h3⟩⟩⟩, so4⟩, ⟨rfl, rfl, h5⟩⟩⟩ := hoe
      obtain ⟨sv1, rfl⟩ := len1 (show _ = 1 from GoD.rd_len (GoD.own_rd so1))
      obtain ⟨oa1, cp1, rfl⟩ := Yo so1
      obtain ⟨sv2, rfl⟩ := len1 (show _ = 1 from GoD.rd_len (GoD.own_rd so2))
      obtain ⟨oa2, cp2, rfl⟩ := Yo so2
      obtain ⟨sv4, rfl⟩ := len1 (show _ = 1 from GoD.rd_len (GoD.own_rd so4))
      obtain ⟨oa4, cp4, rfl⟩ := Yo so4
      have p0 : wr.cell? ⟨g, j * 6, none⟩ = some _ := Y0 hg hce 0 _ rfl
      have p1 : wr.cell? ⟨g, j * 6 + 1, none⟩ = some _ := Y0 hg hce 1 _ rfl
      have p2 : wr.cell? ⟨g, j * 6 + 2, none⟩ = some _ := Y0 hg hce 2 _ rfl
      have p3 : wr.cell? ⟨g, j * 6 + 3, none⟩ = some _ := Y0 hg hce 3 _ rfl
      have p4 : wr.cell? ⟨g, j * 6 + 4, none⟩ = some _ := Y0 hg hce 4 _ rfl
      have p5 : wr.cell? ⟨g, j * 6 + 5, none⟩ = some _ := Y0 hg hce 5 _ rfl
      have fz := K9 hg
      have hglt := Ql hg
      clear hce hg how
      have HSH := Lib.hid hshut; clear hshut
      have HSP := Lib.hid hsp; clear hsp
      have hle : (Qe v4 ((Qe v2 ((Qe v1 (kk + 1)).2)).2 + 1)).2 + 1 ≤ 4611686018427387904 := hle
      have hm1 : kk + 1 ≤ (Qe v1 (kk + 1)).2 := Xp _ _
      have hm2 : (Qe v1 (kk + 1)).2 ≤ (Qe v2 ((Qe v1 (kk + 1)).2)).2 := Xp _ _
      have hm4 : (Qe v2 ((Qe v1 (kk + 1)).2)).2 + 1 ≤ (Qe v4 ((Qe v2 ((Qe v1 (kk + 1)).2)).2 + 1)).2 := Xp _ _
      have HSO1 := Lib.hid so1; clear so1
      have HSO2 := Lib.hid so2; clear so2
      have HSO4 := Lib.hid so4; clear so4
      have HSUB := Lib.hid hsub; clear hsub
      have HU0 : Hid (Upd g (j * 6) 6 ([] ++ (((SL1 ++ (SL2 ++ [])) ++ SL4) ++ [])) wr wr) := Upd.refl _ _ _ _ _
      have tok1 : True := trivial
      have tok2 : True := trivial
      have tok3 : True := trivial
      go_wp2_with (first | (go_at_call 12; have tk := tok1; clear tok1; refine Js (markFieldS_c _ _ v1 SL1 _ (kk + 1) (by omega) (by omega) (by omega) (by repeat (first | (with_reducible exact HSO1.out) | (refine Zg ?_ (fun hm => hgLi (List.mem_append.2 (.inr (List.mem_append.2 (.inl (List.mem_append.2 (.inl (List.mem_append.2 (.inl hm)))))))))) ))) ?_; intro w1 ho1 hch hz; have c1 := fun o => hch.cell (b := g) (by go_size) (fun hm => hgLi (List.mem_append.2 (.inr (List.mem_append.2 (.inl (List.mem_append.2 (.inl (List.mem_append.2 (.inl hm))))))))) o; have f1 := fun o => hch.frozen (b := g) (by go_size) (fun hm => hgLi (List.mem_append.2 (.inr (List.mem_append.2 (.inl (List.mem_append.2 (.inl (List.mem_append.2 (.inl hm))))))))) o; have HU1 : Hid (Upd g (j * 6) 6 ([] ++ (((SL1 ++ (SL2 ++ [])) ++ SL4) ++ [])) wr w1) := Upd.mark (by repeat (first | (with_reducible exact HU0.out) | (with_reducible refine Upd.setCell ?_ _ (by omega) _))) hch (fun b hm => (List.mem_append.2 (.inr (List.mem_append.2 (.inl (List.mem_append.2 (.inl (List.mem_append.2 (.inl hm))))))))) (fun hm => hgLi (List.mem_append.2 (.inr (List.mem_append.2 (.inl (List.mem_append.2 (.inl (List.mem_append.2 (.inl hm))))))))) (by go_size); (try simp only [zSm] at hz); have HB1 := Lib.hid hch; clear hch; have HM1 := Lib.hid ho1; clear ho1) | (go_at_call 71; have tk := tok2; clear tok2; refine Js (markFileS_c _ _ v2 SL2 _ ((Qe v1 (kk + 1)).2) (by omega) (by omega) (by omega) (by repeat (first | (with_reducible exact HSO2.out) | (refine Zg ?_ (fun hm => hgLi (List.mem_append.2 (.inr (List.mem_append.2 (.inl (List.mem_append.2 (.inl (List.mem_append.2 (.inr (List.mem_append.2 (.inl hm)))))))))))) | (refine Jb ?_ HB1.out (fun b hb1 hb2 => (List.nodup_append.1 nd2).2.2 _ hb2 _ (List.mem_append.2 (.inl hb1)) rfl))))) ?_; intro w2 ho2 hch hz; have c2 := fun o => hch.cell (b := g) (by go_size) (fun hm => hgLi (List.mem_append.2 (.inr (List.mem_append.2 (.inl (List.mem_append.2 (.inl (List.mem_append.2 (.inr (List.mem_append.2 (.inl hm))))))))))) o; have f2 := fun o => hch.frozen (b := g) (by go_size) (fun hm => hgLi (List.mem_append.2 (.inr (List.mem_append.2 (.inl (List.mem_append.2 (.inl (List.mem_append.2 (.inr (List.mem_append.2 (.inl hm))))))))))) o; have HU2 : Hid (Upd g (j * 6) 6 ([] ++ (((SL1 ++ (SL2 ++ [])) ++ SL4) ++ [])) wr w2) := Upd.mark (by repeat (first | (with_reducible exact HU1.out) | (with_reducible refine Upd.setCell ?_ _ (by omega) _))) hch (fun b hm => (List.mem_append.2 (.inr (List.mem_append.2 (.inl (List.mem_append.2 (.inl (List.mem_append.2 (.inr (List.mem_append.2 (.inl hm))))))))))) (fun hm => hgLi (List.mem_append.2 (.inr (List.mem_append.2 (.inl (List.mem_append.2 (.inl (List.mem_append.2 (.inr (List.mem_append.2 (.inl hm))))))))))) (by go_size); (try simp only [zSm] at hz); have HB2 := Lib.hid hch; clear hch; have HM2 := Lib.hid ho2; clear ho2) | (go_at_call 69; have tk := tok3; clear tok3; refine Js (markDirS_c _ _ v4 SL4 _ ((Qe v2 ((Qe v1 (kk + 1)).2)).2 + 1) (by omega) (by omega) (by omega) (by repeat (first | (with_reducible exact HSO4.out) | (refine Zg ?_ (fun hm => hgLi (List.mem_append.2 (.inr (List.mem_append.2 (.inl (List.mem_append.2 (.inr hm)))))))) | (refine Jb ?_ HB2.out (fun b hb1 hb2 => (List.nodup_append.1 nd3).2.2 _ (List.mem_append.2 (.inr (List.mem_append.2 (.inl hb2)))) _ hb1 rfl)) | (refine Jb ?_ HB1.out (fun b hb1 hb2 => (List.nodup_append.1 nd3).2.2 _ (List.mem_append.2 (.inl hb2)) _ hb1 rfl))))) ?_; intro w3 ho3 hch hz; have c3 := fun o => hch.cell (b := g) (by go_size) (fun hm => hgLi (List.mem_append.2 (.inr (List.mem_append.2 (.inl (List.mem_append.2 (.inr hm))))))) o; have f3 := fun o => hch.frozen (b := g) (by go_size) (fun hm => hgLi (List.mem_append.2 (.inr (List.mem_append.2 (.inl (List.mem_append.2 (.inr hm))))))) o; have HU3 : Hid (Upd g (j * 6) 6 ([] ++ (((SL1 ++ (SL2 ++ [])) ++ SL4) ++ [])) wr w3) := Upd.mark (by repeat (first | (with_reducible exact HU2.out) | (with_reducible refine Upd.setCell ?_ _ (by omega) _))) hch (fun b hm => (List.mem_append.2 (.inr (List.mem_append.2 (.inl (List.mem_append.2 (.inr hm))))))) (fun hm => hgLi (List.mem_append.2 (.inr (List.mem_append.2 (.inl (List.mem_append.2 (.inr hm))))))) (by go_size); (try simp only [zSm] at hz); have HB3 := Lib.hid hch; clear hch; have HM3 := Lib.hid ho3; clear ho3))
      go_roundw
      case measure => simp [intOf]; omega
      case rel =>
        refine ⟨j + 1, by omega, by go_num, ?_, ?_, ?_⟩
        · show Value.int _ _ = _
          rw [HSP.out]
          show Value.int .i64 _ = .int .i64 (((Qe v4 ((Qe v2 ((Qe v1 (kk + 1)).2)).2 + 1)).2 + 1 : Nat) : Int)
          first | go_num | (congr 1 <;> omega)
        · show own _ _ _ _
          rw [HSP.out]
          simp only [List.append_assoc, List.singleton_append]
          refine HSH.out _ [.int .i64 ((kk : Nat) : Int), .slice oa1 v1.length cp1, .slice oa2 v2.length cp2, .int .i64 (((Qe v2 ((Qe v1 (kk + 1)).2)).2 : Nat) : Int), .slice oa4 v4.length cp4, .int .i64 (((Qe v4 ((Qe v2 ((Qe v1 (kk + 1)).2)).2 + 1)).2 : Nat) : Int)] _ (by repeat (first | (with_reducible exact HU3.out) | (with_reducible refine Upd.setCell ?_ _ (by omega) _))) (Yy (own_i _ (i64_of (kk) (by omega))) (Yy (Yy (Yy (show own SL1 _ [.slice oa1 v1.length cp1] (Qe v1 (kk + 1)).1 by repeat (first | (with_reducible exact HM1.out) | (refine Zg ?_ (fun hm => hgLi (List.mem_append.2 (.inr (List.mem_append.2 (.inl (List.mem_append.2 (.inl (List.mem_append.2 (.inl hm)))))))))) | (refine Jb ?_ HB3.out (fun b hb1 hb2 => (List.nodup_append.1 nd3).2.2 _ (List.mem_append.2 (.inl hb1)) _ hb2 rfl)) | (refine Jb ?_ HB2.out (fun b hb1 hb2 => (List.nodup_append.1 nd2).2.2 _ hb1 _ (List.mem_append.2 (.inl hb2)) rfl)))) (Yy (show own SL2 _ [.slice oa2 v2.length cp2] (Qe v2 ((Qe v1 (kk + 1)).2)).1 by repeat (first | (with_reducible exact HM2.out) | (refine Zg ?_ (fun hm => hgLi (List.mem_append.2 (.inr (List.mem_append.2 (.inl (List.mem_append.2 (.inl (List.mem_append.2 (.inr (List.mem_append.2 (.inl hm)))))))))))) | (refine Jb ?_ HB3.out (fun b hb1 hb2 => (List.nodup_append.1 nd3).2.2 _ (List.mem_append.2 (.inr (List.mem_append.2 (.inl hb1)))) _ hb2 rfl)))) (own_i _ (i64_of ((Qe v2 ((Qe v1 (kk + 1)).2)).2) (by omega))) (fun x hx hy => (List.nodup_append.1 nd1).2.2 x hx x hy rfl)) (fun x hx hy => (List.nodup_append.1 nd2).2.2 x hx x hy rfl)) (show own SL4 _ [.slice oa4 v4.length cp4] (Qe v4 ((Qe v2 ((Qe v1 (kk + 1)).2)).2 + 1)).1 by repeat (first | (with_reducible exact HM3.out) | (refine Zg ?_ (fun hm => hgLi (List.mem_append.2 (.inr (List.mem_append.2 (.inl (List.mem_append.2 (.inr hm)))))))) )) (fun x hx hy => (List.nodup_append.1 nd3).2.2 x hx x hy rfl)) (own_i _ (i64_of ((Qe v4 ((Qe v2 ((Qe v1 (kk + 1)).2)).2 + 1)).2) (by omega))) (fun x hx hy => (List.nodup_append.1 nd4).2.2 x hx x hy rfl)) (fun x hx hy => (List.nodup_append.1 nd5).2.2 x hx x hy rfl)) ?_
          intro q u hq
          match q, hq with
          | 0, hq => obtain rfl := (Option.some.inj hq); simp [go_sem, *]
          | 1, hq => obtain rfl := (Option.some.inj hq); simp [go_sem, *]
          | 2, hq => obtain rfl := (Option.some.inj hq); simp [go_sem, *]
          | 3, hq => obtain rfl := (Option.some.inj hq); simp [go_sem, *]
          | 4, hq => obtain rfl := (Option.some.inj hq); simp [go_sem, *]
          | 5, hq => obtain rfl := (Option.some.inj hq); simp [go_sem, *]
          | q + 6, hq => simp at hq
        exact HC.out.trans (((by repeat (first | (with_reducible exact HU3.out) | (with_reducible refine Upd.setCell ?_ _ (by omega) _))) : Upd g (j * 6) 6 ([] ++ (((SL1 ++ (SL2 ++ [])) ++ SL4) ++ [])) wr _).chg.mono (fun b hb => (List.mem_cons.1 hb).elim (fun e => e ▸ hgL) (HSUB.out b)))
    obtain rfl : j = l.length := by omega
    have how := HW.out; have hch := HC.out
    rw [List.take_length, List.drop_length, List.append_nil] at how
    rw [List.take_length] at *
    have HW2 := Lib.hid how; have HC2 := Lib.hid hch; clear how hch
    go_wp2
    go_ret
    exact ⟨rfl, HW2.out, HC2.out⟩
theorem markSystem_c (w : World) (ca : List Value) (a : SystemD) (L : List Nat) (K : Int) (k : Nat) (hK : K = k) (h1 : 1 ≤ k) (hk : (GoD.markT a k).2 ≤ 4611686018427387904) (ho : own L w ca a) : Calls Tryz.prog 14 #[.agg ca.toArray, .int .i64 K] w (MarkR L w ca (GoD.markT a k)) := by
  subst hK
  obtain ⟨b1, b2, b3, b4, b5, b6⟩ := a
  have hk : (Qe b6 ((Qe b5 ((Qe b4 ((GoD.markT b1 (k)).2)).2)).2)).2 ≤ 4611686018427387904 := hk
  have hlt := GoD.own_lt ho
  obtain ⟨nd0, _, _, SL0, _, rfl, rfl, so0, ⟨nd1, _, _, SL1, _, rfl, rfl, so1, ⟨nd2, _, _, _, _, rfl, rfl, ⟨rfl, rfl, h2⟩, ⟨nd3, _, _, SL3, _, rfl, rfl, so3, ⟨nd4, _, _, SL4, SL5, rfl, rfl, so4, so5⟩⟩⟩⟩⟩ := ho
  obtain ⟨ax0_0, ax0_1, ax0_2, ax0_3, ax0_4, rfl⟩ := len5 (show _ = 5 from GoD.rd_len (GoD.own_rd so0))
  have HSO0 := Lib.hid so0; clear so0
  have hm0 : k ≤ (GoD.markT b1 (k)).2 := GoD.mkT_le _ _
  obtain ⟨ax1_0, ax1_1, rfl⟩ := len2 (show _ = 2 from GoD.rd_len (GoD.own_rd so1))
  have HSO1 := Lib.hid so1; clear so1
  obtain ⟨ax3_0, rfl⟩ := len1 (show _ = 1 from GoD.rd_len (GoD.own_rd so3))
  have HSO3 := Lib.hid so3; clear so3
  have hm3 : (GoD.markT b1 (k)).2 ≤ (Qe b4 ((GoD.markT b1 (k)).2)).2 := Xp _ _
  obtain ⟨ax4_0, rfl⟩ := len1 (show _ = 1 from GoD.rd_len (GoD.own_rd so4))
  have HSO4 := Lib.hid so4; clear so4
  have hm4 : (Qe b4 ((GoD.markT b1 (k)).2)).2 ≤ (Qe b5 ((Qe b4 ((GoD.markT b1 (k)).2)).2)).2 := Xp _ _
  obtain ⟨ax5_0, rfl⟩ := len1 (show _ = 1 from GoD.rd_len (GoD.own_rd so5))
  have HSO5 := Lib.hid so5; clear so5
  have hm5 : (Qe b5 ((Qe b4 ((GoD.markT b1 (k)).2)).2)).2 ≤ (Qe b6 ((Qe b5 ((Qe b4 ((GoD.markT b1 (k)).2)).2)).2)).2 := Xp _ _
  show Calls Tryz.prog 14 #[.agg #[ax0_0, ax0_1, ax0_2, ax0_3, ax0_4, ax1_0, ax1_1, .int .i64 b3, ax3_0, ax4_0, ax5_0], .int .i64 (k : Int)] w (MarkR (SL0 ++ (SL1 ++ ([] ++ (SL3 ++ (SL4 ++ SL5))))) w [ax0_0, ax0_1, ax0_2, ax0_3, ax0_4, ax1_0, ax1_1, .int .i64 b3, ax3_0, ax4_0, ax5_0] (GoD.markT ((b1, b2, b3, b4, b5, b6) : SystemD) k))
  have HLT := Lib.hid hlt; clear hlt
  have tok1 : True := trivial
  have tok2 : True := trivial
  have tok3 : True := trivial
  have tok4 : True := trivial
  go_enter Tryz.func14, Tryz.ntmps14
  go_wp2_with (first | (go_at_call 36; have tk := tok1; clear tok1; refine Js (markCatalog_c _ [ax0_0, ax0_1, ax0_2, ax0_3, ax0_4] b1 SL0 _ (k) (by omega) (by omega) (show (GoD.markT b1 (k)).2 ≤ 4611686018427387904 by omega) (by repeat (first | (with_reducible exact HSO0.out) | (refine Jp ?_) ))) ?_; intro w1 ho1 hch hz; have c1 := fun o => hch.cell (b := w.heap.size) (by go_size) (fun hm => by have := HLT.out _ (List.mem_append.2 (.inl hm)); omega) o; (try simp only [zSm] at hz); have HB1 := Lib.hid hch; clear hch; have HM1 := Lib.hid ho1; clear ho1) | (go_at_call 37; have tk := tok2; clear tok2; refine Js (markVersionS_c _ ax3_0 b4 SL3 _ ((GoD.markT b1 (k)).2) (by omega) (by omega) (show (Qe b4 ((GoD.markT b1 (k)).2)).2 ≤ 4611686018427387904 by omega) (by repeat (first | (with_reducible exact HSO3.out) | (refine Jp ?_) | (refine Jb ?_ HB1.out (fun b hb1 hb2 => (List.nodup_append.1 nd0).2.2 _ hb2 _ (List.mem_append.2 (.inr (List.mem_append.2 (.inr (List.mem_append.2 (.inl hb1)))))) rfl))))) ?_; intro w2 ho2 hch hz; have c2 := fun o => hch.cell (b := w.heap.size) (by go_size) (fun hm => by have := HLT.out _ (List.mem_append.2 (.inr (List.mem_append.2 (.inr (List.mem_append.2 (.inr (List.mem_append.2 (.inl hm)))))))); omega) o; (try simp only [zSm] at hz); have HB2 := Lib.hid hch; clear hch; have HM2 := Lib.hid ho2; clear ho2) | (go_at_call 38; have tk := tok3; clear tok3; refine Js (markWatchS_c _ ax4_0 b5 SL4 _ ((Qe b4 ((GoD.markT b1 (k)).2)).2) (by omega) (by omega) (show (Qe b5 ((Qe b4 ((GoD.markT b1 (k)).2)).2)).2 ≤ 4611686018427387904 by omega) (by repeat (first | (with_reducible exact HSO4.out) | (refine Jp ?_) | (refine Jb ?_ HB2.out (fun b hb1 hb2 => (List.nodup_append.1 nd3).2.2 _ hb2 _ (List.mem_append.2 (.inl hb1)) rfl)) | (refine Jb ?_ HB1.out (fun b hb1 hb2 => (List.nodup_append.1 nd0).2.2 _ hb2 _ (List.mem_append.2 (.inr (List.mem_append.2 (.inr (List.mem_append.2 (.inr (List.mem_append.2 (.inl hb1)))))))) rfl))))) ?_; intro w3 ho3 hch hz; have c3 := fun o => hch.cell (b := w.heap.size) (by go_size) (fun hm => by have := HLT.out _ (List.mem_append.2 (.inr (List.mem_append.2 (.inr (List.mem_append.2 (.inr (List.mem_append.2 (.inr (List.mem_append.2 (.inl hm)))))))))); omega) o; (try simp only [zSm] at hz); have HB3 := Lib.hid hch; clear hch; have HM3 := Lib.hid ho3; clear ho3) | (go_at_call 13; have tk := tok4; clear tok4; refine Js (markIntS_c _ ax5_0 b6 SL5 _ ((Qe b5 ((Qe b4 ((GoD.markT b1 (k)).2)).2)).2) (by omega) (by omega) (show (Qe b6 ((Qe b5 ((Qe b4 ((GoD.markT b1 (k)).2)).2)).2)).2 ≤ 4611686018427387904 by omega) (by repeat (first | (with_reducible exact HSO5.out) | (refine Jp ?_) | (refine Jb ?_ HB3.out (fun b hb1 hb2 => (List.nodup_append.1 nd4).2.2 _ hb2 _ hb1 rfl)) | (refine Jb ?_ HB2.out (fun b hb1 hb2 => (List.nodup_append.1 nd3).2.2 _ hb2 _ (List.mem_append.2 (.inr hb1)) rfl)) | (refine Jb ?_ HB1.out (fun b hb1 hb2 => (List.nodup_append.1 nd0).2.2 _ hb2 _ (List.mem_append.2 (.inr (List.mem_append.2 (.inr (List.mem_append.2 (.inr (List.mem_append.2 (.inr hb1)))))))) rfl))))) ?_; intro w4 ho4 hch hz; have c4 := fun o => hch.cell (b := w.heap.size) (by go_size) (fun hm => by have := HLT.out _ (List.mem_append.2 (.inr (List.mem_append.2 (.inr (List.mem_append.2 (.inr (List.mem_append.2 (.inr (List.mem_append.2 (.inr hm)))))))))); omega) o; (try simp only [zSm] at hz); have HB4 := Lib.hid hch; clear hch; have HM4 := Lib.hid ho4; clear ho4))
  go_ret
  refine ⟨rfl, ?_, ?_⟩
  · show own (SL0 ++ (SL1 ++ ([] ++ (SL3 ++ (SL4 ++ SL5))))) _ [ax0_0, ax0_1, ax0_2, ax0_3, ax0_4, ax1_0, ax1_1, .int .i64 b3, ax3_0, ax4_0, ax5_0] _
    exact (Yy (show own SL0 _ [ax0_0, ax0_1, ax0_2, ax0_3, ax0_4] (GoD.markT b1 (k)).1 by repeat (first | (with_reducible exact HM1.out) | (refine Jp ?_) | (refine Jb ?_ HB4.out (fun b hb1 hb2 => (List.nodup_append.1 nd0).2.2 _ hb1 _ (List.mem_append.2 (.inr (List.mem_append.2 (.inr (List.mem_append.2 (.inr (List.mem_append.2 (.inr hb2)))))))) rfl)) | (refine Jb ?_ HB3.out (fun b hb1 hb2 => (List.nodup_append.1 nd0).2.2 _ hb1 _ (List.mem_append.2 (.inr (List.mem_append.2 (.inr (List.mem_append.2 (.inr (List.mem_append.2 (.inl hb2)))))))) rfl)) | (refine Jb ?_ HB2.out (fun b hb1 hb2 => (List.nodup_append.1 nd0).2.2 _ hb1 _ (List.mem_append.2 (.inr (List.mem_append.2 (.inr (List.mem_append.2 (.inl hb2)))))) rfl)))) (Yy (show own SL1 _ [ax1_0, ax1_1] b2 by repeat (first | (with_reducible exact HSO1.out) | (refine Jp ?_) | (refine Jb ?_ HB4.out (fun b hb1 hb2 => (List.nodup_append.1 nd1).2.2 _ hb1 _ (List.mem_append.2 (.inr (List.mem_append.2 (.inr (List.mem_append.2 (.inr hb2)))))) rfl)) | (refine Jb ?_ HB3.out (fun b hb1 hb2 => (List.nodup_append.1 nd1).2.2 _ hb1 _ (List.mem_append.2 (.inr (List.mem_append.2 (.inr (List.mem_append.2 (.inl hb2)))))) rfl)) | (refine Jb ?_ HB2.out (fun b hb1 hb2 => (List.nodup_append.1 nd1).2.2 _ hb1 _ (List.mem_append.2 (.inr (List.mem_append.2 (.inl hb2)))) rfl)) | (refine Jb ?_ HB1.out (fun b hb1 hb2 => (List.nodup_append.1 nd0).2.2 _ hb2 _ (List.mem_append.2 (.inl hb1)) rfl)))) (Yy (own_i _ h2) (Yy (show own SL3 _ [ax3_0] (Qe b4 ((GoD.markT b1 (k)).2)).1 by repeat (first | (with_reducible exact HM2.out) | (refine Jp ?_) | (refine Jb ?_ HB4.out (fun b hb1 hb2 => (List.nodup_append.1 nd3).2.2 _ hb1 _ (List.mem_append.2 (.inr hb2)) rfl)) | (refine Jb ?_ HB3.out (fun b hb1 hb2 => (List.nodup_append.1 nd3).2.2 _ hb1 _ (List.mem_append.2 (.inl hb2)) rfl)))) (Yy (show own SL4 _ [ax4_0] (Qe b5 ((Qe b4 ((GoD.markT b1 (k)).2)).2)).1 by repeat (first | (with_reducible exact HM3.out) | (refine Jp ?_) | (refine Jb ?_ HB4.out (fun b hb1 hb2 => (List.nodup_append.1 nd4).2.2 _ hb1 _ hb2 rfl)))) (show own SL5 _ [ax5_0] (Qe b6 ((Qe b5 ((Qe b4 ((GoD.markT b1 (k)).2)).2)).2)).1 by repeat (first | (with_reducible exact HM4.out) | (refine Jp ?_) )) (fun x hx hy => (List.nodup_append.1 nd4).2.2 x hx x hy rfl)) (fun x hx hy => (List.nodup_append.1 nd3).2.2 x hx x hy rfl)) (fun x hx hy => (List.nodup_append.1 nd2).2.2 x hx x hy rfl)) (fun x hx hy => (List.nodup_append.1 nd1).2.2 x hx x hy rfl)) (fun x hx hy => (List.nodup_append.1 nd0).2.2 x hx x hy rfl))
  show Chg (SL0 ++ (SL1 ++ ([] ++ (SL3 ++ (SL4 ++ SL5))))) w _
  exact ((((Chg.of_below (show Below w.heap.size w _ by go_grown)).trans (HB1.out.mono (fun b hm => (List.mem_append.2 (.inl hm))))).trans (HB2.out.mono (fun b hm => (List.mem_append.2 (.inr (List.mem_append.2 (.inr (List.mem_append.2 (.inr (List.mem_append.2 (.inl hm))))))))))).trans (HB3.out.mono (fun b hm => (List.mem_append.2 (.inr (List.mem_append.2 (.inr (List.mem_append.2 (.inr (List.mem_append.2 (.inr (List.mem_append.2 (.inl hm))))))))))))).trans (HB4.out.mono (fun b hm => (List.mem_append.2 (.inr (List.mem_append.2 (.inr (List.mem_append.2 (.inr (List.mem_append.2 (.inr (List.mem_append.2 (.inr hm))))))))))))
end
section
open Go.RowKit
open GoD (rd own)
set_option maxRecDepth 100000
set_option maxHeartbeats 1000000
theorem cBh {w v : World} {a : Addr} {x : Value} (hB : Below w.heap.size w v) (h : w.cell? a = some x) : v.cell? a = some x := (hB.cell (World.block_lt_of_cell? w _ h)).trans h
theorem zSh : (∀ (w : World) o, (w.alloc o).heap.size = w.heap.size + 1) ∧ (∀ (w : World) a v, (w.setCell a v).heap.size = w.heap.size) ∧ ∀ w : World, w.drew.heap.size = w.heap.size := ⟨fun _ _ => World.size_alloc .., fun _ _ _ => World.size_setCell .., fun _ => rfl⟩
theorem heldIntS_c (w : World) (v : Value) (l l' : List Int) (K : Int) (k : Nat) (hK : K = k) (h1 : 1 ≤ k) (hk : (Qe l k).2 ≤ 4611686018427387904) (hl' : l' = (Qe l k).1) (ha : rd w [v] l') : Calls Tryz.prog 42 #[v, .int .i64 K] w (Ret w (.int .i64 ((Qe l k).2 : Nat))) := by
  subst hK hl'
  obtain ⟨oa, cap, e1, hl, hm, hel⟩ := ha
  obtain rfl : v = _ := by simpa using e1
  clear e1
  have HE := Lib.hid hel; clear hel
  rw [Zm] at hl ⊢
  unfold maxLen at hm
  have hlm : l.length ≤ 9223372036854775807 := by omega
  generalize hfin : (Qe l k).2 = fin at *
  have HF := Lib.hid hfin; clear hfin
  go_enter Tryz.func42, Tryz.ntmps42
  go_wp2
  go_loopw [1, 5] (fun q i wr => ∃ j : Nat, j ≤ l.length ∧ i = .int .i64 j ∧ q = .int .i64 ((Qe (l.take j) k).2 : Nat) ∧ Below w.heap.size w wr) (fun _ i _ => l.length - (intOf i).toNat)
  case atStart => exact ⟨0, Nat.zero_le _, rfl, rfl, Below.refl _ _⟩
  case round =>
    obtain ⟨j, hj, rfl, rfl, hB⟩ := hrel
    by_cases hjl : j < l.length
    · have hx := List.getElem?_eq_getElem hjl
      have hsp := Zo l k j _ hx
      have hle := Nat.le_trans (Yu l k j _ hx) (Nat.le_trans (Nat.le_of_eq HF.out) hk)
      have hkk : k ≤ (Qe (l.take j) k).2 := Xp _ _
      obtain ⟨eb, eo, ee, rfl, hcl, hcc, hxr⟩ := HE.out j _ (markS_get l k j _ hx)
      clear hx
      generalize (Qe (l.take j) k).2 = kk at *
      generalize (Qe (l.take j) k).1 = xs at *
      generalize l[j] = x at *
      have HSP : Hid (_ = (xs ++ [((((kk : Nat) : Int) : Int))], kk + 1)) := hsp
      clear hsp
      have hle : kk + 1 ≤ 4611686018427387904 := hle
      have hxr : rd w ee (((kk : Nat) : Int) : Int) := hxr
      obtain ⟨rfl, _⟩ := hxr
      have q0 : w.cell? ⟨eb, eo + j, none⟩ = some (.int .i64 ((kk : Nat) : Int)) := by have h0 := hcc 0 _ rfl; simp only [GoD.n, Nat.mul_one, Nat.add_zero] at h0; exact h0
      have HQ := Lib.hid (show True from trivial)
      have Q0 := Lib.hid q0; clear q0
      have p0_0 := cBh hB Q0.out
      clear hcc hcl
      have hz0 := hB.size
      go_wp2
      first
      | exact ⟨⟨j + 1, by omega, by go_num, by (show Value.int _ _ = _; rw [HSP.out]; try (show Value.int .i64 _ = .int .i64 ((kk + 1 : Nat) : Int); first | go_num | (congr 1 <;> omega))), hB⟩, by simp [intOf]; omega⟩
      | (go_roundw; (case measure => simp [intOf]; omega); (case rel => exact ⟨j + 1, by omega, by go_num, by (show Value.int _ _ = _; rw [HSP.out]; try (show Value.int .i64 _ = .int .i64 ((kk + 1 : Nat) : Int); first | go_num | (congr 1 <;> omega))), hB⟩))
    obtain rfl : j = l.length := by omega
    have hf := HF.out
    rw [List.take_length] at *
    rw [hf] at *
    have HF2 := Lib.hid hf; clear hf
    go_wp2
    go_ret
    exact ⟨rfl, hB⟩
theorem heldResultS_c (w : World) (v : Value) (l l' : List Qh) (K : Int) (k : Nat) (hK : K = k) (h1 : 1 ≤ k) (hk : (Qe l k).2 ≤ 4611686018427387904) (hl' : l' = (Qe l k).1) (ha : rd w [v] l') : Calls Tryz.prog 75 #[v, .int .i64 K] w (Ret w (.int .i64 ((Qe l k).2 : Nat))) := by
  subst hK hl'
  obtain ⟨oa, cap, e1, hl, hm, hel⟩ := ha
  obtain rfl : v = _ := by simpa using e1
  clear e1
  have HE := Lib.hid hel; clear hel
  rw [Zm] at hl ⊢
  unfold maxLen at hm
  have hlm : l.length ≤ 9223372036854775807 := by omega
  generalize hfin : (Qe l k).2 = fin at *
  have HF := Lib.hid hfin; clear hfin
  go_enter Tryz.func75, Tryz.ntmps75
  go_wp2
  go_loopw [1, 5] (fun q i wr => ∃ j : Nat, j ≤ l.length ∧ i = .int .i64 j ∧ q = .int .i64 ((Qe (l.take j) k).2 : Nat) ∧ Below w.heap.size w wr) (fun _ i _ => l.length - (intOf i).toNat)
  case atStart => exact ⟨0, Nat.zero_le _, rfl, rfl, Below.refl _ _⟩
  case round =>
    obtain ⟨j, hj, rfl, rfl, hB⟩ := hrel
    by_cases hjl : j < l.length
    · have hx := List.getElem?_eq_getElem hjl
      have hsp := Zo l k j _ hx
      have hle := Nat.le_trans (Yu l k j _ hx) (Nat.le_trans (Nat.le_of_eq HF.out) hk)
      have hkk : k ≤ (Qe (l.take j) k).2 := Xp _ _
      obtain ⟨eb, eo, ee, rfl, hcl, hcc, hxr⟩ := HE.out j _ (markS_get l k j _ hx)
      clear hx
      generalize (Qe (l.take j) k).2 = kk at *
      generalize (Qe (l.take j) k).1 = xs at *
      generalize l[j] = x at *
      obtain ⟨v0, v1⟩ := x
      have HSP : Hid (_ = (xs ++ [(((markB (kk), (Qe v1 (kk + 1)).1) : Qh))], (Qe v1 (kk + 1)).2)) := hsp
      clear hsp
      have hle : (Qe v1 (kk + 1)).2 ≤ 4611686018427387904 := hle
      have hxr : rd w ee ((markB (kk), (Qe v1 (kk + 1)).1) : Qh) := hxr
      obtain ⟨_, _, rfl, ⟨rfl, _⟩, rh1⟩ := hxr
      obtain ⟨rv1, rfl⟩ := len1 (show _ = 1 from GoD.rd_len rh1)
      obtain ⟨oa1, cp1, rfl⟩ := Jq rh1
      simp only [Zm] at hcc rh1
      have hm1 : kk + 1 ≤ (Qe v1 (kk + 1)).2 := Xp _ _
      have HR1 := Lib.hid rh1; clear rh1
      have q0 : w.cell? ⟨eb, eo + j * 2, none⟩ = some _ := hcc 0 _ rfl
      have q1 : w.cell? ⟨eb, eo + j * 2 + 1, none⟩ = some _ := hcc 1 _ rfl
      have HQ := Lib.hid (show True from trivial)
      have Q0 := Lib.hid q0; clear q0
      have Q1 := Lib.hid q1; clear q1
      have p0_0 := cBh hB Q0.out
      have p0_1 := cBh hB Q1.out
      have r0_0 := fun d os => cell_regrown p0_0 d os
      have r0_1 := fun d os => cell_regrown p0_1 d os
      clear hcc hcl
      have hz0 := hB.size
      have tok1 : True := trivial
      have tok2 : True := trivial
      go_wp2_with (first | (with_reducible refine wp_region_quiet_below (by kernel_rfl) (by kernel_rfl) ?_; have tk := tok1; clear tok1; (repeat (quiet_step (exact Calls.regrown_of (J0 _ _ (kk) (by omega) (by omega) (by omega))))); refine wpQuiet_nil ?_; intro _ hw'; obtain ⟨⟨dq, osq⟩, hw''⟩ := hw'; subst hw''; have hbq := below_regrown wr dq osq; generalize Go.Sort.grow (redrawn wr dq) osq = w1 at hbq ⊢; have hB1 := K3 hB hbq; have hz1 := hB1.size; clear hbq; have p1_0 := cBh hB1 Q0.out; have p1_1 := cBh hB1 Q1.out; have r1_0 := fun d os => cell_regrown p1_0 d os; have r1_1 := fun d os => cell_regrown p1_1 d os) | (go_at_call 42; have tk := tok2; clear tok2; refine Kq (w := w) (heldIntS_c _ _ v1 _ _ (kk + 1) (by omega) (by omega) (by omega) rfl (Z9 HR1.out hB1)) hB1 ?_; intro w2 hB2 hbq hz2 hz2; clear hbq hz2; have p2_0 := cBh hB2 Q0.out; have p2_1 := cBh hB2 Q1.out; have r2_0 := fun d os => cell_regrown p2_0 d os; have r2_1 := fun d os => cell_regrown p2_1 d os))
      first
      | exact ⟨⟨j + 1, by omega, by go_num, by (show Value.int _ _ = _; rw [HSP.out]; try (show Value.int .i64 _ = .int .i64 (((Qe v1 (kk + 1)).2 : Nat) : Int); first | go_num | (congr 1 <;> omega))), hB2⟩, by simp [intOf]; omega⟩
      | (go_roundw; (case measure => simp [intOf]; omega); (case rel => exact ⟨j + 1, by omega, by go_num, by (show Value.int _ _ = _; rw [HSP.out]; try (show Value.int .i64 _ = .int .i64 (((Qe v1 (kk + 1)).2 : Nat) : Int); first | go_num | (congr 1 <;> omega))), hB2⟩))
    obtain rfl : j = l.length := by omega
    have hf := HF.out
    rw [List.take_length] at *
    rw [hf] at *
    have HF2 := Lib.hid hf; clear hf
    go_wp2
    go_ret
    exact ⟨rfl, hB⟩
theorem heldEventS_c (w : World) (v : Value) (l l' : List EventD) (K : Int) (k : Nat) (hK : K = k) (h1 : 1 ≤ k) (hk : (Qe l k).2 ≤ 4611686018427387904) (hl' : l' = (Qe l k).1) (ha : rd w [v] l') : Calls Tryz.prog 78 #[v, .int .i64 K] w (Ret w (.int .i64 ((Qe l k).2 : Nat))) := by
  subst hK hl'
  obtain ⟨oa, cap, e1, hl, hm, hel⟩ := ha
  obtain rfl : v = _ := by simpa using e1
  clear e1
  have HE := Lib.hid hel; clear hel
  rw [Zm] at hl ⊢
  unfold maxLen at hm
  have hlm : l.length ≤ 9223372036854775807 := by omega
  generalize hfin : (Qe l k).2 = fin at *
  have HF := Lib.hid hfin; clear hfin
  go_enter Tryz.func78, Tryz.ntmps78
  go_wp2
  go_loopw [1, 5] (fun q i wr => ∃ j : Nat, j ≤ l.length ∧ i = .int .i64 j ∧ q = .int .i64 ((Qe (l.take j) k).2 : Nat) ∧ Below w.heap.size w wr) (fun _ i _ => l.length - (intOf i).toNat)
  case atStart => exact ⟨0, Nat.zero_le _, rfl, rfl, Below.refl _ _⟩
  case round =>
    obtain ⟨j, hj, rfl, rfl, hB⟩ := hrel
    by_cases hjl : j < l.length
    · have hx := List.getElem?_eq_getElem hjl
      have hsp := Zo l k j _ hx
      have hle := Nat.le_trans (Yu l k j _ hx) (Nat.le_trans (Nat.le_of_eq HF.out) hk)
      have hkk : k ≤ (Qe (l.take j) k).2 := Xp _ _
      obtain ⟨eb, eo, ee, rfl, hcl, hcc, hxr⟩ := HE.out j _ (markS_get l k j _ hx)
      clear hx
      generalize (Qe (l.take j) k).2 = kk at *
      generalize (Qe (l.take j) k).1 = xs at *
      generalize l[j] = x at *
      obtain ⟨v0, v1, v2⟩ := x
      have HSP : Hid (_ = (xs ++ [(((((kk : Nat) : Int), (Qe v1 (kk + 1)).1, (Qe v2 ((Qe v1 (kk + 1)).2)).1) : EventD))], (Qe v2 ((Qe v1 (kk + 1)).2)).2)) := hsp
      clear hsp
      have hle : (Qe v2 ((Qe v1 (kk + 1)).2)).2 ≤ 4611686018427387904 := hle
      have hxr : rd w ee ((((kk : Nat) : Int), (Qe v1 (kk + 1)).1, (Qe v2 ((Qe v1 (kk + 1)).2)).1) : EventD) := hxr
      obtain ⟨_, _, rfl, ⟨rfl, _⟩, ⟨_, _, rfl, rh1, rh2⟩⟩ := hxr
      obtain ⟨rv1, rfl⟩ := len1 (show _ = 1 from GoD.rd_len rh1)
      obtain ⟨oa1, cp1, rfl⟩ := Jq rh1
      obtain ⟨rv2, rfl⟩ := len1 (show _ = 1 from GoD.rd_len rh2)
      obtain ⟨oa2, cp2, rfl⟩ := Jq rh2
      simp only [Zm] at hcc rh1 rh2
      have hm1 : kk + 1 ≤ (Qe v1 (kk + 1)).2 := Xp _ _
      have HR1 := Lib.hid rh1; clear rh1
      have hm2 : (Qe v1 (kk + 1)).2 ≤ (Qe v2 ((Qe v1 (kk + 1)).2)).2 := Xp _ _
      have HR2 := Lib.hid rh2; clear rh2
      have q0 : w.cell? ⟨eb, eo + j * 3, none⟩ = some _ := hcc 0 _ rfl
      have q1 : w.cell? ⟨eb, eo + j * 3 + 1, none⟩ = some _ := hcc 1 _ rfl
      have q2 : w.cell? ⟨eb, eo + j * 3 + 2, none⟩ = some _ := hcc 2 _ rfl
      have HQ := Lib.hid (show True from trivial)
      have Q0 := Lib.hid q0; clear q0
      have Q1 := Lib.hid q1; clear q1
      have Q2 := Lib.hid q2; clear q2
      have p0_0 := cBh hB Q0.out
      have p0_1 := cBh hB Q1.out
      have p0_2 := cBh hB Q2.out
      clear hcc hcl
      have hz0 := hB.size
      have tok1 : True := trivial
      have tok2 : True := trivial
      go_wp2_with (first | (go_at_call 42; have tk := tok1; clear tok1; refine Kq (w := w) (heldIntS_c _ _ v1 _ _ (kk + 1) (by omega) (by omega) (by omega) rfl (Z9 HR1.out hB)) hB ?_; intro w1 hB1 hbq hz1 hz2; clear hbq hz2; have p1_0 := cBh hB1 Q0.out; have p1_1 := cBh hB1 Q1.out; have p1_2 := cBh hB1 Q2.out) | (go_at_call 42; have tk := tok2; clear tok2; refine Kq (w := w) (heldIntS_c _ _ v2 _ _ ((Qe v1 (kk + 1)).2) (by omega) (by omega) (by omega) rfl (Z9 HR2.out hB1)) hB1 ?_; intro w2 hB2 hbq hz2 hz2; clear hbq hz2; have p2_0 := cBh hB2 Q0.out; have p2_1 := cBh hB2 Q1.out; have p2_2 := cBh hB2 Q2.out))
      first
      | exact ⟨⟨j + 1, by omega, by go_num, by (show Value.int _ _ = _; rw [HSP.out]; try (show Value.int .i64 _ = .int .i64 (((Qe v2 ((Qe v1 (kk + 1)).2)).2 : Nat) : Int); first | go_num | (congr 1 <;> omega))), hB2⟩, by simp [intOf]; omega⟩
      | (go_roundw; (case measure => simp [intOf]; omega); (case rel => exact ⟨j + 1, by omega, by go_num, by (show Value.int _ _ = _; rw [HSP.out]; try (show Value.int .i64 _ = .int .i64 (((Qe v2 ((Qe v1 (kk + 1)).2)).2 : Nat) : Int); first | go_num | (congr 1 <;> omega))), hB2⟩))
    obtain rfl : j = l.length := by omega
    have hf := HF.out
    rw [List.take_length] at *
    rw [hf] at *
    have HF2 := Lib.hid hf; clear hf
    go_wp2
    go_ret
    exact ⟨rfl, hB⟩
theorem heldWatchS_c (w : World) (v : Value) (l l' : List WatchD) (K : Int) (k : Nat) (hK : K = k) (h1 : 1 ≤ k) (hk : (Qe l k).2 ≤ 4611686018427387904) (hl' : l' = (Qe l k).1) (ha : rd w [v] l') : Calls Tryz.prog 41 #[v, .int .i64 K] w (Ret w (.int .i64 ((Qe l k).2 : Nat))) := by
  subst hK hl'
  obtain ⟨oa, cap, e1, hl, hm, hel⟩ := ha
  obtain rfl : v = _ := by simpa using e1
  clear e1
  have HE := Lib.hid hel; clear hel
  rw [Zm] at hl ⊢
  unfold maxLen at hm
  have hlm : l.length ≤ 9223372036854775807 := by omega
  generalize hfin : (Qe l k).2 = fin at *
  have HF := Lib.hid hfin; clear hfin
  go_enter Tryz.func41, Tryz.ntmps41
  go_wp2
  go_loopw [1, 5] (fun q i wr => ∃ j : Nat, j ≤ l.length ∧ i = .int .i64 j ∧ q = .int .i64 ((Qe (l.take j) k).2 : Nat) ∧ Below w.heap.size w wr) (fun _ i _ => l.length - (intOf i).toNat)
  case atStart => exact ⟨0, Nat.zero_le _, rfl, rfl, Below.refl _ _⟩
  case round =>
    obtain ⟨j, hj, rfl, rfl, hB⟩ := hrel
    by_cases hjl : j < l.length
    · have hx := List.getElem?_eq_getElem hjl
      have hsp := Zo l k j _ hx
      have hle := Nat.le_trans (Yu l k j _ hx) (Nat.le_trans (Nat.le_of_eq HF.out) hk)
      have hkk : k ≤ (Qe (l.take j) k).2 := Xp _ _
      obtain ⟨eb, eo, ee, rfl, hcl, hcc, hxr⟩ := HE.out j _ (markS_get l k j _ hx)
      clear hx
      generalize (Qe (l.take j) k).2 = kk at *
      generalize (Qe (l.take j) k).1 = xs at *
      generalize l[j] = x at *
      obtain ⟨v0, v1, v2, v3⟩ := x
      have HSP : Hid (_ = (xs ++ [(((((kk : Nat) : Int), markB (kk + 1), (Qe v2 (kk + 1 + 1)).1, (Qe v3 ((Qe v2 (kk + 1 + 1)).2)).1) : WatchD))], (Qe v3 ((Qe v2 (kk + 1 + 1)).2)).2)) := hsp
      clear hsp
      have hle : (Qe v3 ((Qe v2 (kk + 1 + 1)).2)).2 ≤ 4611686018427387904 := hle
      have hxr : rd w ee ((((kk : Nat) : Int), markB (kk + 1), (Qe v2 (kk + 1 + 1)).1, (Qe v3 ((Qe v2 (kk + 1 + 1)).2)).1) : WatchD) := hxr
      obtain ⟨_, _, rfl, ⟨rfl, _⟩, ⟨_, _, rfl, ⟨rfl, _⟩, ⟨_, _, rfl, rh2, rh3⟩⟩⟩ := hxr
      obtain ⟨rv2, rfl⟩ := len1 (show _ = 1 from GoD.rd_len rh2)
      obtain ⟨oa2, cp2, rfl⟩ := Jq rh2
      obtain ⟨rv3, rfl⟩ := len1 (show _ = 1 from GoD.rd_len rh3)
      obtain ⟨oa3, cp3, rfl⟩ := Jq rh3
      simp only [Zm] at hcc rh2 rh3
      have hm2 : kk + 1 + 1 ≤ (Qe v2 (kk + 1 + 1)).2 := Xp _ _
      have HR2 := Lib.hid rh2; clear rh2
      have hm3 : (Qe v2 (kk + 1 + 1)).2 ≤ (Qe v3 ((Qe v2 (kk + 1 + 1)).2)).2 := Xp _ _
      have HR3 := Lib.hid rh3; clear rh3
      have q0 : w.cell? ⟨eb, eo + j * 4, none⟩ = some _ := hcc 0 _ rfl
      have q1 : w.cell? ⟨eb, eo + j * 4 + 1, none⟩ = some _ := hcc 1 _ rfl
      have q2 : w.cell? ⟨eb, eo + j * 4 + 2, none⟩ = some _ := hcc 2 _ rfl
      have q3 : w.cell? ⟨eb, eo + j * 4 + 3, none⟩ = some _ := hcc 3 _ rfl
      have HQ := Lib.hid (show True from trivial)
      have Q0 := Lib.hid q0; clear q0
      have Q1 := Lib.hid q1; clear q1
      have Q2 := Lib.hid q2; clear q2
      have Q3 := Lib.hid q3; clear q3
      have p0_0 := cBh hB Q0.out
      have p0_1 := cBh hB Q1.out
      have p0_2 := cBh hB Q2.out
      have p0_3 := cBh hB Q3.out
      have r0_0 := fun d os => cell_regrown p0_0 d os
      have r0_1 := fun d os => cell_regrown p0_1 d os
      have r0_2 := fun d os => cell_regrown p0_2 d os
      have r0_3 := fun d os => cell_regrown p0_3 d os
      clear hcc hcl
      have hz0 := hB.size
      have tok1 : True := trivial
      have tok2 : True := trivial
      have tok3 : True := trivial
      go_wp2_with (first | (with_reducible refine wp_region_quiet_below (by kernel_rfl) (by kernel_rfl) ?_; have tk := tok1; clear tok1; (repeat (quiet_step (exact Calls.regrown_of (J0 _ _ (kk + 1) (by omega) (by omega) (by omega))))); refine wpQuiet_nil ?_; intro _ hw'; obtain ⟨⟨dq, osq⟩, hw''⟩ := hw'; subst hw''; have hbq := below_regrown wr dq osq; generalize Go.Sort.grow (redrawn wr dq) osq = w1 at hbq ⊢; have hB1 := K3 hB hbq; have hz1 := hB1.size; clear hbq; have p1_0 := cBh hB1 Q0.out; have p1_1 := cBh hB1 Q1.out; have p1_2 := cBh hB1 Q2.out; have p1_3 := cBh hB1 Q3.out; have r1_0 := fun d os => cell_regrown p1_0 d os; have r1_1 := fun d os => cell_regrown p1_1 d os; have r1_2 := fun d os => cell_regrown p1_2 d os; have r1_3 := fun d os => cell_regrown p1_3 d os) | (go_at_call 42; have tk := tok2; clear tok2; refine Kq (w := w) (heldIntS_c _ _ v2 _ _ (kk + 1 + 1) (by omega) (by omega) (by omega) rfl (Z9 HR2.out hB1)) hB1 ?_; intro w2 hB2 hbq hz2 hz2; clear hbq hz2; have p2_0 := cBh hB2 Q0.out; have p2_1 := cBh hB2 Q1.out; have p2_2 := cBh hB2 Q2.out; have p2_3 := cBh hB2 Q3.out; have r2_0 := fun d os => cell_regrown p2_0 d os; have r2_1 := fun d os => cell_regrown p2_1 d os; have r2_2 := fun d os => cell_regrown p2_2 d os; have r2_3 := fun d os => cell_regrown p2_3 d os) | (go_at_call 78; have tk := tok3; clear tok3; refine Kq (w := w) (heldEventS_c _ _ v3 _ _ ((Qe v2 (kk + 1 + 1)).2) (by omega) (by omega) (by omega) rfl (Z9 HR3.out hB2)) hB2 ?_; intro w3 hB3 hbq hz3 hz2; clear hbq hz2; have p3_0 := cBh hB3 Q0.out; have p3_1 := cBh hB3 Q1.out; have p3_2 := cBh hB3 Q2.out; have p3_3 := cBh hB3 Q3.out; have r3_0 := fun d os => cell_regrown p3_0 d os; have r3_1 := fun d os => cell_regrown p3_1 d os; have r3_2 := fun d os => cell_regrown p3_2 d os; have r3_3 := fun d os => cell_regrown p3_3 d os))
      first
      | exact ⟨⟨j + 1, by omega, by go_num, by (show Value.int _ _ = _; rw [HSP.out]; try (show Value.int .i64 _ = .int .i64 (((Qe v3 ((Qe v2 (kk + 1 + 1)).2)).2 : Nat) : Int); first | go_num | (congr 1 <;> omega))), hB3⟩, by simp [intOf]; omega⟩
      | (go_roundw; (case measure => simp [intOf]; omega); (case rel => exact ⟨j + 1, by omega, by go_num, by (show Value.int _ _ = _; rw [HSP.out]; try (show Value.int .i64 _ = .int .i64 (((Qe v3 ((Qe v2 (kk + 1 + 1)).2)).2 : Nat) : Int); first | go_num | (congr 1 <;> omega))), hB3⟩))
    obtain rfl : j = l.length := by omega
    have hf := HF.out
    rw [List.take_length] at *
    rw [hf] at *
    have HF2 := Lib.hid hf; clear hf
    go_wp2
    go_ret
    exact ⟨rfl, hB⟩
theorem heldNodeS_c (w : World) (v : Value) (l l' : List Yi) (K : Int) (k : Nat) (hK : K = k) (h1 : 1 ≤ k) (hk : (Qe l k).2 ≤ 4611686018427387904) (hl' : l' = (Qe l k).1) (ha : rd w [v] l') : Calls Tryz.prog 100 #[v, .int .i64 K] w (Ret w (.int .i64 ((Qe l k).2 : Nat))) := by
  subst hK hl'
  obtain ⟨oa, cap, e1, hl, hm, hel⟩ := ha
  obtain rfl : v = _ := by simpa using e1
  clear e1
  have HE := Lib.hid hel; clear hel
  rw [Zm] at hl ⊢
  unfold maxLen at hm
  have hlm : l.length ≤ 9223372036854775807 := by omega
  generalize hfin : (Qe l k).2 = fin at *
  have HF := Lib.hid hfin; clear hfin
  go_enter Tryz.func100, Tryz.ntmps100
  go_wp2
  go_loopw [1, 5] (fun q i wr => ∃ j : Nat, j ≤ l.length ∧ i = .int .i64 j ∧ q = .int .i64 ((Qe (l.take j) k).2 : Nat) ∧ Below w.heap.size w wr) (fun _ i _ => l.length - (intOf i).toNat)
  case atStart => exact ⟨0, Nat.zero_le _, rfl, rfl, Below.refl _ _⟩
  case round =>
    obtain ⟨j, hj, rfl, rfl, hB⟩ := hrel
    by_cases hjl : j < l.length
    · have hx := List.getElem?_eq_getElem hjl
      have hsp := Zo l k j _ hx
      have hle := Nat.le_trans (Yu l k j _ hx) (Nat.le_trans (Nat.le_of_eq HF.out) hk)
      have hkk : k ≤ (Qe (l.take j) k).2 := Xp _ _
      obtain ⟨eb, eo, ee, rfl, hcl, hcc, hxr⟩ := HE.out j _ (markS_get l k j _ hx)
      clear hx
      generalize (Qe (l.take j) k).2 = kk at *
      generalize (Qe (l.take j) k).1 = xs at *
      generalize l[j] = x at *
      obtain ⟨v0, v1, v2, v3, ⟨v4, v5, v6⟩⟩ := x
      have HSP : Hid (_ = (xs ++ [(((((kk : Nat) : Int), ((kk + 1 : Nat) : Int), ((kk + 1 + 1 : Nat) : Int), markB (kk + 1 + 1 + 1), (((kk + 1 + 1 + 1 + 1 : Nat) : Int), ((kk + 1 + 1 + 1 + 1 + 1 : Nat) : Int), markB (kk + 1 + 1 + 1 + 1 + 1 + 1))) : Yi))], kk + 1 + 1 + 1 + 1 + 1 + 1 + 1)) := hsp
      clear hsp
      have hle : kk + 1 + 1 + 1 + 1 + 1 + 1 + 1 ≤ 4611686018427387904 := hle
      have hxr : rd w ee ((((kk : Nat) : Int), ((kk + 1 : Nat) : Int), ((kk + 1 + 1 : Nat) : Int), markB (kk + 1 + 1 + 1), (((kk + 1 + 1 + 1 + 1 : Nat) : Int), ((kk + 1 + 1 + 1 + 1 + 1 : Nat) : Int), markB (kk + 1 + 1 + 1 + 1 + 1 + 1))) : Yi) := hxr
      obtain ⟨_, _, rfl, ⟨rfl, _⟩, ⟨_, _, rfl, ⟨rfl, _⟩, ⟨_, _, rfl, ⟨rfl, _⟩, ⟨_, _, rfl, ⟨rfl, _⟩, ⟨_, _, rfl, ⟨rfl, _⟩, ⟨_, _, rfl, ⟨rfl, _⟩, ⟨rfl, _⟩⟩⟩⟩⟩⟩⟩ := hxr
      have q0 : w.cell? ⟨eb, eo + j * 7, none⟩ = some _ := hcc 0 _ rfl
      have q1 : w.cell? ⟨eb, eo + j * 7 + 1, none⟩ = some _ := hcc 1 _ rfl
      have q2 : w.cell? ⟨eb, eo + j * 7 + 2, none⟩ = some _ := hcc 2 _ rfl
      have q3 : w.cell? ⟨eb, eo + j * 7 + 3, none⟩ = some _ := hcc 3 _ rfl
      have q4 : w.cell? ⟨eb, eo + j * 7 + 4, none⟩ = some _ := hcc 4 _ rfl
      have q5 : w.cell? ⟨eb, eo + j * 7 + 5, none⟩ = some _ := hcc 5 _ rfl
      have q6 : w.cell? ⟨eb, eo + j * 7 + 6, none⟩ = some _ := hcc 6 _ rfl
      have HQ := Lib.hid (show True from trivial)
      have Q0 := Lib.hid q0; clear q0
      have Q1 := Lib.hid q1; clear q1
      have Q2 := Lib.hid q2; clear q2
      have Q3 := Lib.hid q3; clear q3
      have Q4 := Lib.hid q4; clear q4
      have Q5 := Lib.hid q5; clear q5
      have Q6 := Lib.hid q6; clear q6
      have p0_0 := cBh hB Q0.out
      have p0_1 := cBh hB Q1.out
      have p0_2 := cBh hB Q2.out
      have p0_3 := cBh hB Q3.out
      have p0_4 := cBh hB Q4.out
      have p0_5 := cBh hB Q5.out
      have p0_6 := cBh hB Q6.out
      have r0_0 := fun d os => cell_regrown p0_0 d os
      have r0_1 := fun d os => cell_regrown p0_1 d os
      have r0_2 := fun d os => cell_regrown p0_2 d os
      have r0_3 := fun d os => cell_regrown p0_3 d os
      have r0_4 := fun d os => cell_regrown p0_4 d os
      have r0_5 := fun d os => cell_regrown p0_5 d os
      have r0_6 := fun d os => cell_regrown p0_6 d os
      clear hcc hcl
      have hz0 := hB.size
      have tok1 : True := trivial
      have tok2 : True := trivial
      go_wp2_with (first | (with_reducible refine wp_region_quiet_below (by kernel_rfl) (by kernel_rfl) ?_; have tk := tok1; clear tok1; (repeat (quiet_step (exact Calls.regrown_of (J0 _ _ (kk + 1 + 1 + 1) (by omega) (by omega) (by omega))))); refine wpQuiet_nil ?_; intro _ hw'; obtain ⟨⟨dq, osq⟩, hw''⟩ := hw'; subst hw''; have hbq := below_regrown wr dq osq; generalize Go.Sort.grow (redrawn wr dq) osq = w1 at hbq ⊢; have hB1 := K3 hB hbq; have hz1 := hB1.size; clear hbq; have p1_0 := cBh hB1 Q0.out; have p1_1 := cBh hB1 Q1.out; have p1_2 := cBh hB1 Q2.out; have p1_3 := cBh hB1 Q3.out; have p1_4 := cBh hB1 Q4.out; have p1_5 := cBh hB1 Q5.out; have p1_6 := cBh hB1 Q6.out; have r1_0 := fun d os => cell_regrown p1_0 d os; have r1_1 := fun d os => cell_regrown p1_1 d os; have r1_2 := fun d os => cell_regrown p1_2 d os; have r1_3 := fun d os => cell_regrown p1_3 d os; have r1_4 := fun d os => cell_regrown p1_4 d os; have r1_5 := fun d os => cell_regrown p1_5 d os; have r1_6 := fun d os => cell_regrown p1_6 d os) | (with_reducible refine wp_region_quiet_below (by kernel_rfl) (by kernel_rfl) ?_; have tk := tok2; clear tok2; (repeat (quiet_step (exact Calls.regrown_of (J0 _ _ (kk + 1 + 1 + 1 + 1 + 1 + 1) (by omega) (by omega) (by omega))))); refine wpQuiet_nil ?_; intro _ hw'; obtain ⟨⟨dq, osq⟩, hw''⟩ := hw'; subst hw''; have hbq := below_regrown w1 dq osq; generalize Go.Sort.grow (redrawn w1 dq) osq = w2 at hbq ⊢; have hB2 := K3 hB1 hbq; have hz2 := hB2.size; clear hbq; have p2_0 := cBh hB2 Q0.out; have p2_1 := cBh hB2 Q1.out; have p2_2 := cBh hB2 Q2.out; have p2_3 := cBh hB2 Q3.out; have p2_4 := cBh hB2 Q4.out; have p2_5 := cBh hB2 Q5.out; have p2_6 := cBh hB2 Q6.out; have r2_0 := fun d os => cell_regrown p2_0 d os; have r2_1 := fun d os => cell_regrown p2_1 d os; have r2_2 := fun d os => cell_regrown p2_2 d os; have r2_3 := fun d os => cell_regrown p2_3 d os; have r2_4 := fun d os => cell_regrown p2_4 d os; have r2_5 := fun d os => cell_regrown p2_5 d os; have r2_6 := fun d os => cell_regrown p2_6 d os))
      first
      | exact ⟨⟨j + 1, by omega, by go_num, by (show Value.int _ _ = _; rw [HSP.out]; try (show Value.int .i64 _ = .int .i64 ((kk + 1 + 1 + 1 + 1 + 1 + 1 + 1 : Nat) : Int); first | go_num | (congr 1 <;> omega))), hB2⟩, by simp [intOf]; omega⟩
      | (go_roundw; (case measure => simp [intOf]; omega); (case rel => exact ⟨j + 1, by omega, by go_num, by (show Value.int _ _ = _; rw [HSP.out]; try (show Value.int .i64 _ = .int .i64 ((kk + 1 + 1 + 1 + 1 + 1 + 1 + 1 : Nat) : Int); first | go_num | (congr 1 <;> omega))), hB2⟩))
    obtain rfl : j = l.length := by omega
    have hf := HF.out
    rw [List.take_length] at *
    rw [hf] at *
    have HF2 := Lib.hid hf; clear hf
    go_wp2
    go_ret
    exact ⟨rfl, hB⟩
theorem heldDirS_c (w : World) (v : Value) (l l' : List Y7) (K : Int) (k : Nat) (hK : K = k) (h1 : 1 ≤ k) (hk : (Qe l k).2 ≤ 4611686018427387904) (hl' : l' = (Qe l k).1) (ha : rd w [v] l') : Calls Tryz.prog 74 #[v, .int .i64 K] w (Ret w (.int .i64 ((Qe l k).2 : Nat))) := by
  subst hK hl'
  obtain ⟨oa, cap, e1, hl, hm, hel⟩ := ha
  obtain rfl : v = _ := by simpa using e1
  clear e1
  have HE := Lib.hid hel; clear hel
  rw [Zm] at hl ⊢
  unfold maxLen at hm
  have hlm : l.length ≤ 9223372036854775807 := by omega
  generalize hfin : (Qe l k).2 = fin at *
  have HF := Lib.hid hfin; clear hfin
  go_enter Tryz.func74, Tryz.ntmps74
  go_wp2
  go_loopw [1, 5] (fun q i wr => ∃ j : Nat, j ≤ l.length ∧ i = .int .i64 j ∧ q = .int .i64 ((Qe (l.take j) k).2 : Nat) ∧ Below w.heap.size w wr) (fun _ i _ => l.length - (intOf i).toNat)
  case atStart => exact ⟨0, Nat.zero_le _, rfl, rfl, Below.refl _ _⟩
  case round =>
    obtain ⟨j, hj, rfl, rfl, hB⟩ := hrel
    by_cases hjl : j < l.length
    · have hx := List.getElem?_eq_getElem hjl
      have hsp := Zo l k j _ hx
      have hle := Nat.le_trans (Yu l k j _ hx) (Nat.le_trans (Nat.le_of_eq HF.out) hk)
      have hkk : k ≤ (Qe (l.take j) k).2 := Xp _ _
      obtain ⟨eb, eo, ee, rfl, hcl, hcc, hxr⟩ := HE.out j _ (markS_get l k j _ hx)
      clear hx
      generalize (Qe (l.take j) k).2 = kk at *
      generalize (Qe (l.take j) k).1 = xs at *
      generalize l[j] = x at *
      obtain ⟨v0, v1⟩ := x
      have HSP : Hid (_ = (xs ++ [(((markB (kk), (Qe v1 (kk + 1)).1) : Y7))], (Qe v1 (kk + 1)).2)) := hsp
      clear hsp
      have hle : (Qe v1 (kk + 1)).2 ≤ 4611686018427387904 := hle
      have hxr : rd w ee ((markB (kk), (Qe v1 (kk + 1)).1) : Y7) := hxr
      obtain ⟨_, _, rfl, ⟨rfl, _⟩, rh1⟩ := hxr
      obtain ⟨rv1, rfl⟩ := len1 (show _ = 1 from GoD.rd_len rh1)
      obtain ⟨oa1, cp1, rfl⟩ := Jq rh1
      simp only [Zm] at hcc rh1
      have hm1 : kk + 1 ≤ (Qe v1 (kk + 1)).2 := Xp _ _
      have HR1 := Lib.hid rh1; clear rh1
      have q0 : w.cell? ⟨eb, eo + j * 2, none⟩ = some _ := hcc 0 _ rfl
      have q1 : w.cell? ⟨eb, eo + j * 2 + 1, none⟩ = some _ := hcc 1 _ rfl
      have HQ := Lib.hid (show True from trivial)
      have Q0 := Lib.hid q0; clear q0
      have Q1 := Lib.hid q1; clear q1
      have p0_0 := cBh hB Q0.out
      have p0_1 := cBh hB Q1.out
      have r0_0 := fun d os => cell_regrown p0_0 d os
      have r0_1 := fun d os => cell_regrown p0_1 d os
      clear hcc hcl
      have hz0 := hB.size
      have tok1 : True := trivial
      have tok2 : True := trivial
      go_wp2_with (first | (with_reducible refine wp_region_quiet_below (by kernel_rfl) (by kernel_rfl) ?_; have tk := tok1; clear tok1; (repeat (quiet_step (exact Calls.regrown_of (J0 _ _ (kk) (by omega) (by omega) (by omega))))); refine wpQuiet_nil ?_; intro _ hw'; obtain ⟨⟨dq, osq⟩, hw''⟩ := hw'; subst hw''; have hbq := below_regrown wr dq osq; generalize Go.Sort.grow (redrawn wr dq) osq = w1 at hbq ⊢; have hB1 := K3 hB hbq; have hz1 := hB1.size; clear hbq; have p1_0 := cBh hB1 Q0.out; have p1_1 := cBh hB1 Q1.out; have r1_0 := fun d os => cell_regrown p1_0 d os; have r1_1 := fun d os => cell_regrown p1_1 d os) | (go_at_call 100; have tk := tok2; clear tok2; refine Kq (w := w) (heldNodeS_c _ _ v1 _ _ (kk + 1) (by omega) (by omega) (by omega) rfl (Z9 HR1.out hB1)) hB1 ?_; intro w2 hB2 hbq hz2 hz2; clear hbq hz2; have p2_0 := cBh hB2 Q0.out; have p2_1 := cBh hB2 Q1.out; have r2_0 := fun d os => cell_regrown p2_0 d os; have r2_1 := fun d os => cell_regrown p2_1 d os))
      first
      | exact ⟨⟨j + 1, by omega, by go_num, by (show Value.int _ _ = _; rw [HSP.out]; try (show Value.int .i64 _ = .int .i64 (((Qe v1 (kk + 1)).2 : Nat) : Int); first | go_num | (congr 1 <;> omega))), hB2⟩, by simp [intOf]; omega⟩
      | (go_roundw; (case measure => simp [intOf]; omega); (case rel => exact ⟨j + 1, by omega, by go_num, by (show Value.int _ _ = _; rw [HSP.out]; try (show Value.int .i64 _ = .int .i64 (((Qe v1 (kk + 1)).2 : Nat) : Int); first | go_num | (congr 1 <;> omega))), hB2⟩))
    obtain rfl : j = l.length := by omega
    have hf := HF.out
    rw [List.take_length] at *
    rw [hf] at *
    have HF2 := Lib.hid hf; clear hf
    go_wp2
    go_ret
    exact ⟨rfl, hB⟩
theorem heldFieldS_c (w : World) (v : Value) (l l' : List X4) (K : Int) (k : Nat) (hK : K = k) (h1 : 1 ≤ k) (hk : (Qe l k).2 ≤ 4611686018427387904) (hl' : l' = (Qe l k).1) (ha : rd w [v] l') : Calls Tryz.prog 76 #[v, .int .i64 K] w (Ret w (.int .i64 ((Qe l k).2 : Nat))) := by
  subst hK hl'
  obtain ⟨oa, cap, e1, hl, hm, hel⟩ := ha
  obtain rfl : v = _ := by simpa using e1
  clear e1
  have HE := Lib.hid hel; clear hel
  rw [Zm] at hl ⊢
  unfold maxLen at hm
  have hlm : l.length ≤ 9223372036854775807 := by omega
  generalize hfin : (Qe l k).2 = fin at *
  have HF := Lib.hid hfin; clear hfin
  go_enter Tryz.func76, Tryz.ntmps76
  go_wp2
  go_loopw [1, 5] (fun q i wr => ∃ j : Nat, j ≤ l.length ∧ i = .int .i64 j ∧ q = .int .i64 ((Qe (l.take j) k).2 : Nat) ∧ Below w.heap.size w wr) (fun _ i _ => l.length - (intOf i).toNat)
  case atStart => exact ⟨0, Nat.zero_le _, rfl, rfl, Below.refl _ _⟩
  case round =>
    obtain ⟨j, hj, rfl, rfl, hB⟩ := hrel
    by_cases hjl : j < l.length
    · have hx := List.getElem?_eq_getElem hjl
      have hsp := Zo l k j _ hx
      have hle := Nat.le_trans (Yu l k j _ hx) (Nat.le_trans (Nat.le_of_eq HF.out) hk)
      have hkk : k ≤ (Qe (l.take j) k).2 := Xp _ _
      obtain ⟨eb, eo, ee, rfl, hcl, hcc, hxr⟩ := HE.out j _ (markS_get l k j _ hx)
      clear hx
      generalize (Qe (l.take j) k).2 = kk at *
      generalize (Qe (l.take j) k).1 = xs at *
      generalize l[j] = x at *
      obtain ⟨v0, v1⟩ := x
      have HSP : Hid (_ = (xs ++ [(((markB (kk), ((kk + 1 : Nat) : Int)) : X4))], kk + 1 + 1)) := hsp
      clear hsp
      have hle : kk + 1 + 1 ≤ 4611686018427387904 := hle
      have hxr : rd w ee ((markB (kk), ((kk + 1 : Nat) : Int)) : X4) := hxr
      obtain ⟨_, _, rfl, ⟨rfl, _⟩, ⟨rfl, _⟩⟩ := hxr
      have q0 : w.cell? ⟨eb, eo + j * 2, none⟩ = some _ := hcc 0 _ rfl
      have q1 : w.cell? ⟨eb, eo + j * 2 + 1, none⟩ = some _ := hcc 1 _ rfl
      have HQ := Lib.hid (show True from trivial)
      have Q0 := Lib.hid q0; clear q0
      have Q1 := Lib.hid q1; clear q1
      have p0_0 := cBh hB Q0.out
      have p0_1 := cBh hB Q1.out
      have r0_0 := fun d os => cell_regrown p0_0 d os
      have r0_1 := fun d os => cell_regrown p0_1 d os
      clear hcc hcl
      have hz0 := hB.size
      have tok1 : True := trivial
      go_wp2_with (first | (with_reducible refine wp_region_quiet_below (by kernel_rfl) (by kernel_rfl) ?_; have tk := tok1; clear tok1; (repeat (quiet_step (exact Calls.regrown_of (J0 _ _ (kk) (by omega) (by omega) (by omega))))); refine wpQuiet_nil ?_; intro _ hw'; obtain ⟨⟨dq, osq⟩, hw''⟩ := hw'; subst hw''; have hbq := below_regrown wr dq osq; generalize Go.Sort.grow (redrawn wr dq) osq = w1 at hbq ⊢; have hB1 := K3 hB hbq; have hz1 := hB1.size; clear hbq; have p1_0 := cBh hB1 Q0.out; have p1_1 := cBh hB1 Q1.out; have r1_0 := fun d os => cell_regrown p1_0 d os; have r1_1 := fun d os => cell_regrown p1_1 d os))
      first
      | exact ⟨⟨j + 1, by omega, by go_num, by (show Value.int _ _ = _; rw [HSP.out]; try (show Value.int .i64 _ = .int .i64 ((kk + 1 + 1 : Nat) : Int); first | go_num | (congr 1 <;> omega))), hB1⟩, by simp [intOf]; omega⟩
      | (go_roundw; (case measure => simp [intOf]; omega); (case rel => exact ⟨j + 1, by omega, by go_num, by (show Value.int _ _ = _; rw [HSP.out]; try (show Value.int .i64 _ = .int .i64 ((kk + 1 + 1 : Nat) : Int); first | go_num | (congr 1 <;> omega))), hB1⟩))
    obtain rfl : j = l.length := by omega
    have hf := HF.out
    rw [List.take_length] at *
    rw [hf] at *
    have HF2 := Lib.hid hf; clear hf
    go_wp2
    go_ret
    exact ⟨rfl, hB⟩
theorem heldAttrS_c (w : World) (v : Value) (l l' : List AttrD) (K : Int) (k : Nat) (hK : K = k) (h1 : 1 ≤ k) (hk : (Qe l k).2 ≤ 4611686018427387904) (hl' : l' = (Qe l k).1) (ha : rd w [v] l') : Calls Tryz.prog 101 #[v, .int .i64 K] w (Ret w (.int .i64 ((Qe l k).2 : Nat))) := by
  subst hK hl'
  obtain ⟨oa, cap, e1, hl, hm, hel⟩ := ha
  obtain rfl : v = _ := by simpa using e1
  clear e1
  have HE := Lib.hid hel; clear hel
  rw [Zm] at hl ⊢
  unfold maxLen at hm
  have hlm : l.length ≤ 9223372036854775807 := by omega
  generalize hfin : (Qe l k).2 = fin at *
  have HF := Lib.hid hfin; clear hfin
  go_enter Tryz.func101, Tryz.ntmps101
  go_wp2
  go_loopw [1, 5] (fun q i wr => ∃ j : Nat, j ≤ l.length ∧ i = .int .i64 j ∧ q = .int .i64 ((Qe (l.take j) k).2 : Nat) ∧ Below w.heap.size w wr) (fun _ i _ => l.length - (intOf i).toNat)
  case atStart => exact ⟨0, Nat.zero_le _, rfl, rfl, Below.refl _ _⟩
  case round =>
    obtain ⟨j, hj, rfl, rfl, hB⟩ := hrel
    by_cases hjl : j < l.length
    · have hx := List.getElem?_eq_getElem hjl
      have hsp := Zo l k j _ hx
      have hle := Nat.le_trans (Yu l k j _ hx) (Nat.le_trans (Nat.le_of_eq HF.out) hk)
      have hkk : k ≤ (Qe (l.take j) k).2 := Xp _ _
      obtain ⟨eb, eo, ee, rfl, hcl, hcc, hxr⟩ := HE.out j _ (markS_get l k j _ hx)
      clear hx
      generalize (Qe (l.take j) k).2 = kk at *
      generalize (Qe (l.take j) k).1 = xs at *
      generalize l[j] = x at *
      obtain ⟨v0, ⟨v1, v2, v3⟩⟩ := x
      have HSP : Hid (_ = (xs ++ [(((markB (kk), (((kk + 1 : Nat) : Int), ((kk + 1 + 1 : Nat) : Int), markB (kk + 1 + 1 + 1))) : AttrD))], kk + 1 + 1 + 1 + 1)) := hsp
      clear hsp
      have hle : kk + 1 + 1 + 1 + 1 ≤ 4611686018427387904 := hle
      have hxr : rd w ee ((markB (kk), (((kk + 1 : Nat) : Int), ((kk + 1 + 1 : Nat) : Int), markB (kk + 1 + 1 + 1))) : AttrD) := hxr
      obtain ⟨_, _, rfl, ⟨rfl, _⟩, ⟨_, _, rfl, ⟨rfl, _⟩, ⟨_, _, rfl, ⟨rfl, _⟩, ⟨rfl, _⟩⟩⟩⟩ := hxr
      have q0 : w.cell? ⟨eb, eo + j * 4, none⟩ = some _ := hcc 0 _ rfl
      have q1 : w.cell? ⟨eb, eo + j * 4 + 1, none⟩ = some _ := hcc 1 _ rfl
      have q2 : w.cell? ⟨eb, eo + j * 4 + 2, none⟩ = some _ := hcc 2 _ rfl
      have q3 : w.cell? ⟨eb, eo + j * 4 + 3, none⟩ = some _ := hcc 3 _ rfl
      have HQ := Lib.hid (show True from trivial)
      have Q0 := Lib.hid q0; clear q0
      have Q1 := Lib.hid q1; clear q1
      have Q2 := Lib.hid q2; clear q2
      have Q3 := Lib.hid q3; clear q3
      have p0_0 := cBh hB Q0.out
      have p0_1 := cBh hB Q1.out
      have p0_2 := cBh hB Q2.out
      have p0_3 := cBh hB Q3.out
      have r0_0 := fun d os => cell_regrown p0_0 d os
      have r0_1 := fun d os => cell_regrown p0_1 d os
      have r0_2 := fun d os => cell_regrown p0_2 d os
      have r0_3 := fun d os => cell_regrown p0_3 d os
      clear hcc hcl
      have hz0 := hB.size
      have tok1 : True := trivial
      have tok2 : True := trivial
      go_wp2_with (first | (with_reducible refine wp_region_quiet_below (by kernel_rfl) (by kernel_rfl) ?_; have tk := tok1; clear tok1; (repeat (quiet_step (exact Calls.regrown_of (J0 _ _ (kk) (by omega) (by omega) (by omega))))); refine wpQuiet_nil ?_; intro _ hw'; obtain ⟨⟨dq, osq⟩, hw''⟩ := hw'; subst hw''; have hbq := below_regrown wr dq osq; generalize Go.Sort.grow (redrawn wr dq) osq = w1 at hbq ⊢; have hB1 := K3 hB hbq; have hz1 := hB1.size; clear hbq; have p1_0 := cBh hB1 Q0.out; have p1_1 := cBh hB1 Q1.out; have p1_2 := cBh hB1 Q2.out; have p1_3 := cBh hB1 Q3.out; have r1_0 := fun d os => cell_regrown p1_0 d os; have r1_1 := fun d os => cell_regrown p1_1 d os; have r1_2 := fun d os => cell_regrown p1_2 d os; have r1_3 := fun d os => cell_regrown p1_3 d os) | (with_reducible refine wp_region_quiet_below (by kernel_rfl) (by kernel_rfl) ?_; have tk := tok2; clear tok2; (repeat (quiet_step (exact Calls.regrown_of (J0 _ _ (kk + 1 + 1 + 1) (by omega) (by omega) (by omega))))); refine wpQuiet_nil ?_; intro _ hw'; obtain ⟨⟨dq, osq⟩, hw''⟩ := hw'; subst hw''; have hbq := below_regrown w1 dq osq; generalize Go.Sort.grow (redrawn w1 dq) osq = w2 at hbq ⊢; have hB2 := K3 hB1 hbq; have hz2 := hB2.size; clear hbq; have p2_0 := cBh hB2 Q0.out; have p2_1 := cBh hB2 Q1.out; have p2_2 := cBh hB2 Q2.out; have p2_3 := cBh hB2 Q3.out; have r2_0 := fun d os => cell_regrown p2_0 d os; have r2_1 := fun d os => cell_regrown p2_1 d os; have r2_2 := fun d os => cell_regrown p2_2 d os; have r2_3 := fun d os => cell_regrown p2_3 d os))
      first
      | exact ⟨⟨j + 1, by omega, by go_num, by (show Value.int _ _ = _; rw [HSP.out]; try (show Value.int .i64 _ = .int .i64 ((kk + 1 + 1 + 1 + 1 : Nat) : Int); first | go_num | (congr 1 <;> omega))), hB2⟩, by simp [intOf]; omega⟩
      | (go_roundw; (case measure => simp [intOf]; omega); (case rel => exact ⟨j + 1, by omega, by go_num, by (show Value.int _ _ = _; rw [HSP.out]; try (show Value.int .i64 _ = .int .i64 ((kk + 1 + 1 + 1 + 1 : Nat) : Int); first | go_num | (congr 1 <;> omega))), hB2⟩))
    obtain rfl : j = l.length := by omega
    have hf := HF.out
    rw [List.take_length] at *
    rw [hf] at *
    have HF2 := Lib.hid hf; clear hf
    go_wp2
    go_ret
    exact ⟨rfl, hB⟩
theorem heldFileS_c (w : World) (v : Value) (l l' : List Zr) (K : Int) (k : Nat) (hK : K = k) (h1 : 1 ≤ k) (hk : (Qe l k).2 ≤ 4611686018427387904) (hl' : l' = (Qe l k).1) (ha : rd w [v] l') : Calls Tryz.prog 77 #[v, .int .i64 K] w (Ret w (.int .i64 ((Qe l k).2 : Nat))) := by
  subst hK hl'
  obtain ⟨oa, cap, e1, hl, hm, hel⟩ := ha
  obtain rfl : v = _ := by simpa using e1
  clear e1
  have HE := Lib.hid hel; clear hel
  rw [Zm] at hl ⊢
  unfold maxLen at hm
  have hlm : l.length ≤ 9223372036854775807 := by omega
  generalize hfin : (Qe l k).2 = fin at *
  have HF := Lib.hid hfin; clear hfin
  go_enter Tryz.func77, Tryz.ntmps77
  go_wp2
  go_loopw [1, 5] (fun q i wr => ∃ j : Nat, j ≤ l.length ∧ i = .int .i64 j ∧ q = .int .i64 ((Qe (l.take j) k).2 : Nat) ∧ Below w.heap.size w wr) (fun _ i _ => l.length - (intOf i).toNat)
  case atStart => exact ⟨0, Nat.zero_le _, rfl, rfl, Below.refl _ _⟩
  case round =>
    obtain ⟨j, hj, rfl, rfl, hB⟩ := hrel
    by_cases hjl : j < l.length
    · have hx := List.getElem?_eq_getElem hjl
      have hsp := Zo l k j _ hx
      have hle := Nat.le_trans (Yu l k j _ hx) (Nat.le_trans (Nat.le_of_eq HF.out) hk)
      have hkk : k ≤ (Qe (l.take j) k).2 := Xp _ _
      obtain ⟨eb, eo, ee, rfl, hcl, hcc, hxr⟩ := HE.out j _ (markS_get l k j _ hx)
      clear hx
      generalize (Qe (l.take j) k).2 = kk at *
      generalize (Qe (l.take j) k).1 = xs at *
      generalize l[j] = x at *
      obtain ⟨v0, v1, v2, v3, v4⟩ := x
      have HSP : Hid (_ = (xs ++ [(((((kk : Nat) : Int), ((kk + 1 : Nat) : Int), ((kk + 1 + 1) % 3 == 0), ((kk + 1 + 1 + 1 : Nat) : Int), (Qe v4 (kk + 1 + 1 + 1 + 1)).1) : Zr))], (Qe v4 (kk + 1 + 1 + 1 + 1)).2)) := hsp
      clear hsp
      have hle : (Qe v4 (kk + 1 + 1 + 1 + 1)).2 ≤ 4611686018427387904 := hle
      have hxr : rd w ee ((((kk : Nat) : Int), ((kk + 1 : Nat) : Int), ((kk + 1 + 1) % 3 == 0), ((kk + 1 + 1 + 1 : Nat) : Int), (Qe v4 (kk + 1 + 1 + 1 + 1)).1) : Zr) := hxr
      obtain ⟨_, _, rfl, ⟨rfl, _⟩, ⟨_, _, rfl, ⟨rfl, _⟩, ⟨_, _, rfl, rfl, ⟨_, _, rfl, ⟨rfl, _⟩, rh4⟩⟩⟩⟩ := hxr
      obtain ⟨rv4, rfl⟩ := len1 (show _ = 1 from GoD.rd_len rh4)
      obtain ⟨oa4, cp4, rfl⟩ := Jq rh4
      simp only [Zm] at hcc rh4
      have hb2 := mod3_eq (kk + 1 + 1) _ (show ((kk : Int) + 1 + 1 : Int) = ((kk + 1 + 1 : Nat) : Int) by omega)
      have hm4 : kk + 1 + 1 + 1 + 1 ≤ (Qe v4 (kk + 1 + 1 + 1 + 1)).2 := Xp _ _
      have HR4 := Lib.hid rh4; clear rh4
      have q0 : w.cell? ⟨eb, eo + j * 5, none⟩ = some _ := hcc 0 _ rfl
      have q1 : w.cell? ⟨eb, eo + j * 5 + 1, none⟩ = some _ := hcc 1 _ rfl
      have q2 : w.cell? ⟨eb, eo + j * 5 + 2, none⟩ = some _ := hcc 2 _ rfl
      have q3 : w.cell? ⟨eb, eo + j * 5 + 3, none⟩ = some _ := hcc 3 _ rfl
      have q4 : w.cell? ⟨eb, eo + j * 5 + 4, none⟩ = some _ := hcc 4 _ rfl
      have HQ := Lib.hid (show True from trivial)
      have Q0 := Lib.hid q0; clear q0
      have Q1 := Lib.hid q1; clear q1
      have Q2 := Lib.hid q2; clear q2
      have Q3 := Lib.hid q3; clear q3
      have Q4 := Lib.hid q4; clear q4
      have p0_0 := cBh hB Q0.out
      have p0_1 := cBh hB Q1.out
      have p0_2 := cBh hB Q2.out
      have p0_3 := cBh hB Q3.out
      have p0_4 := cBh hB Q4.out
      clear hcc hcl
      have hz0 := hB.size
      have tok1 : True := trivial
      go_wp2_with (first | (go_at_call 101; have tk := tok1; clear tok1; refine Kq (w := w) (heldAttrS_c _ _ v4 _ _ (kk + 1 + 1 + 1 + 1) (by omega) (by omega) (by omega) rfl (Z9 HR4.out hB)) hB ?_; intro w1 hB1 hbq hz1 hz2; clear hbq hz2; have p1_0 := cBh hB1 Q0.out; have p1_1 := cBh hB1 Q1.out; have p1_2 := cBh hB1 Q2.out; have p1_3 := cBh hB1 Q3.out; have p1_4 := cBh hB1 Q4.out))
      first
      | exact ⟨⟨j + 1, by omega, by go_num, by (show Value.int _ _ = _; rw [HSP.out]; try (show Value.int .i64 _ = .int .i64 (((Qe v4 (kk + 1 + 1 + 1 + 1)).2 : Nat) : Int); first | go_num | (congr 1 <;> omega))), hB1⟩, by simp [intOf]; omega⟩
      | (go_roundw; (case measure => simp [intOf]; omega); (case rel => exact ⟨j + 1, by omega, by go_num, by (show Value.int _ _ = _; rw [HSP.out]; try (show Value.int .i64 _ = .int .i64 (((Qe v4 (kk + 1 + 1 + 1 + 1)).2 : Nat) : Int); first | go_num | (congr 1 <;> omega))), hB1⟩))
    obtain rfl : j = l.length := by omega
    have hf := HF.out
    rw [List.take_length] at *
    rw [hf] at *
    have HF2 := Lib.hid hf; clear hf
    go_wp2
    go_ret
    exact ⟨rfl, hB⟩
theorem heldStore_c (w : World) (ca : List Value) (a a' : Yv) (K : Int) (k : Nat) (hK : K = k) (h1 : 1 ≤ k) (hk : (GoD.markT a k).2 ≤ 4611686018427387904) (ha' : a' = (GoD.markT a k).1) (ha : rd w ca a') : Calls Tryz.prog 73 #[.agg ca.toArray, .int .i64 K] w (Ret w (.int .i64 ((GoD.markT a k).2 : Nat))) := by
  subst hK ha'
  obtain ⟨b1, b2, b3⟩ := a
  have hk : (Qe b2 ((Qe b1 (k)).2)).2 ≤ 4611686018427387904 := hk
  have ha : rd w ca ((Qe b1 (k)).1, (Qe b2 ((Qe b1 (k)).2)).1, b3) := ha
  generalize hfin : (GoD.markT ((b1, b2, b3) : Yv) k).2 = fin
  have hfin : (Qe b2 ((Qe b1 (k)).2)).2 = fin := hfin
  obtain ⟨_, _, rfl, ar1, _, _, rfl, ar2, ar3⟩ := ha
  obtain ⟨ax1_0, rfl⟩ := len1 (show _ = 1 from GoD.rd_len ar1)
  have HR1 := Lib.hid ar1; clear ar1
  have hm1 : k ≤ (Qe b1 (k)).2 := Xp _ _
  obtain ⟨ax2_0, rfl⟩ := len1 (show _ = 1 from GoD.rd_len ar2)
  have HR2 := Lib.hid ar2; clear ar2
  have hm2 : (Qe b1 (k)).2 ≤ (Qe b2 ((Qe b1 (k)).2)).2 := Xp _ _
  obtain ⟨rfl, ar3⟩ := ar3
  clear ar3
  dsimp only [List.cons_append, List.nil_append] at *
  have tok1 : True := trivial
  have tok2 : True := trivial
  have HF := Lib.hid hfin; clear hfin
  go_enter Tryz.func73, Tryz.ntmps73
  go_wp2_with (first | (go_at_call 76; have tk := tok1; clear tok1; refine Kq (w := w) (heldFieldS_c _ ax1_0 b1 _ _ (k) (by omega) (by omega) (show (Qe b1 (k)).2 ≤ 4611686018427387904 by omega) rfl (Z9 HR1.out (by go_grown))) (by go_grown) ?_; intro w1 hB hb hz hz2; (try simp only [zSh] at hz2); have c0 := fun o => bcell hb (w.heap.size) o (by go_size); clear hb) | (go_at_call 77; have tk := tok2; clear tok2; refine Kq (w := w) (heldFileS_c _ ax2_0 b2 _ _ ((Qe b1 (k)).2) (by omega) (by omega) (show (Qe b2 ((Qe b1 (k)).2)).2 ≤ 4611686018427387904 by omega) rfl (Z9 HR2.out (by go_grown))) (by go_grown) ?_; intro w2 hB hb hz hz2; (try simp only [zSh] at hz2); have c0 := fun o => bcell hb (w.heap.size) o (by go_size); clear hb))
  go_ret
  refine ⟨?_, by go_grown⟩
  rw [← HF.out]
  rfl
theorem heldVersionS_c (w : World) (v : Value) (l l' : List Yg) (K : Int) (k : Nat) (hK : K = k) (h1 : 1 ≤ k) (hk : (Qe l k).2 ≤ 4611686018427387904) (hl' : l' = (Qe l k).1) (ha : rd w [v] l') : Calls Tryz.prog 40 #[v, .int .i64 K] w (Ret w (.int .i64 ((Qe l k).2 : Nat))) := by
  subst hK hl'
  obtain ⟨oa, cap, e1, hl, hm, hel⟩ := ha
  obtain rfl : v = _ := by simpa using e1
  clear e1
  have HE := Lib.hid hel; clear hel
  rw [Zm] at hl ⊢
  unfold maxLen at hm
  have hlm : l.length ≤ 9223372036854775807 := by omega
  generalize hfin : (Qe l k).2 = fin at *
  have HF := Lib.hid hfin; clear hfin
  go_enter Tryz.func40, Tryz.ntmps40
  go_wp2
  go_loopw [1, 5] (fun q i wr => ∃ j : Nat, j ≤ l.length ∧ i = .int .i64 j ∧ q = .int .i64 ((Qe (l.take j) k).2 : Nat) ∧ Below w.heap.size w wr) (fun _ i _ => l.length - (intOf i).toNat)
  case atStart => exact ⟨0, Nat.zero_le _, rfl, rfl, Below.refl _ _⟩
  case round =>
    obtain ⟨j, hj, rfl, rfl, hB⟩ := hrel
    by_cases hjl : j < l.length
    · have hx := List.getElem?_eq_getElem hjl
      have hsp := Zo l k j _ hx
      have hle := Nat.le_trans (Yu l k j _ hx) (Nat.le_trans (Nat.le_of_eq HF.out) hk)
      have hkk : k ≤ (Qe (l.take j) k).2 := Xp _ _
      obtain ⟨eb, eo, ee, rfl, hcl, hcc, hxr⟩ := HE.out j _ (markS_get l k j _ hx)
      clear hx
      generalize (Qe (l.take j) k).2 = kk at *
      generalize (Qe (l.take j) k).1 = xs at *
      generalize l[j] = x at *
      obtain ⟨v0, ⟨⟨v1, v2, v3⟩, v4⟩, v5⟩ := x
      have HSP : Hid (_ = (xs ++ [(((((kk : Nat) : Int), (((Qe v1 (kk + 1)).1, (Qe v2 ((Qe v1 (kk + 1)).2)).1, (((Qe v2 ((Qe v1 (kk + 1)).2)).2 : Nat) : Int)), (Qe v4 ((Qe v2 ((Qe v1 (kk + 1)).2)).2 + 1)).1), (((Qe v4 ((Qe v2 ((Qe v1 (kk + 1)).2)).2 + 1)).2 : Nat) : Int)) : Yg))], (Qe v4 ((Qe v2 ((Qe v1 (kk + 1)).2)).2 + 1)).2 + 1)) := hsp
      clear hsp
      have hle : (Qe v4 ((Qe v2 ((Qe v1 (kk + 1)).2)).2 + 1)).2 + 1 ≤ 4611686018427387904 := hle
      have hxr : rd w ee ((((kk : Nat) : Int), (((Qe v1 (kk + 1)).1, (Qe v2 ((Qe v1 (kk + 1)).2)).1, (((Qe v2 ((Qe v1 (kk + 1)).2)).2 : Nat) : Int)), (Qe v4 ((Qe v2 ((Qe v1 (kk + 1)).2)).2 + 1)).1), (((Qe v4 ((Qe v2 ((Qe v1 (kk + 1)).2)).2 + 1)).2 : Nat) : Int)) : Yg) := hxr
      obtain ⟨_, _, rfl, ⟨rfl, _⟩, ⟨_, _, rfl, ⟨_, _, rfl, ⟨_, _, rfl, rh1, ⟨_, _, rfl, rh2, ⟨rfl, _⟩⟩⟩, rh4⟩, ⟨rfl, _⟩⟩⟩ := hxr
      obtain ⟨rv1, rfl⟩ := len1 (show _ = 1 from GoD.rd_len rh1)
      obtain ⟨oa1, cp1, rfl⟩ := Jq rh1
      obtain ⟨rv2, rfl⟩ := len1 (show _ = 1 from GoD.rd_len rh2)
      obtain ⟨oa2, cp2, rfl⟩ := Jq rh2
      obtain ⟨rv4, rfl⟩ := len1 (show _ = 1 from GoD.rd_len rh4)
      obtain ⟨oa4, cp4, rfl⟩ := Jq rh4
      simp only [Zm] at hcc rh1 rh2 rh4
      have hm1 : kk + 1 ≤ (Qe v1 (kk + 1)).2 := Xp _ _
      have HR1 := Lib.hid rh1; clear rh1
      have hm2 : (Qe v1 (kk + 1)).2 ≤ (Qe v2 ((Qe v1 (kk + 1)).2)).2 := Xp _ _
      have HR2 := Lib.hid rh2; clear rh2
      have hm4 : (Qe v2 ((Qe v1 (kk + 1)).2)).2 + 1 ≤ (Qe v4 ((Qe v2 ((Qe v1 (kk + 1)).2)).2 + 1)).2 := Xp _ _
      have HR4 := Lib.hid rh4; clear rh4
      have q0 : w.cell? ⟨eb, eo + j * 6, none⟩ = some _ := hcc 0 _ rfl
      have q1 : w.cell? ⟨eb, eo + j * 6 + 1, none⟩ = some _ := hcc 1 _ rfl
      have q2 : w.cell? ⟨eb, eo + j * 6 + 2, none⟩ = some _ := hcc 2 _ rfl
      have q3 : w.cell? ⟨eb, eo + j * 6 + 3, none⟩ = some _ := hcc 3 _ rfl
      have q4 : w.cell? ⟨eb, eo + j * 6 + 4, none⟩ = some _ := hcc 4 _ rfl
      have q5 : w.cell? ⟨eb, eo + j * 6 + 5, none⟩ = some _ := hcc 5 _ rfl
      have HQ := Lib.hid (show True from trivial)
      have Q0 := Lib.hid q0; clear q0
      have Q1 := Lib.hid q1; clear q1
      have Q2 := Lib.hid q2; clear q2
      have Q3 := Lib.hid q3; clear q3
      have Q4 := Lib.hid q4; clear q4
      have Q5 := Lib.hid q5; clear q5
      have p0_0 := cBh hB Q0.out
      have p0_1 := cBh hB Q1.out
      have p0_2 := cBh hB Q2.out
      have p0_3 := cBh hB Q3.out
      have p0_4 := cBh hB Q4.out
      have p0_5 := cBh hB Q5.out
      clear hcc hcl
      have hz0 := hB.size
      have tok1 : True := trivial
      have tok2 : True := trivial
      have tok3 : True := trivial
      go_wp2_with (first | (go_at_call 76; have tk := tok1; clear tok1; refine Kq (w := w) (heldFieldS_c _ _ v1 _ _ (kk + 1) (by omega) (by omega) (by omega) rfl (Z9 HR1.out hB)) hB ?_; intro w1 hB1 hbq hz1 hz2; clear hbq hz2; have p1_0 := cBh hB1 Q0.out; have p1_1 := cBh hB1 Q1.out; have p1_2 := cBh hB1 Q2.out; have p1_3 := cBh hB1 Q3.out; have p1_4 := cBh hB1 Q4.out; have p1_5 := cBh hB1 Q5.out) | (go_at_call 77; have tk := tok2; clear tok2; refine Kq (w := w) (heldFileS_c _ _ v2 _ _ ((Qe v1 (kk + 1)).2) (by omega) (by omega) (by omega) rfl (Z9 HR2.out hB1)) hB1 ?_; intro w2 hB2 hbq hz2 hz2; clear hbq hz2; have p2_0 := cBh hB2 Q0.out; have p2_1 := cBh hB2 Q1.out; have p2_2 := cBh hB2 Q2.out; have p2_3 := cBh hB2 Q3.out; have p2_4 := cBh hB2 Q4.out; have p2_5 := cBh hB2 Q5.out) | (go_at_call 74; have tk := tok3; clear tok3; refine Kq (w := w) (heldDirS_c _ _ v4 _ _ ((Qe v2 ((Qe v1 (kk + 1)).2)).2 + 1) (by omega) (by omega) (by omega) rfl (Z9 HR4.out hB2)) hB2 ?_; intro w3 hB3 hbq hz3 hz2; clear hbq hz2; have p3_0 := cBh hB3 Q0.out; have p3_1 := cBh hB3 Q1.out; have p3_2 := cBh hB3 Q2.out; have p3_3 := cBh hB3 Q3.out; have p3_4 := cBh hB3 Q4.out; have p3_5 := cBh hB3 Q5.out))
      first
      | exact ⟨⟨j + 1, by omega, by go_num, by (show Value.int _ _ = _; rw [HSP.out]; try (show Value.int .i64 _ = .int .i64 (((Qe v4 ((Qe v2 ((Qe v1 (kk + 1)).2)).2 + 1)).2 + 1 : Nat) : Int); first | go_num | (congr 1 <;> omega))), hB3⟩, by simp [intOf]; omega⟩
      | (go_roundw; (case measure => simp [intOf]; omega); (case rel => exact ⟨j + 1, by omega, by go_num, by (show Value.int _ _ = _; rw [HSP.out]; try (show Value.int .i64 _ = .int .i64 (((Qe v4 ((Qe v2 ((Qe v1 (kk + 1)).2)).2 + 1)).2 + 1 : Nat) : Int); first | go_num | (congr 1 <;> omega))), hB3⟩))
    obtain rfl : j = l.length := by omega
    have hf := HF.out
    rw [List.take_length] at *
    rw [hf] at *
    have HF2 := Lib.hid hf; clear hf
    go_wp2
    go_ret
    exact ⟨rfl, hB⟩
theorem heldCatalog_c (w : World) (ca : List Value) (a a' : CatalogD) (K : Int) (k : Nat) (hK : K = k) (h1 : 1 ≤ k) (hk : (GoD.markT a k).2 ≤ 4611686018427387904) (ha' : a' = (GoD.markT a k).1) (ha : rd w ca a') : Calls Tryz.prog 39 #[.agg ca.toArray, .int .i64 K] w (Ret w (.int .i64 ((GoD.markT a k).2 : Nat))) := by
  subst hK ha'
  obtain ⟨b1, b2, b3⟩ := a
  have hk : (Qe b3 ((Qe b2 ((GoD.markT b1 (k)).2)).2)).2 ≤ 4611686018427387904 := hk
  have ha : rd w ca ((GoD.markT b1 (k)).1, (Qe b2 ((GoD.markT b1 (k)).2)).1, (Qe b3 ((Qe b2 ((GoD.markT b1 (k)).2)).2)).1) := ha
  generalize hfin : (GoD.markT ((b1, b2, b3) : CatalogD) k).2 = fin
  have hfin : (Qe b3 ((Qe b2 ((GoD.markT b1 (k)).2)).2)).2 = fin := hfin
  obtain ⟨_, _, rfl, ar1, _, _, rfl, ar2, ar3⟩ := ha
  obtain ⟨ax1_0, ax1_1, ax1_2, rfl⟩ := len3 (show _ = 3 from GoD.rd_len ar1)
  have HR1 := Lib.hid ar1; clear ar1
  have hm1 : k ≤ (GoD.markT b1 (k)).2 := GoD.mkT_le _ _
  obtain ⟨ax2_0, rfl⟩ := len1 (show _ = 1 from GoD.rd_len ar2)
  have HR2 := Lib.hid ar2; clear ar2
  have hm2 : (GoD.markT b1 (k)).2 ≤ (Qe b2 ((GoD.markT b1 (k)).2)).2 := Xp _ _
  obtain ⟨ax3_0, rfl⟩ := len1 (show _ = 1 from GoD.rd_len ar3)
  have HR3 := Lib.hid ar3; clear ar3
  have hm3 : (Qe b2 ((GoD.markT b1 (k)).2)).2 ≤ (Qe b3 ((Qe b2 ((GoD.markT b1 (k)).2)).2)).2 := Xp _ _
  dsimp only [List.cons_append, List.nil_append] at *
  have tok1 : True := trivial
  have tok2 : True := trivial
  have tok3 : True := trivial
  have HF := Lib.hid hfin; clear hfin
  go_enter Tryz.func39, Tryz.ntmps39
  go_wp2_with (first | (go_at_call 73; have tk := tok1; clear tok1; refine Kq (w := w) (heldStore_c _ [ax1_0, ax1_1, ax1_2] b1 _ _ (k) (by omega) (by omega) (show (GoD.markT b1 (k)).2 ≤ 4611686018427387904 by omega) rfl (Z9 HR1.out (by go_grown))) (by go_grown) ?_; intro w1 hB hb hz hz2; (try simp only [zSh] at hz2); have c0 := fun o => bcell hb (w.heap.size) o (by go_size); clear hb) | (go_at_call 74; have tk := tok2; clear tok2; refine Kq (w := w) (heldDirS_c _ ax2_0 b2 _ _ ((GoD.markT b1 (k)).2) (by omega) (by omega) (show (Qe b2 ((GoD.markT b1 (k)).2)).2 ≤ 4611686018427387904 by omega) rfl (Z9 HR2.out (by go_grown))) (by go_grown) ?_; intro w2 hB hb hz hz2; (try simp only [zSh] at hz2); have c0 := fun o => bcell hb (w.heap.size) o (by go_size); clear hb) | (go_at_call 75; have tk := tok3; clear tok3; refine Kq (w := w) (heldResultS_c _ ax3_0 b3 _ _ ((Qe b2 ((GoD.markT b1 (k)).2)).2) (by omega) (by omega) (show (Qe b3 ((Qe b2 ((GoD.markT b1 (k)).2)).2)).2 ≤ 4611686018427387904 by omega) rfl (Z9 HR3.out (by go_grown))) (by go_grown) ?_; intro w3 hB hb hz hz2; (try simp only [zSh] at hz2); have c0 := fun o => bcell hb (w.heap.size) o (by go_size); clear hb))
  go_ret
  refine ⟨?_, by go_grown⟩
  rw [← HF.out]
  rfl
theorem heldSystem_c (w : World) (ca : List Value) (a a' : SystemD) (K : Int) (k : Nat) (hK : K = k) (h1 : 1 ≤ k) (hk : (GoD.markT a k).2 ≤ 4611686018427387904) (ha' : a' = (GoD.markT a k).1) (ha : rd w ca a') : Calls Tryz.prog 15 #[.agg ca.toArray, .int .i64 K] w (Ret w (.int .i64 ((GoD.markT a k).2 : Nat))) := by
  subst hK ha'
  obtain ⟨b1, b2, b3, b4, b5, b6⟩ := a
  have hk : (Qe b6 ((Qe b5 ((Qe b4 ((GoD.markT b1 (k)).2)).2)).2)).2 ≤ 4611686018427387904 := hk
  have ha : rd w ca ((GoD.markT b1 (k)).1, b2, b3, (Qe b4 ((GoD.markT b1 (k)).2)).1, (Qe b5 ((Qe b4 ((GoD.markT b1 (k)).2)).2)).1, (Qe b6 ((Qe b5 ((Qe b4 ((GoD.markT b1 (k)).2)).2)).2)).1) := ha
  generalize hfin : (GoD.markT ((b1, b2, b3, b4, b5, b6) : SystemD) k).2 = fin
  have hfin : (Qe b6 ((Qe b5 ((Qe b4 ((GoD.markT b1 (k)).2)).2)).2)).2 = fin := hfin
  obtain ⟨_, _, rfl, ar1, _, _, rfl, ar2, _, _, rfl, ar3, _, _, rfl, ar4, _, _, rfl, ar5, ar6⟩ := ha
  obtain ⟨ax1_0, ax1_1, ax1_2, ax1_3, ax1_4, rfl⟩ := len5 (show _ = 5 from GoD.rd_len ar1)
  have HR1 := Lib.hid ar1; clear ar1
  have hm1 : k ≤ (GoD.markT b1 (k)).2 := GoD.mkT_le _ _
  obtain ⟨ax2_0, ax2_1, rfl⟩ := len2 (show _ = 2 from GoD.rd_len ar2)
  clear ar2
  obtain ⟨rfl, ar3⟩ := ar3
  clear ar3
  obtain ⟨ax4_0, rfl⟩ := len1 (show _ = 1 from GoD.rd_len ar4)
  have HR4 := Lib.hid ar4; clear ar4
  have hm4 : (GoD.markT b1 (k)).2 ≤ (Qe b4 ((GoD.markT b1 (k)).2)).2 := Xp _ _
  obtain ⟨ax5_0, rfl⟩ := len1 (show _ = 1 from GoD.rd_len ar5)
  have HR5 := Lib.hid ar5; clear ar5
  have hm5 : (Qe b4 ((GoD.markT b1 (k)).2)).2 ≤ (Qe b5 ((Qe b4 ((GoD.markT b1 (k)).2)).2)).2 := Xp _ _
  obtain ⟨ax6_0, rfl⟩ := len1 (show _ = 1 from GoD.rd_len ar6)
  have HR6 := Lib.hid ar6; clear ar6
  have hm6 : (Qe b5 ((Qe b4 ((GoD.markT b1 (k)).2)).2)).2 ≤ (Qe b6 ((Qe b5 ((Qe b4 ((GoD.markT b1 (k)).2)).2)).2)).2 := Xp _ _
  dsimp only [List.cons_append, List.nil_append] at *
  have tok1 : True := trivial
  have tok2 : True := trivial
  have tok3 : True := trivial
  have tok4 : True := trivial
  have HF := Lib.hid hfin; clear hfin
  go_enter Tryz.func15, Tryz.ntmps15
  go_wp2_with (first | (go_at_call 39; have tk := tok1; clear tok1; refine Kq (w := w) (heldCatalog_c _ [ax1_0, ax1_1, ax1_2, ax1_3, ax1_4] b1 _ _ (k) (by omega) (by omega) (show (GoD.markT b1 (k)).2 ≤ 4611686018427387904 by omega) rfl (Z9 HR1.out (by go_grown))) (by go_grown) ?_; intro w1 hB hb hz hz2; (try simp only [zSh] at hz2); have c0 := fun o => bcell hb (w.heap.size) o (by go_size); clear hb) | (go_at_call 40; have tk := tok2; clear tok2; refine Kq (w := w) (heldVersionS_c _ ax4_0 b4 _ _ ((GoD.markT b1 (k)).2) (by omega) (by omega) (show (Qe b4 ((GoD.markT b1 (k)).2)).2 ≤ 4611686018427387904 by omega) rfl (Z9 HR4.out (by go_grown))) (by go_grown) ?_; intro w2 hB hb hz hz2; (try simp only [zSh] at hz2); have c0 := fun o => bcell hb (w.heap.size) o (by go_size); clear hb) | (go_at_call 41; have tk := tok3; clear tok3; refine Kq (w := w) (heldWatchS_c _ ax5_0 b5 _ _ ((Qe b4 ((GoD.markT b1 (k)).2)).2) (by omega) (by omega) (show (Qe b5 ((Qe b4 ((GoD.markT b1 (k)).2)).2)).2 ≤ 4611686018427387904 by omega) rfl (Z9 HR5.out (by go_grown))) (by go_grown) ?_; intro w3 hB hb hz hz2; (try simp only [zSh] at hz2); have c0 := fun o => bcell hb (w.heap.size) o (by go_size); clear hb) | (go_at_call 42; have tk := tok4; clear tok4; refine Kq (w := w) (heldIntS_c _ ax6_0 b6 _ _ ((Qe b5 ((Qe b4 ((GoD.markT b1 (k)).2)).2)).2) (by omega) (by omega) (show (Qe b6 ((Qe b5 ((Qe b4 ((GoD.markT b1 (k)).2)).2)).2)).2 ≤ 4611686018427387904 by omega) rfl (Z9 HR6.out (by go_grown))) (by go_grown) ?_; intro w4 hB hb hz hz2; (try simp only [zSh] at hz2); have c0 := fun o => bcell hb (w.heap.size) o (by go_size); clear hb))
  go_ret
  refine ⟨?_, by go_grown⟩
  rw [← HF.out]
  rfl
end
section
open Go.RowKit
open GoD (rd own)
open GoE (enc wide)
def szI (t : Nat) (left : Int) : Int := bif decide ((t : Int) ≤ left) then left - t else -1
theorem szI_of {t : Nat} {left r : Int} (h : szq t left r) : r = szI t left := by
  unfold szq at h
  unfold szI
  by_cases hc : (t : Int) ≤ left
  · rw [decide_eq_true hc]; simp only [cond_true]; omega
  rw [decide_eq_false hc]; simp only [cond_false]; omega
theorem szI_bd (t : Nat) (left : Int) : szI t left < 0 ∨ (0 ≤ szI t left ∧ szI t left = left - t ∧ (t : Int) ≤ left) := by
  by_cases hc : (t : Int) ≤ left
  · have : szI t left = left - t := by unfold szI; rw [decide_eq_true hc]; rfl
    omega
  have : szI t left = -1 := by unfold szI; rw [decide_eq_false hc]; rfl
  omega
theorem szI_in (t : Nat) {left : Int} (h0 : 0 ≤ left) (h1 : left ≤ 1048576) : InR .i64 (szI t left) := by
  rw [inR_i64]; unfold I64
  by_cases hc : (t : Int) ≤ left
  · have : szI t left = left - t := by unfold szI; rw [decide_eq_true hc]; rfl
    omega
  have : szI t left = -1 := by unfold szI; rw [decide_eq_false hc]; rfl
  omega
section
variable {α : Type} [GoE α] {P : Program} {f : Nat}
theorem argA_rd {F : Nat → Prop} {w : World} {v : Value} {a : α} (h : AR (argJ F) w v (argA a)) : ∃ cs : List Value, v = .agg cs.toArray ∧ rd w cs a := by
  obtain ⟨vs, rfl, hr⟩ := h
  exact ⟨vs, rfl, GoE.vc_rd (sh_vc hr fun _ => GoE.no_any)⟩
theorem argS_rd {F : Nat → Prop} {w : World} {v : Value} {l : List α} (h : AR (argJ F) w v (argS l)) : rd w [v] l := vv_rdS h
theorem aret_pure {F : Nat → Prop} {w w' : World} {v : Value} {r : AV} (hb : Below w.heap.size w w') (hr : ∀ J, AR J w' v r) : ARet F w r (.returned v) w' :=
  ⟨v, fun _ => [], rfl, hb, fun _ => List.nodup_nil, (fun _ _ h => by simp at h), (fun _ _ _ h => by simp at h), hr _⟩
theorem acalls_szS (hok : FnOk P f) {l : List α} {left : Int} (h0 : 0 ≤ left) (h1 : left ≤ 1048576) (h : ∀ w (v : Value), rd w [v] l → Calls P f #[v, .int .i64 left] w (RetSz w (GoD.size l) left)) : ACalls P f [argS l, intA left] (intA (szI (GoD.size l) left)) := by
  refine ⟨hok, fun w _ F vals hF hall => ?_⟩
  cases hall with
  | cons h2 h3 => cases h3 with
    | cons h3 h4 =>
      cases h4
      obtain ⟨rfl, _⟩ := h3
      refine (h w _ (argS_rd h2)).mono ?_
      rintro e w' ⟨r, rfl, hq, hb⟩
      exact aret_pure hb fun J => ⟨by rw [szI_of hq], szI_in _ h0 h1⟩
theorem acalls_heA (hok : FnOk P f) {a : α} {K R : Int} (hR : InR .i64 R) (h : ∀ w (cs : List Value), rd w cs a → Calls P f #[.agg cs.toArray, .int .i64 K] w (Ret w (.int .i64 R))) : ACalls P f [argA a, intA K] (intA R) := by
  refine ⟨hok, fun w _ F vals hF hall => ?_⟩
  cases hall with
  | cons h2 h3 => cases h3 with
    | cons h3 h4 =>
      cases h4
      obtain ⟨cs, rfl, hr⟩ := argA_rd h2
      obtain ⟨rfl, _⟩ := h3
      refine (h w cs hr).mono ?_
      rintro e w' ⟨rfl, hb⟩
      exact aret_pure hb fun J => ⟨rfl, hR⟩
end
/-! ### copies -/
section
variable {α : Type} [GoE α] {P : Program} {f : Nat}
end
/-! ### marks -/
def MarkA (P : Program) (f : Nat) {α : Type} [GoE α] (a : α) (K : Int) (r : α × Nat) : Prop := FnOk P f ∧ ∀ (w : World) (L : List Nat) (cs : List Value), own L w cs a → Calls P f #[.agg cs.toArray, .int .i64 K] w (MarkR L w cs r)
def MarkS (P : Program) (f : Nat) {α : Type} [GoE α] (l : List α) (K : Int) (r : List α × Nat) : Prop := FnOk P f ∧ ∀ (w : World) (L : List Nat) (v : Value), own L w [v] l → Calls P f #[v, .int .i64 K] w (MarkR L w [v] r)
def nmC : List Nat → List PV → Option (List C)
  | [], [] => some []
  | _, [] => none
  | k :: ks, .slc n l :: r => (nmC ks r).map (C.slc (.own true k) n l :: ·)
  | [], .slc _ _ :: _ => none
  | ks, .int a b :: r => (nmC ks r).map (C.int a b :: ·)
  | ks, .bool b :: r => (nmC ks r).map (C.bool b :: ·)
  | ks, .str s :: r => (nmC ks r).map (C.str s :: ·)
  | [], .any :: _ => none
  | _ :: _, .any :: _ => none
  | [], .raw _ :: _ => none
  | _ :: _, .raw _ :: _ => none
theorem nm_oc {J : Inj} {w : World} (hd : ∀ k k' b, b ∈ J.L k → b ∈ J.L k' → k = k') : ∀ {ps : List PV} {ks : List Nat} {cs : List C} {vs : List Value}, nmC ks ps = some cs → ks.Nodup → All2 (CR J w) vs cs → ∃ L, OC w L vs ps ∧ L.Nodup ∧ ∀ b, b ∈ L → ∃ k, k ∈ ks ∧ b ∈ J.L k
  | [], [], cs, vs, h, _, ha => by
    obtain rfl : [] = cs := by simpa [nmC] using h
    cases ha
    exact ⟨[], .nil, List.nodup_nil, fun _ h => by simp at h⟩
  | [], k :: ks, cs, vs, h, _, ha => by simp [nmC] at h
  | .int a b :: ps, ks, cs, vs, h, hn, ha => by
    have h : (nmC ks ps).map (C.int a b :: ·) = some cs := by cases ks <;> exact h
    obtain ⟨cs', h', rfl⟩ := Option.map_eq_some_iff.1 h
    cases ha with
    | cons h1 h2 => obtain ⟨rfl, h1⟩ := h1; obtain ⟨L, q1, q2, q3⟩ := nm_oc hd h' hn h2; exact ⟨L, OC.cons (L1 := []) (.int h1) q1, q2, q3⟩
  | .bool b :: ps, ks, cs, vs, h, hn, ha => by
    have h : (nmC ks ps).map (C.bool b :: ·) = some cs := by cases ks <;> exact h
    obtain ⟨cs', h', rfl⟩ := Option.map_eq_some_iff.1 h
    cases ha with
    | cons h1 h2 => obtain rfl := h1; obtain ⟨L, q1, q2, q3⟩ := nm_oc hd h' hn h2; exact ⟨L, OC.cons (L1 := []) (.bool _) q1, q2, q3⟩
  | .str s :: ps, ks, cs, vs, h, hn, ha => by
    have h : (nmC ks ps).map (C.str s :: ·) = some cs := by cases ks <;> exact h
    obtain ⟨cs', h', rfl⟩ := Option.map_eq_some_iff.1 h
    cases ha with
    | cons h1 h2 => obtain ⟨rfl, h1⟩ := h1; obtain ⟨L, q1, q2, q3⟩ := nm_oc hd h' hn h2; exact ⟨L, OC.cons (L1 := []) (.str h1) q1, q2, q3⟩
  | .slc n l :: ps, [], cs, vs, h, _, ha => by simp [nmC] at h
  | .any :: ps, [], cs, vs, h, _, ha => by simp [nmC] at h
  | .any :: ps, k :: ks, cs, vs, h, _, ha => by simp [nmC] at h
  | .raw _ :: ps, [], cs, vs, h, _, ha => by simp [nmC] at h
  | .raw _ :: ps, k :: ks, cs, vs, h, _, ha => by simp [nmC] at h
  | .slc n l :: ps, k :: ks, cs, vs, h, hn, ha => by
    simp only [nmC] at h
    obtain ⟨cs', h', rfl⟩ := Option.map_eq_some_iff.1 h
    obtain ⟨hk, hn⟩ := List.nodup_cons.1 hn
    cases ha with
    | cons h1 h2 =>
      obtain ⟨L, q1, q2, q3⟩ := nm_oc hd h' hn h2
      obtain ⟨L0, a1, a2, a3, _⟩ := h1
      refine ⟨L0 ++ L, OC.cons a1 q1, List.nodup_append.2 ⟨a2, q2, fun b hb b' hb' e => ?_⟩, fun b hb => ?_⟩
      · subst e
        obtain ⟨k', hk', hm⟩ := q3 b hb'
        exact hk (hd _ _ b (a3 b hb) hm ▸ hk')
      rcases List.mem_append.1 hb with hb | hb
      · exact ⟨k, List.mem_cons_self, a3 b hb⟩
      obtain ⟨k', hk', hm⟩ := q3 b hb
      exact ⟨k', List.mem_cons_of_mem _ hk', hm⟩
section
variable {P : Program} {N : Nat} {w0 : Base} {F0 : Nat → Prop} {J : Inj} {a : Act} {w w' : World} {s : St}
theorem Rel.mark (h : Rel N w0 F0 J a w s) (ks : List Nat) {L : List Nat} (hL : ∀ b, b ∈ L → ∃ k, k ∈ ks ∧ b ∈ J.L k) (hc : Chg L w w') (d : Nat) (hd : d < N) (n : Int) (hn : InR .i64 n) (bx : Option (Nat × List C))
    (hb : ∀ k c, bx = some (k, c) → ∃ c0, get s.bx k = some c0 ∧ ∃ arr e, w.heap[J.B k]? = some (.cells arr e (0, 0)) ∧ ∀ J' : Inj, (∀ b, J'.F b ↔ J.F b ∨ b ∈ L) → All2 (CR J' w') arr.toList c) :
    ∃ J', (∀ b, J'.F b ↔ J.F b ∨ b ∈ L) ∧ (∀ k, J'.B k = J.B k) ∧ Rel N w0 F0 J' (a.put (some d) (.int .i64 n)) w' (s.step (some d) ⟨.one (.int .i64 n), Z2 ks, none, bx⟩) := by
  let J' : Inj := ⟨fun b => J.F b ∨ b ∈ L, fun k => if k ∈ ks then [] else J.L k, J.B⟩
  have hlo : ∀ b, b ∈ L → w0.lo (b) ∧ b < w.heap.size ∧ ¬ J.F b := fun b hb => by
    obtain ⟨k, _, hm⟩ := hL b hb
    exact h.lo k b hm
  have hun : ∀ b, b < w.heap.size → b ∉ L → w'.heap[b]? = w.heap[b]? := hc.block
  have hJL : ∀ k b, b ∈ J'.L k → k ∉ ks ∧ b ∈ J.L k := fun k b hm => by
    have hm : b ∈ (if k ∈ ks then [] else J.L k) := hm
    split at hm
    · simp at hm
    rename_i hk; exact ⟨hk, hm⟩
  have hout : ∀ k b, k ∉ ks → b ∈ J.L k → b ∉ L := fun k b hk hm hl => by
    obtain ⟨k', hk', hm'⟩ := hL b hl
    exact hk (h.dj k k' b hm hm' ▸ hk')
  have hboxL : ∀ k c, get s.bx k = some c → J.B k ∉ L := fun k c hk hl => by
    obtain ⟨k', _, hm⟩ := hL _ hl
    exact (h.bo k c hk).2.2.1 k' hm
  refine ⟨J', fun b => Iff.rfl, fun _ => rfl, ?_⟩
  refine h.upd (w' := w') (J' := J') (some d) (fun d' e => by cases e; exact hd) _ _ (h.below.step hc.os hc.tape hc.output hc.size fun b hb hnl => hun b hb fun hl => hnl (hlo b hl).1) ?_ ?_ (fun _ => ⟨rfl, hn⟩) ?_ ?_
  · constructor
    · exact fun b hb => ⟨.inl hb, hun b (h.fl b hb).1 fun hl => (hlo b hl).2.2 hb⟩
    · intro k hk
      rw [get_kill] at hk
      split at hk
      · cases hk
      rename_i hn
      exact ⟨if_neg hn, fun b hb => hun b (h.lo k b hb).2.1 (hout k b hn hb)⟩
    · intro k hk; rw [get_kill] at hk; split at hk <;> cases hk
    · intro k k' hk; rw [get_kill] at hk; split at hk <;> cases hk
    · intro k t hk; rw [get_kill] at hk; split at hk <;> cases hk
    · exact fun _ _ => rfl
    intro k d m i o cs hk; rw [get_kill] at hk; split at hk <;> cases hk
  · constructor
    · intro b hb
      rcases hb with hb | hb
      · exact ⟨Nat.lt_of_lt_of_le (h.fl b hb).1 hc.size, (h.fl b hb).2⟩
      exact ⟨Nat.lt_of_lt_of_le (hlo b hb).2.1 hc.size, .inr (hlo b hb).1⟩
    · exact fun b hb => .inl (h.f0 b hb)
    · intro k
      show (if _ then _ else _ : List Nat).Nodup
      split
      · exact List.nodup_nil
      exact h.nd k
    · intro k b hm
      obtain ⟨hk, hm⟩ := hJL k b hm
      obtain ⟨h1, h2, h3⟩ := h.lo k b hm
      exact ⟨h1, Nat.lt_of_lt_of_le h2 hc.size, fun hF => hF.elim h3 (hout k b hk hm)⟩
    intro k k' b hm hm'
    exact h.dj k k' b (hJL k b hm).2 (hJL k' b hm').2
  · intro k c hk _
    obtain ⟨h1, h2, h3, arr, e, h4, _⟩ := h.bo k c hk
    refine ⟨by simp, fun hF => hF.elim h2 (hboxL k c hk), fun k' hm => h3 k' (hJL k' _ hm).2, hun _ ?_ (hboxL k c hk)⟩
    exact Ql h4
  intro k c hk
  obtain ⟨c0, hg, arr, e, hh, hall⟩ := hb k c hk
  obtain ⟨h1, h2, h3, arr', e', h4, _⟩ := h.bo k c0 hg
  have hlt : J.B k < w.heap.size := Ql h4
  exact ⟨h1, fun hF => hF.elim h2 (hboxL k c0 hg), fun k' hm => h3 k' (hJL k' _ hm).2, ⟨arr, e, (hun _ hlt (hboxL k c0 hg)).trans hh, hall J' fun _ => Iff.rfl⟩, fun k' c' hk' hne e => hne (h.bi k' k c' c0 hk' hg e)⟩
theorem Rel.settm (h : Rel N w0 F0 J a w s) (t : Nat) (av : AV) (hv : AR J w (a.tmps.getD t undef) av) : Rel N w0 F0 J a w ⟨ins t av s.tm, s.bx⟩ := by
  refine { h with tm := fun u v hu => ?_ }
  simp only [get_ins] at hu
  split at hu
  · rename_i e; subst e; cases hu; exact hv
  exact h.tm u v hu
theorem loadVar_agg {ti : TI} {t : Nat} (hti : TiOk P t ti) {vs : List Value} (hag : ti.agg = true) (hl : vs.length = ti.size) {b off : Nat} (hc : ∀ (j : Nat) (u : Value), vs[j]? = some u → w.cell? ⟨b, off + j, none⟩ = some u) : (loadVar t ⟨b, off, none⟩).run P w = .ok (.agg vs.toArray) w := by
  obtain ⟨d, hd, hagg⟩ := hti.agg
  have hld := run_loadCells_list (P := P) w ⟨b, off, none⟩ vs (fun j u hj => by rw [Addr.add_lit]; exact hc j u hj)
  rw [hl] at hld
  simp [loadVar, run_isAgg_of hd, hagg, hag, sizeOf_run hti, hld]
theorem getD_put {a : Act} {t u : Nat} {v : Value} (ht : t < a.tmps.size) : (a.put (some t) v).tmps.getD u undef = if u = t then v else a.tmps.getD u undef := by
  simp only [Act.put, Array.getD_eq_getD_getElem?, Array.getElem?_setIfInBounds]
  by_cases h : u = t
  · subst h; simp [ht]
  simp [h, Ne.symm h]
end
class GoM (α : Type) [GoE α] : Prop where
  mkw : ∀ {a : α} {k : Nat}, wide a → wide (GoD.mark a k).1
  mkT : ∀ {a : α} {k : Nat}, wide a → wide (GoD.markT a k).1
instance : GoM Int := ⟨fun _ => trivial, fun _ => trivial⟩
instance : GoM Bool := ⟨fun _ => trivial, fun _ => trivial⟩
instance : GoM ByteArray := ⟨fun _ => trivial, fun _ => trivial⟩
instance {α β : Type} [GoE α] [GoE β] [GoM α] [GoM β] : GoM (α × β) := ⟨fun h => ⟨GoM.mkw h.1, GoM.mkw h.2⟩, fun h => ⟨GoM.mkT h.1, GoM.mkT h.2⟩⟩
theorem markS_wide {α : Type} [GoE α] [GoM α] : ∀ {l : List α} {k : Nat}, (∀ a, a ∈ l → wide a) → ∀ a, a ∈ (Qe l k).1 → wide a
  | [], k, _, a, ha => by simp [Qe] at ha
  | x :: l, k, h, a, ha => by
    simp only [Qe, List.mem_cons] at ha
    rcases ha with rfl | ha
    · exact GoM.mkw (h x List.mem_cons_self)
    exact markS_wide (fun a ha => h a (List.mem_cons_of_mem _ ha)) a ha
instance {α : Type} [GoE α] [GoM α] : GoM (List α) := ⟨fun {l k} h => ⟨by rw [show (GoD.mark l k).1 = (Qe l k).1 from rfl, markS_length']; exact h.1, markS_wide h.2⟩, fun {l k} h => ⟨by rw [show (GoD.markT l k).1 = (Qe l k).1 from rfl, markS_length']; exact h.1, markS_wide h.2⟩⟩
section
variable {P : Program} {N : Nat} {w0 : Base} {F0 : Nat → Prop} {s s' : St} {Q : Exit → St → Prop}
theorem wpOps_one {ops : Array Oper} {Q : Exit → Act → World → Prop} {i : Nat} {rest : List Nat} {o : Oper} {a : Act} {w : World} (hi : ops[i]? = some o) (hg : o.guard = none) (h : o.wp P a w (wpOps P ops Q rest) Q) : wpOps P ops Q (i :: rest) a w := by
  rw [wpOps_cons]
  unfold wpOp
  simp only [hi]
  rw [if_pos (by simp [Region.wanted, hg])]
  exact .inl h
theorem sizePut {a : Act} {t : Nat} {v : Value} : (a.put (some t) v).tmps.size = a.tmps.size := by simp [Act.put]
def distinct4 (N x y d z p kv : Nat) : Bool := Nat.blt x N && Nat.blt y N && Nat.blt d N && Nat.blt z N && !Nat.beq kv x && !Nat.beq x y && !Nat.beq p x
theorem ne_of_nbeq {a b : Nat} (h : (!Nat.beq a b) = true) : a ≠ b := fun e => by subst e; simp at h
theorem awp_markA {tt : List (Nat × TI)} (htt : ttOk P tt = true) {α : Type} [GoE α] [GoM α] {a : α} {K : Int} {r : α × Nat} {f : Nat} (hm : MarkA P f a K r) (hr : InR .i64 (r.2 : Int)) (hrw : wide a → wide r.1) (ks : List Nat) {id x y d z p q kv t : Nat} {o0 o1 o2 o3 : Oper} {tys : Array TypeId} {ti : TI} {cs : List C} (ts bs : List Nat)
    (p0 : o0.op = .load t (.tmp p)) (d0 : o0.dst = some x) (g0 : o0.guard = none) (p1 : o1.op = .move (.tmp kv)) (d1 : o1.dst = some y) (g1 : o1.guard = none)
    (p2 : o2.op = .call ⟨.value (.func f), #[.tmp x, .tmp y], tys⟩) (d2 : o2.dst = some d) (g2 : o2.guard = none) (p3 : o3.op = .assign (.tmp d)) (d3 : o3.dst = some z) (g3 : o3.guard = none) (hN : distinct4 N x y d z p kv = true)
    (ht : get tt t = some ti) (hag : ti.agg = true) (hsz : Nat.beq ti.size (enc a).length = true) (hp : get s.tm p = some (.one (.ptr q 0))) (hb : get s.bx q = some cs) (hcs : nmC ks (enc a) = some cs) (hks : nodupN ks = true) (hk : get s.tm kv = some (.one (.int .i64 K)))
    (hs : ((((s.step (some x) ⟨.one .dead, [], none, none⟩).step (some y) ⟨.one .dead, [], none, none⟩).step (some d) ⟨.one (.int .i64 (r.2 : Int)), Z2 ks, none, some (q, (enc r.1).map shC)⟩).step (some z) ⟨.one (.int .i64 (r.2 : Int)), [], none, none⟩).keep ts bs = s')
    (hQ : Q .normal s') : AWP P N w0 F0 (.region id #[o0, o1, o2, o3] false) Q s := fun J ac w hr0 => by
  simp only [distinct4, Bool.and_eq_true, Nat.blt_eq] at hN
  obtain ⟨⟨⟨⟨⟨⟨n1, n2⟩, n3⟩, n4⟩, n5⟩, n6⟩, n7⟩ := hN
  have n5 := ne_of_nbeq n5
  have n6 := ne_of_nbeq n6
  obtain ⟨_, _, _, arr, e, hheap, hall⟩ := hr0.bo q cs hb
  have hpv : ac.tmps.getD p undef = .pointer (some ⟨J.B q, 0, none⟩) := hr0.tm p _ hp
  obtain ⟨hkv, hKr⟩ : ac.tmps.getD kv undef = .int .i64 K ∧ InR .i64 K := hr0.tm kv _ hk
  obtain ⟨L, hoc, hnd, hsub⟩ := nm_oc hr0.dj hcs (nodupN_iff.1 hks) hall
  have hown : own L w arr.toList a := GoE.oc_own hoc hnd
  have hwa : wide a := GoE.vc_wide (hoc.vc (X := fun b => b ∈ L) fun _ h => h)
  have hlen : arr.toList.length = ti.size := by rw [hoc.length]; exact (Nat.eq_of_beq_eq_true hsz).symm
  have hld : (loadVar t ⟨J.B q, 0, none⟩).run P w = .ok (.agg arr) w := by
    have := loadVar_agg (P := P) (w := w) (Yz htt ht) hag hlen (b := J.B q) (off := 0) (fun j u hj => by
      rw [Array.getElem?_toList] at hj
      simp [World.cell?, hheap, hj])
    simpa using this
  have hsx : x < ac.tmps.size := by rw [hr0.size]; exact n1
  have hsy : y < (ac.put (some x) (.agg arr)).tmps.size := by rw [sizePut, hr0.size]; exact n2
  have R1 := hr0.pure (some x) (fun d' e => by cases e; exact n1) (.one .dead) (.agg arr) (fun _ => trivial)
  have R2 := R1.pure (some y) (fun d' e => by cases e; exact n2) (.one .dead) (.int .i64 K) (fun _ => trivial)
  refine wp_region ?_
  show wpOps P _ _ [0, 1, 2, 3] ac w
  refine wpOps_one (o := o0) rfl g0 (J8 (v := .agg arr) (w' := w) ?_ ?_)
  · have e1 : ac.eval (.tmp p) = .pointer (some ⟨J.B q, 0, none⟩) := hpv
    simp [execOp, p0, e1, Instr.loadAt, Instr.sureAddr, hld]
  rw [d0]
  refine wpOps_one (o := o1) rfl g1 (J8 (v := .int .i64 K) (w' := w) ?_ ?_)
  · have e1 : (ac.put (some x) (.agg arr)).eval (.tmp kv) = .int .i64 K := (getD_put hsx).trans ((if_neg n5).trans hkv)
    simp [execOp, p1, e1]
  rw [d1]
  refine wpOps_one (o := o2) rfl g2 (wp_callV (caps := #[]) p2 rfl hm.1 ?_)
  have ex : ((ac.put (some x) (.agg arr)).put (some y) (.int .i64 K)).eval (.tmp x) = .agg arr := (getD_put hsy).trans ((if_neg n6).trans ((getD_put hsx).trans (if_pos rfl)))
  have ey : ((ac.put (some x) (.agg arr)).put (some y) (.int .i64 K)).eval (.tmp y) = .int .i64 K := (getD_put hsy).trans (if_pos rfl)
  have hargs : (#[Operand.tmp x, Operand.tmp y].map ((ac.put (some x) (.agg arr)).put (some y) (.int .i64 K)).eval ++ #[]) = #[.agg arr.toList.toArray, .int .i64 K] := by simp [ex, ey]
  rw [hargs]
  refine (hm.2 w L arr.toList hown).mono ?_
  rintro en w' ⟨rfl, ho, hc⟩
  have hwr := hrw hwa
  obtain ⟨J', hF, hB, R3⟩ := R2.mark ks hsub hc d n3 (r.2 : Int) hr (some (q, (enc r.1).map shC)) (fun k c hk => by
    cases hk
    refine ⟨cs, hb, arr, e, hheap, fun J' hF => ?_⟩
    exact sh_all ((GoE.own_oc ho hwr).vc fun b hb => (hF b).2 (.inr hb)))
  have R4 := R3.pure (some z) (fun d' e => by cases e; exact n4) (.one (.int .i64 (r.2 : Int))) (.int .i64 (r.2 : Int)) (fun _ => ⟨rfl, hr⟩)
  rw [d2]
  refine wpOps_one (o := o3) rfl g3 (J8 (v := .int .i64 (r.2 : Int)) (w' := w') ?_ ?_)
  · have hsd : d < ((ac.put (some x) (.agg arr)).put (some y) (.int .i64 K)).tmps.size := by rw [sizePut, sizePut, hr0.size]; exact n3
    have e1 : (((ac.put (some x) (.agg arr)).put (some y) (.int .i64 K)).put (some d) (.int .i64 (r.2 : Int))).eval (.tmp d) = .int .i64 (r.2 : Int) := (getD_put hsd).trans (if_pos rfl)
    simp [execOp, p3, e1]
  rw [d3]
  subst hs
  exact ⟨J', _, R4.less (fun t v hv => get_keep hv) (fun k c hc => get_keep hc), hQ⟩
theorem awp_markS {α : Type} [GoE α] [GoM α] {l : List α} {K : Int} {r : List α × Nat} {f : Nat} (hm : MarkS P f l K r) (hr : InR .i64 (r.2 : Int)) (hrw : wide l → wide r.1) (k0 : Nat) {id x y d z p kv : Nat} {o0 o1 o2 o3 : Oper} {tys : Array TypeId} (ts bs : List Nat)
    (p0 : o0.op = .move (.tmp p)) (d0 : o0.dst = some x) (g0 : o0.guard = none) (p1 : o1.op = .move (.tmp kv)) (d1 : o1.dst = some y) (g1 : o1.guard = none)
    (p2 : o2.op = .call ⟨.value (.func f), #[.tmp x, .tmp y], tys⟩) (d2 : o2.dst = some d) (g2 : o2.guard = none) (p3 : o3.op = .assign (.tmp d)) (d3 : o3.dst = some z) (g3 : o3.guard = none) (hN : distinct4 N x y d z p kv = true) (hN2 : (!Nat.beq p y && !Nat.beq p d && !Nat.beq p z) = true)
    (hp : get s.tm p = some (.one (.slc (.own true k0) (GoD.n α) (eL l)))) (hk : get s.tm kv = some (.one (.int .i64 K)))
    (hs : (St.mk (ins p (.one (.slc .sh (GoD.n α) (eL r.1))) ((((s.step (some x) ⟨.one .dead, [], none, none⟩).step (some y) ⟨.one .dead, [], none, none⟩).step (some d) ⟨.one (.int .i64 (r.2 : Int)), Z2 [k0], none, none⟩).step (some z) ⟨.one (.int .i64 (r.2 : Int)), [], none, none⟩).tm) ((((s.step (some x) ⟨.one .dead, [], none, none⟩).step (some y) ⟨.one .dead, [], none, none⟩).step (some d) ⟨.one (.int .i64 (r.2 : Int)), Z2 [k0], none, none⟩).step (some z) ⟨.one (.int .i64 (r.2 : Int)), [], none, none⟩).bx).keep ts bs = s')
    (hQ : Q .normal s') : AWP P N w0 F0 (.region id #[o0, o1, o2, o3] false) Q s := fun J ac w hr0 => by
  simp only [distinct4, Bool.and_eq_true, Nat.blt_eq] at hN hN2
  obtain ⟨⟨⟨⟨⟨⟨n1, n2⟩, n3⟩, n4⟩, n5⟩, n6⟩, n7⟩ := hN
  have n5 := ne_of_nbeq n5
  have n6 := ne_of_nbeq n6
  have n7 := ne_of_nbeq n7
  have m1 := ne_of_nbeq hN2.1.1
  have m2 := ne_of_nbeq hN2.1.2
  have m3 := ne_of_nbeq hN2.2
  have hpv : CR J w (ac.tmps.getD p undef) (.slc (.own true k0) (GoD.n α) (eL l)) := hr0.tm p _ hp
  generalize hv : ac.tmps.getD p undef = v at hpv
  obtain ⟨hkv, hKr⟩ : ac.tmps.getD kv undef = .int .i64 K ∧ InR .i64 K := hr0.tm kv _ hk
  obtain ⟨L, hov, hnd, hsub, _⟩ := hpv
  have hown : own L w [v] l := ov_ownS hov hnd
  have hwl : wide l := vv_wide (hov.vv (X := fun b => b ∈ L) fun _ h => h)
  have hsx : x < ac.tmps.size := by rw [hr0.size]; exact n1
  have hsy : y < (ac.put (some x) v).tmps.size := by rw [sizePut, hr0.size]; exact n2
  have R1 := hr0.pure (some x) (fun d' e => by cases e; exact n1) (.one .dead) v (fun _ => trivial)
  have R2 := R1.pure (some y) (fun d' e => by cases e; exact n2) (.one .dead) (.int .i64 K) (fun _ => trivial)
  refine wp_region ?_
  show wpOps P _ _ [0, 1, 2, 3] ac w
  refine wpOps_one (o := o0) rfl g0 (J8 (v := v) (w' := w) ?_ ?_)
  · have e1 : ac.eval (.tmp p) = v := hv
    simp [execOp, p0, e1]
  rw [d0]
  refine wpOps_one (o := o1) rfl g1 (J8 (v := .int .i64 K) (w' := w) ?_ ?_)
  · have e1 : (ac.put (some x) v).eval (.tmp kv) = .int .i64 K := (getD_put hsx).trans ((if_neg n5).trans hkv)
    simp [execOp, p1, e1]
  rw [d1]
  refine wpOps_one (o := o2) rfl g2 (wp_callV (caps := #[]) p2 rfl hm.1 ?_)
  have ex : ((ac.put (some x) v).put (some y) (.int .i64 K)).eval (.tmp x) = v := (getD_put hsy).trans ((if_neg n6).trans ((getD_put hsx).trans (if_pos rfl)))
  have ey : ((ac.put (some x) v).put (some y) (.int .i64 K)).eval (.tmp y) = .int .i64 K := (getD_put hsy).trans (if_pos rfl)
  have hargs : (#[Operand.tmp x, Operand.tmp y].map ((ac.put (some x) v).put (some y) (.int .i64 K)).eval ++ #[]) = #[v, .int .i64 K] := by simp [ex, ey]
  rw [hargs]
  refine (hm.2 w L v hown).mono ?_
  rintro en w' ⟨rfl, ho, hc⟩
  have hwr := hrw hwl
  obtain ⟨J', hF, hB, R3⟩ := R2.mark [k0] (fun b hb => ⟨k0, by simp, hsub b hb⟩) hc d n3 (r.2 : Int) hr none (fun k c hk => by cases hk)
  have R4 := R3.pure (some z) (fun d' e => by cases e; exact n4) (.one (.int .i64 (r.2 : Int))) (.int .i64 (r.2 : Int)) (fun _ => ⟨rfl, hr⟩)
  have hsd : d < ((ac.put (some x) v).put (some y) (.int .i64 K)).tmps.size := by rw [sizePut, sizePut, hr0.size]; exact n3
  rw [d2]
  refine wpOps_one (o := o3) rfl g3 (J8 (v := .int .i64 (r.2 : Int)) (w' := w') ?_ ?_)
  · have e1 : (((ac.put (some x) v).put (some y) (.int .i64 K)).put (some d) (.int .i64 (r.2 : Int))).eval (.tmp d) = .int .i64 (r.2 : Int) := (getD_put hsd).trans (if_pos rfl)
    simp [execOp, p3, e1]
  rw [d3]
  have hsz' : z < (((ac.put (some x) v).put (some y) (.int .i64 K)).put (some d) (.int .i64 (r.2 : Int))).tmps.size := by rw [sizePut, sizePut, sizePut, hr0.size]; exact n4
  have ep : ((((ac.put (some x) v).put (some y) (.int .i64 K)).put (some d) (.int .i64 (r.2 : Int))).put (some z) (.int .i64 (r.2 : Int))).tmps.getD p undef = v := by
    rw [getD_put hsz', if_neg m3, getD_put hsd, if_neg m2, getD_put hsy, if_neg m1, getD_put hsx, if_neg n7, hv]
  have hvv : VV J'.F w' v (.slc (GoD.n α) (eL r.1)) := by
    have := (GoE.own_oc ho hwr).vc (X := J'.F) fun b hb => (hF b).2 (.inr hb)
    exact VC.one this
  have R5 := R4.settm p (.one (.slc .sh (GoD.n α) (eL r.1))) (by rw [ep]; exact hvv)
  subst hs
  exact ⟨J', _, R5.less (fun t v hv => get_keep hv) (fun k c hc => get_keep hc), hQ⟩
end
end
section
open Go.RowKit
open GoD (rd own)
set_option maxRecDepth 100000
set_option maxHeartbeats 1000000
theorem cBz {w v : World} {a : Addr} {x : Value} (hB : Below w.heap.size w v) (h : w.cell? a = some x) : v.cell? a = some x := (hB.cell (World.block_lt_of_cell? w _ h)).trans h
abbrev zI {α : Type} [GoD α] (l : List α) (left : Int) (w : World) (q i : Value) (wr : World) : Prop := ∃ (k : Nat) (r : Int), k ≤ l.length ∧ i = .int .i64 k ∧ q = .int .i64 r ∧ 0 ≤ r ∧ r ≤ 1048576 ∧ Hid (r = left - l.length - ((l.take k).map GoD.size).sum) ∧ Below w.heap.size w wr
theorem szField_c (w : World) (ca : List Value) (a : X4) (left : Int) (ha : rd w ca a) (h0 : 0 ≤ left) (h1 : left ≤ 1048576) : Calls Tryz.prog 16 #[.agg ca.toArray, .int .i64 left] w (RetSz w (GoD.size a) left) := by
  obtain ⟨a1, a2⟩ := a
  obtain ⟨ac1, at1, rfl, ar1, ar2⟩ := ha
  obtain ⟨rfl, ar1⟩ := ar1
  obtain ⟨rfl, ar2⟩ := ar2
  dsimp only [List.cons_append, List.nil_append] at *
  unfold maxLen at ar1
  have ar1 : a1.size ≤ 9223372036854775807 := by omega
  clear ar2
  have hsz : GoD.size (a1, a2) = (a1.size + 0) := rfl
  have HSZ := Lib.hid hsz; clear hsz
  go_enter Tryz.func16, Tryz.ntmps16
  go_wp2
  all_goals
    go_ret
    refine ⟨_, rfl, ?_, by go_grown⟩
    rw [HSZ.out]
    unfold szq
    (try unfold szq at *)
    go_light
    omega
theorem szFieldS_c (w : World) (v : Value) (l : List X4) (left : Int) (ha : rd w [v] l) (h0 : 0 ≤ left) (h1 : left ≤ 1048576) : Calls Tryz.prog 4 #[v, .int .i64 left] w (RetSz w (GoD.size l) left) := by
  obtain ⟨oa, cap, e1, hl, hm, hel⟩ := ha
  obtain rfl : v = _ := by simpa using e1
  clear e1
  have HE := Lib.hid hel; clear hel
  unfold maxLen at hm
  have hlm : l.length ≤ 9223372036854775807 := by omega
  have hsz : GoD.size l = l.length + (l.map GoD.size).sum := rfl
  have HSZ := Lib.hid hsz; clear hsz
  by_cases hneg : left - l.length < 0
  · go_enter Tryz.func4, Tryz.ntmps4
    go_wp2
    go_ret
    refine ⟨_, rfl, ?_, Below.refl _ _⟩
    rw [HSZ.out]
    unfold szq
    omega
  go_enter Tryz.func4, Tryz.ntmps4
  go_wp2
  go_loopw [1, 5] (zI l left w) (fun _ i _ => l.length - (intOf i).toNat)
  case atStart => exact ⟨0, _, Nat.zero_le _, rfl, rfl, by omega, by omega, by show _ = _; simp, Below.refl _ _⟩
  case round =>
    obtain ⟨k, r, hk, rfl, rfl, hr0, hr1, HR, hB⟩ := hrel
    by_cases hkl : k < l.length
    · have hx := List.getElem?_eq_getElem hkl
      obtain ⟨eb, eo, ee, rfl, hcl, hcc, hxr⟩ := HE.out k _ hx
      have HT := Lib.hid (sum_take hx)
      have HU := Lib.hid (sum_take_le hx)
      clear hx
      generalize l[k] = x at *
      obtain ⟨x0, x1, rfl⟩ := len2 (show _ = 2 from hcl)
      have p0 : wr.cell? ⟨eb, eo + k * 2, none⟩ = some x0 := cBz hB (hcc 0 _ rfl)
      have p1 : wr.cell? ⟨eb, eo + k * 2 + 1, none⟩ = some x1 := cBz hB (hcc 1 _ rfl)
      have HXR := Lib.hid hxr; clear hxr hcc hcl
      go_wp2_with (go_at_call 16; refine call_sz (w := w) (szField_c _ [x0, x1] x _ (Z9 HXR.out hB) (by omega) (by omega)) (by go_grown) ?_; intro w2 r2 hB2 hb hz hz2 hr2 hs; have HR2 := Lib.hid hr2; clear hr2 hb)
      · go_ret
        refine ⟨_, rfl, ?_, by go_grown⟩
        have u1 := HU.out; have u2 := HR2.out; have u3 := HR.out
        rw [HSZ.out]
        unfold szq at *
        go_light
        omega
      go_roundw
      case rel => exact ⟨k + 1, _, by omega, by go_num, rfl, by omega, by omega, by
      show _ = _
      have u1 := HT.out; have u2 := HR2.out; have u3 := HR.out
      unfold szq at *
      rw [u1]
      omega, by go_grown⟩
      case measure => simp [intOf]; omega
    obtain rfl : k = l.length := by omega
    go_wp2
    go_ret
    refine ⟨_, rfl, ?_, hB⟩
    have u3 := HR.out
    rw [List.take_length] at u3
    rw [HSZ.out]
    unfold szq
    omega
end
section
open Go.RowKit
open GoE (enc)
section
variable {α : Type} [GoE α] {P : Program} {tt : List (Nat × TI)} {f g t6 : Nat} {fn : Func} {i0 i1 i2 i3 i4 i5 i6 i7 i8 B B1 : Nat} {O0 O1 O2 O3 O4 O5 O6 O7 O8 : Array Oper}
theorem eqS (htt : ttOk P tt = true) (hm : P.follows .mixedOrders = true) (hf : P.funcs[f]? = some fn) (b8 : Bool) (o : α → Ob) (ho : ∀ (w0 : Base) [GoodAt P w0] (a : α), (o a).holds (X7 P w0) (Jo P w0)) (l : List α)
    (hb : fn.body = some (.seq (.region i0 O0 false) (.seq (.seq (.region i1 O1 false) (.cond (.tmp 10) (.seq (.region i2 O2 false) .ret) .skip)) (.seq (.seq (.region i3 O3 false) (.block B (.loop (.seq (.seq (.region i4 O4 false) (.cond (.tmp 14) .skip (.exit B))) (.seq (.block B1 (.seq (.region i6 O6 true) (.cond (.tmp t6) (.seq (.region i7 O7 false) .ret) .skip))) (.region i5 O5 false)))))) (.seq (.region i8 O8 false) .ret)))) := by exact rfl)
    (hok : FnOk P f := by unfold FnOk; kernel_rfl) (hn : 2 ≤ fn.ntmps := by exact Nat.le_of_ble_eq_true rfl)
    (h0 : Ka tt fn.ntmps [] O0.toList [0, 1, 4] [] (entry [.h l, .h l]) = some (⟨[(0, .h l), (1, .h l), (4, .b false)], []⟩, []) := by kernel_rfl)
    (h1 : Ka tt fn.ntmps [(1, .val (.i (l.length : Int))), (3, .val (.i (l.length : Int))), (4, .val (.b false))] O1.toList [0, 1, 4, 10] [] ⟨[(0, .h l), (1, .h l), (4, .b false)], []⟩ = some (⟨[(0, .h l), (1, .h l), (4, .b false), (10, .b false)], []⟩, [.eq (.i ((eL l).length : Int)) (.i (l.length : Int)), .eq (.i ((eL l).length : Int)) (.i (l.length : Int)), .eq (.b ((l.length : Int) != (l.length : Int))) (.b false)]) := by kernel_rfl)
    (h3 : Ka tt fn.ntmps [] O3.toList [5, 0, 1, 4] [] ⟨[(0, .h l), (1, .h l), (4, .b false), (10, .b false)], []⟩ = some (⟨[(5, .i 0), (0, .h l), (1, .h l), (4, .b false)], []⟩, []) := by kernel_rfl)
    (h4 : ∀ (k : Nat) (b : Bool), Ka tt fn.ntmps [(2, .val (.i (l.length : Int))), (3, .val (.b b))] O4.toList [5, 0, 1, 4, 14] [] ⟨[(5, .i (k : Int)), (0, .h l), (1, .h l), (4, .b false)], []⟩ = some (⟨[(5, .i (k : Int)), (0, .h l), (1, .h l), (4, .b false), (14, .b b)], []⟩, [.eq (.i ((eL l).length : Int)) (.i (l.length : Int)), .eq (.b (decide ((k : Int) < (l.length : Int)))) (.b b)]) := by intro k b; kernel_rfl)
    (h6 : ∀ (k : Nat) (a : α), runDraw tt fn.ntmps [(2, .row (enc a)), (6, .row (enc a)), (8, .val (.b b8))] O6.toList [5, 0, 1, 4, t6] [] ⟨[(5, .i (k : Int)), (0, .h l), (1, .h l), (4, .b false), (14, .b true)], []⟩ = some (⟨[(5, .i (k : Int)), (0, .h l), (1, .h l), (4, .b false), (t6, .b false)], []⟩, [.elem (eL l) (k : Int) (enc a), .elem (eL l) (k : Int) (enc a), o a]) := by intro k a; kernel_rfl)
    (h7 : ∀ k : Nat, get [(5, AV.i (k : Int)), (0, .h l), (1, .h l), (4, .b false), (t6, .b false)] t6 = some (.b false) := by intro k; kernel_rfl)
    (h5 : ∀ k : Nat, Ka tt fn.ntmps [(1, .val (.i ((k + 1 : Nat) : Int)))] O5.toList [5, 0, 1, 4] [] ⟨[(5, .i (k : Int)), (0, .h l), (1, .h l), (4, .b false), (t6, .b false)], []⟩ = some (⟨[(5, .i ((k + 1 : Nat) : Int)), (0, .h l), (1, .h l), (4, .b false)], []⟩, [.eq (.i (IntKind.i64.wrap ((k : Int) + 1))) (.i ((k + 1 : Nat) : Int))]) := by intro k; kernel_rfl)
    (h8 : Ka tt fn.ntmps [] O8.toList [4] [] ⟨[(4, .b false)], []⟩ = some (⟨[(4, .b true)], []⟩, []) := by kernel_rfl)
    (hr : gives tt fn.results.toList ⟨[(4, .b true)], []⟩ = some (.b true) := by kernel_rfl) : ACalls P f [.h l, .h l] (.b true) := by
  refine acalls_of htt hf hb hok hn fun w0 F0 hG => ?_
  refine Qb (Y1 htt [] _ _ h0 p0 ?_)
  refine Qb (Qb (Y1 htt _ _ _ h1 (pl 1 l (pl 3 l (pf 4 (by simp) p0))) ?_))
  refine ckF (Qg ?_)
  refine Qb (Qb (Y1 htt [] _ _ h3 p0 ?_))
  refine wT 0 0 .sh l (fun hw hl => ?_) rfl
  refine blL0 (R := Bool) (τ := Unit) (fun _ _ (_ : Unit) => .next ()) (fun _ _ => ()) l () (fun k _ => [(5, .i (k : Int))]) [5] (fun _ => []) [0, 1, 5] (Qd rfl) (fun k s hk hI => ?_) (fun k s hk hI => ?_) (fun y _ => ?_)
  · obtain ⟨a, hx⟩ := Xt (l := l) (i := k) hk
    refine Qb (Qb (Y1 htt _ _ _ (h4 k true) (pl 2 l (pt 3 (decide_eq_true (p := (k : Int) < (l.length : Int)) (by omega)) p0)) ?_))
    refine ckT (Qg ?_)
    refine Qb (Qs (Qb (awp_draw htt hm _ _ _ (h6 k a) (pn 2 hx (pn 6 hx (po 8 (.val (.b b8)) (px (ho w0 a) p0)))) ?_)))
    refine awp_condF (h7 k) (Qg ?_)
    refine Y1 htt _ _ _ (h5 k) (pe 1 (J7 (Qp k (by omega))) p0) ?_
    exact ⟨(), Qd rfl, Qu hx rfl hI⟩
  · refine Qb (Qb (Y1 htt _ _ _ (h4 k false) (pl 2 l (pf 3 (decide_eq_false (p := (k : Int) < (l.length : Int)) (by omega)) p0)) ?_))
    refine ckF (Q7 ?_)
    show (bif Nat.beq B B then _ else _ : Prop)
    rw [Nat.beq_refl]
    exact ⟨(), Qd rfl, Xx hk rfl hI⟩
  refine Qb (Y1 htt [] _ _ h8 p0 (Qf ?_))
  exact post_ret [] hr rfl
def eqZ (a : α) : St := ⟨[(2, .p 2 0), (3, .p 3 0), (4, .b false)], [(2, (enc a).map shC), (3, (enc a).map shC)]⟩
variable {N : Nat} {w0 : Base} {F0 : Nat → Prop} {c y : Code} {rs : List ResultVar} {t : Nat}
theorem eqA (htt : ttOk P tt = true) (hf : P.funcs[f]? = some fn) (a : α) (k : ∀ (w0 : Base) (F0 : Nat → Prop) (_ : GoodAt P w0), AWP P fn.ntmps w0 F0 c (Post tt fn.results.toList (.b true)) (eqZ a))
    (hb : fn.body = some (.seq (.region i0 O0 false) c) := by exact rfl) (hok : FnOk P f := by unfold FnOk; kernel_rfl) (hn : 2 ≤ fn.ntmps := by exact Nat.le_of_ble_eq_true rfl)
    (h0 : Ka tt fn.ntmps [] O0.toList [2, 3, 4] [2, 3] (entry [argA a, argA a]) = some (eqZ a, []) := by kernel_rfl) : ACalls P f [argA a, argA a] (.b true) :=
  acalls_of htt hf hb hok hn fun w0 F0 hG => Qb (Y1 htt [] _ _ h0 p0 (k w0 F0 hG))
def eqY (a : α) (t : Nat) (b : Bool) : St := ⟨[(2, .p 2 0), (3, .p 3 0), (4, .b false), (t, .b b)], [(2, (enc a).map shC), (3, (enc a).map shC)]⟩
theorem eqF (htt : ttOk P tt = true) {a : α} {b : Bool} {Q : Exit → St → Prop} (k : AWP P N w0 F0 y Q (eqZ a)) (hc : b = false := by simp)
    (h : Ka tt N [(O1.size - 1, .val (.b false))] O1.toList [2, 3, 4, t] [2, 3] (eqZ a) = some (eqY a t false, [.eq (.b b) (.b false)]) := by kernel_rfl) (hg : get (eqY a t false).tm t = some (.b false) := by kernel_rfl) (hk : (eqY a t false).keep [2, 3, 4] [2, 3] = eqZ a := by kernel_rfl) : AWP P N w0 F0 (.seq (.seq (.region i1 O1 false) (.cond (.tmp t) (.seq (.region i2 O2 false) .ret) .skip)) y) Q (eqZ a) :=
  Qb (Qb (Y1 htt _ _ _ h (pf (O1.size - 1) hc p0) (awp_condF hg (Qg (awp_weak (weak_keep _ _ hk) k)))))
theorem eqG (htt : ttOk P tt = true) {a : α} {v : AV} {Q : Exit → St → Prop} [GoodAt P w0] (hv : ACalls P g [v, v] (.b true)) (k : AWP P N w0 F0 y Q (eqZ a))
    (h : Ka tt N [(O1.size - 2, .val (.b true))] O1.toList [2, 3, 4, t] [2, 3] (eqZ a) = some (eqY a t false, [.call g [v, v] (.b true)]) := by kernel_rfl) (hg : get (eqY a t false).tm t = some (.b false) := by kernel_rfl) (hk : (eqY a t false).keep [2, 3, 4] [2, 3] = eqZ a := by kernel_rfl) : AWP P N w0 F0 (.seq (.seq (.region i1 O1 false) (.cond (.tmp t) (.seq (.region i2 O2 false) .ret) .skip)) y) Q (eqZ a) :=
  Qb (Qb (Y1 htt _ _ _ h (pc (O1.size - 2) hv p0) (awp_condF hg (Qg (awp_weak (weak_keep _ _ hk) k)))))
theorem eqE (htt : ttOk P tt = true) {a : α} (h : Ka tt N [] O1.toList [4] [] (eqZ a) = some (⟨[(4, .b true)], []⟩, []) := by kernel_rfl) (hr : gives tt rs ⟨[(4, .b true)], []⟩ = some (.b true) := by kernel_rfl) : AWP P N w0 F0 (.seq (.region i1 O1 false) .ret) (Post tt rs (.b true)) (eqZ a) :=
  Qb (Y1 htt [] _ _ h p0 (Qf (post_ret [] hr rfl)))
theorem eqI (htt : ttOk P tt = true) {a : α} (x : Int) {Q : Exit → St → Prop} (k : AWP P N w0 F0 y Q (eqZ a))
    (h : Ka tt N [(O1.size - 1, .val (.b false))] O1.toList [2, 3, 4, t] [2, 3] (eqZ a) = some (eqY a t false, [.eq (.b (x != x)) (.b false)]) := by kernel_rfl) (hg : get (eqY a t false).tm t = some (.b false) := by kernel_rfl) (hk : (eqY a t false).keep [2, 3, 4] [2, 3] = eqZ a := by kernel_rfl) : AWP P N w0 F0 (.seq (.seq (.region i1 O1 false) (.cond (.tmp t) (.seq (.region i2 O2 false) .ret) .skip)) y) Q (eqZ a) := eqF htt k (by simp) h hg hk
theorem eqB (htt : ttOk P tt = true) {a : α} (x : Bool) {Q : Exit → St → Prop} (k : AWP P N w0 F0 y Q (eqZ a))
    (h : Ka tt N [(O1.size - 1, .val (.b false))] O1.toList [2, 3, 4, t] [2, 3] (eqZ a) = some (eqY a t false, [.eq (.b (!(x == x))) (.b false)]) := by kernel_rfl) (hg : get (eqY a t false).tm t = some (.b false) := by kernel_rfl) (hk : (eqY a t false).keep [2, 3, 4] [2, 3] = eqZ a := by kernel_rfl) : AWP P N w0 F0 (.seq (.seq (.region i1 O1 false) (.cond (.tmp t) (.seq (.region i2 O2 false) .ret) .skip)) y) Q (eqZ a) := eqF htt k (by simp) h hg hk
theorem eqT (htt : ttOk P tt = true) {a : α} (x : ByteArray) {Q : Exit → St → Prop} (k : AWP P N w0 F0 y Q (eqZ a))
    (h : Ka tt N [(O1.size - 1, .val (.b false))] O1.toList [2, 3, 4, t] [2, 3] (eqZ a) = some (eqY a t false, [.eq (.b (!(x.toList == x.toList))) (.b false)]) := by kernel_rfl) (hg : get (eqY a t false).tm t = some (.b false) := by kernel_rfl) (hk : (eqY a t false).keep [2, 3, 4] [2, 3] = eqZ a := by kernel_rfl) : AWP P N w0 F0 (.seq (.seq (.region i1 O1 false) (.cond (.tmp t) (.seq (.region i2 O2 false) .ret) .skip)) y) Q (eqZ a) := eqF htt k (by simp) h hg hk
/-! ### sizes -/
/-! ### copies -/
def toM {β : Type} (l : List β) (d : β) (k : Nat) : List β := l.take k ++ List.replicate (l.length - k) d
theorem toM_at {β : Type} (l : List β) (d : β) {k : Nat} (h : k < l.length) : (toM l d k)[k]? = some d := by
  unfold toM
  rw [List.getElem?_append_right (by simp; omega), List.getElem?_replicate]
  simp
  omega
theorem toM_set {β : Type} {l : List β} (d : β) {k : Nat} {a : β} (h : l[k]? = some a) : (toM l d k).set k a = toM l d (k + 1) := by
  have hk : k < l.length := (List.getElem?_eq_some_iff.1 h).1
  obtain ⟨m, hm⟩ : ∃ m, l.length - k = m + 1 := ⟨l.length - k - 1, by omega⟩
  unfold toM
  rw [hm, show l.length - (k + 1) = m by omega, List.replicate_succ, List.set_append_right _ _ (by simp; omega), List.take_add_one, h]
  simp [Nat.min_eq_left (Nat.le_of_lt hk)]
theorem toS (d : α) (htt : ttOk P tt = true) (hf : P.funcs[f]? = some fn) (j : Nat) (mid : α → List (Nat × Orc)) (mo : α → List Ob) (hg : ∀ (w0 : Base) [GoodAt P w0] (a : α) (orcs : List (Nat × Orc)) (obs : List Ob), PL (X7 P w0) (Jo P w0) orcs obs → PL (X7 P w0) (Jo P w0) (mid a ++ orcs) (mo a ++ obs)) (l : List α)
    (hb : fn.body = some (.seq (.region i0 O0 false) (.seq (.region i1 O1 false) (.seq (.seq (.region i2 O2 false) (.block B (.loop (.seq (.seq (.region i3 O3 false) (.cond (.tmp 11) .skip (.exit B))) (.seq (.block B1 (.region i5 O5 false)) (.region i4 O4 false)))))) (.seq (.region i6 O6 false) .ret)))) := by exact rfl)
    (hok : FnOk P f := by unfold FnOk; kernel_rfl) (hn : 1 ≤ fn.ntmps := by exact Nat.le_of_ble_eq_true rfl)
    (h0 : Ka tt fn.ntmps [] O0.toList [0] [] (entry [.h l]) = some (⟨[(0, .h l)], []⟩, []) := by kernel_rfl)
    (h1 : Ka tt fn.ntmps [(1, .val (.i (l.length : Int)))] O1.toList [3, 0] [] ⟨[(0, .h l)], []⟩ = some (⟨[(3, .one (.slc (.own true 448) (GoD.n α) (List.replicate l.length (enc d)))), (0, .h l)], []⟩, [.eq (.i ((eL l).length : Int)) (.i (l.length : Int)), .rng 0 (l.length : Int) 1073741824]) := by kernel_rfl)
    (h2 : ∀ m : List α, Ka tt fn.ntmps [] O2.toList [4, 3, 0] [] ⟨[(3, .one (.slc (.own true 448) (GoD.n α) (eL m))), (0, .h l)], []⟩ = some (⟨[(4, .i 0), (3, .one (.slc (.own true 448) (GoD.n α) (eL m))), (0, .h l)], []⟩, []) := by intro m; kernel_rfl)
    (h3 : ∀ (k : Nat) (m : List α) (b : Bool), Ka tt fn.ntmps [(2, .val (.i (l.length : Int))), (3, .val (.b b))] O3.toList [4, 3, 0, 11] [] ⟨[(4, .i (k : Int)), (3, .one (.slc (.own true 448) (GoD.n α) (eL m))), (0, .h l)], []⟩ = some (⟨[(4, .i (k : Int)), (3, .one (.slc (.own true 448) (GoD.n α) (eL m))), (0, .h l), (11, .b b)], []⟩, [.eq (.i ((eL l).length : Int)) (.i (l.length : Int)), .eq (.b (decide ((k : Int) < (l.length : Int)))) (.b b)]) := by intro k m b; kernel_rfl)
    (h5 : ∀ (k : Nat) (m : List α) (a x : α), Ka tt fn.ntmps ((4, .row (enc a)) :: (mid a ++ [(j, .rowE (enc x))])) O5.toList [4, 3, 0] [] ⟨[(4, .i (k : Int)), (3, .one (.slc (.own true 448) (GoD.n α) (eL m))), (0, .h l), (11, .b true)], []⟩ = some (⟨[(4, .i (k : Int)), (3, .one (.slc (.own true 448) (GoD.n α) (setRow (eL m) k 0 (enc a)))), (0, .h l)], []⟩, (.elem (eL l) (k : Int) (enc a) :: (mo a ++ [.elem (eL m) (k : Int) (enc x)]))) := by intro k m a x; kernel_rfl)
    (h4 : ∀ (k : Nat) (m : List α), Ka tt fn.ntmps [(1, .val (.i ((k + 1 : Nat) : Int)))] O4.toList [4, 3, 0] [] ⟨[(4, .i (k : Int)), (3, .one (.slc (.own true 448) (GoD.n α) (eL m))), (0, .h l)], []⟩ = some (⟨[(4, .i ((k + 1 : Nat) : Int)), (3, .one (.slc (.own true 448) (GoD.n α) (eL m))), (0, .h l)], []⟩, [.eq (.i (IntKind.i64.wrap ((k : Int) + 1))) (.i ((k + 1 : Nat) : Int))]) := by intro k m; kernel_rfl)
    (h6 : ∀ m : List α, Ka tt fn.ntmps [] O6.toList [2] [] ⟨[(3, .one (.slc (.own true 448) (GoD.n α) (eL m)))], []⟩ = some (⟨[(2, .one (.slc (.own true 448) (GoD.n α) (eL m)))], []⟩, []) := by intro m; kernel_rfl)
    (hr : ∀ m : List α, gives tt fn.results.toList ⟨[(2, .one (.slc (.own true 448) (GoD.n α) (eL m)))], []⟩ = some (resS m) := by intro m; kernel_rfl)
    (hlen : ∀ a b : α, (enc a).length = (enc b).length := by intro a b; rfl) : ACalls P f [.h l] (resS l) := by
  refine acalls_of htt hf hb hok hn fun w0 F0 hG => ?_
  refine Qb (Y1 htt [] _ _ h0 p0 ?_)
  refine wT 0 0 .sh l (fun hw hl => ?_) rfl
  refine Qb (Y1 htt _ _ _ h1 (pl 1 l (px (show (0 : Int) ≤ 0 ∧ (0 : Int) ≤ (l.length : Int) ∧ (l.length : Int) ≤ ((1073741824 : Nat) : Int) by omega) p0)) ?_)
  have e0 : List.replicate l.length (enc d) = eL (toM l d 0) := by simp [toM, eL]
  rw [e0]
  refine Qb (Qb (Y1 htt [] _ _ (h2 _) p0 ?_))
  refine Vd (σ := Unit) (τ := Unit) (fun k _ => ⟨[(4, .i (k : Int)), (3, .one (.slc (.own true 448) (GoD.n α) (eL (toM l d k)))), (0, .h l)], []⟩) (fun _ => ⟨[(3, .one (.slc (.own true 448) (GoD.n α) (eL l)))], []⟩) (fun _ _ => True) (fun _ => True) l.length () (weak_eq rfl) trivial (fun k _ hk _ => ?_) (fun k _ hk _ => ?_) (fun _ _ => ?_)
  · obtain ⟨a, hx⟩ := Xt (l := l) (i := k) hk
    refine Qb (Qb (Y1 htt _ _ _ (h3 k _ true) (pl 2 l (pt 3 (decide_eq_true (p := (k : Int) < (l.length : Int)) (by omega)) p0)) ?_))
    refine ckT (Qg ?_)
    refine Qb (Qs (Y1 htt _ _ _ (h5 k _ a d) (pn 4 hx (hg w0 a _ _ (pN j (toM_at l d hk) p0))) ?_))
    rw [Jr (y := a) (toM_at l d hk) (by rw [Nat.zero_add, List.take_zero, List.nil_append, List.drop_eq_nil_of_le (Nat.le_of_eq (hlen d a)), List.append_nil]), toM_set d hx]
    exact Y1 htt _ _ _ (h4 k _) (pe 1 (J7 (Qp k (by omega))) p0) ⟨(), weak_eq rfl, trivial⟩
  · subst hk
    refine Qb (Qb (Y1 htt _ _ _ (h3 _ _ false) (pl 2 l (pf 3 (decide_eq_false (p := (l.length : Int) < (l.length : Int)) (by omega)) p0)) ?_))
    refine ckF (Q7 ?_)
    show (bif Nat.beq B B then _ else _ : Prop)
    rw [Nat.beq_refl]
    refine ⟨(), ?_, trivial⟩
    rw [show toM l d l.length = l by simp [toM]]
    exact Qd rfl
  exact Qb (Y1 htt [] _ _ (h6 _) p0 (Qf (post_ret [] (hr _) rfl)))
end
end
end Go.Proofs.YtoimjneljlpolaaGreatDoor
