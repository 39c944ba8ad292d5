/- Texts of this proof, put together by a program: Nga, Ngb, Zd, Sh, Ts, Dpa, Dpb, Dpc, Dpd, Sta, Stb, Stc, Stg, Sth, Std, Ste, Isa, Isb, Yn0, In, Nf, Ws0, Sp, Sq, By, Gb, Ckc, Slb, Ev. -/
import Derived.Test.YtkdnkiggkgakmaaGreatDoorP3
import Derived.KernelRfl
import Derived.Sort.EncStr
import Derived.Sort.Grow
import Derived.Lib.SlicesCompact
import Derived.Sort.Walk0
import Derived.Shelf.Strings.Builder1
import Derived.Shelf.Strings.Builder2
import Derived.Shelf.Strings.OnBuilder
import Derived.Shelf.Small.Bits
import Derived.Shelf.Utf8.RuneCount
import Derived.Shelf.Strconv.Atoi
import Derived.Shelf.Strconv.Itoa0
import Derived.Shelf.Strconv.Itoa1
import Derived.Shelf.LaysM
import Derived.Shelf.Strconv.Itoa2
import Derived.Shelf.Strconv.Itoa3
import Derived.Shelf.Strconv.AtoiErrFast
import Derived.Shelf.Strconv.ParseIntEmpty
import Derived.Shelf.Strconv.AtoiFail
import Derived.Shelf.Strconv.Clone
import Derived.Shelf.Strconv.SyntaxError
import Derived.Shelf.LaysC
import Derived.Shelf.Strconv.ToError
import Derived.Shelf.Strconv.AtoiErr
import Derived.Shelf.Strconv.ErrVar
import Derived.Shelf.Strconv.Lower
import Derived.Shelf.Strconv.ParseUint10
import Derived.Shelf.Strconv.ParseUint10Empty
import Derived.Shelf.Strconv.ParseUint10Any
import Derived.Shelf.Strconv.ParseInt10
import Derived.Shelf.Strconv.AtoiLong
import Derived.Shelf.Strconv.AtoiInnerAll
import Derived.Shelf.Strconv.RangeError
import Derived.Shelf.Strconv.ToErrorRange
import Derived.Shelf.Strconv.AtoiAll
import Derived.Shelf.Strconv.ErrVarAll
import Derived.Shelf.Strings.Search1
import Derived.Shelf.Strings.Search2
import Derived.Shelf.Strings.Search3
import Derived.Shelf.Strings.Count
import Derived.Shelf.Strings.Shaped
import Derived.Shelf.Sort.Plain
import Derived.Shelf.Strings.Split
import Derived.Shelf.Strings.Fields
import Derived.Shelf.Strings.SplitShaped
import Derived.Shelf.Unicode.Latin
import Derived.Shelf.Unicode.Decode
import Derived.Shelf.Strings.RuneCount
import Derived.Shelf.Strings.Explode
import Derived.Shelf.Unicode.DecodeSlow
import Derived.Shelf.Unicode.DecodeAny
import Derived.Shelf.Unicode.Is16White
import Derived.Shelf.Unicode.IsSpaceAny
import Derived.Shelf.Unicode.Is16Any
import Derived.Shelf.Unicode.Is32Any
import Derived.Shelf.Unicode.ExclAny
import Derived.Shelf.Slices.Turned
import Derived.Ground.Names2Prog
import Derived.Shelf.Slices.Clone
import Derived.Shelf.Slices.CompactI
import Derived.Shelf.Slices.CompactS
import Derived.Shelf.Slices.SearchI
import Derived.Shelf.Slices.Cells
import Derived.Shelf.Slices.In.SortNone
import Derived.Ground.SlgnProg
import Derived.Shelf.SlicesE.Equal
import Derived.Shelf.SlicesE.Compact
import Derived.Shelf.SlicesE.Clone
import Derived.Ground.SlgfProg
import Derived.Shelf.SlicesE.IndexFunc
import Derived.Shelf.SlicesE.DeleteFunc
import Derived.Test.YtkdnkiggkgakmaaGreatDoorProg
import Derived.Outline
import Derived.Laws.IdiomStrings
import Derived.Lib.ItoaNum
import Derived.Lib.ConvBytes
import Derived.Lib.SlBytesRow
import Derived.Lib.SmallJoins
import Derived.Lib.SplitLaws
import Derived.Lib.Fields
import Derived.Lib.Join
set_option linter.unusedVariables false
set_option linter.unusedSimpArgs false
namespace Go.Proofs.YtkdnkiggkgakmaaGreatDoor
open _root_ renaming Int → Y, List → W, Nat → K, ByteArray → A, Bool → uA, Unit → uB, UInt8 → uE, if_pos → uG, if_neg → uH, cond_false → uI, of_decide_eq_true → uJ, cond_true → uK, beq_eq_false_iff_ne → uL, Option → uM, Array → uP, Inhabited → uQ, decide_eq_true_eq → uR, decide_eq_false → uS, decide_eq_true → uT, congrArg → uU, beq_iff_eq → uX, of_decide_eq_false → uY, DecidableEq → uZ
open _root_.Bool renaming true → H, false → D
open _root_.Go renaming World → uD, Value → uN, maxLen → uO, TypeId → uV, Program → uW
open _root_.Option renaming some → uC, none → uF
open _root_.Go.IntKind renaming wrap → vA, i64 → vB
open _root_.Go.Proofs.Tryz renaming prog → vC
open _root_.Go.Proofs.Tryz
open _root_.And renaming intro → yN
open _root_.Array renaming getElem?_toList → yB, getElem?_append → yM, length_toList → yS, getElem?_eq_getElem → yW, getElem?_modify → xG
open _root_.Bool renaming false_eq_true → yH, and_eq_true → yO, eq_iff_iff → yQ, not_true → xL
open _root_.Classical renaming byContradiction → zT
open _root_.Exists renaming intro → zZ
open _root_.Function renaming comp_def → yI
open _root_.Int renaming toNat → zK, le_refl → zS, toNat_natCast → zV, le_trans → yL, natCast_add → xF, tmod → xP
open _root_.List renaming length → zD, set → zE, replicate → zF, length_set → zG, mem_cons_of_mem → zH, length_map → zJ, mem_cons_self → zL, range → zM, mem_cons → zN, eq_nil_of_length_eq_zero → zP, take → zR, mem_map → zU, pairwise_cons → zW, size_toArray → zX, mem_singleton → zY, getD → yA, length_mergeSort → yC, drop → yF, getElem?_eq_some_iff → yG, nodup_nil → yJ, mem_range → yK, mergeSort_perm → yR, length_append → yU, getD_eq_getElem?_getD → yV, getElem?_map → yY, range' → yZ, getElem_mem → xA, filter_cons → xB, take_of_length_le → xC, mem_filter → xD, mem_append → xE, length_filter_le → xH, length_singleton → xI, range_eq_range' → xJ, getElem_of_mem → xK, sum_cons → xM, map → xN
open _root_.Nat renaming le_refl → zO, mul_one → yD, zero_add → yE, le_trans → yT, zero_le → yX
open _root_.Ne renaming symm → xO
open _root_.Option.some renaming inj → yP
open _root_.UInt8 renaming ofNat → zQ
section
open Go.RowKit
open GoE (enc wide)
def Z9(q:W Q9)(a:K)(b:W uA):Rd (W uA) (W uA) (W uA):=(bif ((nth q (dn ((q.length:Y)-1) a).toNat).1==(5:Y)) then(.next (zE b ((nth q (dn ((q.length:Y)-1) a).toNat).2.1).toNat ((nth b (dn ((q.length:Y)-1) a).toNat)|| ((nth q (dn ((q.length:Y)-1) a).toNat).1==(5:Y))))) else(bif ((nth q (dn ((q.length:Y)-1) a).toNat).1==(6:Y)) then(.next (zE (zE b ((nth q (dn ((q.length:Y)-1) a).toNat).2.1).toNat ((nth b (dn ((q.length:Y)-1) a).toNat)|| ((nth q (dn ((q.length:Y)-1) a).toNat).1==(5:Y)))) ((nth q (dn ((q.length:Y)-1) a).toNat).2.2.1).toNat ((nth b (dn ((q.length:Y)-1) a).toNat)|| ((nth q (dn ((q.length:Y)-1) a).toNat).1==(5:Y))))) else(bif ((nth q (dn ((q.length:Y)-1) a).toNat).1==(7:Y)) then(.next (zE (zE b ((nth q (dn ((q.length:Y)-1) a).toNat).2.1).toNat ((nth b (dn ((q.length:Y)-1) a).toNat)|| ((nth q (dn ((q.length:Y)-1) a).toNat).1==(5:Y)))) ((nth q (dn ((q.length:Y)-1) a).toNat).2.2.1).toNat ((nth b (dn ((q.length:Y)-1) a).toNat)|| ((nth q (dn ((q.length:Y)-1) a).toNat).1==(5:Y))))) else(.next b))))
def He(_:K)(a:W uA):(W uA):=a
def Yd(q:W Q9):(W uA):=(bif (!(Qj q)) then [] else(Out.on (K0 (Z9 q) He (zD q) 0 (zF (q.length:Y).toNat D)) (λa=>a)))
theorem XH(q:W Q9):ACalls vC 309 [.h q] (.o 0 (Yd q)):=by
 refine en func309 λ_ _ _=>sn [0,2] [] p0 ?_
 refine Qa<|tn [0,2,8] [] (pc 1 (V6 q) p0)<|ck (!(Qj q)) (λV=>?_) (λV=>?_)
 ·refine tu [(2,.e 0)] [] [] [] p0<|opn [(D,2,0,H,384000,1)] ?_
  exact Qc<|po0 [] (Xg V rfl)
 have g:(Qj q)=H:=Z5 V;refine Qd<|wT 0 0 .sh q (λai aj=>?_)
 refine tu [(2,.e 0),(3,.one (.slc (.own H 704) 1 (zF (q.length:Y).toNat [.b D])))] [] [] [] (pl 1 q (px (Gt (lo:=0) (hi:=(q.length:Y)) (n:=1073741824) (⟨by omega,by omega,by omega⟩)) p0))<|eqn [(3,.o 704 (zF (q.length:Y).toNat D))] [3] [] [] (by rw[show(zF (q.length:Y).toNat [.b D])=(eL (zF (q.length:Y).toNat D)) from Qkt _ D]<;>kernel_rfl) ?_
 refine Qa<|sn [0,2,3,4] [] (pl 1 q (pe 2 (G6 (IntWalk.i64_in ((q.length:Y)-1) (by omega))) p0))<|mz [(4,.i ((q.length:Y)-1))] [] [] []<|Qol (Z9 q) He (zD q) (zF (q.length:Y).toNat D) (λa b=> [(3,.o 704 b),(4,.i (dn ((q.length:Y)-1) a))]) [3,4] (λy0=> [(3,.o 704 y0)]) [0,3,4] (λ_ b=>zD b=(q.length:Y).toNat) (λy0=>zD y0=(q.length:Y).toNat) wf0 (by simp) (λa b O U=>?_) (λa b O U=>?_) (λy0 s=>?_)
 ·have p:=U.2;have t:=SN ((q.length:Y)-1) a;refine Qa<|sn [0,2,3,4,16] [] (pe 1 (zB ((dn ((q.length:Y)-1) a)>=(0:Y))) p0)<|ckT<|Qd<|Qa<|Qp<|Qa<|mz [(16,.b H)] [] [] []<|jn [(5,.b ((nth b (dn ((q.length:Y)-1) a).toNat)|| ((nth q (dn ((q.length:Y)-1) a).toNat).1==(5:Y))))] [16] [] [] (nth b (dn ((q.length:Y)-1) a).toNat) (λu=>?_) (λu=>?_) ?_
  ·refine wT 3 0 (.own H 704) b (λak al=>?_);have a1:=ng b (dn ((q.length:Y)-1) a).toNat;refine rn [0,2,3,4,5] [] (pG 2 (dn ((q.length:Y)-1) a) a1 (pt 3 u p0)) ?_;exact zA (by rw[u]<;>kernel_rfl)
  ·refine wT 3 0 (.own H 704) b (λam a4=>?_);have a2:=ng b (dn ((q.length:Y)-1) a).toNat;have v:=ng q (dn ((q.length:Y)-1) a).toNat;refine rn [0,2,3,4,5] [] (pG 2 (dn ((q.length:Y)-1) a) a2 (pf 3 u (pg 7 (dn ((q.length:Y)-1) a) v p0))) ?_;exact zA (by rw[u]<;>kernel_rfl)
  have c:=ng q (dn ((q.length:Y)-1) a).toNat;refine sn [0,2,3,4,5,35] [] (pg 2 (dn ((q.length:Y)-1) a) c p0)<|Qp<|tn [0,2,3,4,5,35,36] [] p0<|ck ((nth q (dn ((q.length:Y)-1) a).toNat).1==(5:Y)) (λe=>?_) (λe=>?_)
  ·have a5:=LN g (by omega) (by omega) e;have w:=eq_of_beq e;refine wT 3 0 (.own H 704) b (λa6 a7=>?_);have k:=ng b ((nth q (dn ((q.length:Y)-1) a).toNat).2.1).toNat;refine qu [(3,.one (.slc (.own H 704) 1 (setRow (eL b) ((nth q (dn ((q.length:Y)-1) a).toNat).2.1).toNat 0 [.b ((nth b (dn ((q.length:Y)-1) a).toNat)|| ((nth q (dn ((q.length:Y)-1) a).toNat).1==(5:Y)))])))] [3,5] [] [] (pg 3 (dn ((q.length:Y)-1) a) c (pG 7 ((nth q (dn ((q.length:Y)-1) a).toNat).2.1) k p0)) ?_;refine eqn [(3,.o 704 (zE b ((nth q (dn ((q.length:Y)-1) a).toNat).2.1).toNat ((nth b (dn ((q.length:Y)-1) a).toNat)|| ((nth q (dn ((q.length:Y)-1) a).toNat).1==(5:Y)))))] [3] [] [] (by rw[Km (y:=((nth b (dn ((q.length:Y)-1) a).toNat)|| ((nth q (dn ((q.length:Y)-1) a).toNat).1==(5:Y)))) k rfl]<;>kernel_rfl) ?_;refine rn [0,2,3,4] [] (pe 1 (show .i (vA vB ((dn ((q.length:Y)-1) a)-1))= .i (dn ((q.length:Y)-1) (a+1)) from G6 (show vA vB ((dn ((q.length:Y)-1) a)-1)=(dn ((q.length:Y)-1) (a+1)) from IntWalk.i64_in ((dn ((q.length:Y)-1) a)-1) (by omega))) p0) ?_;exact xw (zE b ((nth q (dn ((q.length:Y)-1) a).toNat).2.1).toNat ((nth b (dn ((q.length:Y)-1) a).toNat)|| ((nth q (dn ((q.length:Y)-1) a).toNat).1==(5:Y)))) ⟨Jd O (Xg e rfl) U.1,(by first|omega|(simp only[zG];omega))⟩
  have w:=Yi e;refine Qa<|tu [(35,.i ((nth q (dn ((q.length:Y)-1) a).toNat).1)),(46,.b ((nth q (dn ((q.length:Y)-1) a).toNat).1==(6:Y)))] [] [] [] p0<|ck ((nth q (dn ((q.length:Y)-1) a).toNat).1==(6:Y)) (λd=>?_) (λd=>?_)
  ·have a8:=VZ g (by omega) (by omega) d;have a9:=LO g (by omega) (by omega) d;have x:=eq_of_beq d;refine Qd<|ckt d ?_
   refine wT 3 0 (.own H 704) b (λaa ab=>?_);have h:=ng b ((nth q (dn ((q.length:Y)-1) a).toNat).2.1).toNat;have m:(zE b ((nth q (dn ((q.length:Y)-1) a).toNat).2.1).toNat ((nth b (dn ((q.length:Y)-1) a).toNat)|| ((nth q (dn ((q.length:Y)-1) a).toNat).1==(5:Y))))[((nth q (dn ((q.length:Y)-1) a).toNat).2.2.1).toNat]? =uC (nth (zE b ((nth q (dn ((q.length:Y)-1) a).toNat).2.1).toNat ((nth b (dn ((q.length:Y)-1) a).toNat)|| ((nth q (dn ((q.length:Y)-1) a).toNat).1==(5:Y)))) ((nth q (dn ((q.length:Y)-1) a).toNat).2.2.1).toNat):=Dc (by first|omega|(simp only[zG];omega));refine rU [(3,.one (.slc (.own H 704) 1 (setRow (setRow (eL b) ((nth q (dn ((q.length:Y)-1) a).toNat).2.1).toNat 0 [.b ((nth b (dn ((q.length:Y)-1) a).toNat)|| ((nth q (dn ((q.length:Y)-1) a).toNat).1==(5:Y)))]) ((nth q (dn ((q.length:Y)-1) a).toNat).2.2.1).toNat 0 [.b ((nth b (dn ((q.length:Y)-1) a).toNat)|| ((nth q (dn ((q.length:Y)-1) a).toNat).1==(5:Y)))])))] [3,5,35,46] [] [] (pg 3 (dn ((q.length:Y)-1) a) c (pg 9 (dn ((q.length:Y)-1) a) c (pG 14 ((nth q (dn ((q.length:Y)-1) a).toNat).2.1) h (pR 16 (l:=(setRow (eL b) ((nth q (dn ((q.length:Y)-1) a).toNat).2.1).toNat 0 [.b ((nth b (dn ((q.length:Y)-1) a).toNat)|| ((nth q (dn ((q.length:Y)-1) a).toNat).1==(5:Y)))])) (j:=((nth q (dn ((q.length:Y)-1) a).toNat).2.2.1)) (r:= [.b (nth (zE b ((nth q (dn ((q.length:Y)-1) a).toNat).2.1).toNat ((nth b (dn ((q.length:Y)-1) a).toNat)|| ((nth q (dn ((q.length:Y)-1) a).toNat).1==(5:Y)))) ((nth q (dn ((q.length:Y)-1) a).toNat).2.2.1).toNat)]) (by rw[Km (y:=((nth b (dn ((q.length:Y)-1) a).toNat)|| ((nth q (dn ((q.length:Y)-1) a).toNat).1==(5:Y)))) h rfl];exact Qdn (by omega) rfl m) p0)))) ?_;refine eqn [(3,.o 704 (zE (zE b ((nth q (dn ((q.length:Y)-1) a).toNat).2.1).toNat ((nth b (dn ((q.length:Y)-1) a).toNat)|| ((nth q (dn ((q.length:Y)-1) a).toNat).1==(5:Y)))) ((nth q (dn ((q.length:Y)-1) a).toNat).2.2.1).toNat ((nth b (dn ((q.length:Y)-1) a).toNat)|| ((nth q (dn ((q.length:Y)-1) a).toNat).1==(5:Y)))))] [3] [] [] (by rw[Km (y:=((nth b (dn ((q.length:Y)-1) a).toNat)|| ((nth q (dn ((q.length:Y)-1) a).toNat).1==(5:Y)))) h rfl,Km (y:=((nth b (dn ((q.length:Y)-1) a).toNat)|| ((nth q (dn ((q.length:Y)-1) a).toNat).1==(5:Y)))) m rfl]<;>kernel_rfl) ?_;refine rn [0,2,3,4] [] (pe 1 (show .i (vA vB ((dn ((q.length:Y)-1) a)-1))= .i (dn ((q.length:Y)-1) (a+1)) from G6 (show vA vB ((dn ((q.length:Y)-1) a)-1)=(dn ((q.length:Y)-1) (a+1)) from IntWalk.i64_in ((dn ((q.length:Y)-1) a)-1) (by omega))) p0) ?_;exact xw (zE (zE b ((nth q (dn ((q.length:Y)-1) a).toNat).2.1).toNat ((nth b (dn ((q.length:Y)-1) a).toNat)|| ((nth q (dn ((q.length:Y)-1) a).toNat).1==(5:Y)))) ((nth q (dn ((q.length:Y)-1) a).toNat).2.2.1).toNat ((nth b (dn ((q.length:Y)-1) a).toNat)|| ((nth q (dn ((q.length:Y)-1) a).toNat).1==(5:Y)))) ⟨Jd O (Qi e (Xg d rfl)) U.1,(by first|omega|(simp only[zG];omega))⟩
  have x:=Yi d;refine rn [0,2,3,4,5,46] [] p0 ?_;refine ck ((nth q (dn ((q.length:Y)-1) a).toNat).1==(7:Y)) (λf=>?_) (λf=>?_)
  ·have ad:=UZ g (by omega) (by omega) f;have ae:=NA g (by omega) (by omega) f;have z:=eq_of_beq f;refine wT 3 0 (.own H 704) b (λaf ah=>?_);have i:=ng b ((nth q (dn ((q.length:Y)-1) a).toNat).2.1).toNat;have o:(zE b ((nth q (dn ((q.length:Y)-1) a).toNat).2.1).toNat ((nth b (dn ((q.length:Y)-1) a).toNat)|| ((nth q (dn ((q.length:Y)-1) a).toNat).1==(5:Y))))[((nth q (dn ((q.length:Y)-1) a).toNat).2.2.1).toNat]? =uC (nth (zE b ((nth q (dn ((q.length:Y)-1) a).toNat).2.1).toNat ((nth b (dn ((q.length:Y)-1) a).toNat)|| ((nth q (dn ((q.length:Y)-1) a).toNat).1==(5:Y)))) ((nth q (dn ((q.length:Y)-1) a).toNat).2.2.1).toNat):=Dc (by first|omega|(simp only[zG];omega));refine qU [(3,.one (.slc (.own H 704) 1 (setRow (setRow (eL b) ((nth q (dn ((q.length:Y)-1) a).toNat).2.1).toNat 0 [.b ((nth b (dn ((q.length:Y)-1) a).toNat)|| ((nth q (dn ((q.length:Y)-1) a).toNat).1==(5:Y)))]) ((nth q (dn ((q.length:Y)-1) a).toNat).2.2.1).toNat 0 [.b ((nth b (dn ((q.length:Y)-1) a).toNat)|| ((nth q (dn ((q.length:Y)-1) a).toNat).1==(5:Y)))])))] [3,5,35,46] [] [] (pg 3 (dn ((q.length:Y)-1) a) c (pg 9 (dn ((q.length:Y)-1) a) c (pG 14 ((nth q (dn ((q.length:Y)-1) a).toNat).2.1) i (pR 16 (l:=(setRow (eL b) ((nth q (dn ((q.length:Y)-1) a).toNat).2.1).toNat 0 [.b ((nth b (dn ((q.length:Y)-1) a).toNat)|| ((nth q (dn ((q.length:Y)-1) a).toNat).1==(5:Y)))])) (j:=((nth q (dn ((q.length:Y)-1) a).toNat).2.2.1)) (r:= [.b (nth (zE b ((nth q (dn ((q.length:Y)-1) a).toNat).2.1).toNat ((nth b (dn ((q.length:Y)-1) a).toNat)|| ((nth q (dn ((q.length:Y)-1) a).toNat).1==(5:Y)))) ((nth q (dn ((q.length:Y)-1) a).toNat).2.2.1).toNat)]) (by rw[Km (y:=((nth b (dn ((q.length:Y)-1) a).toNat)|| ((nth q (dn ((q.length:Y)-1) a).toNat).1==(5:Y)))) i rfl];exact Qdn (by omega) rfl o) p0)))) ?_;refine eqn [(3,.o 704 (zE (zE b ((nth q (dn ((q.length:Y)-1) a).toNat).2.1).toNat ((nth b (dn ((q.length:Y)-1) a).toNat)|| ((nth q (dn ((q.length:Y)-1) a).toNat).1==(5:Y)))) ((nth q (dn ((q.length:Y)-1) a).toNat).2.2.1).toNat ((nth b (dn ((q.length:Y)-1) a).toNat)|| ((nth q (dn ((q.length:Y)-1) a).toNat).1==(5:Y)))))] [3] [] [] (by rw[Km (y:=((nth b (dn ((q.length:Y)-1) a).toNat)|| ((nth q (dn ((q.length:Y)-1) a).toNat).1==(5:Y)))) i rfl,Km (y:=((nth b (dn ((q.length:Y)-1) a).toNat)|| ((nth q (dn ((q.length:Y)-1) a).toNat).1==(5:Y)))) o rfl]<;>kernel_rfl) ?_;refine rn [0,2,3,4] [] (pe 1 (show .i (vA vB ((dn ((q.length:Y)-1) a)-1))= .i (dn ((q.length:Y)-1) (a+1)) from G6 (show vA vB ((dn ((q.length:Y)-1) a)-1)=(dn ((q.length:Y)-1) (a+1)) from IntWalk.i64_in ((dn ((q.length:Y)-1) a)-1) (by omega))) p0) ?_;exact xw (zE (zE b ((nth q (dn ((q.length:Y)-1) a).toNat).2.1).toNat ((nth b (dn ((q.length:Y)-1) a).toNat)|| ((nth q (dn ((q.length:Y)-1) a).toNat).1==(5:Y)))) ((nth q (dn ((q.length:Y)-1) a).toNat).2.2.1).toNat ((nth b (dn ((q.length:Y)-1) a).toNat)|| ((nth q (dn ((q.length:Y)-1) a).toNat).1==(5:Y)))) ⟨Jd O (Qi e (Qi d (Xg f rfl))) U.1,(by first|omega|(simp only[zG];omega))⟩
  have z:=Yi f;refine Qd<|qn [0,2,3,4] [] (pe 1 (show .i (vA vB ((dn ((q.length:Y)-1) a)-1))= .i (dn ((q.length:Y)-1) (a+1)) from G6 (show vA vB ((dn ((q.length:Y)-1) a)-1)=(dn ((q.length:Y)-1) (a+1)) from IntWalk.i64_in ((dn ((q.length:Y)-1) a)-1) (by omega))) p0) ?_
  exact xw b ⟨Jd O (Qi e (Qi d (Qi f rfl))) U.1,(by first|omega|(simp only[zG];omega))⟩
 ·have p:=U.2;have t:=SN ((q.length:Y)-1) a;exact Qa<|sn [0,2,3,4,16] [] (pe 1 (zC ((dn ((q.length:Y)-1) a)>=(0:Y))) p0)<|ckF<|Xa<|xw b ⟨Hn O rfl U.1,by first|omega|(simp only[zG];omega)⟩
 have a3:=s.2;exact sn [2] [] p0<|Qc<|po0 [] (Qi V (Vx s.1 rfl))
def Hf(q:W Q9)(a:K)(b:W uA):Rd (W uA) (W uA) (W uA):=(bif ((nth q (dn ((q.length:Y)-1) a).toNat).1==(5:Y)) then(bif (((nth q (dn ((q.length:Y)-1) a).toNat).1==(6:Y))|| ((nth q (dn ((q.length:Y)-1) a).toNat).1==(7:Y))) then(.next (zE (zE (zE b ((nth q (dn ((q.length:Y)-1) a).toNat).2.1).toNat H) ((nth q (dn ((q.length:Y)-1) a).toNat).2.1).toNat (nth (zE b ((nth q (dn ((q.length:Y)-1) a).toNat).2.1).toNat H) (dn ((q.length:Y)-1) a).toNat)) ((nth q (dn ((q.length:Y)-1) a).toNat).2.2.1).toNat (nth (zE (zE b ((nth q (dn ((q.length:Y)-1) a).toNat).2.1).toNat H) ((nth q (dn ((q.length:Y)-1) a).toNat).2.1).toNat (nth (zE b ((nth q (dn ((q.length:Y)-1) a).toNat).2.1).toNat H) (dn ((q.length:Y)-1) a).toNat)) (dn ((q.length:Y)-1) a).toNat))) else(.next (zE b ((nth q (dn ((q.length:Y)-1) a).toNat).2.1).toNat H))) else(bif (((nth q (dn ((q.length:Y)-1) a).toNat).1==(6:Y))|| ((nth q (dn ((q.length:Y)-1) a).toNat).1==(7:Y))) then(.next (zE (zE b ((nth q (dn ((q.length:Y)-1) a).toNat).2.1).toNat (nth b (dn ((q.length:Y)-1) a).toNat)) ((nth q (dn ((q.length:Y)-1) a).toNat).2.2.1).toNat (nth (zE b ((nth q (dn ((q.length:Y)-1) a).toNat).2.1).toNat (nth b (dn ((q.length:Y)-1) a).toNat)) (dn ((q.length:Y)-1) a).toNat))) else(.next b)))
def D3(_:K)(a:W uA):(W uA):=a
def Jt(q:W Q9):(W uA):=(bif (!(Yy q)) then [] else(Out.on (K0 (Hf q) D3 (zD q) 0 (zF (q.length:Y).toNat D)) (λa=>a)))
theorem XI(q:W Q9):ACalls vC 329 [.h q] (.o 0 (Jt q)):=by
 refine en func329 λ_ _ _=>sn [0,2] [] p0 ?_
 refine Qa<|tn [0,2,9] [] (pc 1 (V8 q) p0)<|ck (!(Yy q)) (λV=>?_) (λV=>?_)
 ·exact tu [(2,.one (.slc (.own H 640) 1 []))] [] [] [] p0<|Qc<|po0 [] (Xg V rfl)
 have e:(Yy q)=H:=Z5 V;refine Qd<|wT 0 0 .sh q (λak al=>?_)
 refine tu [(2,.e 0),(3,.one (.slc (.own H 832) 1 (zF (q.length:Y).toNat [.b D])))] [] [] [] (pl 1 q (px (Gt (lo:=0) (hi:=(q.length:Y)) (n:=1073741824) (⟨by omega,by omega,by omega⟩)) p0))<|eqn [(3,.o 832 (zF (q.length:Y).toNat D))] [3] [] [] (by rw[show(zF (q.length:Y).toNat [.b D])=(eL (zF (q.length:Y).toNat D)) from Qkt _ D]<;>kernel_rfl) ?_
 refine Qa<|sn [0,2,3,4] [] (pl 1 q (pe 2 (G6 (IntWalk.i64_in ((q.length:Y)-1) (by omega))) p0))<|mz [(4,.i ((q.length:Y)-1))] [] [] []<|Qol (Hf q) D3 (zD q) (zF (q.length:Y).toNat D) (λa b=> [(3,.o 832 b),(4,.i (dn ((q.length:Y)-1) a))]) [3,4] (λy0=> [(3,.o 832 y0)]) [0,3,4] (λ_ b=>zD b=(q.length:Y).toNat) (λy0=>zD y0=(q.length:Y).toNat) wf0 (by simp) (λa b O U=>?_) (λa b O U=>?_) (λy0 m=>?_)
 ·have k:=U.2;have o:=SN ((q.length:Y)-1) a;refine Qa<|sn [0,2,3,4,18] [] (pe 1 (zB ((dn ((q.length:Y)-1) a)>=(0:Y))) p0)<|ckT<|Qd<|Qa<|Qp ?_
  have a1:=ng q (dn ((q.length:Y)-1) a).toNat;refine tn [0,2,3,4,5] [5] (pg 2 (dn ((q.length:Y)-1) a) a1 p0)<|Qa<|mz [(5,.p 5 0)] [] [(5, [.i ((nth q (dn ((q.length:Y)-1) a).toNat).1),.i ((nth q (dn ((q.length:Y)-1) a).toNat).2.1),.i ((nth q (dn ((q.length:Y)-1) a).toNat).2.2.1),.s ((nth q (dn ((q.length:Y)-1) a).toNat).2.2.2.1),.i ((nth q (dn ((q.length:Y)-1) a).toNat).2.2.2.2.1),.i ((nth q (dn ((q.length:Y)-1) a).toNat).2.2.2.2.2.1),.s ((nth q (dn ((q.length:Y)-1) a).toNat).2.2.2.2.2.2)])] []<|jn [(6,.b (((nth q (dn ((q.length:Y)-1) a).toNat).1==(6:Y))|| ((nth q (dn ((q.length:Y)-1) a).toNat).1==(7:Y))))] [] [] [] ((nth q (dn ((q.length:Y)-1) a).toNat).1==(6:Y)) (λl=>?_) (λl=>?_) ?_
  ·have am:=VZ (N7 e) (by omega) (by omega) l;have an:=LO (N7 e) (by omega) (by omega) l;refine rn [0,2,3,4,5,6] [5] (pt 2 l p0) ?_;exact zA (by rw[l]<;>kernel_rfl)
  ·refine rn [0,2,3,4,5,6] [5] (pf 2 l p0) ?_;exact zA (by rw[l]<;>kernel_rfl)
  refine Qa<|sn [0,2,3,4,5,6,35] [5] p0<|ck ((nth q (dn ((q.length:Y)-1) a).toNat).1==(5:Y)) (λf=>?_) (λf=>?_)
  ·have ao:=LN (N7 e) (by omega) (by omega) f;have a2:=eq_of_beq f;refine wT 3 0 (.own H 832) b (λap aq=>?_);have p:=ng b ((nth q (dn ((q.length:Y)-1) a).toNat).2.1).toNat;refine qu [(3,.one (.slc (.own H 832) 1 (setRow (eL b) ((nth q (dn ((q.length:Y)-1) a).toNat).2.1).toNat 0 [.b H])))] [3] [] [] (pG 3 ((nth q (dn ((q.length:Y)-1) a).toNat).2.1) p p0) ?_;refine eqn [(3,.o 832 (zE b ((nth q (dn ((q.length:Y)-1) a).toNat).2.1).toNat H))] [3] [] [] (by rw[Km (y:=H) p rfl]<;>kernel_rfl) ?_;refine sn [0,2,3,4,5,40] [5] p0<|ck (((nth q (dn ((q.length:Y)-1) a).toNat).1==(6:Y))|| ((nth q (dn ((q.length:Y)-1) a).toNat).1==(7:Y))) (λc=>?_) (λc=>?_)
   ·have a8:=Qmx (N7 e) (by omega) (by omega) c;refine wT 3 0 (.own H 832) (zE b ((nth q (dn ((q.length:Y)-1) a).toNat).2.1).toNat H) (λa9 aa=>?_);have r:=ng (zE b ((nth q (dn ((q.length:Y)-1) a).toNat).2.1).toNat H) (dn ((q.length:Y)-1) a).toNat (by first|omega|(simp only[zG];omega));have g:=ng (zE b ((nth q (dn ((q.length:Y)-1) a).toNat).2.1).toNat H) ((nth q (dn ((q.length:Y)-1) a).toNat).2.1).toNat (by first|omega|(simp only[zG];omega));refine tU [(3,.one (.slc (.own H 832) 1 (setRow (eL (zE b ((nth q (dn ((q.length:Y)-1) a).toNat).2.1).toNat H)) ((nth q (dn ((q.length:Y)-1) a).toNat).2.1).toNat 0 [.b (nth (zE b ((nth q (dn ((q.length:Y)-1) a).toNat).2.1).toNat H) (dn ((q.length:Y)-1) a).toNat)])))] [3,6] [] [] (pG 5 (dn ((q.length:Y)-1) a) r (pG 7 ((nth q (dn ((q.length:Y)-1) a).toNat).2.1) g p0))<|eqn [(3,.o 832 (zE (zE b ((nth q (dn ((q.length:Y)-1) a).toNat).2.1).toNat H) ((nth q (dn ((q.length:Y)-1) a).toNat).2.1).toNat (nth (zE b ((nth q (dn ((q.length:Y)-1) a).toNat).2.1).toNat H) (dn ((q.length:Y)-1) a).toNat)))] [3] [] [] (by rw[Km (y:=(nth (zE b ((nth q (dn ((q.length:Y)-1) a).toNat).2.1).toNat H) (dn ((q.length:Y)-1) a).toNat)) g rfl]<;>kernel_rfl) ?_
    refine wT 3 0 (.own H 832) (zE (zE b ((nth q (dn ((q.length:Y)-1) a).toNat).2.1).toNat H) ((nth q (dn ((q.length:Y)-1) a).toNat).2.1).toNat (nth (zE b ((nth q (dn ((q.length:Y)-1) a).toNat).2.1).toNat H) (dn ((q.length:Y)-1) a).toNat)) (λab ad=>?_);have s:=ng (zE (zE b ((nth q (dn ((q.length:Y)-1) a).toNat).2.1).toNat H) ((nth q (dn ((q.length:Y)-1) a).toNat).2.1).toNat (nth (zE b ((nth q (dn ((q.length:Y)-1) a).toNat).2.1).toNat H) (dn ((q.length:Y)-1) a).toNat)) (dn ((q.length:Y)-1) a).toNat (by first|omega|(simp only[zG];omega));have h:=ng (zE (zE b ((nth q (dn ((q.length:Y)-1) a).toNat).2.1).toNat H) ((nth q (dn ((q.length:Y)-1) a).toNat).2.1).toNat (nth (zE b ((nth q (dn ((q.length:Y)-1) a).toNat).2.1).toNat H) (dn ((q.length:Y)-1) a).toNat)) ((nth q (dn ((q.length:Y)-1) a).toNat).2.2.1).toNat (by first|omega|(simp only[zG];omega));refine rU [(3,.one (.slc (.own H 832) 1 (setRow (eL (zE (zE b ((nth q (dn ((q.length:Y)-1) a).toNat).2.1).toNat H) ((nth q (dn ((q.length:Y)-1) a).toNat).2.1).toNat (nth (zE b ((nth q (dn ((q.length:Y)-1) a).toNat).2.1).toNat H) (dn ((q.length:Y)-1) a).toNat))) ((nth q (dn ((q.length:Y)-1) a).toNat).2.2.1).toNat 0 [.b (nth (zE (zE b ((nth q (dn ((q.length:Y)-1) a).toNat).2.1).toNat H) ((nth q (dn ((q.length:Y)-1) a).toNat).2.1).toNat (nth (zE b ((nth q (dn ((q.length:Y)-1) a).toNat).2.1).toNat H) (dn ((q.length:Y)-1) a).toNat)) (dn ((q.length:Y)-1) a).toNat)])))] [3,5] [] [5] (pG 5 (dn ((q.length:Y)-1) a) s (pG 7 ((nth q (dn ((q.length:Y)-1) a).toNat).2.2.1) h p0)) ?_;refine eqn [(3,.o 832 (zE (zE (zE b ((nth q (dn ((q.length:Y)-1) a).toNat).2.1).toNat H) ((nth q (dn ((q.length:Y)-1) a).toNat).2.1).toNat (nth (zE b ((nth q (dn ((q.length:Y)-1) a).toNat).2.1).toNat H) (dn ((q.length:Y)-1) a).toNat)) ((nth q (dn ((q.length:Y)-1) a).toNat).2.2.1).toNat (nth (zE (zE b ((nth q (dn ((q.length:Y)-1) a).toNat).2.1).toNat H) ((nth q (dn ((q.length:Y)-1) a).toNat).2.1).toNat (nth (zE b ((nth q (dn ((q.length:Y)-1) a).toNat).2.1).toNat H) (dn ((q.length:Y)-1) a).toNat)) (dn ((q.length:Y)-1) a).toNat)))] [3] [] [] (by rw[Km (y:=(nth (zE (zE b ((nth q (dn ((q.length:Y)-1) a).toNat).2.1).toNat H) ((nth q (dn ((q.length:Y)-1) a).toNat).2.1).toNat (nth (zE b ((nth q (dn ((q.length:Y)-1) a).toNat).2.1).toNat H) (dn ((q.length:Y)-1) a).toNat)) (dn ((q.length:Y)-1) a).toNat)) h rfl]<;>kernel_rfl) ?_;refine rn [0,2,3,4] [] (pe 1 (show .i (vA vB ((dn ((q.length:Y)-1) a)-1))= .i (dn ((q.length:Y)-1) (a+1)) from G6 (show vA vB ((dn ((q.length:Y)-1) a)-1)=(dn ((q.length:Y)-1) (a+1)) from IntWalk.i64_in ((dn ((q.length:Y)-1) a)-1) (by omega))) p0) ?_;exact xw (zE (zE (zE b ((nth q (dn ((q.length:Y)-1) a).toNat).2.1).toNat H) ((nth q (dn ((q.length:Y)-1) a).toNat).2.1).toNat (nth (zE b ((nth q (dn ((q.length:Y)-1) a).toNat).2.1).toNat H) (dn ((q.length:Y)-1) a).toNat)) ((nth q (dn ((q.length:Y)-1) a).toNat).2.2.1).toNat (nth (zE (zE b ((nth q (dn ((q.length:Y)-1) a).toNat).2.1).toNat H) ((nth q (dn ((q.length:Y)-1) a).toNat).2.1).toNat (nth (zE b ((nth q (dn ((q.length:Y)-1) a).toNat).2.1).toNat H) (dn ((q.length:Y)-1) a).toNat)) (dn ((q.length:Y)-1) a).toNat)) ⟨Jd O (Xg f (Xg c rfl)) U.1,(by first|omega|(simp only[zG];omega))⟩
   have t:(((nth q (dn ((q.length:Y)-1) a).toNat).1==(6:Y)))=D:=CG c;have a3:=Yi t;have u:(((nth q (dn ((q.length:Y)-1) a).toNat).1==(7:Y)))=D:=FW c;have a4:=Yi u;refine Qd<|qn [0,2,3,4] [] (pe 1 (show .i (vA vB ((dn ((q.length:Y)-1) a)-1))= .i (dn ((q.length:Y)-1) (a+1)) from G6 (show vA vB ((dn ((q.length:Y)-1) a)-1)=(dn ((q.length:Y)-1) (a+1)) from IntWalk.i64_in ((dn ((q.length:Y)-1) a)-1) (by omega))) p0) ?_
   exact xw (zE b ((nth q (dn ((q.length:Y)-1) a).toNat).2.1).toNat H) ⟨Jd O (Xg f (Qi c rfl)) U.1,(by first|omega|(simp only[zG];omega))⟩
  have a2:=Yi f;refine Qd<|tn [0,2,3,4,5,40] [5] p0<|ck (((nth q (dn ((q.length:Y)-1) a).toNat).1==(6:Y))|| ((nth q (dn ((q.length:Y)-1) a).toNat).1==(7:Y))) (λd=>?_) (λd=>?_)
  ·have ae:=Qmx (N7 e) (by omega) (by omega) d;refine wT 3 0 (.own H 832) b (λaf ah=>?_);have v:=ng b (dn ((q.length:Y)-1) a).toNat;have i:=ng b ((nth q (dn ((q.length:Y)-1) a).toNat).2.1).toNat;refine tU [(3,.one (.slc (.own H 832) 1 (setRow (eL b) ((nth q (dn ((q.length:Y)-1) a).toNat).2.1).toNat 0 [.b (nth b (dn ((q.length:Y)-1) a).toNat)])))] [3,6] [] [] (pG 5 (dn ((q.length:Y)-1) a) v (pG 7 ((nth q (dn ((q.length:Y)-1) a).toNat).2.1) i p0))<|eqn [(3,.o 832 (zE b ((nth q (dn ((q.length:Y)-1) a).toNat).2.1).toNat (nth b (dn ((q.length:Y)-1) a).toNat)))] [3] [] [] (by rw[Km (y:=(nth b (dn ((q.length:Y)-1) a).toNat)) i rfl]<;>kernel_rfl) ?_
   refine wT 3 0 (.own H 832) (zE b ((nth q (dn ((q.length:Y)-1) a).toNat).2.1).toNat (nth b (dn ((q.length:Y)-1) a).toNat)) (λai aj=>?_);have w:=ng (zE b ((nth q (dn ((q.length:Y)-1) a).toNat).2.1).toNat (nth b (dn ((q.length:Y)-1) a).toNat)) (dn ((q.length:Y)-1) a).toNat (by first|omega|(simp only[zG];omega));have j:=ng (zE b ((nth q (dn ((q.length:Y)-1) a).toNat).2.1).toNat (nth b (dn ((q.length:Y)-1) a).toNat)) ((nth q (dn ((q.length:Y)-1) a).toNat).2.2.1).toNat (by first|omega|(simp only[zG];omega));refine rU [(3,.one (.slc (.own H 832) 1 (setRow (eL (zE b ((nth q (dn ((q.length:Y)-1) a).toNat).2.1).toNat (nth b (dn ((q.length:Y)-1) a).toNat))) ((nth q (dn ((q.length:Y)-1) a).toNat).2.2.1).toNat 0 [.b (nth (zE b ((nth q (dn ((q.length:Y)-1) a).toNat).2.1).toNat (nth b (dn ((q.length:Y)-1) a).toNat)) (dn ((q.length:Y)-1) a).toNat)])))] [3,5] [] [5] (pG 5 (dn ((q.length:Y)-1) a) w (pG 7 ((nth q (dn ((q.length:Y)-1) a).toNat).2.2.1) j p0)) ?_;refine eqn [(3,.o 832 (zE (zE b ((nth q (dn ((q.length:Y)-1) a).toNat).2.1).toNat (nth b (dn ((q.length:Y)-1) a).toNat)) ((nth q (dn ((q.length:Y)-1) a).toNat).2.2.1).toNat (nth (zE b ((nth q (dn ((q.length:Y)-1) a).toNat).2.1).toNat (nth b (dn ((q.length:Y)-1) a).toNat)) (dn ((q.length:Y)-1) a).toNat)))] [3] [] [] (by rw[Km (y:=(nth (zE b ((nth q (dn ((q.length:Y)-1) a).toNat).2.1).toNat (nth b (dn ((q.length:Y)-1) a).toNat)) (dn ((q.length:Y)-1) a).toNat)) j rfl]<;>kernel_rfl) ?_;refine rn [0,2,3,4] [] (pe 1 (show .i (vA vB ((dn ((q.length:Y)-1) a)-1))= .i (dn ((q.length:Y)-1) (a+1)) from G6 (show vA vB ((dn ((q.length:Y)-1) a)-1)=(dn ((q.length:Y)-1) (a+1)) from IntWalk.i64_in ((dn ((q.length:Y)-1) a)-1) (by omega))) p0) ?_;exact xw (zE (zE b ((nth q (dn ((q.length:Y)-1) a).toNat).2.1).toNat (nth b (dn ((q.length:Y)-1) a).toNat)) ((nth q (dn ((q.length:Y)-1) a).toNat).2.2.1).toNat (nth (zE b ((nth q (dn ((q.length:Y)-1) a).toNat).2.1).toNat (nth b (dn ((q.length:Y)-1) a).toNat)) (dn ((q.length:Y)-1) a).toNat)) ⟨Jd O (Qi f (Xg d rfl)) U.1,(by first|omega|(simp only[zG];omega))⟩
  have x:(((nth q (dn ((q.length:Y)-1) a).toNat).1==(6:Y)))=D:=CG d;have a5:=Yi x;have z:(((nth q (dn ((q.length:Y)-1) a).toNat).1==(7:Y)))=D:=FW d;have a6:=Yi z;refine Qd<|qu [(4,.i (dn ((q.length:Y)-1) (a+1)))] [4,5,6] [] [5] (pe 1 (show .i (vA vB ((dn ((q.length:Y)-1) a)-1))= .i (dn ((q.length:Y)-1) (a+1)) from G6 (show vA vB ((dn ((q.length:Y)-1) a)-1)=(dn ((q.length:Y)-1) (a+1)) from IntWalk.i64_in ((dn ((q.length:Y)-1) a)-1) (by omega))) p0) ?_
  exact xw b ⟨Jd O (Qi f (Qi d rfl)) U.1,(by first|omega|(simp only[zG];omega))⟩
 ·have k:=U.2;have o:=SN ((q.length:Y)-1) a;exact Qa<|sn [0,2,3,4,18] [] (pe 1 (zC ((dn ((q.length:Y)-1) a)>=(0:Y))) p0)<|ckF<|Xa<|xw b ⟨Hn O rfl U.1,by first|omega|(simp only[zG];omega)⟩
 have a7:=m.2;exact sn [2] [] p0<|Qc<|po0 [] (Qi V (Vx m.1 rfl))
theorem Nc{α:Type}[uQ α]{l:W α}{i j:K}(x:α)(h:j≠i):nth (l.set j x) i=nth l i:=by
 simp[nth,yA,List.getElem?_set_ne h]
theorem Qg0{q:W Q9}(f:Qj q=H){k:K}(h:k<q.length)(s:W uA):Z9 q k s=Hf q k s:=by
 have g:=SN ((q.length:Y)-1) k;obtain⟨a,d⟩:=G7 f (k:=dn ((q.length:Y)-1) k) (by omega) (by omega);unfold Z9 Hf;generalize hi:dn ((q.length:Y)-1) k=i at a d⊢;generalize nth q (zK i)=n at a d⊢;by_cases e:n.1=5
 . simp[e]
 by_cases b:n.1=6
 . have:=a (.inr (.inl b));simp[b];rw[Nc _ (by omega)]
 by_cases c:n.1=7
 . have:=a (.inr (.inr c));simp[c];rw[Nc _ (by omega)]
 simp only[uL.2 e,uL.2 b,uL.2 c,Bool.or_false,uI]
theorem DW(q:W Q9):Jt q=Yd q:=by
 unfold Jt Yd;rw[←Qgy];cases a:Qj q with
 | false=>rfl
 | true=>
   simp only[xL,uI];rw[DV (f:=Hf q) (g:=Z9 q) (e:=D3) (e':=He) (λ_ _=>rfl) _ _ _ λi s _ hi=>(Qg0 a (by omega) s).symm]
theorem NB(q:W Q9)(k:K)(s:W uA):∃s',Z9 q k s= .next s'/\s'.length=s.length:=by
 unfold Z9;generalize((nth q (zK (dn ((q.length:Y)-1) k))).1==(5:Y))=a;generalize((nth q (zK (dn ((q.length:Y)-1) k))).1==(6:Y))=b;generalize((nth q (zK (dn ((q.length:Y)-1) k))).1==(7:Y))=c;cases a<;>cases b<;>cases c<;>exact⟨_,rfl,by simp⟩
theorem KM(q:W Q9):∀(n k:K) (s:W uA),∃s',K0 (Z9 q) He n k s= .brk s'/\s'.length=s.length
 | 0,k,s=>⟨s,rfl,rfl⟩
 | n+1,k,s=>by
   obtain⟨a,b,c⟩:=NB q k s;obtain⟨d,e,f⟩:=KM q n (k+1) a;refine⟨d, ?_,f.trans c⟩;simp only[K0,b];exact e
theorem T2(q:W Q9):zD (Yd q)<=zD q:=by
 unfold Yd;cases Qj q with
 | false=>exact yX _
 | true=>
   obtain⟨s,a,b⟩:=KM q (zD q) 0 (zF (zK (q.length:Y)) D);simp only[xL,uI,a,Out.on];rw[b];simp
theorem NC(q:W Q9):zD (Jt q)<=zD q:=by rw[DW];exact T2 q
end
section
open Go.RowKit Go.Sort
open GoE (enc)
structure OneC (α σ:Type) [GoE α] where
 tu:α->σ
 of:σ->α
 cell:σ->uN
 pv:α->PV
 ok:α->Prop
 of_tu:∀a,of (tu a)=a
 tu_of:∀s,tu (of s)=s
 enc_eq:∀a,enc a= [pv a]
 flat:∀a,(pv a).flat
 vv:∀(X:K->Prop) (w:uD) v a,VV X w v (pv a)↔v=cell (tu a)/\ok a
def Qsb:OneC Y Y where
 tu:=id
 of:=id
 cell:= .int .i64
 pv:= .int .i64
 ok:=InR .i64
 of_tu _:=rfl
 tu_of _:=rfl
 enc_eq _:=rfl
 flat _:=trivial
 vv X w v a:=⟨λh=>by cases h with | int h=>exact⟨rfl,h⟩,λ⟨b,h2⟩=>by subst b;exact .int h2⟩
def oneS:OneC A (W uE) where
 tu b:=b.data.toList
 of s:=⟨s.toArray⟩
 cell:=encStr
 pv:= .str
 ok b:=b.size<=uO
 of_tu b:=by cases b;simp
 tu_of s:=by simp
 enc_eq _:=rfl
 flat _:=trivial
 vv X w v a:=by
  have e:encStr a.data.toList= .string a:=by cases a;simp[encStr]
  rw[e];exact⟨λh=>by cases h with | str h=>exact⟨rfl,h⟩,λ⟨c,h2⟩=>by subst c;exact .str h2⟩
section
variable {α σ:Type} [GoE α] (C:OneC α σ)
theorem Qg1{X:K->Prop}{w:uD}:∀{l:W α} {cs:W uN},VR X w 1 cs (eL l)->cs=(l.map C.tu).map C.cell/\∀a,a∈l->C.ok a
 | [],cs,h=>by
   generalize c:eL ([]:W α)=r at h;cases h with
   | nil=>exact⟨rfl,λa ha=>by simp at ha⟩
   | cons=>cases c
 | a :: l,cs,h=>by
   generalize c:eL (a::l)=r at h;cases h with
   | nil=>cases c
   | cons f k g=>
     rw[UM,C.enc_eq] at c;obtain⟨rfl,rfl⟩: [C.pv a]=_/\eL l=_:=by simpa using c
     obtain⟨e,d⟩:=Qg1 g;cases f with
     | cons i j=>
       cases j
       obtain⟨rfl,ha⟩:=(C.vv X w _ a).1 i;exact⟨by rw[e];rfl,λb hb=>(zN.1 hb).elim (λe=>e▸ha) (d b)⟩
theorem Qg2{X:K->Prop}{w:uD}:∀{l:W α},(∀a,a∈l->C.ok a)->VR X w 1 ((l.map C.tu).map C.cell) (eL l)
 | [],_=> .nil 1
 | a::l,h=>by
   rw[UM,C.enc_eq];exact VR.cons (ce:= [C.cell (C.tu a)]) (.cons ((C.vv X w _ a).2 ⟨rfl,h a zL⟩) .nil) rfl (Qg2 λb hb=>h b (zH _ hb))
theorem Qot(l:W α):(eL l).flatten=l.map C.pv:=by
 induction l with
 | nil=>rfl
 | cons a l b=>rw[UM,C.enc_eq,List.flatten_cons,b];rfl
theorem Qsv(l:W α):eL l=(l.map C.pv).map λc=> [c]:=by
 simp[eL,C.enc_eq,yI]
theorem Qbp(e:σ->uN)[uQ σ](d:uP σ)(cur:uP uN)(h:d.size<=cur.size):(Go.Sort.putCells e 0 d cur).toList=d.toList.map e++cur.toList.drop d.size:=by
 apply List.ext_getElem?;intro j;unfold Go.Sort.putCells;rw[yB,Array.getElem?_mapIdx];by_cases a:j<d.size
 . rw[List.getElem?_append_left (by simpa using a),yW (by omega:j<cur.size),yY,yB,yW a];simp only[Option.map_some];rw[uG ⟨yX _,by omega⟩,Nat.sub_zero,getElem!_pos d j a]
 rw[List.getElem?_append_right (by simpa using Nat.le_of_not_lt a),List.getElem?_drop];have b:d.size+(j-(d.toList.map e).length)=j:=by simp;omega
 rw[b,yB];cases cur[j]? with
 | none=>rfl
 | some x=>simp;omega
theorem T3{e:σ->uN}[uQ σ]{w:uD}{g:K}{cur:uP uN}{ty:uV}(b:w.heap[g]? =uC (.cells cur ty (0,0)))(q:K)(d:uP σ)(os:uP Obj):
 (grow (putRow e (Sort.ahead w q) g 0 d) os).heap[g]? =uC (.cells (Go.Sort.putCells e 0 d cur) ty (0,0)):=by
 have a:g<w.heap.size:=Xb b;unfold grow putRow mapBlock Sort.ahead;simp only[yM,Array.size_modify];rw[uG a,xG,uG rfl,b];rfl
theorem KN{e:σ->uN}[uQ σ](w:uD)(g q:K)(d:uP σ)(os:uP Obj):(∀b,b<w.heap.size->b≠g->(grow (putRow e (Sort.ahead w q) g 0 d) os).heap[b]? =w.heap[b]?)/\∀m,m<=g->m<=w.heap.size->Below m w (grow (putRow e (Sort.ahead w q) g 0 d) os):=by
 have h:∀b,b<w.heap.size->b≠g->(grow (putRow e (Sort.ahead w q) g 0 d) os).heap[b]? =w.heap[b]? :=λb hb a=>by
  unfold grow putRow mapBlock Sort.ahead;simp only[yM,Array.size_modify];rw[uG hb,xG,uH (λe=>a e.symm)]
 refine⟨h,λm c f=>⟨rfl,rfl,rfl, ?_,λb hb=>h b (by omega) (by omega)⟩⟩;unfold grow putRow mapBlock Sort.ahead;simp
theorem Qbq{e:σ->uN}[uQ σ]{g:K}{w:uD}{cur:uP uN}{ty:uV}{l:W σ}(b:w.heap[g]? =uC (.cells cur ty (0,0)))(d:cur.toList.take l.length=l.map e):Holds e w g 0 l.toArray:=by
 intro j f;have a:j<l.length:=by simpa using f
 have h:cur[j]? =uC (e l[j]):=by
  have c:(cur.toList.take l.length)[j]? =(l.map e)[j]? :=by rw[d]
  rw[List.getElem?_take,uG a,yY,List.getElem?_eq_getElem a,yB] at c;exact c
 refine⟨?_, ?_⟩
 . rw[yE];simp[World.cell?,b,h,getElem!_pos,a]
 simp[World.frozen?,b]
variable {P:uW} [uQ σ]
theorem Qg3(F:K->Prop)(L:W K)(w:uD)(a:uM Addr):Qr8 F L w 1 H [] (.returned (.tuple #[])) w:=
 ⟨_,rfl,λm _ _=>Below.refl _ _,λ_ _ _=>rfl,rfl,λb c h=>by simpa [WP] using h⟩
theorem DX{f:K}(z:Fr P f)(d:W σ->W σ)(j:∀l,(d l).length=l.length)(o:∀l x,x∈d l->x∈l)
 (h0:∀oa cap w,Calls P f #[.slice oa 0 cap] w λe w'=>e= .returned (.tuple #[])/\w'=w)
 (h1:∀g cap (l:W σ) w,Holds C.cell w g 0 l.toArray->g<w.heap.size->l.length<4611686018427387904->Calls P f #[.slice (uC ⟨g,0,uF⟩) l.length cap] w λe w'=>e= .returned (.tuple #[])/\∃n os,w'=grow (putRow C.cell (Sort.ahead w n) g 0 (d l).toArray) os)
 (l:W α):ATake P f 1 (eL l) [] D H (eL ((d (l.map C.tu)).map C.of)):=by
 refine⟨z,λw F G L v a7 _ p _ V _ a1 q k=>?_⟩;cases k
 rcases q with⟨hl,oa,rfl⟩ | ⟨g,cap,cur,ty,rfl,rfl,r,hs,hr,h5,h6⟩
 . obtain rfl:l= []:=by simpa [eL] using hl
   have a2:d []= []:=zP (by rw[j];rfl);refine(h0 oa 0 w).mono ?_
   rintro e w' ⟨rfl,rfl⟩
   rw[List.map_nil,a2];exact Qg3 F L w' oa
 have a3:(eL l).length=l.length:=by simp[eL]
 rw[a3] at hr h5 h6⊢;rw[yD] at hr hs;obtain⟨a4,s⟩:=Qg1 C hr;have hH:Holds C.cell w g 0 (l.map C.tu).toArray:=Qbq r (by rw[zJ];exact a4);have hc:=h1 g cap (l.map C.tu) w hH (Xb r) (by rw[zJ];have:=h6.2;omega);rw[zJ] at hc;refine hc.mono ?_
 rintro e w' ⟨rfl,n,os,rfl⟩
 have h:=KN (e:=C.cell) w g n (d (l.map C.tu)).toArray os;have a9:=Xb r;refine⟨_,rfl,λm hm hL=>h.2 m (hL g (by simp)) hm,λb hb hn=>h.1 b hb (by simpa using hn),rfl,λv2 l2 h2=>?_⟩;rcases h2 with⟨rfl,oa,rfl⟩ | ⟨g2,t,a8,aa,a5,rfl,u,a6,y,h7,h8⟩
 . exact .inl ⟨by simp[WP],oa,rfl⟩
 obtain rfl:g=g2:=by simpa using a5
 rw[r] at u;cases u
 rw[Qot C,WP];have hd:(d (l.map C.tu)).toArray.size<=cur.size:=by simp only[zX,j,zJ];omega
 have i:(xN (λc=> [c]) (zR l2.length (xN C.pv (xN C.of (d (l.map C.tu)))))++yF (xN C.pv (xN C.of (d (l.map C.tu)))).length l2).length=l2.length:=by
  simp only[yU,zJ,List.length_take,List.length_drop];omega
 refine .inr ⟨g,t,_,ty,rfl,by rw[i],T3 r n _ os, ?_, ?_,by rw[i];exact h7,by rw[i];exact h8⟩
 . simp[Go.Sort.putCells,a6]
 rw[i,yD,Qbp C.cell _ cur hd,List.take_append];rw[yD] at y;refine VR.append ?_ ?_
 . have hk:VR F (grow (putRow C.cell (Sort.ahead w n) g 0 (d (l.map C.tu)).toArray) os) 1 (cur.toList.take l2.length) l2:=by
    refine y.keep λb hb=>⟨hb,h.1 b (V b (p b hb)) λe=>(a1 g (by simp)).2 (p g (e▸hb))⟩
   have:=VR.drop (d (l.map C.tu)).length hk;rw[yD,List.drop_take] at this;simpa using this
 have hm:∀a,a∈(d (l.map C.tu)).map C.of->C.ok a:=λa ha=>by
  obtain⟨x,hx,rfl⟩:=zU.1 ha;obtain⟨b,hb,rfl⟩:=zU.1 (o _ _ hx);rw[C.of_tu];exact s b hb
 have:=VR.take l2.length (Qg2 C (X:=F) (w:=grow (putRow C.cell (Sort.ahead w n) g 0 (d (l.map C.tu)).toArray) os) hm);rw[yD,Qsv C] at this;simpa [List.map_take,yI,C.tu_of] using this
theorem DY{f:K}(u:Fr P f)(c:W σ->W σ)(j:∀l,(c l).length<=l.length)(n:∀l x,x∈c l->x∈l)
 (h0:∀oa cap w,Calls P f #[.slice oa 0 cap] w λe w'=>e= .returned (.slice oa 0 cap)/\w'=w)
 (h1:∀g cap (l:W σ) w,Holds C.cell w g 0 l.toArray->l.length<=9223372036854775807->l.length<=cap->Calls P f #[.slice (uC ⟨g,0,uF⟩) l.length cap] w λe w'=>e= .returned (.slice (uC ⟨g,0,uF⟩) (c l).length cap)/\∃q d,(c l++d).length=l.length/\w'=putRow C.cell (Sort.ahead w q) g 0 (c l++d).toArray)
 (l:W α):ATake P f 1 (eL l) [] D D (eL ((c (l.map C.tu)).map C.of)):=by
 refine⟨u,λw F G L v a4 _ a5 _ a6 _ a7 o k=>?_⟩;cases k
 rcases o with⟨hl,oa,rfl⟩ | ⟨g,cap,cur,ty,rfl,rfl,s,hs,y,h5,t⟩
 . obtain rfl:l= []:=by simpa [eL] using hl
   have z:c []= []:=zP (by have:=j [];simpa using this);refine(h0 oa 0 w).mono ?_
   rintro e w' ⟨rfl,rfl⟩
   rw[List.map_nil,z];exact⟨_,rfl,λm _ _=>Below.refl _ _,λ_ _ _=>rfl, [],yJ,λb hb=>(by simp at hb),.inl ⟨rfl,oa,rfl⟩⟩
 have V:(eL l).length=l.length:=by simp[eL]
 rw[V] at y h5 t⊢;rw[yD] at y hs;obtain⟨a1,p⟩:=Qg1 C y;have hH:Holds C.cell w g 0 (l.map C.tu).toArray:=Qbq s (by rw[zJ];exact a1);have hc:=h1 g cap (l.map C.tu) w hH (by rw[zJ];have:=t.2;omega) (by rw[zJ];exact h5);rw[zJ] at hc;refine hc.mono ?_
 rintro e w' ⟨rfl,q,d,r,rfl⟩
 have hw:putRow C.cell (Sort.ahead w q) g 0 (c (l.map C.tu)++d).toArray=grow (putRow C.cell (Sort.ahead w q) g 0 (c (l.map C.tu)++d).toArray) #[]:=(grow_empty _).symm;rw[hw];have h:=KN (e:=C.cell) w g q (c (l.map C.tu)++d).toArray #[];have a8:=Xb s;have hd:(c (l.map C.tu)++d).toArray.size<=cur.size:=by rw[zX,r];omega
 have a2:=j (l.map C.tu);rw[zJ] at a2;have i:(eL ((c (l.map C.tu)).map C.of)).length=(c (l.map C.tu)).length:=by simp[eL]
 have a3:g<(grow (putRow C.cell (Sort.ahead w q) g 0 (c (l.map C.tu)++d).toArray) #[]).heap.size:=Xb (T3 s q _ #[]);refine⟨_,rfl,λm hm hL=>h.2 m (hL g (by simp)) hm,λb hb hn=>h.1 b hb (by simpa using hn), [g],by simp,λb hb=>?_,.inr ⟨g,cap,_,ty,rfl,by rw[i],T3 s q _ #[], ?_, ?_,by rw[i];omega,t.1,by rw[i];have:=t.2;omega⟩⟩
 . obtain rfl:=zY.1 hb;exact⟨a3,.inr (by simp)⟩
 . simp[Go.Sort.putCells,hs]
 rw[i,yD,Qbp C.cell _ cur hd]
 have hm:∀a,a∈(c (l.map C.tu)).map C.of->C.ok a:=λa ha=>by
  obtain⟨x,hx,rfl⟩:=zU.1 ha;obtain⟨b,hb,rfl⟩:=zU.1 (n _ _ hx);rw[C.of_tu];exact p b hb
 have:=Qg2 C (X:=F) (w:=grow (putRow C.cell (Sort.ahead w q) g 0 (c (l.map C.tu)++d).toArray) #[]) hm;have e1:((c (l.map C.tu)).map C.of).map C.tu=c (l.map C.tu):=by simp[yI,C.tu_of]
 rw[e1] at this;rw[List.map_append,List.append_assoc,List.take_left' (by simp)];exact VR.keep (λb hb=>⟨.inl hb,rfl⟩) this
end
def ZX(l:W Y):W Y:=l.mergeSort λx y=>decide (x<=y)
def Rb(l:W A):W A:=((l.map oneS.tu).mergeSort λx y=>decide (x<=y)).map oneS.of
def ND(l:W Y):W Y:=Lib.compact l
def HG(l:W A):W A:=(Lib.compact (l.map oneS.tu)).map oneS.of
theorem Qbr{σ:Type}[uQ σ][uZ σ](l:W σ)(x:σ)(h:x∈Lib.compact l):x∈l:=by
 unfold Lib.compact Lib.compactUpTo at h;simp only[zU,xD,yK] at h;obtain⟨j,⟨a,_⟩,e⟩:=h;have b:l.toArray[j]! =l[j]:=by rw[getElem!_pos l.toArray j (by simpa using a)];simp
 rw[b] at e;exact e▸xA a
theorem Sc{σ:Type}[uQ σ][uZ σ](l:W σ):(Lib.compact l).length<=l.length:=by
 unfold Lib.compact Lib.compactUpTo;rw[zJ];exact yT (xH _ _) (by rw[List.length_range];exact zO _)
theorem NE(l:W Y):(ZX l).length=l.length:=yC _
theorem NF(l:W A):(Rb l).length=l.length:=by simp[Rb,yC]
theorem Qg4(l:W Y):(ND l).length<=l.length:=Sc l
theorem Qg5(l:W A):(HG l).length<=l.length:=by
 have:=Sc (l.map oneS.tu);rw[zJ] at this;simpa [HG] using this
theorem Qbs{α:Type}[GoE α]{l k:W α}(d:∀a:α,(enc a).length=1)(h:k.length=l.length):Qmj (eL l) 0 4294967296 (eL k).flatten=eL k:=by
 have b:∀k:W α,((eL k).flatten.map λc=> [c])=eL k:=λk=>by
  induction k with
  | nil=>rfl
  | cons a k e=>
    rw[UM,List.flatten_cons,List.map_append,e];have:=d a
    match enc a,this with
    | [p],_=>rfl
 have g:(eL k).flatten.length=k.length:=by
  have:=uU zD (b k);rw[zJ] at this;rw[this];simp[eL]
 show WP (eL l) (eL k).flatten=eL k;unfold WP;have f:(eL l).length=l.length:=by simp[eL]
 rw[f,xC (by omega),b,List.drop_of_length_le (by omega),List.append_nil]
end
section
open Go.RowKit
section
variable {σ:Type} (lt:σ->σ->Prop)
theorem Qbt(d:∀a,¬lt a a)(j:∀a b c,lt a b->lt b c->lt a c):∀(a b:W σ),a.Pairwise lt->b.Pairwise lt->(∀x,x∈a↔x∈b)->a=b
 | [], [],_,_,_=>rfl
 | [],y::b,_,_,h=>by have:=(h y).2 (by simp);simp at this
 | x::a, [],_,_,h=>by have:=(h x).1 (by simp);simp at this
 | x ::a,y::b,ha,hb,h=>by
   rw[zW] at ha hb
   have k:x=y:=by
    have hx:=(h x).1 (by simp);have hy:=(h y).2 (by simp);simp only[zN] at hx hy;rcases hx with e | hx
    . exact e
    rcases hy with e | hy
    . exact e.symm
    exact(d x (j _ _ _ (ha.1 y hy) (hb.1 x hx))).elim
   subst k
   congr 1
   refine Qbt d j a b ha.2 hb.2 λz=>?_
   have i:=h z;simp only[zN] at i;constructor
   . intro g;have f:=ha.1 z g;rcases i.1 (.inr g) with e | e
     . subst e;exact(d z f).elim
     exact e
   intro g;have f:=hb.1 z g;rcases i.2 (.inr g) with e | e
   . subst e;exact(d z f).elim
   exact e
theorem Qbu[uQ σ][uZ σ](d:uP σ)(t:∀a b c,¬lt b a->lt b c->lt a c)(k:∀a b,¬lt b a->a≠b->lt a b)(o:∀i j,i<=j->j<d.size->¬lt d[j]! d[i]!):
 ∀m,m<=d.size->(Lib.compactUpTo d m).Pairwise lt/\∀x,x∈Lib.compactUpTo d m↔∃j,j<m/\d[j]! =x
 | 0,_=>by simp[Lib.compactUpTo]
 | m + 1,hm=>by
   obtain⟨u,p⟩:=Qbu d t k o m (by omega);rw[Lib.compactUpTo_succ];by_cases f:Lib.keeps d m=H
   . rw [uG f];refine⟨?_,λx=>?_⟩
     . rw[List.pairwise_append];refine⟨u,by simp,λa ha b hb=>?_⟩;obtain⟨j,n,rfl⟩:=(p a).1 ha;obtain rfl:b=d[m]! :=by simpa using hb
       have q:=o j (m-1) (by omega) (by omega);have l:=o (m-1) m (by omega) (by omega)
       have r:d[m]! ≠d[m-1]! :=by
        unfold Lib.keeps at f;simp only[Bool.or_eq_true,uX,bne_iff_ne,uR] at f;rcases f with h | h
        . omega
        exact h
       exact t _ _ _ q (k _ _ l λe=>r e.symm)
     rw[xE,p x];constructor
     . rintro(⟨j,n,e⟩ | h)
       . exact⟨j,by omega,e⟩
       exact⟨m,by omega,by simpa using(by simpa using h:x=d[m]!).symm⟩
     rintro⟨j,n,e⟩
     by_cases g:j=m
     . subst g;exact .inr (by simp[e])
     exact .inl ⟨j,by omega,e⟩
   rw[uH f,List.append_nil];refine⟨u,λx=>?_⟩;rw[p x]
   have s:m≠0/\d[m]! =d[m-1]! :=by
    unfold Lib.keeps at f;simp only[Bool.or_eq_true,uX,bne_iff_ne,uR,not_or,Decidable.not_not] at f;exact f
   constructor
   . rintro⟨j,n,e⟩;exact⟨j,by omega,e⟩
   rintro⟨j,n,e⟩
   by_cases g:j=m
   . subst g;exact⟨j-1,by omega,s.2▸e⟩
   exact⟨j,by omega,e⟩
end
def bl(a b:A):uA:=Op.bytesLess a.toList b.toList
theorem NG{a b c:W uE}(h:a<b)(d:b<c):a<c:=List.lt_trans h d
theorem Qg6(a:W uE):¬a<a:=List.lt_irrefl a
theorem SV{a b:W uE}(h:¬b<a)(c:a≠b):a<b:=zT λd=>c (List.le_antisymm h d)
theorem HH(a b:A):bl a b=H↔a.data.toList<b.data.toList:=by
 unfold bl;rw[bytesLess_eq,ByteArray.toList_eq,ByteArray.toList_eq,decide_eq_true_iff]
theorem Qmy(a:A):bl a a=D:=by
 cases h:bl a a with
 | false=>rfl
 | true=>exact(Qg6 _ ((HH a a).1 h)).elim
theorem GB{a b c:A}(h:bl a b=H)(d:bl b c=H):bl a c=H:=(HH _ _).2 (NG ((HH _ _).1 h) ((HH _ _).1 d))
theorem Qqw{a b:A}(h:bl b a=D)(c:a≠b):bl a b=H:=(HH _ _).2 (SV (λhb=>by rw[(HH _ _).2 hb] at h;cases h) λe=>c (by cases a;cases b;simp at e;rw[e]))
def NH:W A->A->W A
 | [],s=> [s]
 | x::l,s=>if bl x s then x::NH l s else if x=s then x::l else s::x::l
def Qmz(l:W A):Prop:=l.Pairwise λa b=>bl a b=H
theorem GC(s x:A):∀l,x∈NH l s↔x=s\/x∈l
 | []=>by simp[NH]
 | y ::l=>by
   simp only[NH];split
   . rw[zN,GC s x l,zN];constructor
     . rintro(h | h | h)<;>simp[h]
     rintro(h | h | h)<;>simp[h]
   split
   . rename_i e;subst e;simp
   simp
theorem Qbv(s:A):∀l,Qmz l->Qmz (NH l s)
 | [],_=>by simp[Qmz,NH]
 | y ::l,h=>by
   have h:=zW.1 h;simp only[NH];split
   . rename_i a;refine zW.2 ⟨λz hz=>?_,Qbv s l h.2⟩;rcases(GC s z l).1 hz with e | hz
     . exact e▸a
     exact h.1 z hz
   split
   . exact zW.2 h
   rename_i a c;have b:bl s y=H:=Qqw (by simpa using a) λe=>c e.symm
   refine zW.2 ⟨λz hz=>?_,zW.2 h⟩;rcases zN.1 hz with rfl | hz
   . exact b
   exact GB b (h.1 z hz)
theorem Qbw(s:A):∀l,(NH l s).length<=l.length+1
 | []=>by simp[NH]
 | y::l=>by
   have:=Qbw s l;simp only[NH];split
   . simp only[List.length_cons];omega
   split<;>simp
def T4(l xs:W A):W A:=xs.foldl NH l
theorem HI(x:A):∀xs l,x∈T4 l xs↔x∈xs\/x∈l
 | [],l=>by simp[T4]
 | y::xs,l=>by
   show x∈T4 (NH l y) xs↔_;rw[HI x xs,GC,zN];constructor
   . rintro(h | h | h)<;>simp[h]
   rintro((h | h) | h)<;>simp[h]
theorem HJ:∀xs l,Qmz l->Qmz (T4 l xs)
 | [],_,h=>h
 | y::xs,l,h=>HJ xs (NH l y) (Qbv y l h)
theorem Qky(a b:W A)(c:Qmz a)(d:Qmz b)(h:∀x,x∈a↔x∈b):a=b:=
 Qbt (λa b=>bl a b=H) (λa h=>by rw[Qmy] at h;cases h) (λ_ _ _=>GB) a b c d h
theorem HK(l:W A):Qmz (HG (Rb l))/\∀x,x∈HG (Rb l)↔x∈l:=by
 have q:(Rb l).map oneS.tu=(l.map oneS.tu).mergeSort λx y=>decide (x<=y):=by simp[Rb,yI,oneS.tu_of]
 unfold HG;rw[q];generalize v:l.map oneS.tu=m;have t:=yR m (λx y=>decide (x<=y))
 have u:=List.pairwise_mergeSort (le:=λ(x y:W uE)=>decide (x<=y)) (λa b c p k=>by
  simp only[uR] at p k⊢;exact List.le_trans p k) (λa b=>by
  have:=List.le_total a b;simpa using this) m
 generalize(m.mergeSort λx y=>decide (x<=y))=s at t u;have d:∀j,j<s.length->s.toArray[j]! =s[j]! :=λj f=>by simp
 have g:∀i j,i<=j->j<s.toArray.size->¬s.toArray[j]! <s.toArray[i]! :=λi j w f=>by
  have f:j<s.length:=by simpa using f
  rw[d i (by omega),d j f,getElem!_pos s i (by omega),getElem!_pos s j f];by_cases e:i=j
  . subst e;exact Qg6 _
  have:=List.pairwise_iff_getElem.1 u i j (by omega) f (by omega);simpa using this
 obtain⟨p,k⟩:=Qbu (λa b:W uE=>a<b) s.toArray (λa b c r n=>by
  by_cases e:a=b
  . exact e▸n
  exact NG (SV r e) n) (λa b h z=>SV h z) g s.length (by simp)
 refine⟨?_,λx=>?_⟩
 . refine List.pairwise_map.2 (p.imp λ{a b} h=>(HH _ _).2 ?_);simpa [oneS] using h
 have o:x∈l↔oneS.tu x∈m:=by
  rw[←v,zU];refine⟨λh=>⟨x,h,rfl⟩,λ⟨y,h,e⟩=>?_⟩;have:=uU oneS.of e;rw[oneS.of_tu,oneS.of_tu] at this;exact this▸h
 rw[o,←t.mem_iff,zU];constructor
 . rintro⟨y,V,rfl⟩
   obtain⟨j,f,e⟩:=(k y).1 V;rw[d j f,getElem!_pos s j f] at e;rw[oneS.tu_of];exact e▸xA f
 intro h;obtain⟨j,f,e⟩:=xK h;exact⟨oneS.tu x,(k _).2 ⟨j,f,by rw[d j f,getElem!_pos s j f];exact e⟩,oneS.of_tu x⟩
theorem Qkz(l:W A):HG (Rb l)=T4 [] l:=
 Qky _ _ (HK l).1 (HJ l [] List.Pairwise.nil) λx=>by rw[(HK l).2,HI];simp
end
section
abbrev Ww:=W (K×Y)
def Mb(E:Ww)(L:W Y):Y:=E.foldl (λm e=>max m (nth L e.1+e.2)) 0
theorem N8(L:W Y)(x:Y):∀(E:Ww) (m:Y),E.foldl (λm e=>max m (nth L e.1+e.2)) m<=x↔m<=x/\∀e,e∈E->nth L e.1+e.2<=x
 | [],m=>by simp
 | e ::E,m=>by
   rw[List.foldl_cons,N8 L x E];constructor
   . rintro⟨b,a⟩
     refine⟨by omega,λe' he=>?_⟩;rcases zN.1 he with rfl | he
     . omega
     exact a e' he
   rintro⟨b,a⟩
   have:=a e zL;exact⟨by omega,λe' he=>a e' (zH _ he)⟩
theorem D4{E:Ww}{L:W Y}{x:Y}:Mb E L<=x↔0<=x/\∀e,e∈E->nth L e.1+e.2<=x:=N8 L x E 0
theorem T5(E:Ww)(L:W Y):0<=Mb E L:=(D4.1 (zS _)).1
theorem NI{E:Ww}{L M:W Y}(h:∀j,nth L j<=nth M j):Mb E L<=Mb E M:=
 D4.2 ⟨T5 E M,λe a=>by
  have:=(D4.1 (zS (Mb E M))).2 e a;have:=h e.1;omega⟩
theorem T6{L:W Y}{i:K}(x:Y)(j:K)(hi:i<L.length):nth (L.set i x) j=if j=i then x else nth L j:=by
 unfold nth;by_cases h:j=i
 . subst h;simp[yA,hi]
 rw[uH h];simp[yA,List.getElem?_set,xO h]
theorem HM{L:W Y}{i:K}(h:L.length<=i):nth L i=0:=by
 unfold nth;simp[yA,List.getElem?_eq_none h]
def Ak(E:K->Ww)(L:W Y)(i:K):W Y:=if nth L i<Mb (E i) L then L.set i (Mb (E i) L) else L
theorem Le(E:K->Ww)(L:W Y)(i:K):(Ak E L i).length=L.length:=by unfold Ak;split<;>simp
theorem GD(E:K->Ww)(L:W Y)(i j:K):nth L j<=nth (Ak E L i) j:=by
 unfold Ak;split
 . rename_i h;by_cases hi:i<L.length
   . rw[T6 _ _ hi];split
     . rename_i e;subst e;omega
     omega
   rw[List.set_eq_of_length_le (by omega)];omega
 omega
def rounds(E:K->Ww)(a:W K)(L:W Y):W Y:=a.foldl (Ak E) L
theorem Sd(E:K->Ww):∀(a:W K) (L:W Y),(rounds E a L).length=L.length
 | [],_=>rfl
 | i::a,L=>(Sd E a (Ak E L i)).trans (Le E L i)
theorem XJ(E:K->Ww)(j:K):∀(a:W K) (L:W Y),nth L j<=nth (rounds E a L) j
 | [],_=>zS _
 | i::a,L=>yL (GD E L i j) (XJ E j a (Ak E L i))
theorem Qg7{L M:W Y}(a:L.length=M.length)(h:∀j,nth L j=nth M j):L=M:=by
 apply List.ext_getElem a;intro i b c;have:=h i;simpa [nth,yA,b,c] using this
theorem DZ(E:K->Ww):∀(b:W K) (L:W Y),rounds E b L=L->∀i,i∈b->Ak E L i=L
 | [],_,_,i,hi=>by simp at hi
 | a ::b,L,h,i,hi=>by
   have c:Ak E L a=L:=Qg7 (Le E L a) λj=>by
    have d:=GD E L a j;have e:=XJ E j b (Ak E L a);have f:nth (rounds E b (Ak E L a)) j=nth L j:=uU (nth · j) h;omega
   rcases zN.1 hi with rfl | hi
   . exact c
   refine DZ E b L ?_ i hi;have:rounds E b (Ak E L a)=L:=h
   rwa [c] at this
theorem EA{E:K->Ww}{L:W Y}{i:K}(hi:i<L.length):Ak E L i=L↔Mb (E i) L<=nth L i:=by
 unfold Ak;constructor
 . intro h;split at h
   . rename_i a;have b:nth (L.set i (Mb (E i) L)) i=nth L i:=by rw[h]
     rw[T6 _ _ hi,uG rfl] at b;omega
   omega
 intro h;rw[uH (by omega)]
def Sat(E:K->Ww)(n:K)(g:W Y):Prop:=∀i,i<n->Mb (E i) g<=nth g i
theorem SW{E:K->Ww}{n:K}{L g:W Y}{i:K}(hi:i<n)(b:L.length=n)(a:Sat E n g)(h:∀j,nth L j<=nth g j):∀j,nth (Ak E L i) j<=nth g j:=by
 intro j;unfold Ak;split
 . rw[T6 _ _ (by omega)];split
   . rename_i e;subst e;exact yL (NI h) (a j hi)
   exact h j
 exact h j
theorem Rc{E:K->Ww}{n:K}{g:W Y}(b:Sat E n g):∀(a:W K) (L:W Y),(∀i,i∈a->i<n)->L.length=n->(∀j,nth L j<=nth g j)->∀j,nth (rounds E a L) j<=nth g j
 | [],_,_,_,h=>h
 | i::a,L,hi,hn,h=>Rc b a (Ak E L i) (λk c=>hi k (zH _ c)) ((Le E L i).trans hn) (SW (hi i zL) hn b h)
theorem Qm0:∀(m:K) (l:W Y),(∀v:K,v<m->((v:K):Y)∈l)->m<=l.length
 | 0,_,_=>yX _
 | m+1,l,h=>by
   have a:=h m (by omega);have:=Qm0 m (l.erase (m:Y)) λv b=>(List.mem_erase_of_ne (by omega)).2 (h v (by omega))
   rw[List.length_erase_of_mem a] at this;have:0<l.length:=List.length_pos_of_mem a;omega
theorem SX{L:W Y}{i:K}(h:i<L.length):nth L i∈L:=by
 have:nth L i=L[i]:=by simp[nth,yA,h]
 rw[this];exact xA h
theorem GE{L:W Y}{x:Y}(h:x∈L):∃i,i<L.length/\nth L i=x:=by
 obtain⟨i,hi,e⟩:=xK h;exact⟨i,hi,by rw[←e];simp[nth,yA,hi]⟩
theorem Qou{L:W Y}{f:Y->Y}{i:K}(h:i<L.length):nth (L.map f) i=f (nth L i):=by simp[nth,yA,h]
theorem Qdv{E:K->Ww}{n:K}{f:W Y}(u:∀i e,e∈E i->e.2<=1/\e.1<n)(h:f.length=n)(w:Sat E n f)(a:∀g:W Y,g.length=n->Sat E n g->(∀j,0<=nth g j)->∀j,nth f j<=nth g j)(o:∀j,0<=nth f j):
 ∀i,i<n->nth f i<(n:Y):=by
 intro i hi
 have l:∀v:K,(v:Y)<=nth f i->((v:K):Y)∈f:=λv y=>by
  refine zT λp=>?_
  have d:∀j,j<n->nth f j≠v:=λj b e=>p (e▸SX (by omega))
  have q:(v:Y)<nth f i:=by have:=d i hi;omega
  let g:=f.map λx=>if(v:Y)<x then x-1 else x
  have m:∀j,j<n->nth g j=if(v:Y)<nth f j then nth f j-1 else nth f j:=λj b=>Qou (by omega)
  have r:∀j,¬j<n->nth g j=0:=λj b=>HM (by simp only[g,zJ];omega)
  have z:∀j,¬j<n->nth f j=0:=λj b=>HM (by omega)
  have c:∀j,0<=nth g j:=λj=>by
   by_cases b:j<n
   . rw[m j b];have:=o j;split<;>omega
   rw[r j b];omega
  have:=a g (by simp only[g,zJ];exact h) (λk s=>D4.2 ⟨c k,λe t=>?_⟩) c i
  . rw[m i hi,uG q] at this;omega
  have V:=(D4.1 (w k s)).2 e t;obtain⟨h2,b⟩:=u k e t;have h3:=d k s;rw[m k s];have h4:=d e.1 b;rw[m e.1 b];split<;>split<;>omega
 have hp:=Qm0 ((nth f i).toNat+1) f λv y=>l v (by have:=o i;omega)
 have:=o i;omega
theorem Qg8:∀(L:W Y) (i:K) (x:Y),i<L.length->(L.set i x).sum=L.sum+(x-nth L i)
 | [],i,x,h=>by simp at h
 | a::L,0,x,_=>by simp[nth];omega
 | a::L,i+1,x,h=>by
   have:=Qg8 L i x (by simpa using h);have e:nth (a::L) (i+1)=nth L i:=rfl;rw[e,List.set_cons_succ,xM,xM,this];omega
theorem Qbx:∀(L:W Y) (N:Y),(∀x,x∈L->x<=N)->L.sum<=(L.length:Y)*N
 | [],N,_=>by simp
 | a::L,N,h=>by
   have c:=Qbx L N λx b=>h x (zH _ b)
   have d:=h a zL;rw[xM,List.length_cons,xF,Int.add_mul];omega
theorem NJ{E:K->Ww}{L:W Y}{i:K}(hi:i<L.length):L.sum<=(Ak E L i).sum/\(Ak E L i≠L->L.sum+1<=(Ak E L i).sum):=by
 unfold Ak;split
 . rename_i h;have:=Qg8 L i (Mb (E i) L) hi;omega
 exact⟨zS _,λh=>(h rfl).elim⟩
theorem Se{E:K->Ww}:∀(a:W K) (L:W Y),(∀i,i∈a->i<L.length)->L.sum<=(rounds E a L).sum/\(rounds E a L≠L->L.sum+1<=(rounds E a L).sum)
 | [],L,_=>⟨zS _,λh=>(h rfl).elim⟩
 | i::a,L,h=>by
   obtain⟨g,c⟩:=NJ (E:=E) (h i zL);obtain⟨j,d⟩:=Se (E:=E) a (Ak E L i) λk f=>by rw[Le];exact h k (zH _ f)
   show L.sum<=(rounds E a (Ak E L i)).sum/\(rounds E a (Ak E L i)≠L->L.sum+1<=(rounds E a (Ak E L i)).sum);refine⟨by omega,λb=>?_⟩;by_cases e:Ak E L i=L
   . have:=d (by rw[e] at b⊢;exact b);omega
   have:=c e;omega
def Fz(E:K->Ww)(N:Y):W K->uA×W Y->uM (uA×W Y)
 | [],s=>uC s
 | i::is,s=>if N<Mb (E i) s.2 then uF else Fz E N is (if nth s.2 i<Mb (E i) s.2 then(H,s.2.set i (Mb (E i) s.2)) else s)
theorem Gw{E:K->Ww}{N:Y}:∀(a:W K) (c:uA) (L:W Y) (s:uA×W Y),(∀i,i∈a->i<L.length)->Fz E N a (c,L)=uC s->s.2=rounds E a L/\(s.1=H->c=H\/rounds E a L≠L)/\(s.1=D->c=D/\rounds E a L=L)/\((∀j,nth L j<=N)->∀j,nth s.2 j<=N)
 | [],c,L,s,_,h=>by
   obtain rfl:=yP h;exact⟨rfl,λh=> .inl h,λh=>⟨h,rfl⟩,λh=>h⟩
 | i :: a,c,L,s,hi,h=>by
   have d:=hi i zL;have b:∀k,k∈a->k<(Ak E L i).length:=λk l=>by rw[Le];exact hi k (zH _ l)
   simp only[Fz] at h;split at h
   . cases h
   rename_i r;split at h
   . rename_i f;have g:Ak E L i=L.set i (Mb (E i) L):=by unfold Ak;rw[uG f]
     rw[←g] at h;obtain⟨n,t,o,p⟩:=Gw a H (Ak E L i) s b h
     have m:rounds E (i::a) L≠L:=λe=>by
      have:=(Se (E:=E) a (Ak E L i) b).1
      have u:=(NJ (E:=E) d).2 λe'=>by
       have:=(EA d).1 e';omega
      have v:(rounds E a (Ak E L i)).sum=L.sum:=uU List.sum e;omega
     refine⟨n,λ_=> .inr m,λh=>(by have:=(o h).1;cases this),λhb j=>p (λj=>?_) j⟩;rw[g,T6 _ _ d];split
     . omega
     exact hb j
   rename_i f;have g:Ak E L i=L:=by unfold Ak;rw[uH f]
   have q:rounds E (i::a) L=rounds E a L:=by show rounds E a (Ak E L i)=_;rw[g]
   rw[q];exact Gw a c L s (λk l=>hi k (zH _ l)) h
theorem KO{E:K->Ww}{N:Y}:∀(b:W K) (c:uA) (L:W Y),Fz E N b (c,L)=uF->∃a i,(∀k,k∈a->k∈b)/\i∈b/\N<Mb (E i) (rounds E a L)
 | [],c,L,h=>by cases h
 | i ::b,c,L,h=>by
   simp only[Fz] at h;split at h
   . rename_i f;exact⟨[],i,λk g=>by simp at g,zL,f⟩
   have key:∀c' L',L'=Ak E L i->Fz E N b (c',L')=uF->∃a k,(∀x,x∈a->x∈i::b)/\k∈i::b/\N<Mb (E k) (rounds E a L):=λc' L' e h=>by
    obtain⟨a,k,j,l,m⟩:=KO b c' L' h;subst e;refine⟨i::a,k,λx hx=>?_,zH _ l,m⟩;rcases zN.1 hx with rfl | hx
    . exact zL
    exact zH _ (j x hx)
   split at h
   . rename_i d;exact key H _ (by unfold Ak;rw[uG d]) h
   rename_i d;exact key c _ (by unfold Ak;rw[uH d]) h
def ZY(E:K->Ww)(N:Y)(n:K):K->uA×W Y->uM (uM (W Y))
 | 0,_=>uF
 | k +1,s=>match s.1 with
   | true=>(match Fz E N (zM n) (D,s.2) with
     | none=>uC uF
     | some s'=>ZY E N n k s')
   | false=>uC (uC s.2)
theorem Dv{n i:K}(h:i∈zM n):i<n:=yK.1 h
theorem EB{E:K->Ww}{n:K}:∀(k:K) (c:uA) (L:W Y),L.length=n->(∀j,nth L j<=(n:Y))->(n:Y)*(n:Y)-L.sum+2<=(k:Y)->(ZY E n n k (c,L)).isSome=H
 | 0,c,L,hl,hb,hk=>by
   have:=Qbx L n λx b=>by obtain⟨i,_,e⟩:=GE b;exact e▸hb i
   rw[hl] at this;omega
 | k+1,D,L,hl,hb,hk=>rfl
 | k + 1, H,L,hl,hb,hk=>by
   simp only[ZY];cases o:Fz E n (zM n) (D,L) with
   | none=>rfl
   | some s=>
     obtain⟨a,g,p,l⟩:=Gw (zM n) D L s (λi hi=>by rw[hl];exact Dv hi) o;obtain⟨c',L'⟩:=s;simp only at a g p l⊢;have d:L'.length=n:=by rw[a,Sd,hl]
     have m:=Se (E:=E) (zM n) L λi hi=>by rw[hl];exact Dv hi
     rw[←a] at m;cases c' with
     | false=>
       cases k with
       | zero=>
         have:=Qbx L n λx b=>by obtain⟨i,_,e⟩:=GE b;exact e▸hb i
         rw[hl] at this;omega
       | succ k=>rfl
     | true=>
       have f:L'≠L:=by
        rcases g rfl with h | h
        . cases h
        rw[a];exact h
       have:=m.2 f;exact EB k H L' d (l hb) (by omega)
def after(E:K->Ww)(n:K):K->W Y
 | 0=>zF n 0
 | k+1=>rounds E (zM n) (after E n k)
theorem Uu(E:K->Ww)(n:K):∀k,(after E n k).length=n
 | 0=>by simp[after]
 | k+1=>by rw[after,Sd,Uu E n k]
def Qe6(E:K->Ww)(n:K)(L:W Y):Prop:=rounds E (zM n) L=L
theorem WA(n j:K):nth (zF n (0:Y)) j=0:=by
 by_cases h:j<n
 . simp[nth,yA,h]
 exact HM (by simp;omega)
theorem B5(E:K->Ww)(n j:K):∀k,0<=nth (after E n k) j
 | 0=>by rw[after,WA];omega
 | k+1=>yL (B5 E n j k) (XJ E j _ _)
theorem XK{E:K->Ww}{n:K}{L:W Y}(a:L.length=n)(h:Qe6 E n L):Sat E n L:=λi hi=>(EA (by omega)).1 (DZ E _ L h i (yK.2 hi))
theorem N9{E:K->Ww}{n:K}{g:W Y}(a:Sat E n g)(b:∀j,0<=nth g j):∀k j,nth (after E n k) j<=nth g j
 | 0,j=>by rw[after,WA];exact b j
 | k+1,j=>Rc a _ _ (λi hi=>Dv hi) (Uu E n k) (N9 a b k) j
theorem Sf{E:K->Ww}{n k:K}(h:Qe6 E n (after E n k)):∀d,after E n (k+d)=after E n k
 | 0=>rfl
 | d+1=>by
   show rounds E (zM n) (after E n (k+d))=_;rw[Sf h d];exact h
theorem Qg9{E:K->Ww}{n k m:K}(a:Qe6 E n (after E n k))(b:Qe6 E n (after E n m)):after E n k=after E n m:=by
 rcases Nat.le_total k m with h | h
 . have:=Sf a (m-k);rw[show k+(m-k)=m by omega] at this;exact this.symm
 have:=Sf b (k-m)
 rwa [show m+(k-m)=k by omega] at this
theorem HN{E:K->Ww}{n:K}:∀k,(∀j,j<k->¬Qe6 E n (after E n j))->(k:Y)<=(after E n k).sum
 | 0,_=>by
   have:∀n:K,(zF n (0:Y)).sum=0:=λn=>by simp
   rw[after,this];omega
 | k+1,h=>by
   have a:=HN k λj b=>h j (by omega)
   have c:=(Se (E:=E) (zM n) (after E n k) λi hi=>by rw[Uu];exact Dv hi).2 (h k (by omega));show((k+1:K):Y)<=(rounds E (zM n) (after E n k)).sum;omega
variable {E:K->Ww} {n:K} (hw:∀i e,e∈E i->e.2<=1/\e.1<n)
include hw in
theorem SY{k:K}(h:Qe6 E n (after E n k)):∀i,i<n->nth (after E n k) i<(n:Y):=
 Qdv hw (Uu E n k) (XK (Uu E n k) h) (λ_ _ a b=>N9 a b k) λj=>B5 E n j k
include hw in
theorem Qha{k:K}(h:Qe6 E n (after E n k)):Qe6 E n (after E n (n*n+2)):=by
 have b:∃j,j<=n*n+1/\Qe6 E n (after E n j):=zT λc=>by
  have m:=HN (E:=E) (n:=n) (n*n+2) λj d a=>c ⟨j,by omega,a⟩
  have f:=Qbx (after E n (n*n+2)) n λx g=>by
   obtain⟨i,hi,e⟩:=GE g;rw[Uu] at hi;have l:=N9 (XK (Uu E n k) h) (λj=>B5 E n j k) (n*n+2) i;have:=SY hw h i hi;omega
  rw[Uu] at f;have l:((n*n+2:K):Y)=(n:Y)*(n:Y)+2:=by rw[xF,Int.natCast_mul];rfl
  omega
 obtain⟨j,d,a⟩:=b;have:=Sf a (n*n+2-j);rw[show j+(n*n+2-j)=n*n+2 by omega] at this;rw[this];exact a
include hw in
theorem WB:∀(k m:K) (c:uA) (r:uM (W Y)),(c=D->Qe6 E n (after E n m))->ZY E n n k (c,after E n m)=uC r->
 (∀L,r=uC L->Qe6 E n (after E n (n*n+2))/\L=after E n (n*n+2))/\(r=uF->¬Qe6 E n (after E n (n*n+2)))
 | 0,m,c,r,_,h=>by cases h
 | k+1,m,D,r,g,h=>by
   obtain rfl:=yP h;have d:=g rfl;have t:=Qha hw d;refine⟨λL e=>⟨t, ?_⟩,λe=>by cases e⟩;obtain rfl:=yP e;exact Qg9 d t
 | k +1,m,H,r,_,h=>by
   simp only[ZY] at h;have l:∀i,i∈zM n->i<(after E n m).length:=λi hi=>by rw[Uu];exact Dv hi
   cases b:Fz E n (zM n) (D,after E n m) with
   | none=>
     rw[b] at h;obtain rfl:=yP h;refine⟨λL e=>(by cases e),λ_ d=>?_⟩;obtain⟨o,i,f,u,p⟩:=KO _ _ _ b;have a:=XK (Uu E n _) d;have v:=Rc a o (after E n m) (λi hi=>Dv (f i hi)) (Uu E n m) (N9 a (λj=>B5 E n j _) m);have q:=NI (E:=E i) v;have x:=a i (Dv u);have y:=SY hw d i (Dv u);omega
   | some s=>
     rw[b] at h;obtain⟨f,_,p,_⟩:=Gw _ _ _ s l b;obtain⟨c',L'⟩:=s;simp only at f p h;have e:L'=after E n (m+1):=f;subst e;refine WB k (m+1) c' r (λg=>?_) h;have q:=(p g).2;show rounds E (zM n) (after E n (m+1))=after E n (m+1);have w:after E n (m+1)=after E n m:=q;rw[w];exact q
omit hw
def ZG(i:K)(L:W Y)(e:K×Y):W Y:=if nth L i<nth L e.1+e.2 then L.set i (nth L e.1+e.2) else L
def D5(i:K)(E:Ww)(L:W Y):W Y:=E.foldl (ZG i) L
theorem Oa(i:K)(L:W Y)(e:K×Y):(ZG i L e).length=L.length:=by unfold ZG;split<;>simp
theorem Lf(i:K):∀(E:Ww) (L:W Y),(D5 i E L).length=L.length
 | [],_=>rfl
 | e::E,L=>(Lf i E (ZG i L e)).trans (Oa i L e)
theorem WC{i:K}{L:W Y}(e:K×Y)(hi:i<L.length)(j:K):nth (ZG i L e) j=if j=i then max (nth L i) (nth L e.1+e.2) else nth L j:=by
 unfold ZG;split
 . rw[T6 _ _ hi];split<;>omega
 split
 . rename_i h;subst h;omega
 rfl
theorem NK{i:K}:∀(E:Ww) {L M:W Y},i<M.length->(∀j,j≠i->nth M j=nth L j)->nth L i<=nth M i->(∀e,e∈E->e.1=i->e.2<=0)->∀j,nth (D5 i E M) j=if j=i then E.foldl (λm e=>max m (nth L e.1+e.2)) (nth M i) else nth L j
 | [],L,M,hi,hj,h0,hs,j=>by
   show nth M j=_;split
   . rename_i e;subst e;rfl
   rename_i e;exact hj j e
 | e ::E,L,M,hi,hj,h0,hs,j=>by
   show nth (D5 i E (ZG i M e)) j=_;have hb:=WC e hi
   have a:nth (ZG i M e) i=max (nth M i) (nth L e.1+e.2):=by
    rw[hb,uG rfl];by_cases b:e.1=i
    . have:=hs e zL b;rw[b];omega
    rw[hj e.1 b]
   rw[NK E (L:=L) (M:=ZG i M e) (by rw[Oa];exact hi) (λk d=>by rw[hb,uH d];exact hj k d) (by rw[a];omega) (λe' c=>hs e' (zH _ c)) j,a,List.foldl_cons]
theorem Qk0(L:W Y):∀(E:Ww) (m:Y),0<=m->E.foldl (λm e=>max m (nth L e.1+e.2)) m=max m (Mb E L):=λE m d=>by
 have a:=N8 L (E.foldl (λm e=>max m (nth L e.1+e.2)) m) E m;have b:=a.1 (zS _);have f:Mb E L<=E.foldl (λm e=>max m (nth L e.1+e.2)) m:=D4.2 ⟨by omega,b.2⟩;have g:=(N8 L (max m (Mb E L)) E m).2 ⟨by omega,λe c=>by have:=(D4.1 (zS (Mb E L))).2 e c;omega⟩;omega
theorem Qk1{E:K->Ww}{L:W Y}{i:K}(hi:i<L.length)(b:0<=nth L i)(c:∀e,e∈E i->e.1=i->e.2<=0):D5 i (E i) L=Ak E L i:=
 Qg7 ((Lf i (E i) L).trans (Le E L i).symm) λj=>by
  rw[NK (E i) hi (λ_ _=>rfl) (zS _) c,Qk0 _ _ _ b];unfold Ak;by_cases a:nth L i<Mb (E i) L
  . rw[uG a,T6 _ _ hi];split<;>omega
  rw[uH a];split
  . rename_i e;subst e;omega
  rfl
theorem WD{i:K}:∀(E:Ww) {L:W Y},i<L.length->∀j,nth L j<=nth (D5 i E L) j
 | [],_,_,_=>zS _
 | e::E,L,hi,j=>by
   have b:=WD E (L:=ZG i L e) (by rw[Oa];exact hi) j;have a:=WC e hi j;show _<=nth (D5 i E (ZG i L e)) j;split at a
   . rename_i h;subst h;omega
   omega
theorem EC{i:K}:∀(E:Ww) {L:W Y},i<L.length->(∃e,e∈E/\e.1=i/\1<=e.2)->nth L i+1<=nth (D5 i E L) i
 | [],_,_,⟨e,he,_⟩=>by simp at he
 | e::E,L,hi,⟨e',he,h1,h2⟩=>by
   have a:=WC e hi i;rw[uG rfl] at a;have hb:=WD E (L:=ZG i L e) (by rw[Oa];exact hi) i;show _<=nth (D5 i E (ZG i L e)) i;rcases zN.1 he with rfl | he
   . rw[h1] at a;omega
   have:=EC E (L:=ZG i L e) (by rw[Oa];exact hi) ⟨e',he,h1,h2⟩;omega
def Dd(E:K->Ww)(a:W K)(L:W Y):W Y:=a.foldl (λL i=>D5 i (E i) L) L
theorem T7(E:K->Ww):∀(a:W K) (L:W Y),(Dd E a L).length=L.length
 | [],_=>rfl
 | i::a,L=>(T7 E a (D5 i (E i) L)).trans (Lf i _ L)
theorem ZZ{E:K->Ww}(c:∀i e,e∈E i->e.1=i->e.2<=0):∀(a:W K) (L:W Y),(∀i,i∈a->i<L.length)->(∀j,0<=nth L j)->Dd E a L=rounds E a L
 | [],_,_,_=>rfl
 | i::a,L,hi,h0=>by
   have b:=hi i zL;show Dd E a (D5 i (E i) L)=rounds E a (Ak E L i);rw[Qk1 b (h0 i) (c i)];exact ZZ c a _ (λk d=>by rw[Le];exact hi k (zH _ d)) λj=>yL (h0 j) (GD E L i j)
theorem ED{E:K->Ww}:∀(a:W K) (L:W Y),(∀i,i∈a->i<L.length)->∀j,nth L j<=nth (Dd E a L) j
 | [],_,_,_=>zS _
 | i::a,L,hi,j=>yL (WD (E i) (hi i zL) j) (ED a (D5 i (E i) L) (λk b=>by rw[Lf];exact hi k (zH _ b)) j)
theorem KP{E:K->Ww}{i:K}(b:∃e,e∈E i/\e.1=i/\1<=e.2):∀(a:W K) (L:W Y),(∀i,i∈a->i<L.length)->i∈a->nth L i+1<=nth (Dd E a L) i
 | [],_,_,h=>by simp at h
 | k::a,L,hi,h=>by
   have c:=hi k zL;have d:∀x,x∈a->x<(D5 k (E k) L).length:=λx f=>by rw[Lf];exact hi x (zH _ f)
   show _<=nth (Dd E a (D5 k (E k) L)) i;have g:=WD (E k) c i;have j:=ED (E:=E) a (D5 k (E k) L) d i;rcases zN.1 h with rfl | h
   . have:=EC (E i) c b;omega
   have:=KP b a (D5 k (E k) L) d h;omega
def B6(E:K->Ww)(n:K):K->W Y
 | 0=>zF n 0
 | k+1=>Dd E (zM n) (B6 E n k)
theorem Sg(E:K->Ww)(n:K):∀k,(B6 E n k).length=n
 | 0=>by simp[B6]
 | k+1=>by rw[B6,T7,Sg E n k]
theorem NL{E:K->Ww}{n:K}(a:∀i e,e∈E i->e.1=i->e.2<=0):∀k,B6 E n k=after E n k
 | 0=>rfl
 | k+1=>by
   rw[B6,after,NL a k];exact ZZ a _ _ (λi hi=>by rw[Uu];exact Dv hi) λj=>B5 E n j k
theorem Qhb{E:K->Ww}{n:K}(f:∀i e,e∈E i->e.2<=1/\e.1<n/\i<n){k:K}{r:uM (W Y)}(h:ZY E n n k (H,zF n 0)=uC r):
 (Dd E (zM n) (B6 E n (n*n+2))=B6 E n (n*n+2)->r=uC (B6 E n (n*n+2)))/\(Dd E (zM n) (B6 E n (n*n+2))≠B6 E n (n*n+2)->r=uF):=by
 have g:∀i e,e∈E i->e.2<=1/\e.1<n:=λi e c=>⟨(f i e c).1,(f i e c).2.1⟩
 obtain⟨l,q⟩:=WB g k 0 H r (λe=>by cases e) h;by_cases a:∃i,∃e,e∈E i/\e.1=i/\1<=e.2
 . obtain ⟨i,e,c,b,s⟩:=a;have hi:i<n:=(f i e c).2.2
   have m:Dd E (zM n) (B6 E n (n*n+2))≠B6 E n (n*n+2):=λo=>by
    have:=KP (E:=E) ⟨e,c,b,s⟩ (zM n) (B6 E n (n*n+2)) (λk t=>by rw[Sg];exact Dv t) (yK.2 hi);rw[o] at this;omega
   refine⟨λh=>(m h).elim,λ_=>?_⟩;cases r with
   | none=>rfl
   | some L=>
     obtain⟨d,_⟩:=l L rfl;have u:=XK (Uu E n _) d i hi;have v:=(D4.1 u).2 e c;rw[b] at v;omega
 have p:∀i e,e∈E i->e.1=i->e.2<=0:=λi e c b=>zT λw=>a ⟨i,e,c,b,by omega⟩
 rw[NL p,ZZ p _ _ (λi hi=>by rw[Uu];exact Dv hi) λj=>B5 E n j _];refine⟨λd=>?_,λd=>?_⟩
 . cases r with
   | none=>exact(q rfl d).elim
   | some L=>rw[(l L rfl).2]
 cases r with
 | none=>rfl
 | some L=>exact(d (l L rfl).1).elim
end
section
open Go.Shelf
def Sh.lays156_ren:Go.Shelf.Ren:=⟨λ| 156=>257 | 165=>300 | 166=>301 | 169=>302 | 240=>345 | 241=>346 | 276=>366 | 277=>367 | n=>n,λ| 31=>175 | 9=>9 | 3=>3 | 4=>4 | 0=>0 | 20=>20 | 72=>333 | 76=>257 | 70=>331 | 37=>191 | 75=>256 | 127=>364 | 164=>388 | 5=>5 | 80=>335 | n=>n,λ| n=>n⟩
theorem Sh.lays156:Go.Proofs.Lays.n156 vC Sh.lays156_ren:=by constructor<;>intros<;>kernel_rfl
theorem Sh.Builder_Extra_156:Builder.Extra vC Sh.lays156_ren:={
 sizeBuilder:=by kernel_rfl
 liesBuilder:=by kernel_rfl
 t5:=underlying5
 a5:=Tryz.isAgg5
 z5:=Tryz.sizeOf5
 v5:=Tryz.zeroValue5
 infoByte:=by kernel_rfl
 cellsByte:=by kernel_rfl
 sizeByte:=by kernel_rfl
 neB5:=by decide}
open Go.RowKit in
theorem Sh.strings_Join_none(a:uM Addr)(c:K)(b:A)(w:uD):
 Calls vC 257 #[.slice a 0 c,.string b] w λe w'=>e= .returned (.string ⟨#[]⟩)/\w'=w:=Any.strings_Join_none Sh.lays156 Sh.Builder_Extra_156 a c b w
open Go.RowKit in
theorem Sh.strings_Join(g o c:K)(xs:W A)(a:A)(w:uD)(b:∀(j:K) x,xs[j]? =uC x->w.cell? ⟨g,o+j,uF⟩=uC (.string x))(h:g<w.heap.size)(i:xs.length<=140737488355328)(d:xs.length<=c)(f:(Lib.join (xs.map (·.data.toList)) a.data.toList).length<=140737488355328):
 Calls vC 257 #[.slice (uC ⟨g,o,uF⟩) xs.length c,.string a] w λe w'=>e= .returned (.string ⟨(Lib.join (xs.map (·.data.toList)) a.data.toList).toArray⟩)/\Below w.heap.size w w':=Any.strings_Join Sh.lays156 Sh.Builder_Extra_156 g o c xs a w b h i d f
def Sh.lays172_ren:Go.Shelf.Ren:=⟨λ| 172=>201 | 244=>252 | 245=>253 | 247=>291 | 279=>292 | 280=>293 | 281=>294 | 282=>295 | 287=>336 | 316=>337 | 171=>254 | 205=>338 | 321=>358 | 322=>359 | 243=>296 | 246=>339 | 283=>360 | 284=>361 | 285=>362 | 286=>363 | 129=>327 | 317=>370 | 318=>371 | 319=>372 | 320=>373 | 337=>384 | 338=>385 | n=>n,λ| 9=>9 | 3=>3 | 75=>256 | 76=>257 | 4=>4 | 5=>5 | 167=>321 | 37=>191 | 0=>0 | 85=>322 | 2=>2 | 168=>324 | 53=>354 | 175=>357 | 46=>302 | 210=>361 | 127=>364 | 145=>381 | 143=>379 | 21=>21 | 171=>382 | 173=>384 | 212=>396 | 51=>352 | 20=>20 | 213=>397 | 232=>422 | 233=>423 | 80=>335 | n=>n,λ| 15=>1 | 16=>2 | 17=>6 | 18=>8 | 19=>9 | n=>n⟩
theorem Sh.lays172:Go.Proofs.Lays.n172 vC Sh.lays172_ren:=by constructor<;>intros<;>kernel_rfl
open Go.RowKit in
theorem Sh.strconv_Atoi(s:A)(n:Y)(a:s.size<=18)(h:Lib.atoi s.data.toList=uC n)(w:uD):
 Calls vC 201 #[.string s] w λe w'=>e= .returned (.tuple #[.int .i64 n,.nilIface])/\∃t,w'=Lib.bytesWorld w 5 t:=Any.strconv_Atoi Sh.lays172 s n a h w
def Sh.laysM171_ren:Go.Shelf.Ren:=⟨λ| 171=>254 | 243=>296 | 246=>339 | 283=>360 | 284=>361 | 285=>362 | 286=>363 | 129=>327 | 317=>370 | 318=>371 | 319=>372 | 320=>373 | 337=>384 | 338=>385 | n=>n,λ| 3=>3 | 9=>9 | 2=>2 | 4=>4 | 171=>382 | 0=>0 | 53=>354 | 37=>191 | 5=>5 | 173=>384 | 212=>396 | 51=>352 | 20=>20 | 213=>397 | 46=>302 | 232=>422 | 233=>423 | n=>n,λ| 17=>6 | 18=>8 | 19=>9 | n=>n⟩
theorem Sh.laysM171:Go.Proofs.LaysM.n171 vC Sh.laysM171_ren:=by constructor<;>intros<;>first | kernel_rfl | (constructor<;>intros<;>kernel_rfl)
open Go.RowKit Go.Sort Go.Lib in
theorem Sh.strconv_Itoa (n : Int) (h0 : -9223372036854775808 ≤ n) (h1 : n ≤ 9223372036854775807) (w : World) (htab : Lib.TabIs Tryz.prog w "internal/strconv.uint64pow10" .u64 Lib.pow10Tab) :
 Calls vC 254 #[.int .i64 n] w λe w'=>e= .returned (.string ⟨(Lib.itoa n).toArray⟩)/\∃k os,w'=grow (w.drewN k) os:=Any.strconv_Itoa Sh.laysM171 n h0 h1 w htab
def Sh.laysC172_ren:Go.Shelf.Ren:=⟨λ| 172=>201 | 244=>252 | 245=>253 | 247=>291 | 279=>292 | 280=>293 | 281=>294 | 282=>295 | 287=>336 | 316=>337 | 171=>254 | 205=>338 | 321=>358 | 322=>359 | 243=>296 | 246=>339 | 283=>360 | 284=>361 | 285=>362 | 286=>363 | 129=>327 | 317=>370 | 318=>371 | 319=>372 | 320=>373 | 337=>384 | 338=>385 | n=>n,λ| 9=>9 | 3=>3 | 75=>256 | 76=>257 | 4=>4 | 5=>5 | 167=>321 | 37=>191 | 0=>0 | 85=>322 | 2=>2 | 168=>324 | 53=>354 | 175=>357 | 46=>302 | 210=>361 | 127=>364 | 145=>381 | 143=>379 | 21=>21 | 171=>382 | 173=>384 | 212=>396 | 51=>352 | 20=>20 | 213=>397 | 232=>422 | 233=>423 | 80=>335 | n=>n,λ| 15=>1 | 16=>2 | 17=>6 | 18=>8 | 19=>9 | n=>n⟩
theorem Sh.laysC172:Go.Proofs.LaysC.n172 vC Sh.laysC172_ren:=by constructor<;>intros<;>first | kernel_rfl | (constructor<;>intros<;>first | kernel_rfl | (constructor<;>intros<;>kernel_rfl))
open Go.RowKit in
theorem Sh.strconv_Atoi_err_var (s : ByteArray) (hl : s.size ≤ 18) (h : Lib.atoi s.data.toList = none) (tp : TypeId) (p : Value) (w : World) (hvar : w.var? Tryz.prog "strconv.ErrSyntax" = some #[.iface tp p]) :
 Calls vC 201 #[.string s] w λe w'=>∃N,e= .returned (.tuple #[.int .i64 0,.iface 324 (.pointer (uC ⟨N,0,uF⟩))])/\w.heap.size<=N/\w'.heap[N]? =uC (.cells #[.string ⟨#[65,116,111,105]⟩,.string s,.iface tp p] 361 (0,0))/\Below w.heap.size w w':=Any.strconv_Atoi_err_var Sh.laysC172 s hl h tp p w hvar
def Sh.lays189_ren:Go.Shelf.Ren:=⟨λ| 189=>221 | 125=>270 | 257=>269 | 128=>326 | 129=>327 | 294=>317 | 295=>318 | 296=>319 | 297=>320 | 298=>321 | 299=>322 | 216=>323 | 300=>324 | 301=>325 | 328=>350 | 329=>351 | 330=>352 | 331=>353 | 332=>354 | 215=>355 | 343=>369 | n=>n,λ| 28=>34 | 3=>3 | 46=>302 | 0=>0 | 51=>352 | 53=>354 | 4=>4 | 183=>345 | 182=>344 | 131=>202 | 5=>5 | 9=>9 | 218=>366 | 222=>370 | 228=>392 | 229=>393 | n=>n,λ| n=>n⟩
theorem Sh.lays189:Go.Proofs.Lays.n189 vC Sh.lays189_ren:=by constructor<;>intros<;>kernel_rfl
open Go.Sort Go.RowKit in
theorem Sh.slices_Sort_int(blk off cap:K)(a:W Y)(w:uD)(d:Holds (Value.int .i64) w blk off a.toArray)(b:blk<w.heap.size)(c:a.length<4611686018427387904):
 Calls vC 221 #[.slice (uC ⟨blk,off,uF⟩) a.length cap] w λe w'=>
  e= .returned (.tuple #[])/\∃n os,w'=grow (putRow (Value.int .i64) (Sort.ahead w n) blk off (a.mergeSort λx y=>decide (x<=y)).toArray) os:=Any.slices_Sort_int Sh.lays189 blk off cap a w d b c
def Sh.lays190_ren:Go.Shelf.Ren:=⟨λ| 190=>348 | 125=>270 | 258=>368 | 128=>326 | 129=>327 | 302=>375 | 303=>376 | 304=>377 | 305=>378 | 306=>379 | 307=>380 | 308=>381 | 309=>382 | 310=>383 | 333=>388 | 329=>351 | 330=>352 | 334=>389 | 335=>390 | 336=>391 | 344=>392 | n=>n,λ| 31=>175 | 9=>9 | 3=>3 | 46=>302 | 0=>0 | 51=>352 | 53=>354 | 4=>4 | 183=>345 | 182=>344 | 131=>202 | 5=>5 | 218=>366 | 222=>370 | 228=>392 | 229=>393 | n=>n,λ| n=>n⟩
theorem Sh.lays190:Go.Proofs.Lays.n190 vC Sh.lays190_ren:=by constructor<;>intros<;>kernel_rfl
open Go.Sort Go.RowKit in
theorem Sh.slices_Sort_string(blk off cap:K)(a:W (W uE))(w:uD)(d:Holds encStr w blk off a.toArray)(b:blk<w.heap.size)(c:a.length<4611686018427387904):
 Calls vC 348 #[.slice (uC ⟨blk,off,uF⟩) a.length cap] w λe w'=>
  e= .returned (.tuple #[])/\∃n os,w'=grow (putRow encStr (Sort.ahead w n) blk off (a.mergeSort λx y=>decide (x<=y)).toArray) os:=Any.slices_Sort_string Sh.lays190 blk off cap a w d b c
def Sh.lays146_ren:Go.Shelf.Ren:=⟨λ| 146=>161 | 221=>200 | 268=>249 | 138=>250 | 143=>251 | 195=>287 | 197=>288 | 218=>289 | 219=>290 | 260=>331 | 217=>332 | 225=>333 | 224=>334 | 267=>335 | 266=>356 | 314=>357 | n=>n,λ| 9=>9 | 31=>175 | 3=>3 | 4=>4 | 0=>0 | 105=>318 | 21=>21 | 5=>5 | 46=>302 | 119=>372 | 139=>375 | 138=>374 | 146=>376 | 51=>352 | n=>n,λ| 1=>0 | 3=>3 | 4=>4 | n=>n⟩
theorem Sh.lays146:Go.Proofs.Lays.n146 vC Sh.lays146_ren:=by constructor<;>intros<;>kernel_rfl
open Go.RowKit Go.Lib in
theorem Sh.strings_Split(s a:A)(m:Y)(w:uD)(b:s.size<4294967281)(c:w.cell? ⟨0,0,uF⟩=uC (.int .i64 m))(d:1<=a.size):
 Calls vC 161 #[.string s,.string a] w λe w'=>
  e= .returned (.slice (uC ⟨w.heap.size,0,uF⟩) (Lib.countB s a+1) (Lib.countB s a+1))/\w'=w.alloc (.cells ((Lib.splitB a 0 (Lib.countB s a) s).map Value.string).toArray 9):=Any.strings_Split Sh.lays146 (by kernel_rfl) s a m w b c d
def Sh.lays157_ren:Go.Shelf.Ren:=⟨λ| 157=>342 | 229=>364 | 199=>365 | 261=>374 | 311=>386 | 312=>387 | n=>n,λ| 9=>9 | 31=>175 | 3=>3 | 5=>5 | 4=>4 | 119=>372 | 0=>0 | 40=>387 | 152=>398 | 21=>21 | 154=>400 | 51=>352 | 141=>402 | 196=>412 | 193=>409 | 198=>415 | 49=>413 | 194=>410 | 201=>418 | 226=>424 | 46=>302 | 227=>425 | n=>n,λ| 0=>5 | 6=>7 | n=>n⟩
theorem Sh.lays157:Go.Proofs.Lays.n157 vC Sh.lays157_ren:=by constructor<;>intros<;>kernel_rfl
open Go.RowKit Go.Lib in
theorem Sh.strings_Fields (s : ByteArray) (w : World) (hs : s.size < 4294967281) (hascii : ∀ (j : Nat) b, s.data.toList[j]? = some b → b.toNat < 128) (htab : Lib.TabIs Tryz.prog w "strings.asciiSpace" .u8 Lib.asciiSpaceTab) :
 Calls vC 342 #[.string s] w λe w'=>
  e= .returned (.slice (uC ⟨w.heap.size,0,uF⟩) (Lib.fields s.data.toList).length (Lib.fields s.data.toList).length)/\w'=w.alloc (.cells ((Lib.fields s.data.toList).map λl=>Value.string ⟨l.toArray⟩).toArray 9):=Any.strings_Fields Sh.lays157 (by kernel_rfl) (by kernel_rfl) s w hs hascii htab
def Sh.laysNm220_ren:Go.Shelf.Ren:=⟨λ| 20=>222 | n=>n,λ| 22=>34 | 3=>3 | 4=>4 | 0=>0 | n=>n,λ| n=>n⟩
theorem Sh.laysNm220:Go.Proofs.Lays2.n20 vC Sh.laysNm220_ren:=by constructor<;>intros<;>first | kernel_rfl | (constructor<;>intros<;>kernel_rfl)
open Go.RowKit Go.Lib Go.Sort in
theorem Sh.slices_Compact_int(blk off cap:K)(a:W Y)(w:uD)(d:Holds (Value.int .i64) w blk off a.toArray)(c:a.length<=9223372036854775807)(b:a.length<=cap):
 Calls vC 222 #[.slice (uC ⟨blk,off,uF⟩) a.length cap] w λe w'=>e= .returned (.slice (uC ⟨blk,off,uF⟩) (Lib.compact a).length cap)/\∃q,w'=putRow (Value.int .i64) (Sort.ahead w q) blk off (Lib.compact a++zF (a.length-(Lib.compact a).length) 0).toArray:=Any.slices_Compact_int Sh.laysNm220 blk off cap a w d c b
open Go.RowKit Go.Lib Go.Sort in
theorem Sh.slices_Compact_int_empty(a:uM Addr)(cap:K)(w:uD):
 Calls vC 222 #[.slice a 0 cap] w λe w'=>e= .returned (.slice a 0 cap)/\w'=w:=Any.slices_Compact_int_empty Sh.laysNm220 a cap w
def Sh.lays194_ren:Go.Shelf.Ren:=⟨λ| 194=>349 | n=>n,λ| 31=>175 | 9=>9 | 3=>3 | 4=>4 | 0=>0 | n=>n,λ| n=>n⟩
theorem Sh.lays194:Go.Proofs.Lays.n194 vC Sh.lays194_ren:=by constructor<;>intros<;>kernel_rfl
open Go.RowKit Go.Lib Go.Sort in
theorem Sh.slices_Compact_string(blk off cap:K)(a:W (W uE))(w:uD)(d:Holds encStr w blk off a.toArray)(c:a.length<=9223372036854775807)(b:a.length<=cap):
 Calls vC 349 #[.slice (uC ⟨blk,off,uF⟩) a.length cap] w λe w'=>e= .returned (.slice (uC ⟨blk,off,uF⟩) (Lib.compact a).length cap)/\∃q,w'=putRow encStr (Sort.ahead w q) blk off (Lib.compact a++zF (a.length-(Lib.compact a).length) []).toArray:=Any.slices_Compact_string Sh.lays194 blk off cap a w d c b
open Go.RowKit Go.Lib Go.Sort in
theorem Sh.slices_Compact_string_empty(a:uM Addr)(cap:K)(w:uD):
 Calls vC 349 #[.slice a 0 cap] w λe w'=>e= .returned (.slice a 0 cap)/\w'=w:=Any.slices_Compact_string_empty Sh.lays194 a cap w
open Go.RowKit Go.Sort in
theorem Sh.slices_Sort_string_none(p:uM Addr)(cap:K)(w:uD):
 Calls vC 348 #[.slice p 0 cap] w λe w'=>e= .returned (.tuple #[])/\w'=w:=Any.slices_Sort_string_none Sh.lays190 p cap w
open Go.RowKit Go.Sort in
theorem Sh.slices_Sort_int_none(p:uM Addr)(cap:K)(w:uD):
 Calls vC 221 #[.slice p 0 cap] w λe w'=>e= .returned (.tuple #[])/\w'=w:=Any.slices_Sort_int_none Sh.lays189 p cap w
end
section
open Go.RowKit
theorem Qov(l:W Y):ATake vC 221 1 (eL l) [] D H (eL (ZX l)):=by
 have h:=DX Qsb (P:=vC) (f:=221) (by unfold Fr;kernel_rfl) (λl=>l.mergeSort λx y=>decide (x<=y)) (λl=>yC _) (λl x h=>(yR l _).mem_iff.1 h) (λoa cap w=>Sh.slices_Sort_int_none oa cap w) (λg cap l w h a b=>Sh.slices_Sort_int g 0 cap l w h a b) l;simpa [Qsb,ZX,ND] using h
theorem Qow(l:W Y):ATake vC 222 1 (eL l) [] D D (eL (ND l)):=by
 have h:=DY Qsb (P:=vC) (f:=222) (by unfold Fr;kernel_rfl) Lib.compact Sc Qbr (λoa cap w=>Sh.slices_Compact_int_empty oa cap w) (λg cap l w h a b=>(Sh.slices_Compact_int g 0 cap l w h a b).mono (by rintro e w' ⟨c,q,d⟩;exact⟨c,q,_,by have:=Sc l;simp;omega,d⟩)) l;simpa [Qsb,ZX,ND] using h
theorem Qox(l:W A):ATake vC 348 1 (eL l) [] D H (eL (Rb l)):=by
 have h:=DX oneS (P:=vC) (f:=348) (by unfold Fr;kernel_rfl) (λl=>l.mergeSort λx y=>decide (x<=y)) (λl=>yC _) (λl x h=>(yR l _).mem_iff.1 h) (λoa cap w=>Sh.slices_Sort_string_none oa cap w) (λg cap l w h a b=>Sh.slices_Sort_string g 0 cap l w h a b) l;exact h
theorem Qoy(l:W A):ATake vC 349 1 (eL l) [] D D (eL (HG l)):=by
 have h:=DY oneS (P:=vC) (f:=349) (by unfold Fr;kernel_rfl) Lib.compact Sc Qbr (λoa cap w=>Sh.slices_Compact_string_empty oa cap w) (λg cap l w h a b=>(Sh.slices_Compact_string g 0 cap l w h a b).mono (by rintro e w' ⟨c,q,d⟩;exact⟨c,q,_,by have:=Sc l;simp;omega,d⟩)) l;exact h
open GoE (enc wide)
def It(a:A)(b:K)(c:A)(_:uB):Rd Z (uB) (Y):=(bif (Op.bytesLess c.toList a.toList) then(.next ()) else(.brk (b:Y)))
def Iu(a:K)(_:uB):Y:=(a:Y)
def I5(a:Z)(c:A):Z:=(Out.on (X8 (It c) Iu a 0 ()) (λb=>(bif (decide (b<(a.length:Y))&&((nth a b.toNat).toList==c.toList)) then a else zR b.toNat a++ [c]++(yF b.toNat a))))
theorem NM(a:Z)(c:A)(w:a.length<1073741824):ACalls vC 330 [.h a,.s c] (.h (I5 a c)):=by
 refine en func330 λ_ _ _=>sn [0,1,4] [] p0 ?_
 refine tn [0,1,4,5] [] p0<|Qa<|mz [(4,.e 0),(5,.i 0)] [] [] []<|wT 0 0 .sh a (λg p=>?_)
 refine Qta (It c) Iu a () (λd _=> [(5,.i (d:Y))]) [5] (λb=> [(5,.i b)]) [5] (λb=>0<=b/\b<=(a.length:Y)) wf0 (λd q O U=>?_) (λd q O U=>?_) (λb e=>?_)
 ·obtain⟨r,V⟩:=Xo (l:=a) (i:=d) O;refine Qa<|sn [0,1,4,5,18] [] (pl 2 a (pe 3 (zB ((d:Y)<(a.length:Y))) (pn 7 V p0)))<|ck (Op.bytesLess r.toList c.toList) (λh=>?_) (λh=>?_)
  ·refine Qd<|Qp<|qn [0,1,4,5] [] (pw 1 d p0) ?_
   exact xw _ (Qr V (Xg h rfl) U)
  exact Xa<|xw (d:Y) ⟨Qbm V (Qi h rfl) U,by first|omega|(simp only[zG];omega)⟩
 ·exact Qa<|sn [0,1,4,5,18] [] (pl 2 a (pe 3 (zC ((d:Y)<(a.length:Y))) p0))<|ckF<|Xa<|xw (d:Y) ⟨Xq O rfl U,by first|omega|(simp only[zG];omega)⟩
 have j:=e.2;refine Qa<|Qa<|jn [(32,.b (decide (b<(a.length:Y))&&((nth a b.toNat).toList==c.toList)))] [] [] [] (decide (b<(a.length:Y))) (λf=>?_) (λf=>?_) ?_
 ·have s:=uJ f;have k:=ng a b.toNat;refine rn [0,1,4,5,32] [] (pl 2 a (pt 3 f (pg 7 b k p0))) ?_;exact zA (by rw[f]<;>kernel_rfl)
 ·refine rn [0,1,4,5,32] [] (pl 2 a (pf 3 f p0)) ?_;exact zA (by rw[f]<;>kernel_rfl)
 refine ck (decide (b<(a.length:Y))&&((nth a b.toNat).toList==c.toList)) (λm=>?_) (λm=>?_)
 ·exact sn [0,1,4,5] [] p0<|Qc<|ph0 [] (Vx e.1 (Xg m rfl))
 refine Qd ?_;have t:zD (zR b.toNat a)<=1073741824:=Du (MU b.toNat (g));refine su [(6,.one (.slc (.own H 2624) 1 (([]++(eL (zR b.toNat a)))++ [[.s c]])))] [1,32] [] [] (pe 3 (SO .sh 1 b.toNat b a rfl) (px (Gt (lo:=0) (hi:=b) (n:=(zD (eL a))) (Qgm (by omega) (by omega) (by omega))) (po 4 (.flat) (px (Db (n:=(([]:W (W PV)).length+((eL (zR b.toNat a)):W (W PV)).length)) (Eo rfl (Yu (zR b.toNat a)) (by first|omega|(simp only[List.length_cons,List.length_nil];omega) | (simp;omega) | simp))) (px (Ae (Uz (zR b.toNat a))) (px (Db (n:=((([]++(eL (zR b.toNat a))):W (W PV)).length+([[.s c]]:W (W PV)).length)) (by simp[Yu];omega)) p0))))))<|eqn [(6,.o 2624 (zR b.toNat a++ [c]))] [6] [] [] (by rw[show(([]++(eL (zR b.toNat a)))++ [[.s c]])=(eL (zR b.toNat a++ [c])) from Jg rfl (rfl)]<;>kernel_rfl) ?_
 refine wT 6 0 (.own H 2624) (zR b.toNat a++ [c]) (λu v=>?_);have o:zD (yF b.toNat a)<=1073741824:=Du (MV b.toNat (g));refine su [(4,.one (.slc (.own H 2944) 1 ((eL (zR b.toNat a++ [c]))++(eL (yF b.toNat a)))))] [0,4,5,6] [] [] (pe 3 (Tz .sh 1 b.toNat b a rfl) (px (Gt (lo:=b) (hi:=(((eL a):W (W PV)).length:Y)) (n:=(zD (eL a))) (T0 (by omega) (by omega))) (po 4 (.flat) (pa (zR b.toNat a++ [c]) (yF b.toNat a) (px (Ae (Uz (yF b.toNat a))) p0)))))<|eqn [(4,.o 2944 (zR b.toNat a++ [c]++(yF b.toNat a)))] [4] [] [] (by rw[show((eL (zR b.toNat a++ [c]))++(eL (yF b.toNat a)))=(eL (zR b.toNat a++ [c]++(yF b.toNat a))) from Jg rfl (rfl)]<;>kernel_rfl) ?_
 exact Qc<|ph0 [2944] (Vx e.1 (Qi m rfl))
theorem toList_inj{a b:A}:(a.toList==b.toList)=decide (a=b):=by
 rw[ByteArray.toList_eq,ByteArray.toList_eq,yQ];simp only[uX,uR];exact⟨λh=>ByteArray.ext (Array.ext' h),λh=>h▸rfl⟩
def Ft(l:W A)(s:A):K:=(l.takeWhile λx=>bl x s).length
theorem HP(a:A)(l:W A)(s:A):Ft (a::l) s=if bl a s=H then Ft l s+1 else 0:=by
 unfold Ft;rw[List.takeWhile_cons];cases bl a s<;>simp
theorem EE(s:A):∀(l:W A) (k:K),X8 (It s) Iu l k ()= .brk (((k+Ft l s:K)):Y)
 | [],k=>by simp[X8,Iu,Ft]
 | a ::l,k=>by
   rw[HP];simp only[X8,It];cases h:Op.bytesLess a.toList s.toList with
   | true=>
     have b:bl a s=H:=h;simp only[uK,b,if_true];rw[EE s l (k+1),show k+1+Ft l s=k+(Ft l s+1) by omega]
   | false=>
     have b:bl a s=D:=h;simp[b]
theorem Qhc(s:A):∀l:W A,NH l s=bif (decide (((Ft l s:K):Y)<(l.length:Y))&&((nth l (Ft l s)).toList==s.toList)) then l else zR (Ft l s) l++ [s]++yF (Ft l s) l
 | []=>by simp[NH,Ft]
 | a ::l=>by
   rw[HP,NH];cases h:bl a s with
   | true=>
     simp only[if_true];rw[Qhc s l];have e:nth (a::l) (Ft l s+1)=nth l (Ft l s):=rfl
     rw[e,show decide ((((Ft l s+1:K)):Y)<((a::l).length:Y))=decide (((Ft l s:K):Y)<(l.length:Y)) by
      rw[yQ];simp only[uR,List.length_cons];omega]
     generalize(decide (((Ft l s:K):Y)<(l.length:Y))&&((nth l (Ft l s)).toList==s.toList))=c;cases c<;>simp
   | false=>
     have e:nth (a::l) 0=a:=rfl;simp only[yH,if_false];rw[e,toList_inj];by_cases b:a=s
     . simp[b]
     simp[b]
theorem NN(l:W A)(s:A):I5 l s=NH l s:=by
 unfold I5;rw[EE,Qhc];simp only[Out.on,yE,zV]
theorem Qhd(l:W A)(s:A):zD (I5 l s)<=zD l+1:=by rw[NN];exact Qbw s l
open GoE (enc wide)
def K3(n:Q9):uA:=((n.1==(8:Y))|| (n.1==(9:Y)))
theorem S8(n:Q9):ACalls vC 310 [.a [.i n.1,.i n.2.1,.i n.2.2.1,.s n.2.2.2.1,.i n.2.2.2.2.1,.i n.2.2.2.2.2.1,.s n.2.2.2.2.2.2]] (.b (K3 n)):=by
 refine en func310 λ_ _ _=>sn [1,2] [1] p0 ?_
 refine Qa<|mz [(1,.p 1 0),(2,.b D)] [0] [(1, [.i n.1,.i n.2.1,.i n.2.2.1,.s n.2.2.2.1,.i n.2.2.2.2.1,.i n.2.2.2.2.2.1,.s n.2.2.2.2.2.2])] []<|jn [(2,.b ((n.1==(8:Y))|| (n.1==(9:Y))))] [1,2] [] [1] (n.1==(8:Y)) (λa=>?_) (λa=>?_) ?_
 ·refine rn [2] [] (pt 2 a p0) ?_;exact zA (by rw[a]<;>kernel_rfl)
 ·refine rn [2] [] (pf 2 a p0) ?_;exact zA (by rw[a]<;>kernel_rfl)
 exact Qc<|pb [] (show K3 n=((n.1==(8:Y))|| (n.1==(9:Y))) from rfl)
def Mr(l:Z):Z:=HG (Rb l)
theorem VD(l:Z):ACalls vC 311 [.h l] (.h (Mr l)):=by
 refine en func311 λ_ _ _=>sn [0,2] [] p0 ?_
 refine tn [2,3] [] (pc 1 (GA l) p0)<|mz [(2,.e 0),(3,.o 320 l)] [0] [] []<|UP [320] rfl ?_
 refine su [(3,.one (.slc (.own D 320) 1 (Qmj (eL l) 0 4294967296 (List.flatten (eL (Rb l))))))] [3] [] [] (po 1 (.take D H (eL (Rb l))) (px (UN (Qox l)) p0))<|eqn [(3,.q 320 (Rb l))] [3] [] [] (by rw[Qbs (λ_=>rfl) (NF _)]<;>kernel_rfl) ?_
 exact sn [2] [] (po 1 (.take D D (eL (HG (Rb l)))) (px (UN (Qoy (Rb l))) p0))<|Qc<|ph0 [576] (show Mr l=HG (Rb l) from rfl)
def Wk(q:W Q9)(a:uA)(b:K)(d:uA)(c:Z):Rd Z Z Z:=(bif ((K3 (nth q b))&&(d==a)) then(.next (c++ [(nth q b).2.2.2.1])) else(.next c))
def Hq(_:K)(a:Z):Z:=a
def Wx(q:W Q9)(a:uA):Z:=(Out.on (X8 (Wk q a) Hq (Yd q) 0 []) (λb=>(Mr b)))
theorem Re(q:W Q9)(a:uA):ACalls vC 265 [.h q,.b a] (.h (Wx q a)):=by
 refine en func265 λ_ _ _=>?_
 have v:=T2 q;refine sn [0,1,4] [] p0<|tn [0,1,4,5] [] p0<|Qa<|tu [(4,.e 0),(5,.one (.slc (.own H 512) 1 [])),(10,.o 640 (Yd q)),(11,.i ((Yd q).length:Y)),(12,.i 0)] [] [] [] (pc 1 (XH q) (pl 2 (Yd q) p0))<|wT 10 0 (.own H 640) (Yd q) (λw x=>?_)
 refine CA (Wk q a) Hq (Yd q) [] (λb c=> [(5,.o 147203 c),(12,.i (b:Y))]) [5,12] (λk=> [(5,.o 147353 k)]) [0,1,5,10,11,12] (λb c=>zD c<=b) (wsf [(512,147203)]) (by simp) (λb c O U=>?_) (λb c O U=>?_) (λk m=>?_)
 ·have e:=U.2;obtain⟨j,V⟩:=Xo (l:=Yd q) (i:=b) O;refine su [(13,.b H)] [] [] [] (pe 0 (zB ((b:Y)<((Yd q).length:Y))) p0)<|Qa<|ckT<|Qd<|Qa<|Qp<|sn [0,1,4,5,6,7,10,11,12] [] (pN 1 V p0)<|Qa<|mz [(6,.i (b:Y)),(7,.b j)] [13] [] []<|jn [(26,.b ((K3 (nth q b))&&(j==a)))] [7] [] [] (K3 (nth q b)) (λf=>?_) (λf=>?_) ?_
  ·refine wT 0 0 .sh q (λy z=>?_);have n:=ng q b;refine rn [0,1,4,5,6,10,11,12,26] [] (pn 2 n (pc 4 (cb f (S8 (nth q b))) p0)) ?_;exact zA (by rw[f]<;>kernel_rfl)
  ·refine wT 0 0 .sh q (λa1 a2=>?_);have o:=ng q b;refine ru [(26,.b D)] [7] [] [] (pn 2 o (pc 4 (cb f (S8 (nth q b))) p0)) ?_;exact zA (by rw[f]<;>kernel_rfl)
  refine ck ((K3 (nth q b))&&(j==a)) (λd=>?_) (λd=>?_)
  ·have g:((j==a))=H:=CF d;have p:=eq_of_beq g;refine wT 0 0 .sh q (λr s=>?_);have h:=ng q b;refine wT 5 0 (.own H 147203) c (λt u=>?_);refine ru [(5,.one (.slc (.own H 2176) 1 ((eL c)++ [[.s ((nth q b).2.2.2.1)]])))] [5,6,26] [] [] (pn 3 h (pa c [(nth q b).2.2.2.1] p0)) ?_;refine eqn [(5,.o 2176 (c++ [(nth q b).2.2.2.1]))] [5] [] [] (by rw[show((eL c)++ [[.s ((nth q b).2.2.2.1)]])=(eL (c++ [(nth q b).2.2.2.1])) from Jg rfl (rfl)]<;>kernel_rfl) ?_;refine rn [0,1,4,5,10,11,12] [] (pw 0 b p0) ?_;exact zZ (c++ [(nth q b).2.2.2.1]) (yN (wsf [(2176,147203)]) ⟨Qr V (Xg d rfl) U.1,by first|omega|(simp;omega) | simp⟩)
  refine Qd<|rn [0,1,4,5,10,11,12] [] (pw 0 b p0) ?_
  exact xw c ⟨Qr V (Qi d rfl) U.1,by first|omega|(simp;omega) | simp⟩
 ·have e:=U.2;exact su [(13,.b D)] [] [] [] (pe 0 (zC ((b:Y)<((Yd q).length:Y))) p0)<|Qa<|ckF<|Xa<|zZ _ (yN (wsf [(147203,147353)]) (Xq O rfl U.1))
 exact sn [4] [] (pc 1 (VD k) p0)<|Qc<|ph0 [] (Vx m rfl)
def Yz(q:W Q9):Z:=(Wx q D)
theorem XL(q:W Q9):ACalls vC 211 [.h q] (.h (Yz q)):=by
 refine en func211 λ_ _ _=>sn [0,2] [] p0 ?_
 exact tn [2] [] (pc 1 (Re q D) p0)<|Qc<|ph0 [] (show Yz q=(Wx q D) from rfl)
def Ye(q:W Q9):Z:=(Wx q H)
theorem XM(q:W Q9):ACalls vC 212 [.h q] (.h (Ye q)):=by
 refine en func212 λ_ _ _=>sn [0,2] [] p0 ?_
 exact tn [2] [] (pc 1 (Re q H) p0)<|Qc<|ph0 [] (show Ye q=(Wx q H) from rfl)
def E3(q:W Q9)(a:uA)(b:K)(d:uA)(c:Z):Rd Z Z Z:=(bif ((Q8 ((nth q b).1) 8 9)&&(d==a)) then(.next (I5 c ((nth q b).2.2.2.1))) else(.next c))
def E4(_:K)(a:Z):Z:=a
def B7(q:W Q9)(a:uA):Z:=(Out.on (X8 (E3 q a) E4 (Jt q) 0 []) (λb=>b))
theorem S9(q:W Q9)(a:uA):ACalls vC 284 [.h q,.b a] (.o 0 (B7 q a)):=by
 refine en func284 λ_ _ _=>?_
 have w:=NC q;refine sn [0,1,4] [] p0<|tn [0,1,4,5] [] p0<|tu [(4,.e 0),(5,.one (.slc (.own H 512) 1 [])),(6,.o 640 (Jt q))] [] [] [] (pc 1 (XI q) p0)<|Qa<|su [(7,.i 0)] [] [] [] p0<|wT 6 0 (.own H 640) (Jt q) (λx y=>?_)
 refine CA (E3 q a) E4 (Jt q) [] (λb c=> [(5,.h c),(7,.i (b:Y))]) [5,7] (λf=> [(5,.h f)]) [0,1,5,6,7] (λb c=>zD c<=b) (wgf [] [512] [] []) (by simp) (λb c O U=>?_) (λb c O U=>?_) (λf k=>?_)
 ·have e:=U.2;obtain⟨m,V⟩:=Xo (l:=Jt q) (i:=b) O;refine Qa<|su [(14,.b H)] [] [] [] (pl 2 (Jt q) (pe 3 (zB ((b:Y)<((Jt q).length:Y))) p0))<|ckT<|Qd<|Qa<|Qp<|Qa<|jn [(30,.b ((Q8 ((nth q b).1) 8 9)&&(m==a)))] [14] [] [] (Q8 ((nth q b).1) 8 9) (λg=>?_) (λg=>?_) ?_
  ·refine wT 0 0 .sh q (λz a1=>?_);have o:=ng q b;refine rn [0,1,4,5,6,7,30] [] (pn 2 o (pc 5 (cb g (Yw ((nth q b).1) 8 9)) (pN 9 V p0))) ?_;exact zA (by rw[g]<;>kernel_rfl)
  ·refine wT 0 0 .sh q (λa2 a3=>?_);have p:=ng q b;refine rn [0,1,4,5,6,7,30] [] (pn 2 p (pc 5 (cb g (Yw ((nth q b).1) 8 9)) p0)) ?_;exact zA (by rw[g]<;>kernel_rfl)
  refine ck ((Q8 ((nth q b).1) 8 9)&&(m==a)) (λd=>?_) (λd=>?_)
  ·have h:((m==a))=H:=CF d;have r:=eq_of_beq h;refine wT 0 0 .sh q (λs t=>?_);have j:=ng q b;refine rn [0,1,4,5,6,7] [] (pn 3 j (pc 6 (NM c ((nth q b).2.2.2.1) (by omega)) p0)) ?_;refine qn [0,1,4,5,6,7] [] (pw 1 b p0) ?_;exact xw (I5 c ((nth q b).2.2.2.1)) ⟨Qr V (Xg d rfl) U.1,(by first|omega|(have hz:=Qhd c (nth q b).2.2.2.1;omega))⟩
  refine Qd<|rn [0,1,4,5,6,7] [] (pw 1 b p0) ?_
  exact xw c ⟨Qr V (Qi d rfl) U.1,(by first|omega|(have hz:=Qhd c (nth q b).2.2.2.1;omega))⟩
 ·have e:=U.2;exact Qa<|su [(14,.b D)] [] [] [] (pl 2 (Jt q) (pe 3 (zC ((b:Y)<((Jt q).length:Y))) p0))<|ckF<|Xa<|xw _ (Xq O rfl U.1)
 refine wT 5 0 .sh f (λu v=>?_);exact sn [4] [] (po 2 (.flat) (px (Db (n:=(([]:W (W PV)).length+((eL f):W (W PV)).length)) (Eo rfl (Yu f) (by first|omega|(simp only[List.length_cons,List.length_nil];omega) | (simp;omega) | simp))) (px (Ae (Uz f)) p0)))<|Qc<|po0 [] (Vx k rfl)
def Ju(q:W Q9):Z:=(B7 q D)
theorem XN(q:W Q9):ACalls vC 241 [.h q] (.o 0 (Ju q)):=by
 refine en func241 λ_ _ _=>sn [0,2] [] p0 ?_
 exact tn [2] [] (pc 1 (S9 q D) p0)<|Qc<|po0 [] (show Ju q=(B7 q D) from rfl)
def Jv(q:W Q9):Z:=(B7 q H)
theorem XO(q:W Q9):ACalls vC 243 [.h q] (.o 0 (Jv q)):=by
 refine en func243 λ_ _ _=>sn [0,2] [] p0 ?_
 exact tn [2] [] (pc 1 (S9 q H) p0)<|Qc<|po0 [] (show Jv q=(B7 q H) from rfl)
theorem SZ(n:Q9):Q8 n.1 8 9=K3 n:=by
 unfold Q8 K3;rw[yQ];simp;omega
theorem HS(q:W Q9)(b:uA):∀(l:W uA) (k:K) (s:W A),∃m,X8 (Wk q b) Hq l k s= .brk (s++m)/\∀t,X8 (E3 q b) E4 l k t= .brk (T4 t m)
 | [],k,s=>⟨[],by simp[X8,Hq],λt=>by simp[X8,E4,T4]⟩
 | a ::l,k,s=>by
   simp only[X8,Wk,E3,SZ];cases h:(K3 (nth q k)&&(a==b)) with
   | true=>
     obtain⟨m,c,d⟩:=HS q b l (k+1) (s++ [(nth q k).2.2.2.1]);refine⟨(nth q k).2.2.2.1::m, ?_,λt=>?_⟩
     . simp only[uK];rw[c,List.append_assoc];rfl
     simp only[uK];rw[d,NN];rfl
   | false=>
     obtain⟨m,c,d⟩:=HS q b l (k+1) s;exact⟨m,by simp only[uI];exact c,λt=>by simp only[uI];exact d t⟩
theorem Qhe(q:W Q9)(b:uA):B7 q b=Wx q b:=by
 unfold B7 Wx;obtain⟨m,a,c⟩:=HS q b (Yd q) 0 [];rw[DW,a,c];simp only[Out.on,List.nil_append];exact(Qkz m).symm
theorem Qdw(q:W Q9):Ju q=Yz q:=Qhe q D
theorem Qdx(q:W Q9):Jv q=Ye q:=Qhe q H
open GoE (enc wide)
def Vg(d:W Zo)(b:K)(a:Zo)(_:uB):Rd (uA) (uB) (uB):=(bif ((!(Xl a.1))|| (bif decide ((b:Y)>(0:Y)) then((!(Op.bytesLess ((nth d ((b:Y)-1).toNat).1).toList a.1.toList))|| (!(Qj a.2))) else(!(Qj a.2)))) then(.ret D) else(.next ()))
def Uc(_:K)(_:uB):uB:=()
def Jh(d:W Zo):uA:=(Out.on (X8 (Vg d) Uc d 0 ()) (λ_=>decide ((d.length:Y)<=(5:Y))))
theorem JA(d:W Zo):ACalls vC 209 [.h d] (.b (Jh d)):=by
 refine en func209 λ_ _ _=>sn [0,2] [] p0 ?_
 refine Qa<|tn [0,2,5,6,7] [] (pl 1 d p0)<|mz [(2,.b D),(5,.h d),(6,.i (d.length:Y)),(7,.i 0)] [] [] []<|wT 0 0 .sh d (λo p=>?_)
 refine S7 (Vg d) Uc d () (λa _=> [(7,.i (a:Y))]) [7] (λ_=> []) [5,6,7] wf0 (λa q O U=>?_) (λa q O U=>?_) (λs h=>?_)
 ·obtain ⟨b,V⟩:=Xo (l:=d) (i:=a) O;refine sn [0,2,5,6,7,8] [] (pe 0 (zB ((a:Y)<(d.length:Y))) p0)<|Qa<|ckT<|Qd<|Qa<|Qp<|tn [0,2,3,4,5,6,7] [4] (pn 1 V p0)<|Qa<|mz [(3,.i (a:Y)),(4,.p 4 0)] [] [(4, [.s b.1,.h b.2])] []<|jn [(36,.b ((!(Xl b.1))|| (bif decide ((a:Y)>(0:Y)) then((!(Op.bytesLess ((nth d ((a:Y)-1).toNat).1).toList b.1.toList))|| (!(Qj b.2))) else(!(Qj b.2)))))] [3,4] [] [4] (!(Xl b.1)) (λf=>?_) (λf=>?_) ?_
  ·have c:(Xl b.1)=D:=V1 f;refine rN [0,2,5,6,7,36] [] (pc 2 (cb c (K2 b.1)) (pe 3 (show .b (!D)= .b H from rfl) p0)) ?_;exact zA (by rw[f]<;>kernel_rfl)
  ·have c:(Xl b.1)=H:=Z5 f;refine X4 (decide ((a:Y)>(0:Y))) (λe=>?_) (λe=>?_)
   ·have r:=uJ e;refine X4 (!(Op.bytesLess ((nth d ((a:Y)-1).toNat).1).toList b.1.toList)) (λg=>?_) (λg=>?_)
    ·have j:=ng d ((a:Y)-1).toNat;refine rN [0,2,5,6,7,36] [] (pc 2 (cb c (K2 b.1)) (pe 3 (show .b (!H)= .b D from rfl) (pt 6 e (pe 10 (G6 (IntWalk.i64_in ((a:Y)-1) (by omega))) (pg 11 ((a:Y)-1) j (pt 16 g p0)))))) ?_;exact zA (by rw[f,e,g]<;>kernel_rfl)
    have k:=ng d ((a:Y)-1).toNat;refine rN [0,2,5,6,7,36] [] (pc 2 (cb c (K2 b.1)) (pe 3 (show .b (!H)= .b D from rfl) (pt 6 e (pe 10 (G6 (IntWalk.i64_in ((a:Y)-1) (by omega))) (pg 11 ((a:Y)-1) k (pf 16 g (pc 22 (V6 b.2) p0))))))) ?_;exact zA (by rw[f,e,g]<;>kernel_rfl)
   refine rN [0,2,5,6,7,36] [] (pc 2 (cb c (K2 b.1)) (pe 3 (show .b (!H)= .b D from rfl) (pf 6 e (pc 22 (V6 b.2) p0)))) ?_;exact zA (by rw[f,e]<;>kernel_rfl)
  refine ck ((!(Xl b.1))|| (bif decide ((a:Y)>(0:Y)) then((!(Op.bytesLess ((nth d ((a:Y)-1).toNat).1).toList b.1.toList))|| (!(Qj b.2))) else(!(Qj b.2)))) (λm=>?_) (λm=>?_)
  ·refine su [] [36] [] [] p0<|Qc ?_
   have n:(X8 (Vg d) Uc d 0 ())= .ret D:=Kj V (Xg m rfl) U;exact pb [] (Pq n)
  refine Qd<|rn [0,2,5,6,7] [] (pw 0 a p0) ?_
  exact xw _ (Qr V (Qi m rfl) U)
 ·exact sn [0,2,5,6,7,8] [] (pe 0 (zC ((a:Y)<(d.length:Y))) p0)<|Qa<|ckF<|Xa<|xw _ (Xq O rfl U)
 exact sn [2] [] (pl 1 d p0)<|Qc<|pb [] (Vx h rfl)
def Hx(d:W Zo)(b:K)(a:Zo)(_:uB):Rd (uA) (uB) (uB):=(bif ((!(Y2 a.1))|| ((!(Yy a.2))|| (decide ((b:Y)>(0:Y))&&(!(Op.bytesLess ((nth d ((b:Y)-1).toNat).1).toList a.1.toList))))) then(.ret D) else(.next ()))
def Br(_:K)(_:uB):uB:=()
def Hg(d:W Zo):uA:=(Out.on (X8 (Hx d) Br d 0 ()) (λ_=>decide ((d.length:Y)<=(5:Y))))
theorem JB(d:W Zo):ACalls vC 190 [.h d] (.b (Hg d)):=by
 refine en func190 λ_ _ _=>sn [0,2] [] p0 ?_
 refine Qa<|tn [0,2,3] [] p0<|mz [(2,.b D),(3,.i 0)] [] [] []<|wT 0 0 .sh d (λo p=>?_)
 refine S7 (Hx d) Br d () (λb _=> [(3,.i (b:Y))]) [3] (λ_=> []) [3] wf0 (λb q O U=>?_) (λb q O U=>?_) (λs j=>?_)
 ·obtain⟨a,V⟩:=Xo (l:=d) (i:=b) O;refine Qa<|sn [0,2,3,7] [] (pl 2 d (pe 3 (zB ((b:Y)<(d.length:Y))) p0))<|ckT<|Qd<|Qa<|Qp<|Qa<|mz [(7,.b H)] [] [] []<|jn [(43,.b ((!(Y2 a.1))|| ((!(Yy a.2))|| (decide ((b:Y)>(0:Y))&&(!(Op.bytesLess ((nth d ((b:Y)-1).toNat).1).toList a.1.toList))))))] [7] [] [] (!(Y2 a.1)) (λf=>?_) (λf=>?_) ?_
  ·have c:(Y2 a.1)=D:=V1 f;refine rN [0,2,3,43] [] (pn 2 V (pc 5 (cb c (J6 a.1)) (pe 6 (show .b (!D)= .b H from rfl) p0))) ?_;exact zA (by rw[f]<;>kernel_rfl)
  ·have c:(Y2 a.1)=H:=Z5 f;refine X4 (!(Yy a.2)) (λg=>?_) (λg=>?_)
   ·have e:(Yy a.2)=D:=V1 g;refine rN [0,2,3,43] [] (pn 2 V (pc 5 (cb c (J6 a.1)) (pe 6 (show .b (!H)= .b D from rfl) (pn 10 V (pc 13 (cb e (V8 a.2)) (pe 14 (show .b (!D)= .b H from rfl) p0)))))) ?_;exact zA (by rw[f,g]<;>kernel_rfl)
   have e:(Yy a.2)=H:=Z5 g;refine X4 (decide ((b:Y)>(0:Y))) (λh=>?_) (λh=>?_)
   ·have r:=uJ h;have k:=ng d ((b:Y)-1).toNat;refine rN [0,2,3,43] [] (pn 2 V (pc 5 (cb c (J6 a.1)) (pe 6 (show .b (!H)= .b D from rfl) (pn 10 V (pc 13 (cb e (V8 a.2)) (pe 14 (show .b (!H)= .b D from rfl) (pt 18 h (pe 22 (G6 (IntWalk.i64_in ((b:Y)-1) (by omega))) (pg 23 ((b:Y)-1) k (pn 28 V p0)))))))))) ?_;exact zA (by rw[f,g,h]<;>kernel_rfl)
   refine rN [0,2,3,43] [] (pn 2 V (pc 5 (cb c (J6 a.1)) (pe 6 (show .b (!H)= .b D from rfl) (pn 10 V (pc 13 (cb e (V8 a.2)) (pe 14 (show .b (!H)= .b D from rfl) (pf 18 h p0))))))) ?_;exact zA (by rw[f,g,h]<;>kernel_rfl)
  refine ck ((!(Y2 a.1))|| ((!(Yy a.2))|| (decide ((b:Y)>(0:Y))&&(!(Op.bytesLess ((nth d ((b:Y)-1).toNat).1).toList a.1.toList))))) (λm=>?_) (λm=>?_)
  ·refine sn [0,2,3] [] p0<|Qc ?_
   have n:(X8 (Hx d) Br d 0 ())= .ret D:=Kj V (Xg m rfl) U;exact pb [] (Pq n)
  refine Qd<|rn [0,2,3] [] (pw 1 b p0) ?_
  exact xw _ (Qr V (Qi m rfl) U)
 ·exact Qa<|sn [0,2,3,7] [] (pl 2 d (pe 3 (zC ((b:Y)<(d.length:Y))) p0))<|ckF<|Xa<|xw _ (Xq O rfl U)
 exact sn [2] [] (pl 1 d p0)<|Qc<|pb [] (Vx j rfl)
def D6(x:Zo)(a:A):uA:=(x.1.toList==a.toList)
theorem GF(x:Zo)(a:A):ACalls vC 308 [.a [.s x.1,.h x.2],.one (.rptr .sh [.s a])] (.b (D6 x a)):=by
 refine en func308 λ_ _ _=>sn [1,2,3] [2] p0 ?_
 exact tn [3] [] p0<|Qc<|pb [] (show D6 x a=(x.1.toList==a.toList) from rfl)
def Yq(a:A)(b:K)(c:Zo)(_:uB):Rd (Y) (uB) (uB):=(bif (D6 c a) then(.ret (b:Y)) else(.next ()))
def Zm(_:K)(_:uB):uB:=()
def Ke(a:W Zo)(b:A):Y:=(Out.on (X8 (Yq b) Zm a 0 ()) (λ_=> -1))
theorem E5(a:W Zo)(c:A):ACalls vC 307 [.h a,.one (.fnr 308 [[.s c]])] (.i (Ke a c)):=by
 refine en func307 λ_ _ _=>sn [0,1,4] [] p0 ?_
 refine Qa<|tn [0,1,4,7,8] [] (pl 1 a p0)<|mz [(4,.i 0),(7,.i (a.length:Y)),(8,.i 0)] [] [] []<|wT 0 0 .sh a (λh j=>?_)
 refine S7 (Yq c) Zm a () (λb _=> [(8,.i (b:Y))]) [8] (λ_=> []) [0,1,7,8] wf0 (λb k O U=>?_) (λb k O U=>?_) (λm d=>?_)
 ·obtain⟨e,V⟩:=Xo (l:=a) (i:=b) O;refine sn [0,1,4,7,8,9] [] (pe 0 (zB ((b:Y)<(a.length:Y))) p0)<|Qa<|ckT<|Qd<|Qa<|Qp<|tn [0,1,4,5,7,8] [] p0<|tu [(5,.i (b:Y)),(16,.b (D6 e c))] [] [] [] (pn 3 V (pc 5 (GF e c) p0))<|ck (D6 e c) (λf=>?_) (λf=>?_)
  ·refine sn [0,1,4,7,8] [] p0<|Qc ?_
   have g:(X8 (Yq c) Zm a 0 ())= .ret (b:Y):=Kj V (Xg f rfl) U;exact pi [] (Pq g)
  refine Qd<|rn [0,1,4,7,8] [] (pw 0 b p0) ?_
  exact xw _ (Qr V (Qi f rfl) U)
 ·exact sn [0,1,4,7,8,9] [] (pe 0 (zC ((b:Y)<(a.length:Y))) p0)<|Qa<|ckF<|Xa<|xw _ (Xq O rfl U)
 exact sn [4] [] p0<|Qc<|pi [] (Vx d rfl)
def Yf(d:W Zo)(a:A):Y:=(Ke d a)
theorem TA(d:W Zo)(a:A):ACalls vC 264 [.h d,.s a] (.i (Yf d a)):=by
 refine en func264 λ_ _ _=>sn [0,3,4] [3] p0 ?_
 exact tn [4] [] (pc 2 (E5 d a) p0)<|Qc<|pi [] (show Yf d a=(Ke d a) from rfl)
def Lg(a:A)(b:K)(c:Zo)(_:uB):Rd (Y) (uB) (uB):=(bif (c.1.toList==a.toList) then(.ret (b:Y)) else(.next ()))
def Lh(_:K)(_:uB):uB:=()
def Xt(d:W Zo)(a:A):Y:=(Out.on (X8 (Lg a) Lh d 0 ()) (λ_=> -1))
theorem Ta(d:W Zo)(a:A):ACalls vC 242 [.h d,.s a] (.i (Xt d a)):=by
 refine en func242 λ_ _ _=>sn [0,1,4] [] p0 ?_
 refine Qa<|tn [0,1,4,5] [] p0<|mz [(4,.i 0),(5,.i 0)] [] [] []<|wT 0 0 .sh d (λg h=>?_)
 refine S7 (Lg a) Lh d () (λb _=> [(5,.i (b:Y))]) [5] (λ_=> []) [0,1,5] wf0 (λb j O U=>?_) (λb j O U=>?_) (λm c=>?_)
 ·obtain⟨k,V⟩:=Xo (l:=d) (i:=b) O;refine Qa<|sn [0,1,4,5,9] [] (pl 2 d (pe 3 (zB ((b:Y)<(d.length:Y))) p0))<|ckT<|Qd<|Qa<|Qp<|tn [0,1,4,5,18] [] (pn 2 V p0)<|ck (k.1.toList==a.toList) (λe=>?_) (λe=>?_)
  ·refine tu [(4,.i (b:Y))] [4] [] [] p0<|Qc ?_
   have f:(X8 (Lg a) Lh d 0 ())= .ret (b:Y):=Kj V (Xg e rfl) U;exact pi [] (Pq f)
  refine Qd<|qu [(5,.i ((b+1:K):Y))] [5] [] [] (pw 1 b p0) ?_
  exact xw _ (Qr V (Qi e rfl) U)
 ·exact Qa<|sn [0,1,4,5,9] [] (pl 2 d (pe 3 (zC ((b:Y)<(d.length:Y))) p0))<|ckF<|Xa<|xw _ (Xq O rfl U)
 exact sn [4] [] p0<|Qc<|pi [] (Vx c rfl)
theorem GG(d:W Zo):Jh d=Hg d:=by
 unfold Jh Hg
 rw[N3 (f:=Vg d) (g:=Hx d) (e:=Uc) (e':=Br) (λk a s=>by
  unfold Vg Hx;rw[Qgy,Qgw];cases Y2 a.1<;>cases Yy a.2<;>cases decide (((k:K):Y)>(0:Y))<;>simp) (λ_ _=>rfl)]
theorem Qby(s:A):∀(l:W Zo) (k:K),X8 (Yq s) Zm l k ()= .brk ()\/∃i:K,i<l.length/\X8 (Yq s) Zm l k ()= .ret (((k+i:K)):Y)
 | [],_=> .inl rfl
 | a ::l,k=>by
   simp only[X8,Yq];unfold D6;cases(a.1.toList==s.toList) with
   | true=>exact .inr ⟨0,by simp,rfl⟩
   | false=>
     simp only[uI];rcases Qby s l (k+1) with h | ⟨i,hi,h⟩
     . exact .inl h
     exact .inr ⟨i+1,by simpa using hi,by rw[h,show k+1+i=k+(i+1) by omega]⟩
theorem GH(d:W Zo)(s:A): -1<=Yf d s/\Yf d s<(zD d:Y):=by
 unfold Yf Ke;rcases Qby s d 0 with h | ⟨i,hi,h⟩
 . rw[h];simp only[Out.on];omega
 rw[h];simp only[Out.on];omega
theorem XP(d:W Zo)(s:A): -1<=Xt d s/\Xt d s<(zD d:Y):=GH d s
open GoE (enc wide)
def Bs(d:W Zo)(a:W Y)(b:Y)(_:K)(c:A)(e:Y):Rd (Y) (Y) (Y):=(bif decide ((Yf d c)>=(0:Y)) then(.next (max e (vA vB ((nth a (Yf d c).toNat)+b)))) else(.next e))
def E6(_:K)(a:Y):Y:=a
def X5(d:W Zo)(a:W Y)(names:Z)(b:Y):Y:=(Out.on (X8 (Bs d a b) E6 names 0 0) (λc=>c))
theorem Nd(d:W Zo)(a:W Y)(names:Z)(b:Y)(s:zD d<=zD a):ACalls vC 210 [.h d,.h a,.h names,.i b] (.i (X5 d a names b)):=by
 refine en func210 λ_ _ _=>sn [0,1,2,3,8] [] p0 ?_
 refine tn [0,1,2,3,8,9] [] p0<|Qa<|tu [(8,.i 0),(9,.i 0),(13,.h names),(14,.i (names.length:Y)),(15,.i 0)] [2] [] [] (pl 1 names p0)<|wT 13 0 .sh names (λm n=>?_)
 refine S7 (Bs d a b) E6 names 0 (λc f=> [(9,.i f),(15,.i (c:Y))]) [9,15] (λk=> [(9,.i k)]) [0,1,3,9,13,14,15] wf0 (λc f O U=>?_) (λc f O U=>?_) (λk h=>?_)
 ·obtain⟨e,V⟩:=Xo (l:=names) (i:=c) O;refine su [(16,.b H)] [] [] [] (pe 0 (zB ((c:Y)<(names.length:Y))) p0)<|Qa<|ckT<|Qd<|Qa<|Qp<|su [(11,.s e)] [16] [] [] (pn 0 V p0)<|sn [0,1,3,8,9,12,13,14,15] [] (pc 2 (TA d e) p0)<|tn [0,1,3,8,9,12,13,14,15,23] [] p0<|ck (decide ((Yf d e)>=(0:Y))) (λg=>?_) (λg=>?_)
  ·have o:=GH d e;have p:=uJ g;refine wT 1 0 .sh a (λq r=>?_);have j:=ng a (Yf d e).toNat;refine qu [(9,.i (max f (vA vB ((nth a (Yf d e).toNat)+b))))] [9,11] [] [] (pg 3 (Yf d e) j p0) ?_;refine rn [0,1,3,8,9,13,14,15] [] (pw 0 c p0) ?_;exact xw _ (Qr V (Xg g rfl) U)
  refine Qd<|qu [(15,.i ((c+1:K):Y))] [11,15] [] [] (pw 0 c p0) ?_
  exact xw _ (Qr V (Qi g rfl) U)
 ·exact su [(16,.b D)] [] [] [] (pe 0 (zC ((c:Y)<(names.length:Y))) p0)<|Qa<|ckF<|Xa<|xw _ (Xq O rfl U)
 exact sn [8] [] p0<|Qc<|pi [] (Vx h rfl)
def Aq(d:W Zo)(c:K)(_:K)(b:A)(a:W Y):Rd (Rd (W Y) (W Y) (W Y)) (W Y) (W Y):=(bif (decide ((Xt d b)>=(0:Y))&&decide ((nth a (Xt d b).toNat)>(nth a c))) then(.next (zE a c (nth a (Xt d b).toNat))) else(.next a))
def B8(_:K)(a:W Y):(W Y):=a
def Ar(d:W Zo)(c:K)(_:K)(b:A)(a:W Y):Rd (Rd (W Y) (W Y) (W Y)) (W Y) (W Y):=(bif (decide ((Xt d b)>=(0:Y))&&decide (vA vB ((nth a (Xt d b).toNat)+1)>(nth a c))) then(.next (zE a c (vA vB ((nth a (Xt d b).toNat)+1)))) else(.next a))
def E7(_:K)(a:W Y):(W Y):=a
def Hh(d:W Zo)(a:K)(b:Zo)(c:W Y):Rd (W Y) (W Y) (W Y):=(Out.on (X8 (Aq d a) B8 (Ju b.2) 0 c) (λe=>(Out.on (X8 (Ar d a) E7 (Jv b.2) 0 e) (λf=>(.next f)))))
def E8(_:K)(a:W Y):(W Y):=a
def W3(d:W Zo)(a:W Y):(W Y):=(Out.on (X8 (Hh d) E8 d 0 a) (λb=>b))
theorem Tb(d:W Zo)(e:W Y)(hp:zD d<=zD e):ACalls vC 191 [.h d,.h e] (.o 0 (W3 d e)):=by
 refine en func191 λ_ _ _=>sn [0,1,4] [] p0 ?_
 refine wT 1 0 .sh e (λb8 b9=>?_);refine tn [0,4,5] [] (po 2 (.flat) (px (Db (n:=(([]:W (W PV)).length+((eL e):W (W PV)).length)) (Eo rfl (Yu e) (by first|omega|(simp only[List.length_cons,List.length_nil];omega) | (simp;omega) | simp))) (px (Ae (Uz e)) p0)))<|Qa<|tu [(4,.e 0),(5,.o 960 e),(6,.i 0)] [1] [] [] p0<|wT 0 0 .sh d (λba bb=>?_)
 refine Qbn (Hh d) E8 d e (λc q=> [(5,.o 960 q),(6,.i (c:Y))]) [5,6] (λy0=> [(5,.o 960 y0)]) [0,5,6] (λ_ q=>zD q=zD e) (λy0=>zD y0=zD e) wf0 (by simp) (λc q O U=>?_) (λc q O U=>?_) (λy0 a6=>?_)
 ·have u:=U.2;obtain⟨h,V⟩:=Xo (l:=d) (i:=c) O;refine Qa<|sn [0,4,5,6,19] [] (pl 2 d (pe 3 (zB ((c:Y)<(d.length:Y))) p0))<|ckT<|Qd<|Qa<|Qp<|tn [0,4,5,6,7] [] (pn 2 V (pc 5 (XN h.2) p0))<|Qa<|tu [(7,.o 1728 (Ju h.2)),(8,.i 0)] [] [] [] p0<|wT 7 0 (.own H 1728) (Ju h.2) (λbc bd=>?_)
  refine Qbn (Aq d c) B8 (Ju h.2) q (λk1 a=> [(5,.o 960 a),(8,.i (k1:Y))]) [5,8] (λv=> [(5,.o 960 v)]) [5,7,8] (λ_ a=>zD a=zD q) (λv=>zD v=zD q) wf0 (by simp) (λk1 a w j=>?_) (λk1 a w j=>?_) (λv a7=>?_)
  ·have x:=j.2;obtain⟨f,z⟩:=Xo (l:=Ju h.2) (i:=k1) w;refine Qa<|su [(31,.b H)] [] [] [] (pl 2 (Ju h.2) (pe 3 (zB ((k1:Y)<((Ju h.2).length:Y))) p0))<|ckT<|Qd<|Qa<|Qp<|sn [0,4,5,6,7,8,9] [] (pN 3 z (pc 5 (Ta d f) p0))<|Qa<|mz [(9,.i (Xt d f))] [31] [] []<|jn [(52,.b (decide ((Xt d f)>=(0:Y))&&decide ((nth a (Xt d f).toNat)>(nth a c))))] [] [] [] (decide ((Xt d f)>=(0:Y))) (λh7=>?_) (λh7=>?_) ?_
   ·have be:=XP d f;have bf:=uJ h7;refine wT 5 0 (.own H 960) a (λbg aw=>?_);have ak:=ng a (Xt d f).toNat;have a8:=ng a c;refine rN [0,4,5,6,7,8,9,52] [] (pt 1 h7 (pG 5 (Xt d f) ak (pN 9 a8 p0))) ?_;exact zA (by rw[h7]<;>kernel_rfl)
   ·refine rU [(52,.b D)] [] [] [] (pf 1 h7 p0) ?_;exact zA (by rw[h7]<;>kernel_rfl)
   refine ck (decide ((Xt d f)>=(0:Y))&&decide ((nth a (Xt d f).toNat)>(nth a c))) (λo=>?_) (λo=>?_)
   ·have a9:(decide ((Xt d f)>=(0:Y)))=H:=MW o;have al:=XP d f;have am:=uJ a9;have aa:(decide ((nth a (Xt d f).toNat)>(nth a c)))=H:=CF o;have an:=uJ aa;refine wT 5 0 (.own H 960) a (λax ay=>?_);have ab:=ng a (Xt d f).toNat;have r:=ng a c;refine ru [(5,.one (.slc (.own H 960) 1 (setRow (eL a) c 0 [.i (nth a (Xt d f).toNat)])))] [5,9,52] [] [] (pG 4 (Xt d f) ab (pN 6 r p0)) ?_;refine eqn [(5,.o 960 (zE a c (nth a (Xt d f).toNat)))] [5] [] [] (by rw[Km (y:=(nth a (Xt d f).toNat)) r rfl]<;>kernel_rfl) ?_;refine rn [0,4,5,6,7,8] [] (pw 1 k1 p0) ?_;exact xw (zE a c (nth a (Xt d f).toNat)) ⟨Qr z (Xg o rfl) j.1,(by first|omega|(simp only[zG];omega))⟩
   refine Qd<|rn [0,4,5,6,7,8] [] (pw 1 k1 p0) ?_
   exact xw a ⟨Qr z (Qi o rfl) j.1,(by first|omega|(simp only[zG];omega))⟩
  ·have x:=j.2;exact Qa<|su [(31,.b D)] [] [] [] (pl 2 (Ju h.2) (pe 3 (zC ((k1:Y)<((Ju h.2).length:Y))) p0))<|ckF<|Xa<|xw a ⟨Xq w rfl j.1,by first|omega|(simp only[zG];omega)⟩
  have ao:=a7.2;refine sn [0,4,5,6,10] [] (pn 2 V (pc 5 (XO h.2) p0))<|tn [0,4,5,6,10,11] [] p0<|mz [(10,.o 4160 (Jv h.2)),(11,.i 0)] [] [] []<|wT 10 0 (.own H 4160) (Jv h.2) (λaz b1=>?_)
  refine Qbn (Ar d c) E7 (Jv h.2) v (λs b=> [(5,.o 960 b),(11,.i (s:Y))]) [5,11] (λy2=> [(5,.o 960 y2)]) [5,10,11] (λ_ b=>zD b=zD v) (λy2=>zD y2=zD v) wf0 (by simp) (λs b a3 k=>?_) (λs b a3 k=>?_) (λy2 ad=>?_)
  ·have a4:=k.2;obtain⟨g,a5⟩:=Xo (l:=Jv h.2) (i:=s) a3;refine Qa<|su [(69,.b H)] [] [] [] (pl 2 (Jv h.2) (pe 3 (zB ((s:Y)<((Jv h.2).length:Y))) p0))<|ckT<|Qd<|Qa<|Qp<|sn [0,4,5,6,10,11,12] [] (pN 3 a5 (pc 5 (Ta d g) p0))<|Qa<|mz [(12,.i (Xt d g))] [69] [] []<|jn [(91,.b (decide ((Xt d g)>=(0:Y))&&decide (vA vB ((nth b (Xt d g).toNat)+1)>(nth b c))))] [] [] [] (decide ((Xt d g)>=(0:Y))) (λm=>?_) (λm=>?_) ?_
   ·have b2:=XP d g;have b3:=uJ m;refine wT 5 0 (.own H 960) b (λb4 b5=>?_);have ae:=ng b (Xt d g).toNat;have af:=ng b c;refine rN [0,4,5,6,10,11,12,91] [] (pt 1 m (pG 5 (Xt d g) ae (pN 10 af p0))) ?_;exact zA (by rw[m]<;>kernel_rfl)
   ·refine rU [(91,.b D)] [] [] [] (pf 1 m p0) ?_;exact zA (by rw[m]<;>kernel_rfl)
   refine ck (decide ((Xt d g)>=(0:Y))&&decide (vA vB ((nth b (Xt d g).toNat)+1)>(nth b c))) (λp=>?_) (λp=>?_)
   ·have ah:(decide ((Xt d g)>=(0:Y)))=H:=MW p;have ap:=XP d g;have aq:=uJ ah;have ai:(decide (vA vB ((nth b (Xt d g).toNat)+1)>(nth b c)))=H:=CF p;have ar:=uJ ai;refine wT 5 0 (.own H 960) b (λb6 b7=>?_);have aj:=ng b (Xt d g).toNat;have t:=ng b c;refine ru [(5,.one (.slc (.own H 960) 1 (setRow (eL b) c 0 [.i (vA vB ((nth b (Xt d g).toNat)+1))])))] [5,12,91] [] [] (pG 4 (Xt d g) aj (pN 7 t p0)) ?_;refine eqn [(5,.o 960 (zE b c (vA vB ((nth b (Xt d g).toNat)+1))))] [5] [] [] (by rw[Km (y:=vA vB ((nth b (Xt d g).toNat)+1)) t rfl]<;>kernel_rfl) ?_;refine rn [0,4,5,6,10,11] [] (pw 1 s p0) ?_;exact xw (zE b c (vA vB ((nth b (Xt d g).toNat)+1))) ⟨Qr a5 (Xg p rfl) k.1,(by first|omega|(simp only[zG];omega))⟩
   refine Qd<|rn [0,4,5,6,10,11] [] (pw 1 s p0) ?_
   exact xw b ⟨Qr a5 (Qi p rfl) k.1,(by first|omega|(simp only[zG];omega))⟩
  ·have a4:=k.2;exact Qa<|su [(69,.b D)] [] [] [] (pl 2 (Jv h.2) (pe 3 (zC ((s:Y)<((Jv h.2).length:Y))) p0))<|ckF<|Xa<|xw b ⟨Xq a3 rfl k.1,by first|omega|(simp only[zG];omega)⟩
  have au:=ad.2;refine rn [0,4,5,6] [] (pw 1 c p0) ?_;exact xw y2 ⟨Qr V (Vx a7.1 (Vx ad.1 rfl)) U.1,(by first|omega|(simp only[zG];omega))⟩
 ·have u:=U.2;exact Qa<|sn [0,4,5,6,19] [] (pl 2 d (pe 3 (zC ((c:Y)<(d.length:Y))) p0))<|ckF<|Xa<|xw q ⟨Xq O rfl U.1,by first|omega|(simp only[zG];omega)⟩
 have av:=a6.2;exact sn [4] [] p0<|Qc<|po0 [] (Vx a6.1 rfl)
theorem WE{α R S T:Type}{f:K->α->S->Rd R S T}{e:K->S->T}(I:S->Prop)(h:∀k a s,I s->∃s',f k a s= .next s'/\I s'):∀(l:W α) (k:K) (s:S),I s->∃s',X8 f e l k s= .brk (e (k+l.length) s')/\I s'
 | [],k,s,hs=>⟨s,by simp[X8],hs⟩
 | a::l,k,s,hs=>by
   obtain⟨b,c,d⟩:=h k a s hs;obtain⟨g,i,j⟩:=WE I h l (k+1) b d;refine⟨g, ?_,j⟩;simp only[X8,c];rw[i,List.length_cons,show k+1+l.length=k+(l.length+1) by omega]
theorem Qqx(d:W Zo)(b n:K)(k:K)(a:A)(s:W Y)(e:s.length=n):∃s',Aq d b k a s= .next s'/\s'.length=n:=by
 unfold Aq;generalize(decide ((Xt d a)>=(0:Y))&&decide ((nth s (zK (Xt d a)))>(nth s b)))=c;cases c<;>exact⟨_,rfl,by simpa using e⟩
theorem Qqy(d:W Zo)(b n:K)(k:K)(a:A)(s:W Y)(e:s.length=n):∃s',Ar d b k a s= .next s'/\s'.length=n:=by
 unfold Ar;generalize(decide ((Xt d a)>=(0:Y))&&decide (vA vB ((nth s (zK (Xt d a)))+1)>(nth s b)))=c;cases c<;>exact⟨_,rfl,by simpa using e⟩
theorem Qqz(d:W Zo)(n:K)(k:K)(a:Zo)(s:W Y)(b:s.length=n):∃s',Hh d k a s= .next s'/\s'.length=n:=by
 unfold Hh;obtain⟨c,f,g⟩:=WE (e:=B8) (λs:W Y=>s.length=n) (Qqx d k n) (Ju a.2) 0 s b;obtain⟨h,i,j⟩:=WE (e:=E7) (λs:W Y=>s.length=n) (Qqy d k n) (Jv a.2) 0 c g;refine⟨h, ?_,j⟩;rw[f];simp only[Out.on,B8];rw[i];rfl
theorem NO(d:W Zo)(lev:W Y):zD (W3 d lev)=zD lev:=by
 unfold W3;obtain⟨c,a,b⟩:=WE (e:=E8) (λs:W Y=>s.length=lev.length) (Qqz d lev.length) d 0 lev rfl;rw[a];exact b
theorem Gx{d:W Zo}(h:Jh d=H):zD d<=5:=by
 unfold Jh at h;cases b:X8 (Vg d) Uc d 0 () with
 | brk t=>rw[b] at h;simp only[Out.on,uR] at h;omega
 | ret r=>
   rw[b] at h;obtain rfl:r=H:=h;exfalso
   have key:∀(l:W Zo) k,X8 (Vg d) Uc l k ()≠ .ret H:=by
    intro l
    induction l with
    | nil=>intro k h;simp[X8] at h
    | cons a l e=>
      intro k h;simp only[X8] at h;unfold Vg at h;split at h
      . rename_i b;exact e _ h
      . cases h
      rename_i r b;cases h;revert b;generalize(_|| _:uA)=c;cases c<;>simp
   exact key _ _ b
theorem Qq0{d:W Zo}(h:Hg d=H):vA vB (vA vB ((d.length:Y)*(d.length:Y))+1)=((zD d*zD d+1:K):Y)/\((zD d*zD d+1:K):Y)<=26:=by
 have a:=Gx ((GG d).trans h);generalize zD d=n at a⊢;have:n=0\/n=1\/n=2\/n=3\/n=4\/n=5:=by omega
 rcases this with rfl | rfl | rfl | rfl | rfl | rfl<;>decide
def Vr(d:W Zo)(w:Y):W A->Ww
 | []=> []
 | s::r=>if 0<=Yf d s then(zK (Yf d s),w)::Vr d w r else Vr d w r
theorem T8(d:W Zo)(w:Y):∀(l:W A) (e:K×Y),e∈Vr d w l->e.2=w/\e.1<d.length
 | [],e,h=>by simp[Vr] at h
 | s ::r,e,h=>by
   simp only[Vr] at h;split at h
   . rename_i a;rcases zN.1 h with rfl | h
     . have:=(GH d s).2;exact⟨rfl,by show zK _<_;omega⟩
     exact T8 d w r e h
   exact T8 d w r e h
def K1(d:W Zo)(i:K):Ww:=if i<d.length then Vr d 0 (Yz (nth d i).2)++Vr d 1 (Ye (nth d i).2) else []
theorem Rf(d:W Zo)(i:K)(e:K×Y)(h:e∈K1 d i):e.2<=1/\e.1<d.length/\i<d.length:=by
 unfold K1 at h;split at h
 . rename_i hi;rcases xE.1 h with h | h<;>(have:=T8 d _ _ e h;omega)
 simp at h
theorem Qk2(a b:Ww)(L:W Y):Mb (a++b) L=max (Mb a L) (Mb b L):=by
 have d:Mb (a++b) L<=max (Mb a L) (Mb b L):=D4.2 ⟨by have:=T5 a L;omega,λe he=>by
  rcases xE.1 he with he | he
  . have:=(D4.1 (zS (Mb a L))).2 e he;omega
  have:=(D4.1 (zS (Mb b L))).2 e he;omega⟩
 have c:=D4.1 (zS (Mb (a++b) L));have f:Mb a L<=Mb (a++b) L:=D4.2 ⟨c.1,λe he=>c.2 e (List.mem_append_left _ he)⟩;have g:Mb b L<=Mb (a++b) L:=D4.2 ⟨c.1,λe he=>c.2 e (List.mem_append_right _ he)⟩;omega
theorem JC(d:W Zo)(L:W Y)(w:Y)(f:0<=w/\w<=1)(a:∀j,0<=nth L j/\nth L j<=1000000):∀(l:W A) (k:K) (m:Y),X8 (Bs d L w) E6 l k m= .brk ((Vr d w l).foldl (λm e=>max m (nth L e.1+e.2)) m)
 | [],k,m=>rfl
 | s::r,k,m=>by
   simp only[X8,Bs,Vr];have b:∀j,vA vB (nth L j+w)=nth L j+w:=λj=>IntWalk.i64_in _ (by have:=a j;omega)
   by_cases h:0<=Yf d s
   . have c:decide (Yf d s>=(0:Y))=H:=uT h;rw[c,uK,uG h,b];exact JC d L w f a r (k+1) _
   have c:decide (Yf d s>=(0:Y))=D:=uS h;rw[c,uI,uH h];exact JC d L w f a r (k+1) _
theorem Qbz{d:W Zo}{L:W Y}{w:Y}(a:0<=w/\w<=1)(b:∀j,0<=nth L j/\nth L j<=1000000)(l:W A):X5 d L l w=Mb (Vr d w l) L:=by
 unfold X5;rw[JC d L w a b];rfl
theorem Qk3{d:W Zo}{L:W Y}(a:∀j,0<=nth L j/\nth L j<=1000000){i:K}(hi:i<d.length):max (X5 d L (Yz (nth d i).2) 0) (X5 d L (Ye (nth d i).2) 1)=Mb (K1 d i) L:=by
 rw[Qbz (by omega) a,Qbz (by omega) a];unfold K1;rw[uG hi,Qk2]
abbrev Qb0(d:W Zo)(a:Zo)(L:W Y):Y:=max (X5 d L (Yz a.2) 0) (X5 d L (Ye a.2) 1)
abbrev Qhf:=K->Zo->W Y×uA->Rd (Rd (W Y×uA) (W Y×uA) (W Y)) (W Y×uA) (W Y×uA)
def Qhg(d:W Zo)(f:Qhf):Prop:=∀k a s,f k a s=bif decide (Qb0 d a s.1>(d.length:Y)) then .ret (.ret ([],D)) else(bif decide (Qb0 d a s.1>nth s.1 k) then .next (zE s.1 k (Qb0 d a s.1),H) else .next (s.1,s.2))
theorem T9{d:W Zo}{f:Qhf}{e:K->W Y×uA->W Y×uA}(i:Qhg d f)(m:∀k s,e k s=s)(hd:d.length<=1000000):
 ∀ (l:W Zo) (k:K) (L:W Y) (c:uA),d.drop k=l->L.length=d.length->(∀j,0<=nth L j/\nth L j<=(d.length:Y))->
   X8 f e l k (L,c)=(match Fz (K1 d) d.length (yZ k l.length) (c,L) with
    | none=> .ret (.ret ([],D))
    | some s=> .brk (s.2,s.1))
 | [],k,L,c,_,_,_=>by simp[X8,Fz,m]
 | a ::l,k,L,c,hl,hlen,hL=>by
   have o:d[k]? =uC a:=by
    have:=uU (·[0]?) hl;simpa using this
   have n:k<d.length:=(yG.1 o).1;have ha:nth d k=a:=UX o;have b:d.drop (k+1)=l:=by rw[←List.drop_drop,hl];rfl
   have hb:∀j,0<=nth L j/\nth L j<=1000000:=λj=>by have:=hL j;omega
   have p:Qb0 d a L=Mb (K1 d k) L:=by rw[←ha];exact Qk3 hb n
   simp only[X8,i k a (L,c),List.length_cons,List.range'_succ,Fz,p];by_cases g:(d.length:Y)<Mb (K1 d k) L
   . rw[uT (show Mb (K1 d k) L>(d.length:Y) from g),uK,uG g]
   rw[uS (show¬Mb (K1 d k) L>(d.length:Y) from g),uI,uH g];by_cases h:nth L k<Mb (K1 d k) L
   . rw[uT (show Mb (K1 d k) L>nth L k from h),uK,uG h];refine T9 i m hd l (k+1) _ H b (by rw[zG];exact hlen) λj=>?_
     have q:=T5 (K1 d k) L;rw[T6 _ _ (by omega)];split
     . omega
     exact hL j
   rw[uS (show¬Mb (K1 d k) L>nth L k from h),uI,uH h];exact T9 i m hd l (k+1) L c b hlen hL
def Qp9:uM (W Y)->Out (W Y×uA) (W Y)
 | none=> .ret ([],D)
 | some L=> .brk L
def Qm1(d:W Zo)(f:Qhf)(e:K->W Y×uA->W Y×uA)(F:W Y×uA->Rd (W Y×uA) (W Y×uA) (W Y)):Prop:=∀s,F s=bif s.2 then(Out.on (X8 f e d 0 (s.1,D)) λa=> .next (a.1,a.2)) else .brk s.1
theorem Nf{d:W Zo}{f:Qhf}{e:K->W Y×uA->W Y×uA}{F:W Y×uA->Rd (W Y×uA) (W Y×uA) (W Y)}(b:Qhg d f)(g:∀k s,e k s=s)(a:Qm1 d f e F)(hd:d.length<=1000000):
 ∀(n:K) (L:W Y) (c:uA),L.length=d.length->(∀j,0<=nth L j/\nth L j<=(d.length:Y))->whl F n (L,c)=(ZY (K1 d) d.length d.length n (c,L)).map Qp9
 | 0,L,c,_,_=>rfl
 | n+1,L,D,_,_=>by
   simp only[whl,a (L,D),uI,ZY];rfl
 | n +1,L,H,hlen,hL=>by
   have h:=T9 b g hd d 0 L D rfl hlen hL;have m:yZ 0 d.length=zM d.length:=(xJ ..).symm;rw[m] at h;simp only[whl,a (L,H),uK,h,ZY];cases o:Fz (K1 d) d.length (zM d.length) (D,L) with
   | none=>rfl
   | some s=>
     obtain⟨l,_,_,p⟩:=Gw (zM d.length) D L s (λi hi=>by rw[hlen];exact Dv hi) o;have:=Nf b g a hd n s.2 s.1 (by rw[l,Sd,hlen]) λj=>⟨by rw[l];exact yL (hL j).1 (XJ (K1 d) j _ L),p (λj=>(hL j).2) j⟩
     exact this
theorem Dw(n:K):(zF n (0:Y)).length=n/\∀j,0<=nth (zF n (0:Y)) j/\nth (zF n (0:Y)) j<=(n:Y):=
 ⟨by simp,λj=>by rw[WA];omega⟩
theorem TB{d:W Zo}{f:Qhf}{e:K->W Y×uA->W Y×uA}{F:W Y×uA->Rd (W Y×uA) (W Y×uA) (W Y)}(a:Qhg d f)(b:∀k s,e k s=s)(c:Qm1 d f e F)(hd:d.length<=1000000):
 (whl F (zD d*zD d+3) (zF (zK (d.length:Y)) (0:Y),H)).isSome=H:=by
 rw[zV,Nf a b c hd _ _ _ (Dw _).1 (Dw _).2,Option.isSome_map];refine EB _ _ _ (Dw _).1 (λj=>((Dw _).2 j).2) ?_;have:((zD d*zD d+3:K):Y)=(d.length:Y)*(d.length:Y)+3:=by rw[xF,Int.natCast_mul];rfl
 have g:(zF d.length (0:Y)).sum=0:=by simp
 rw[this,g];omega
open GoE (enc wide)
def Dh(b:W Y)(a:K)(c:Y)(_:uB):Rd (uA) (uB) (uB):=(bif (c !=(nth b a)) then(.ret D) else(.next ()))
def Gg(_:K)(_:uB):uB:=()
def Um(a:W Y)(b:W Y):uA:=(bif ((a.length:Y) !=(b.length:Y)) then D else(Out.on (X8 (Dh b) Gg a 0 ()) (λ_=>H)))
theorem XQ(a:W Y)(b:W Y):ACalls vC 153 [.h a,.h b] (.b (Um a b)):=by
 refine en func153 λ_ _ _=>sn [0,1,4] [] p0 ?_
 refine Qa<|tn [0,1,4,10] [] (pl 1 a (pl 3 b p0))<|ck ((a.length:Y) !=(b.length:Y)) (λd=>?_) (λd=>?_)
 ·exact tu [(4,.b D)] [] [] [] p0<|Qc<|pb [] (Xg d rfl)
 have j:=Ap d;refine Qd<|Qa<|tu [(4,.b D),(5,.i 0)] [] [] [] p0<|wT 0 0 .sh a (λk m=>?_)
 refine S7 (Dh b) Gg a () (λc _=> [(5,.i (c:Y))]) [5] (λ_=> []) [0,1,5] wf0 (λc n O U=>?_) (λc n O U=>?_) (λr e=>?_)
 ·obtain⟨o,V⟩:=Xo (l:=a) (i:=c) O;refine Qa<|sn [0,1,4,5,14] [] (pl 2 a (pe 3 (zB ((c:Y)<(a.length:Y))) p0))<|ckT<|Qd<|Qa<|Qp<|wT 1 0 .sh b (λp q=>?_)
  have f:=ng b c;refine tN [0,1,4,5,25] [] (pn 2 V (pn 6 f p0))<|ck (o !=(nth b c)) (λg=>?_) (λg=>?_)
  ·refine tu [] [] [] [] p0<|Qc ?_
   have h:(X8 (Dh b) Gg a 0 ())= .ret D:=Kj V (Xg g rfl) U;exact pb [] (Qi d (Pq h))
  refine Qd<|qu [(5,.i ((c+1:K):Y))] [5] [] [] (pw 1 c p0) ?_
  exact xw _ (Qr V (Qi g rfl) U)
 ·exact Qa<|sn [0,1,4,5,14] [] (pl 2 a (pe 3 (zC ((c:Y)<(a.length:Y))) p0))<|ckF<|Xa<|xw _ (Xq O rfl U)
 exact sn [4] [] p0<|Qc<|pb [] (Qi d (Vx e rfl))
def Iv(d:W Zo)(_:K)(a:W Y):Rd ((W Y)×uA) (W Y) (W Y):=(.next (W3 d a))
def Oc(_:K)(a:W Y):(W Y):=a
def Yj(d:W Zo):(W Y)×uA:=(bif (!(Hg d)) then([],D) else(Out.on (K0 (Iv d) Oc (vA vB (vA vB ((d.length:Y)*(d.length:Y))+1)+1).toNat 0 (zF (d.length:Y).toNat (0:Y))) (λa=>(bif (!(Um (W3 d a) a)) then([],D) else(a,H)))))
theorem Rg(d:W Zo):ACalls vC 149 [.h d] (.tup [(D, [.o 0 (((Yj d)).1)]),(D, [.b (((Yj d)).2)])]):=by
 refine en func149 λ_ _ _=>sn [0,2,3] [] p0 ?_
 refine Qa<|tn [0,2,3,8] [] (pc 1 (JB d) p0)<|ck (!(Hg d)) (λg=>?_) (λg=>?_)
 ·exact tu [(2,.one (.slc (.own H 576) 1 [])),(3,.b D)] [] [] [] p0<|Qc<|pz [] (show Yj d=_ from Xg g rfl) (λz=> .tup [(D, [.o 0 z.1]),(D, [.b z.2])])
 have h:(Hg d)=H:=Z5 g;have k:=Qq0 h;refine Qd<|wT 0 0 .sh d (λl m=>?_)
 refine tu [(2,.e 0),(3,.b D),(4,.one (.slc (.own H 768) 1 (zF (d.length:Y).toNat [.i 0])))] [] [] [] (pl 1 d (px (Gt (lo:=0) (hi:=(d.length:Y)) (n:=1073741824) (⟨by omega,by omega,by omega⟩)) p0))<|eqn [(4,.o 768 (zF (d.length:Y).toNat (0:Y)))] [4] [] [] (by rw[show(zF (d.length:Y).toNat [.i 0])=(eL (zF (d.length:Y).toNat (0:Y))) from Qkt _ (0:Y)]<;>kernel_rfl) ?_
 refine Qa<|sn [0,2,3,4,5] [] p0<|mz [(5,.i 0)] [] [] []<|Qol (Iv d) Oc (vA vB (vA vB ((d.length:Y)*(d.length:Y))+1)+1).toNat (zF (d.length:Y).toNat (0:Y)) (λc a=> [(4,.o 147203 a),(5,.i (c:Y))]) [4,5] (λb=> [(4,.o 147353 b)]) [4,5] (λ_ a=>zD a=zD d) (λb=>zD b=zD d) (wsf [(768,147203)]) (by simp) (λc a O U=>?_) (λc a O U=>?_) (λb e=>?_)
 ·have f:=U.2;refine Qa<|sn [0,2,3,4,5,20] [] (pl 2 d (pl 4 d (pe 7 (zB ((c:Y)<=vA vB (vA vB ((d.length:Y)*(d.length:Y))+1))) p0)))<|ckT<|Qd<|Qa<|Qp<|qn [0,2,3,4,5] [] (pc 2 (Tb d a (by omega)) p0) ?_
  refine qu [(4,.o 1600 (W3 d a)),(5,.i ((c+1:K):Y))] [4,5] [] [] (pw 1 c p0) ?_;exact zZ (W3 d a) (yN (wsf [(1600,147203)]) ⟨Jd O rfl U.1,(by have o:=NO d a;omega)⟩)
 ·have f:=U.2;exact Qa<|sn [0,2,3,4,5,20] [] (pl 2 d (pl 4 d (pe 7 (zC ((c:Y)<=vA vB (vA vB ((d.length:Y)*(d.length:Y))+1))) p0)))<|ckF<|Xa<|zZ a (yN (wsf [(147203,147353)]) ⟨Hn O rfl U.1,by first|omega|(simp only[zG];omega)⟩)
 have i:=e.2;refine Qa<|sn [2,3,4,31] [] (pc 2 (Tb d b (by omega)) (pc 4 (XQ (W3 d b) b) p0))<|ck (!(Um (W3 d b) b)) (λj=>?_) (λj=>?_)
 ·exact tn [2,3,4] [] p0<|Qc<|pz [] (show Yj d=_ from Qi g (Vx e.1 (Xg j rfl))) (λz=> .tup [(D, [.o 0 z.1]),(D, [.b z.2])])
 exact Qd<|tn [2,3] [] p0<|Qc<|pz [] (show Yj d=_ from Qi g (Vx e.1 (Qi j rfl))) (λz=> .tup [(D, [.o 0 z.1]),(D, [.b z.2])])
def Hy(d:W Zo)(c:K)(b:Zo)(a:(W Y)×uA):Rd (Rd ((W Y)×uA) ((W Y)×uA) (W Y)) ((W Y)×uA) ((W Y)×uA):=(bif decide ((max (X5 d a.1 (Yz b.2) 0) (X5 d a.1 (Ye b.2) 1))>(d.length:Y)) then(.ret (.ret ([],D))) else(bif decide ((max (X5 d a.1 (Yz b.2) 0) (X5 d a.1 (Ye b.2) 1))>(nth a.1 c)) then(.next (zE a.1 c (max (X5 d a.1 (Yz b.2) 0) (X5 d a.1 (Ye b.2) 1)),H)) else(.next (a.1,a.2))))
def Hz(_:K)(a:(W Y)×uA):(W Y)×uA:=(a.1,a.2)
def Wy(d:W Zo)(a:(W Y)×uA):Rd ((W Y)×uA) ((W Y)×uA) (W Y):=(bif a.2 then(Out.on (X8 (Hy d) Hz d 0 (a.1,D)) (λb=>(.next (b.1,b.2)))) else(.brk a.1))
def Qt(d:W Zo):(W Y)×uA:=(bif (!(Jh d)) then([],D) else(Out.on (Ps (Wy d) (zD d*zD d+3) ((zF (d.length:Y).toNat (0:Y)),H)) (λa=>(a,H))))
theorem Gy(d:W Zo)(hd:d.length<=5):(whl (Wy d) (zD d*zD d+3) (zF (d.length:Y).toNat (0:Y),H)).isSome=H:=TB (f:=Hy d) (e:=Hz) (λ_ _ _=>rfl) (λ_ _=>rfl) (λ_=>rfl) (by omega)
theorem Rh(d:W Zo):ACalls vC 165 [.h d] (.tup [(D, [.o 0 (((Qt d)).1)]),(D, [.b (((Qt d)).2)])]):=by
 refine en func165 λ_ _ _=>sn [0,2,3] [] p0 ?_
 refine Qa<|tn [0,2,3,11] [] (pc 1 (JA d) p0)<|ck (!(Jh d)) (λp=>?_) (λp=>?_)
 ·refine tu [(2,.e 0),(3,.b D)] [] [] [] p0<|opn [(D,2,0,H,384000,1)] ?_
  exact Qc<|pz [] (show Qt d=_ from Xg p rfl) (λz=> .tup [(D, [.o 0 z.1]),(D, [.b z.2])])
 have v:(Jh d)=H:=Z5 p;refine Qd<|wT 0 0 .sh d (λa5 a6=>?_)
 refine tu [(2,.e 0),(3,.b D),(4,.one (.slc (.own H 896) 1 (zF (d.length:Y).toNat [.i 0])))] [] [] [] (pl 1 d (px (Gt (lo:=0) (hi:=(d.length:Y)) (n:=1073741824) (⟨by omega,by omega,by omega⟩)) p0))<|eqn [(4,.o 896 (zF (d.length:Y).toNat (0:Y)))] [4] [] [] (by rw[show(zF (d.length:Y).toNat [.i 0])=(eL (zF (d.length:Y).toNat (0:Y))) from Qkt _ (0:Y)]<;>kernel_rfl) ?_
 refine Qa<|sn [0,2,3,4,5] [] p0<|mz [(5,.b H)] [] [] []<|blw (λ(e:(W Y)×uA)=> [(4,.o 896 e.1),(5,.b e.2)]) [4,5] (λe=> []) [] (λ(q:W Y)=> [(4,.o 896 q)]) [0,4,5] (λq=> []) [] (λ(k0:K) (e:(W Y)×uA)=>whl (Wy d) k0 e=uC (Ps (Wy d) (zD d*zD d+3) ((zF (d.length:Y).toNat (0:Y)),H))/\zD e.1=zD d) (λ(q:W Y)=>(Ps (Wy d) (zD d*zD d+3) ((zF (d.length:Y).toNat (0:Y)),H))= .brk q) (zD d*zD d+3) ((zF (d.length:Y).toNat (0:Y)),H) wf0 ⟨N1 (Gy d (Gx (v))),(by simp)⟩ (λ_ h=>Sb h.1) (λk0 e U=>?_) (λq w=>?_)
 ·have x:=U.2;refine Qa<|sn [0,2,3,4,5,15] [] p0<|ck e.2 (λu=>?_) (λu=>?_)
  ·refine Qd<|Qp<|tn [0,2,3,4,5] [] p0<|tu [(5,.b D),(16,.h d),(17,.i (d.length:Y)),(18,.i 0)] [5] [] [] (pl 1 d p0)<|Qbn (Hy d) Hz d (e.1,D) (λk1 a=> [(4,.o 896 a.1),(5,.b a.2),(18,.i (k1:Y))]) [4,5,18] (λj=> [(4,.o 896 j.1),(5,.b j.2)]) [4,5,16,17,18] (λ_ a=>zD a.1=zD e.1) (λj=>zD j.1=zD e.1) wf0 (by simp) (λk1 a k c=>?_) (λk1 a k c=>?_) (λj r=>?_)
   ·have m:=c.2;obtain⟨b,g⟩:=Xo (l:=d) (i:=k1) k;refine su [(19,.b H)] [] [] [] (pe 0 (zB ((k1:Y)<(d.length:Y))) p0)<|Qa<|ckT<|Qd<|Qa<|Qp<|sn [0,2,3,4,5,6,7,16,17,18] [7] (pn 1 g p0)<|tN [0,2,3,4,5,6,8,16,17,18] [] (pc 4 (XL b.2) (pc 5 (Nd d a.1 (Yz b.2) 0 (by omega)) (pc 10 (XM b.2) (pc 11 (Nd d a.1 (Ye b.2) 1 (by omega)) p0))))<|Qa<|tu [(6,.i (k1:Y)),(8,.i (max (X5 d a.1 (Yz b.2) 0) (X5 d a.1 (Ye b.2) 1))),(39,.b (decide ((max (X5 d a.1 (Yz b.2) 0) (X5 d a.1 (Ye b.2) 1))>(d.length:Y))))] [19] [] [] (pl 2 d p0)<|ck (decide ((max (X5 d a.1 (Yz b.2) 0) (X5 d a.1 (Ye b.2) 1))>(d.length:Y))) (λs=>?_) (λs=>?_)
    ·refine su [] [39] [] [] p0<|opn [(D,2,0,H,384000,1)] ?_
     refine Qc ?_;have V:(X8 (Hy d) Hz d 0 (e.1,D))= .ret (.ret ([],D)):=Kj g (Xg s rfl) c.1;have a2:(Ps (Wy d) (zD d*zD d+3) ((zF (d.length:Y).toNat (0:Y)),H))= .ret ([],D):=Qog (Xg u (Pq V)) U.1;exact pz [] (show Qt d=_ from Qi p (Pq a2)) (λz=> .tup [(D, [.o 0 z.1]),(D, [.b z.2])])
    have a7:=uY s;refine Qd<|wT 4 0 (.own H 896) a.1 (λa8 a4=>?_)
    have o:=ng a.1 k1;refine sn [0,2,3,4,5,6,8,16,17,18,45] [] (pN 3 o p0)<|ck (decide ((max (X5 d a.1 (Yz b.2) 0) (X5 d a.1 (Ye b.2) 1))>(nth a.1 k1))) (λf=>?_) (λf=>?_)
    ·have t:=uJ f;refine tu [(4,.one (.slc (.own H 896) 1 (setRow (eL a.1) k1 0 [.i (max (X5 d a.1 (Yz b.2) 0) (X5 d a.1 (Ye b.2) 1))])))] [4,6,8,39] [] [] (pN 3 o p0)<|eqn [(4,.o 896 (zE a.1 k1 (max (X5 d a.1 (Yz b.2) 0) (X5 d a.1 (Ye b.2) 1))))] [4] [] [] (by rw[Km (y:=(max (X5 d a.1 (Yz b.2) 0) (X5 d a.1 (Ye b.2) 1))) o rfl]<;>kernel_rfl) ?_
     refine ru [(5,.b H)] [5] [] [] p0 ?_;refine rn [0,2,3,4,5,16,17,18] [] (pw 0 k1 p0) ?_;exact xw (zE a.1 k1 (max (X5 d a.1 (Yz b.2) 0) (X5 d a.1 (Ye b.2) 1)),H) ⟨Qr g (Qi s (Xg f rfl)) c.1,(by first|omega|(simp only[zG];omega))⟩
    have t:=uY f;refine Qd<|qn [0,2,3,4,5,16,17,18] [] (pw 0 k1 p0) ?_
    exact xw (a.1,a.2) ⟨Qr g (Qi s (Qi f rfl)) c.1,(by first|omega|(simp only[zG];omega))⟩
   ·have m:=c.2;exact su [(19,.b D)] [] [] [] (pe 0 (zC ((k1:Y)<(d.length:Y))) p0)<|Qa<|ckF<|Xa<|xw (a.1,a.2) ⟨Xq k rfl c.1,by first|omega|(simp only[zG];omega)⟩
   have a3:=r.2;exact xw (j.1,j.2) ⟨wn U.1 (Xg u (Vx r.1 rfl)),(by first|omega|(simp only[zG];omega))⟩
  exact Xa<|xw _ (wb U.1 (Qi u rfl))
 exact sn [2,3] [] p0<|Qc<|pz [] (show Qt d=_ from Qi p (Vx w rfl)) (λz=> .tup [(D, [.o 0 z.1]),(D, [.b z.2])])
def Low(b:Y)(L:W Y):Prop:=∀j,0<=nth L j/\nth L j<=b
theorem Qb1{b w:Y}{i:K}{L:W Y}{p:K}(hi:i<L.length)(a:0<=w/\w<=1)(h:Low b L):Low (b+w) (ZG i L (p,w)):=λj=>by
 rw[WC _ hi];have c:=h j;have d:=h p;have e:=h i;split
 . show 0<=max (nth L i) (nth L p+w)/\max (nth L i) (nth L p+w)<=b+w;omega
 omega
theorem TC(d:W Zo)(c:K):∀(l:W A) (k:K) (s:W Y) (b:Y),c<s.length->Low b s->X8 (Aq d c) B8 l k s= .brk (D5 c (Vr d 0 l) s)/\Low b (D5 c (Vr d 0 l) s)
 | [],k,s,b,_,h=>⟨rfl,h⟩
 | a :: l,k,s,b,hk,h=>by
   have m:Aq d c k a s=(bif (decide (0<=Yf d a)&&decide (nth s c<nth s (zK (Yf d a)))) then .next (zE s c (nth s (zK (Yf d a)))) else .next s):=rfl;simp only[X8,m,Vr];by_cases f:0<=Yf d a
   . rw [uG f,uT f,Bool.true_and];have hb:Low b (ZG c s (zK (Yf d a),0)):=by have:=Qb1 (w:=0) (p:=zK (Yf d a)) hk (by omega) h;simpa using this
     have j:D5 c ((zK (Yf d a),0)::Vr d 0 l) s=D5 c (Vr d 0 l) (ZG c s (zK (Yf d a),0)):=rfl;rw[j];have g:=TC d c l (k+1) (ZG c s (zK (Yf d a),0)) b (by rw[Oa];exact hk) hb;by_cases i:nth s c<nth s (zK (Yf d a))
     . have e:ZG c s (zK (Yf d a),0)=zE s c (nth s (zK (Yf d a))):=by unfold ZG;simp[i]
       rw[uT i,uK];rw[e] at g⊢;exact g
     have e:ZG c s (zK (Yf d a),0)=s:=by unfold ZG;simp[i]
     rw[uS i,uI];rw[e] at g⊢;exact g
   rw[uH f,uS f,Bool.false_and,uI];exact TC d c l (k+1) s b hk h
theorem TD(d:W Zo)(c:K):∀(l:W A) (k:K) (s:W Y) (b:Y),c<s.length->Low b s->b+l.length<=1000000->X8 (Ar d c) E7 l k s= .brk (D5 c (Vr d 1 l) s)/\Low (b+l.length) (D5 c (Vr d 1 l) s)
 | [],k,s,b,_,h,_=>⟨rfl,by show Low (b+((0:K):Y)) s;simpa using h⟩
 | a :: l,k,s,b,hk,h,hb=>by
   rw[List.length_cons] at hb⊢;have o:Ar d c k a s=(bif (decide (0<=Yf d a)&&decide (nth s c<vA vB (nth s (zK (Yf d a))+1))) then .next (zE s c (vA vB (nth s (zK (Yf d a))+1))) else .next s):=rfl;simp only[X8,o,Vr];have q:b+((l.length+1:K):Y)=b+1+(l.length:Y):=by omega
   have hw:vA vB (nth s (zK (Yf d a))+1)=nth s (zK (Yf d a))+1:=IntWalk.i64_in _ (by have:=h (zK (Yf d a));omega);rw[q] at hb⊢;by_cases g:0<=Yf d a
   . rw [uG g,uT g,Bool.true_and,hw];have f:=Qb1 (w:=1) (p:=zK (Yf d a)) hk (by omega) h;have n:D5 c ((zK (Yf d a),1)::Vr d 1 l) s=D5 c (Vr d 1 l) (ZG c s (zK (Yf d a),1)):=rfl;rw[n];have i:=TD d c l (k+1) (ZG c s (zK (Yf d a),1)) (b+1) (by rw[Oa];exact hk) f hb;by_cases m:nth s c<nth s (zK (Yf d a))+1
     . have e:ZG c s (zK (Yf d a),1)=zE s c (nth s (zK (Yf d a))+1):=by unfold ZG;rw[uG m]
       rw[uT m,uK];rw[e] at i⊢;exact i
     have e:ZG c s (zK (Yf d a),1)=s:=by unfold ZG;rw[uH m]
     rw[uS m,uI];rw[e] at i⊢;exact i
   rw[uH g,uS g,Bool.false_and,uI];exact TD d c l (k+1) s (b+1) hk (λj=>by have:=h j;omega) hb
theorem HV(q:W Q9)(b:uA):∀(l:W uA) (k:K) (s:W A),∃t,X8 (Wk q b) Hq l k s= .brk t/\t.length<=s.length+l.length
 | [],k,s=>⟨s,rfl,by simp⟩
 | a ::l,k,s=>by
   simp only[X8,Wk];cases(K3 (nth q k)&&(a==b)) with
   | true=>
     obtain⟨t,c,d⟩:=HV q b l (k+1) (s++ [(nth q k).2.2.2.1]);exact⟨t,c,by simp at d⊢;omega⟩
   | false=>
     obtain⟨t,c,d⟩:=HV q b l (k+1) s;exact⟨t,c,by simp at d⊢;omega⟩
theorem Qk4(q:W Q9):zD (Yd q)<=9:=by
 cases a:Qj q with
 | true=>have:=T2 q;have:=(Fs a).2;omega
 | false=>unfold Yd;rw[a];simp
theorem Qsw(q:W Q9)(b:uA):zD (Wx q b)<=9:=by
 unfold Wx;obtain⟨t,a,c⟩:=HV q b (Yd q) 0 [];rw[a];have e:=Qk4 q;have d:=Qg5 (Rb t);rw[NF] at d;show(HG (Rb t)).length<=9;simp at c;omega
theorem Qhh(i:K)(a b:Ww)(L:W Y):D5 i (a++b) L=D5 i b (D5 i a L):=List.foldl_append
theorem Qoz{d:W Zo}{k:K}{a:Zo}{s:W Y}{b:Y}(e:d[k]? =uC a)(n:s.length=d.length)(h:Low b s)(o:b+9<=1000000):Hh d k a s= .next (D5 k (K1 d k) s)/\Low (b+9) (D5 k (K1 d k) s):=by
 have c:k<d.length:=(yG.1 e).1;have ha:nth d k=a:=UX e;obtain⟨f,g⟩:=TC d k (Yz a.2) 0 s b (by omega) h;have p:(Ye a.2).length<=9:=Qsw a.2 H;obtain⟨i,l⟩:=TD d k (Ye a.2) 0 (D5 k (Vr d 0 (Yz a.2)) s) b (by rw[Lf];omega) g (by omega);have m:K1 d k=Vr d 0 (Yz a.2)++Vr d 1 (Ye a.2):=by unfold K1;rw[uG c,ha]
 rw[m,Qhh];refine⟨?_,λj=>by have:=l j;omega⟩;unfold Hh;rw[Qdw,Qdx,f];simp only[Out.on];rw[i]
theorem EF{d:W Zo}:∀(l:W Zo) (k:K) (s:W Y) (b:Y),d.drop k=l->s.length=d.length->Low b s->b+9*l.length<=1000000->X8 (Hh d) E8 l k s= .brk (Dd (K1 d) (yZ k l.length) s)/\Low (b+9*l.length) (Dd (K1 d) (yZ k l.length) s)
 | [],k,s,b,_,_,h,_=>⟨rfl,by show Low (b+9*((0:K):Y)) s;simpa using h⟩
 | a ::l,k,s,b,hl,hs,h,hb=>by
   have f:d[k]? =uC a:=by
    have:=uU (·[0]?) hl;simpa using this
   have c:d.drop (k+1)=l:=by rw[←List.drop_drop,hl];rfl
   rw[List.length_cons] at hb⊢;obtain⟨g,i⟩:=Qoz f hs h (by omega);have e:b+9*((l.length+1:K):Y)=b+9+9*(l.length:Y):=by omega
   rw[e] at hb⊢;obtain⟨j,m⟩:=EF l (k+1) (D5 k (K1 d k) s) (b+9) c (by rw[Lf];exact hs) i hb;simp only[X8,g,List.range'_succ];exact⟨j,m⟩
theorem EG{d:W Zo}{s:W Y}{b:Y}(e:s.length=d.length)(h:Low b s)(f:b+9*d.length<=1000000):W3 d s=Dd (K1 d) (zM d.length) s/\Low (b+9*d.length) (Dd (K1 d) (zM d.length) s):=by
 obtain⟨a,c⟩:=EF d 0 s b rfl e h f;have g:yZ 0 d.length=zM d.length:=(xJ ..).symm;rw[g] at a c;refine⟨?_,c⟩;unfold W3;rw[a];rfl
theorem HX{d:W Zo}(hd:d.length<=5):∀(n k m:K),m+n<=1000->Low (45*m) (B6 (K1 d) d.length m)->K0 (Iv d) Oc n k (B6 (K1 d) d.length m)= .brk (B6 (K1 d) d.length (m+n))/\Low (45*(m+n)) (B6 (K1 d) d.length (m+n))
 | 0,k,m,_,h=>⟨rfl,by simpa using h⟩
 | n+1,k,m,hm,h=>by
   obtain⟨b,a⟩:=EG (Sg (K1 d) d.length m) h (by omega);have e:B6 (K1 d) d.length (m+1)=Dd (K1 d) (zM d.length) (B6 (K1 d) d.length m):=rfl;simp only[K0,Iv,b];rw[←e] at a⊢;have:=HX hd n (k+1) (m+1) (by omega) (λj=>by have:=a j;omega);rw[show m+(n+1)=m+1+n by omega];refine⟨this.1,λj=>by have:=this.2 j;omega⟩
theorem Qhi(b:W Y):∀(l:W Y) (k:K),l.length=(b.drop k).length->Out.on (X8 (Dh b) Gg l k ()) (λ_=>H)=decide (l=b.drop k)
 | [],k,h=>by
   have:b.drop k= []:=zP (by rw[←h];rfl);rw[this];rfl
 | a ::l,k,h=>by
   have c:k<b.length:=by simp only[List.length_cons,List.length_drop] at h;omega
   have hd:b.drop k=nth b k::b.drop (k+1):=by
    rw[List.drop_eq_getElem_cons c,show nth b k=b[k] by simp[nth,yA,c]]
   rw[hd] at h⊢;simp only[X8,Dh];by_cases e:a=nth b k
   . rw[show(a !=nth b k)=D by simp[e],uI,Qhi b l (k+1) (by simpa using h)];simp[e]
   rw[show(a !=nth b k)=H by simp[e],uK];simp[e,Out.on]
theorem Qhj(a b:W Y)(h:a.length=b.length):Um a b=decide (a=b):=by
 unfold Um;rw[show((a.length:Y) !=(b.length:Y))=D by simp[h],uI,Qhi b a 0 (by simpa using h),List.drop_zero]
theorem Ay(d:W Zo):Yj d=Qt d:=by
 unfold Yj Qt;rw[←GG];cases h:Jh d with
 | false=>rfl
 | true=>
   have g:=Gx h;obtain⟨p,_⟩:=Qq0 ((GG d).symm.trans h);simp only[xL,uI];have k:B6 (K1 d) d.length 0=zF (zK (d.length:Y)) (0:Y):=by rw[zV];rfl
   have q:d.length*d.length<=25:=yT (Nat.mul_le_mul g g) (by decide);obtain⟨l,m⟩:=HX (d:=d) g (d.length*d.length+2) 0 0 (by omega) (λj=>by rw[k,zV,WA];omega);rw[k,yE] at l;rw[yE] at m;rw[p,show zK (((d.length*d.length+1:K):Y)+1)=d.length*d.length+2 by omega,l];simp only[Out.on];have c:=Sg (K1 d) d.length (d.length*d.length+2);obtain⟨s,_⟩:=EG (d:=d) c m (by omega);rw[s,Qhj _ _ (by rw[T7])];have hw:=Nf (d:=d) (f:=Hy d) (e:=Hz) (F:=Wy d) (λ_ _ _=>rfl) (λ_ _=>rfl) (λ_=>rfl) (by omega) (d.length*d.length+3) (zF d.length 0) H (Dw _).1 (Dw _).2
   have b:(ZY (K1 d) d.length d.length (d.length*d.length+3) (H,zF d.length 0)).isSome=H:=by
    have:=Gy d g;rw[zV,hw,Option.isSome_map] at this;exact this
   obtain⟨r,o⟩:=Option.isSome_iff_exists.1 b;unfold Ps;rw[zV,hw,o];obtain⟨t,u⟩:=Qhb (E:=K1 d) (n:=d.length) (λi e v=>Rf d i e v) o;by_cases a:Dd (K1 d) (zM d.length) (B6 (K1 d) d.length (d.length*d.length+2))=B6 (K1 d) d.length (d.length*d.length+2)
   . rw[t a,uT a];rfl
   rw[u a,uS a];rfl
open GoE (enc wide)
def Bd(a:A)(_:K)(b:Y4)(_:uB):Rd (Y) (uB) (uB):=(bif (b.1.toList==a.toList) then(.ret b.2) else(.next ()))
def Dx(_:K)(_:uB):uB:=()
def A5(b:W Y4)(a:A):Y:=(Out.on (X8 (Bd a) Dx b 0 ()) (λ_=>0))
theorem HY(b:W Y4)(a:A):ACalls vC 313 [.h b,.s a] (.i (A5 b a)):=by
 refine en func313 λ_ _ _=>sn [0,1,4] [] p0 ?_
 refine Qa<|tn [1,4,7,8,9] [] (pl 1 b p0)<|mz [(4,.i 0),(7,.h b),(8,.i (b.length:Y)),(9,.i 0)] [0] [] []<|wT 7 0 .sh b (λh j=>?_)
 refine S7 (Bd a) Dx b () (λc _=> [(9,.i (c:Y))]) [9] (λ_=> []) [1,7,8,9] wf0 (λc k O U=>?_) (λc k O U=>?_) (λm e=>?_)
 ·obtain⟨d,V⟩:=Xo (l:=b) (i:=c) O;refine sn [1,4,7,8,9,10] [] (pe 0 (zB ((c:Y)<(b.length:Y))) p0)<|Qa<|ckT<|Qd<|Qa<|Qp<|tn [1,4,6,7,8,9] [6] (pn 0 V p0)<|tu [(6,.p 6 0),(16,.b (d.1.toList==a.toList))] [] [(6, [.s d.1,.i d.2])] [] p0<|ck (d.1.toList==a.toList) (λf=>?_) (λf=>?_)
  ·refine sn [1,4,7,8,9] [] p0<|Qc ?_
   have g:(X8 (Bd a) Dx b 0 ())= .ret d.2:=Kj V (Xg f rfl) U;exact pi [] (Pq g)
  refine Qd<|rn [1,4,7,8,9] [] (pw 0 c p0) ?_
  exact xw _ (Qr V (Qi f rfl) U)
 ·exact sn [1,4,7,8,9,10] [] (pe 0 (zC ((c:Y)<(b.length:Y))) p0)<|Qa<|ckF<|Xa<|xw _ (Xq O rfl U)
 exact sn [4] [] p0<|Qc<|pi [] (Vx e rfl)
def Jf(b:W Y4)(a:A)(v:Va):uA:=((Xd v)&&((v.1 !=(0:Y))&&(v.1==(A5 b a))))
theorem Lk(c:W Y4)(a:A)(v:Va):ACalls vC 266 [.h c,.s a,.a [.i v.1,.i v.2.1,.s v.2.2]] (.b (Jf c a v)):=by
 refine en func266 λ_ _ _=>sn [0,1,5,6] [5] p0 ?_
 refine Qa<|mz [(5,.p 5 0),(6,.b D)] [2] [(5, [.i v.1,.i v.2.1,.s v.2.2])] []<|jn [(6,.b ((Xd v)&&((v.1 !=(0:Y))&&(v.1==(A5 c a)))))] [0,1,5,6] [] [5] (Xd v) (λb=>?_) (λb=>?_) ?_
 ·refine X4 (v.1 !=(0:Y)) (λd=>?_) (λd=>?_)
  ·refine rN [6] [] (pc 1 (cb b (J0 v)) (pt 5 d (pc 12 (HY c a) p0))) ?_;exact zA (by rw[b,d]<;>kernel_rfl)
  refine rN [6] [] (pc 1 (cb b (J0 v)) (pf 5 d p0)) ?_;exact zA (by rw[b,d]<;>kernel_rfl)
 ·refine rN [6] [] (pc 1 (cb b (J0 v)) p0) ?_;exact zA (by rw[b]<;>kernel_rfl)
 exact Qc<|pb [] (show Jf c a v=((Xd v)&&((v.1 !=(0:Y))&&(v.1==(A5 c a)))) from rfl)
def Wi(n:Y):uA:=(Xv n 0 2)
theorem B9(n:Y):ACalls vC 177 [.i n] (.b (Wi n)):=by
 refine en func177 λ_ _ _=>sn [0,2] [] p0 ?_
 exact tn [2] [] (pc 1 (Jz n 0 2) p0)<|Qc<|pb [] (show Wi n=(Xv n 0 2) from rfl)
def Uv(c:W Y4)(b:K)(a:Y4)(_:uB):Rd (uA) (uB) (uB):=(bif ((!(Qz a.1))|| (bif (a.2 !=(1:Y)) then((a.2 !=(2:Y))|| (decide ((b:Y)>(0:Y))&&(!(Op.bytesLess ((nth c ((b:Y)-1).toNat).1).toList a.1.toList)))) else(decide ((b:Y)>(0:Y))&&(!(Op.bytesLess ((nth c ((b:Y)-1).toNat).1).toList a.1.toList))))) then(.ret D) else(.next ()))
def Al(_:K)(_:uB):uB:=()
def Jw(a:W Y4):uA:=(Out.on (X8 (Uv a) Al a 0 ()) (λ_=>decide ((a.length:Y)<=(5:Y))))
theorem A6(c:W Y4):ACalls vC 214 [.h c] (.b (Jw c)):=by
 refine en func214 λ_ _ _=>sn [0,2] [] p0 ?_
 refine Qa<|tn [0,2,5,6,7] [] (pl 1 c p0)<|mz [(2,.b D),(5,.h c),(6,.i (c.length:Y)),(7,.i 0)] [] [] []<|wT 0 0 .sh c (λr s=>?_)
 refine S7 (Uv c) Al c () (λa _=> [(7,.i (a:Y))]) [7] (λ_=> []) [5,6,7] wf0 (λa t O U=>?_) (λa t O U=>?_) (λx n=>?_)
 ·obtain ⟨b,V⟩:=Xo (l:=c) (i:=a) O;refine sn [0,2,5,6,7,8] [] (pe 0 (zB ((a:Y)<(c.length:Y))) p0)<|Qa<|ckT<|Qd<|Qa<|Qp<|tn [0,2,3,4,5,6,7] [4] (pn 1 V p0)<|Qa<|mz [(3,.i (a:Y)),(4,.p 4 0)] [] [(4, [.s b.1,.i b.2])] []<|jn [(40,.b ((!(Qz b.1))|| (bif (b.2 !=(1:Y)) then((b.2 !=(2:Y))|| (decide ((a:Y)>(0:Y))&&(!(Op.bytesLess ((nth c ((a:Y)-1).toNat).1).toList b.1.toList)))) else(decide ((a:Y)>(0:Y))&&(!(Op.bytesLess ((nth c ((a:Y)-1).toNat).1).toList b.1.toList))))))] [3,4] [] [4] (!(Qz b.1)) (λf=>?_) (λf=>?_) ?_
  ·have d:(Qz b.1)=D:=V1 f;refine rN [0,2,5,6,7,40] [] (pc 2 (cb d (Zi b.1)) (pe 3 (show .b (!D)= .b H from rfl) p0)) ?_;exact zA (by rw[f]<;>kernel_rfl)
  ·have d:(Qz b.1)=H:=Z5 f;refine X4 (b.2 !=(1:Y)) (λe=>?_) (λe=>?_)
   ·have o:=P8 e;refine X4 (b.2 !=(2:Y)) (λg=>?_) (λg=>?_)
    ·refine rN [0,2,5,6,7,40] [] (pc 2 (cb d (Zi b.1)) (pe 3 (show .b (!H)= .b D from rfl) (pt 7 e (pt 11 g p0)))) ?_;exact zA (by rw[f,e,g]<;>kernel_rfl)
    have u:=Ap g;refine X4 (decide ((a:Y)>(0:Y))) (λj=>?_) (λj=>?_)
    ·have v:=uJ j;have p:=ng c ((a:Y)-1).toNat;refine rN [0,2,5,6,7,40] [] (pc 2 (cb d (Zi b.1)) (pe 3 (show .b (!H)= .b D from rfl) (pt 7 e (pf 11 g (pt 16 j (pe 20 (G6 (IntWalk.i64_in ((a:Y)-1) (by omega))) (pg 21 ((a:Y)-1) p p0))))))) ?_;exact zA (by rw[f,e,g,j]<;>kernel_rfl)
    refine rN [0,2,5,6,7,40] [] (pc 2 (cb d (Zi b.1)) (pe 3 (show .b (!H)= .b D from rfl) (pt 7 e (pf 11 g (pf 16 j p0))))) ?_;exact zA (by rw[f,e,g,j]<;>kernel_rfl)
   have o:=Ap e;refine X4 (decide ((a:Y)>(0:Y))) (λk=>?_) (λk=>?_)
   ·have w:=uJ k;have q:=ng c ((a:Y)-1).toNat;refine rN [0,2,5,6,7,40] [] (pc 2 (cb d (Zi b.1)) (pe 3 (show .b (!H)= .b D from rfl) (pf 7 e (pt 16 k (pe 20 (G6 (IntWalk.i64_in ((a:Y)-1) (by omega))) (pg 21 ((a:Y)-1) q p0)))))) ?_;exact zA (by rw[f,e,k]<;>kernel_rfl)
   refine rN [0,2,5,6,7,40] [] (pc 2 (cb d (Zi b.1)) (pe 3 (show .b (!H)= .b D from rfl) (pf 7 e (pf 16 k p0)))) ?_;exact zA (by rw[f,e,k]<;>kernel_rfl)
  refine ck ((!(Qz b.1))|| (bif (b.2 !=(1:Y)) then((b.2 !=(2:Y))|| (decide ((a:Y)>(0:Y))&&(!(Op.bytesLess ((nth c ((a:Y)-1).toNat).1).toList b.1.toList)))) else(decide ((a:Y)>(0:Y))&&(!(Op.bytesLess ((nth c ((a:Y)-1).toNat).1).toList b.1.toList))))) (λh=>?_) (λh=>?_)
  ·refine su [] [40] [] [] p0<|Qc ?_
   have m:(X8 (Uv c) Al c 0 ())= .ret D:=Kj V (Xg h rfl) U;exact pb [] (Pq m)
  refine Qd<|rn [0,2,5,6,7] [] (pw 0 a p0) ?_
  exact xw _ (Qr V (Qi h rfl) U)
 ·exact sn [0,2,5,6,7,8] [] (pe 0 (zC ((a:Y)<(c.length:Y))) p0)<|Qa<|ckF<|Xa<|xw _ (Xq O rfl U)
 exact sn [2] [] (pl 1 c p0)<|Qc<|pb [] (Vx n rfl)
def Vh(b:W Y4)(f:Yn)(c:K)(a:Wv)(_:uB):Rd (uA) (uB) (uB):=(bif (bif decide ((c:Y)>(0:Y)) then((!(Op.bytesLess ((nth f.2.2.2.2 ((c:Y)-1).toNat).1).toList a.1.toList))|| (!(Jf b a.1 a.2))) else(!(Jf b a.1 a.2))) then(.ret D) else(.next ()))
def Ud(_:K)(_:uB):uB:=()
def Ji(a:W Y4)(f:Yn):uA:=(Out.on (X8 (Vh a f) Ud f.2.2.2.2 0 ()) (λ_=>((Xv f.1 1 60)&&((Wi f.2.1)&&((Xv f.2.2.2.1 0 60)&&(Jw a))))))
theorem Cz(e:W Y4)(f:Yn):ACalls vC 213 [.h e,.a [.i f.1,.i f.2.1,.b f.2.2.1,.i f.2.2.2.1,.h f.2.2.2.2]] (.b (Ji e f)):=by
 refine en func213 λ_ _ _=>sn [0,3,4] [3] p0 ?_
 refine Qa<|tn [0,3,4,8,9,10] [3] (pl 2 f.2.2.2.2 p0)<|mz [(3,.p 3 0),(4,.b D),(8,.h f.2.2.2.2),(9,.i (f.2.2.2.2.length:Y)),(10,.i 0)] [1] [(3, [.i f.1,.i f.2.1,.b f.2.2.1,.i f.2.2.2.1,.h f.2.2.2.2])] []<|wT 8 0 .sh f.2.2.2.2 (λr s=>?_)
 refine S7 (Vh e f) Ud f.2.2.2.2 () (λa _=> [(10,.i (a:Y))]) [10] (λ_=> []) [8,9,10] wf0 (λa t O U=>?_) (λa t O U=>?_) (λw k=>?_)
 ·obtain⟨b,V⟩:=Xo (l:=f.2.2.2.2) (i:=a) O;refine su [(11,.b H)] [] [] [] (pe 0 (zB ((a:Y)<(f.2.2.2.2.length:Y))) p0)<|Qa<|ckT<|Qd<|Qa<|Qp<|sn [0,3,4,5,6,8,9,10] [3,6] (pn 1 V p0)<|Qa<|mz [(5,.i (a:Y)),(6,.p 6 0)] [11] [(6, [.s b.1,.i b.2.1,.i b.2.2.1,.s b.2.2.2])] []<|jn [(37,.b (bif decide ((a:Y)>(0:Y)) then((!(Op.bytesLess ((nth f.2.2.2.2 ((a:Y)-1).toNat).1).toList b.1.toList))|| (!(Jf e b.1 b.2))) else(!(Jf e b.1 b.2))))] [5,6] [] [6] (decide ((a:Y)>(0:Y))) (λh=>?_) (λh=>?_) ?_
  ·have u:=uJ h;refine X4 (!(Op.bytesLess ((nth f.2.2.2.2 ((a:Y)-1).toNat).1).toList b.1.toList)) (λj=>?_) (λj=>?_)
   ·have m:=ng f.2.2.2.2 ((a:Y)-1).toNat;refine rN [0,3,4,8,9,10,37] [3] (pt 1 h (pe 6 (G6 (IntWalk.i64_in ((a:Y)-1) (by omega))) (pg 7 ((a:Y)-1) m (pt 12 j p0)))) ?_;exact zA (by rw[h,j]<;>kernel_rfl)
   have n:=ng f.2.2.2.2 ((a:Y)-1).toNat;refine rN [0,3,4,8,9,10,37] [3] (pt 1 h (pe 6 (G6 (IntWalk.i64_in ((a:Y)-1) (by omega))) (pg 7 ((a:Y)-1) n (pf 12 j (pc 20 (Lk e b.1 b.2) p0))))) ?_;exact zA (by rw[h,j]<;>kernel_rfl)
  ·refine rN [0,3,4,8,9,10,37] [3] (pf 1 h (pc 20 (Lk e b.1 b.2) p0)) ?_;exact zA (by rw[h]<;>kernel_rfl)
  refine ck (bif decide ((a:Y)>(0:Y)) then((!(Op.bytesLess ((nth f.2.2.2.2 ((a:Y)-1).toNat).1).toList b.1.toList))|| (!(Jf e b.1 b.2))) else(!(Jf e b.1 b.2))) (λo=>?_) (λo=>?_)
  ·refine su [] [37] [] [] p0<|Qc ?_
   have p:(X8 (Vh e f) Ud f.2.2.2.2 0 ())= .ret D:=Kj V (Xg o rfl) U;exact pb [] (Pq p)
  refine Qd<|rn [0,3,4,8,9,10] [3] (pw 0 a p0) ?_
  exact xw _ (Qr V (Qi o rfl) U)
 ·exact su [(11,.b D)] [] [] [] (pe 0 (zC ((a:Y)<(f.2.2.2.2.length:Y))) p0)<|Qa<|ckF<|Xa<|xw _ (Xq O rfl U)
 refine Qa<|jn [(4,.b ((Xv f.1 1 60)&&((Wi f.2.1)&&((Xv f.2.2.2.1 0 60)&&(Jw e)))))] [0,3,4] [] [3] (Xv f.1 1 60) (λg=>?_) (λg=>?_) ?_
 ·have v:=Kr.1 g;refine X4 (Wi f.2.1) (λc=>?_) (λc=>?_)
  ·refine X4 (Xv f.2.2.2.1 0 60) (λd=>?_) (λd=>?_)
   ·have q:=Kr.1 d;refine rn [4] [] (pc 2 (cb g (Jz f.1 1 60)) (pc 6 (cb c (B9 f.2.1)) (pc 11 (cb d (Jz f.2.2.2.1 0 60)) (pc 15 (A6 e) p0)))) ?_;exact zA (by rw[g,c,d]<;>kernel_rfl)
   refine rn [4] [] (pc 2 (cb g (Jz f.1 1 60)) (pc 6 (cb c (B9 f.2.1)) (pc 11 (cb d (Jz f.2.2.2.1 0 60)) p0))) ?_;exact zA (by rw[g,c,d]<;>kernel_rfl)
  refine rn [4] [] (pc 2 (cb g (Jz f.1 1 60)) (pc 6 (cb c (B9 f.2.1)) p0)) ?_;exact zA (by rw[g,c]<;>kernel_rfl)
 ·refine rn [4] [] (pc 2 (cb g (Jz f.1 1 60)) p0) ?_;exact zA (by rw[g]<;>kernel_rfl)
 exact Qc<|pb [] (Vx k rfl)
def Z2(a:Yl)(c:K)(b:Yn)(_:uB):Rd (uA) (uB) (uB):=(bif ((!(Ji a.1 b))|| (decide (b.1>=a.2.2)|| (decide ((c:Y)>(0:Y))&&decide ((nth a.2.1 ((c:Y)-1).toNat).1>=b.1)))) then(.ret D) else(.next ()))
def K4(_:K)(_:uB):uB:=()
def Xr(a:Yl):uA:=(Out.on (X8 (Z2 a) K4 a.2.1 0 ()) (λ_=>((Jw a.1)&&(decide ((a.2.1.length:Y)<=(12:Y))&&(Xv a.2.2 1 61)))))
theorem H0(a:Yl):ACalls vC 166 [.a [.h a.1,.h a.2.1,.i a.2.2]] (.b (Xr a)):=by
 refine en func166 λ_ _ _=>sn [1,2] [1] p0 ?_
 refine Qa<|tn [1,2,6,7,8] [1] (pl 2 a.2.1 p0)<|mz [(1,.p 1 0),(2,.b D),(6,.h a.2.1),(7,.i (a.2.1.length:Y)),(8,.i 0)] [0] [(1, [.h a.1,.h a.2.1,.i a.2.2])] []<|wT 6 0 .sh a.2.1 (λp q=>?_)
 refine S7 (Z2 a) K4 a.2.1 () (λc _=> [(8,.i (c:Y))]) [8] (λ_=> []) [6,7,8] wf0 (λc r O U=>?_) (λc r O U=>?_) (λu k=>?_)
 ·obtain⟨b,V⟩:=Xo (l:=a.2.1) (i:=c) O;refine sn [1,2,6,7,8,9] [1] (pe 0 (zB ((c:Y)<(a.2.1.length:Y))) p0)<|Qa<|ckT<|Qd<|Qa<|Qp<|tn [1,2,3,4,6,7,8] [1,4] (pn 1 V p0)<|Qa<|mz [(3,.i (c:Y)),(4,.p 4 0)] [] [(4, [.i b.1,.i b.2.1,.b b.2.2.1,.i b.2.2.2.1,.h b.2.2.2.2])] []<|jn [(40,.b ((!(Ji a.1 b))|| (decide (b.1>=a.2.2)|| (decide ((c:Y)>(0:Y))&&decide ((nth a.2.1 ((c:Y)-1).toNat).1>=b.1)))))] [3,4] [] [4] (!(Ji a.1 b)) (λg=>?_) (λg=>?_) ?_
  ·have d:(Ji a.1 b)=D:=V1 g;refine rN [1,2,6,7,8,40] [1] (pc 3 (cb d (Cz a.1 b)) (pe 4 (show .b (!D)= .b H from rfl) p0)) ?_;exact zA (by rw[g]<;>kernel_rfl)
  ·have d:(Ji a.1 b)=H:=Z5 g;refine X4 (decide (b.1>=a.2.2)) (λf=>?_) (λf=>?_)
   ·refine rN [1,2,6,7,8,40] [1] (pc 3 (cb d (Cz a.1 b)) (pe 4 (show .b (!H)= .b D from rfl) (pt 10 f p0))) ?_;exact zA (by rw[g,f]<;>kernel_rfl)
   have s:=uY f;refine X4 (decide ((c:Y)>(0:Y))) (λj=>?_) (λj=>?_)
   ·have t:=uJ j;have m:=ng a.2.1 ((c:Y)-1).toNat;refine rN [1,2,6,7,8,40] [1] (pc 3 (cb d (Cz a.1 b)) (pe 4 (show .b (!H)= .b D from rfl) (pf 10 f (pt 14 j (pe 19 (G6 (IntWalk.i64_in ((c:Y)-1) (by omega))) (pg 20 ((c:Y)-1) m p0)))))) ?_;exact zA (by rw[g,f,j]<;>kernel_rfl)
   refine rN [1,2,6,7,8,40] [1] (pc 3 (cb d (Cz a.1 b)) (pe 4 (show .b (!H)= .b D from rfl) (pf 10 f (pf 14 j p0)))) ?_;exact zA (by rw[g,f,j]<;>kernel_rfl)
  refine ck ((!(Ji a.1 b))|| (decide (b.1>=a.2.2)|| (decide ((c:Y)>(0:Y))&&decide ((nth a.2.1 ((c:Y)-1).toNat).1>=b.1)))) (λn=>?_) (λn=>?_)
  ·refine su [] [40] [] [] p0<|Qc ?_
   have o:(X8 (Z2 a) K4 a.2.1 0 ())= .ret D:=Kj V (Xg n rfl) U;exact pb [] (Pq o)
  refine Qd<|rn [1,2,6,7,8] [1] (pw 0 c p0) ?_
  exact xw _ (Qr V (Qi n rfl) U)
 ·exact sn [1,2,6,7,8,9] [1] (pe 0 (zC ((c:Y)<(a.2.1.length:Y))) p0)<|Qa<|ckF<|Xa<|xw _ (Xq O rfl U)
 refine Qa<|jn [(2,.b ((Jw a.1)&&(decide ((a.2.1.length:Y)<=(12:Y))&&(Xv a.2.2 1 61))))] [1,2] [] [1] (Jw a.1) (λh=>?_) (λh=>?_) ?_
 ·refine X4 (decide ((a.2.1.length:Y)<=(12:Y))) (λe=>?_) (λe=>?_)
  ·refine rn [2] [] (pc 2 (cb h (A6 a.1)) (pl 6 a.2.1 (pt 7 e (pc 12 (Jz a.2.2 1 61) p0)))) ?_;exact zA (by rw[h,e]<;>kernel_rfl)
  refine rn [2] [] (pc 2 (cb h (A6 a.1)) (pl 6 a.2.1 (pf 7 e p0))) ?_;exact zA (by rw[h,e]<;>kernel_rfl)
 ·refine rn [2] [] (pc 2 (cb h (A6 a.1)) p0) ?_;exact zA (by rw[h]<;>kernel_rfl)
 exact Qc<|pb [] (Vx k rfl)
def G8(a:A)(_:K)(b:Y4)(_:uB):Rd (Y) (uB) (uB):=(bif (b.1.toList==a.toList) then(.ret b.2) else(.next ()))
def G9(_:K)(_:uB):uB:=()
def E9(b:W Y4)(a:A):Y:=(Out.on (X8 (G8 a) G9 b 0 ()) (λ_=>0))
theorem HZ(b:W Y4)(a:A):ACalls vC 285 [.h b,.s a] (.i (E9 b a)):=by
 refine en func285 λ_ _ _=>sn [0,1,4] [] p0 ?_
 refine Qa<|tn [0,1,4,5] [] p0<|mz [(4,.i 0),(5,.i 0)] [] [] []<|wT 0 0 .sh b (λh j=>?_)
 refine S7 (G8 a) G9 b () (λc _=> [(5,.i (c:Y))]) [5] (λ_=> []) [0,1,5] wf0 (λc k O U=>?_) (λc k O U=>?_) (λm d=>?_)
 ·obtain⟨e,V⟩:=Xo (l:=b) (i:=c) O;refine Qa<|sn [0,1,4,5,9] [] (pl 2 b (pe 3 (zB ((c:Y)<(b.length:Y))) p0))<|ckT<|Qd<|Qa<|Qp<|tn [0,1,4,5,18] [] (pn 2 V p0)<|ck (e.1.toList==a.toList) (λf=>?_) (λf=>?_)
  ·refine tu [(4,.i e.2)] [4] [] [] (pn 2 V p0)<|Qc ?_
   have g:(X8 (G8 a) G9 b 0 ())= .ret e.2:=Kj V (Xg f rfl) U;exact pi [] (Pq g)
  refine Qd<|qu [(5,.i ((c+1:K):Y))] [5] [] [] (pw 1 c p0) ?_
  exact xw _ (Qr V (Qi f rfl) U)
 ·exact Qa<|sn [0,1,4,5,9] [] (pl 2 b (pe 3 (zC ((c:Y)<(b.length:Y))) p0))<|ckF<|Xa<|xw _ (Xq O rfl U)
 exact sn [4] [] p0<|Qc<|pi [] (Vx d rfl)
def Ks(b:W Y4)(a:A)(v:Va):uA:=((X2 v)&&((v.1 !=(0:Y))&&(v.1==(E9 b a))))
theorem D7(c:W Y4)(a:A)(v:Va):ACalls vC 244 [.h c,.s a,.a [.i v.1,.i v.2.1,.s v.2.2]] (.b (Ks c a v)):=by
 refine en func244 λ_ _ _=>sn [0,1,5,6] [5] p0 ?_
 refine Qa<|mz [(5,.p 5 0),(6,.b D)] [2] [(5, [.i v.1,.i v.2.1,.s v.2.2])] []<|jn [(6,.b ((X2 v)&&((v.1 !=(0:Y))&&(v.1==(E9 c a)))))] [0,1,5,6] [] [5] (X2 v) (λb=>?_) (λb=>?_) ?_
 ·refine X4 (v.1 !=(0:Y)) (λd=>?_) (λd=>?_)
  ·refine rN [6] [] (pc 1 (cb b (Zg v)) (pt 5 d (pc 12 (HZ c a) p0))) ?_;exact zA (by rw[b,d]<;>kernel_rfl)
  refine rN [6] [] (pc 1 (cb b (Zg v)) (pf 5 d p0)) ?_;exact zA (by rw[b,d]<;>kernel_rfl)
 ·refine rN [6] [] (pc 1 (cb b (Zg v)) p0) ?_;exact zA (by rw[b]<;>kernel_rfl)
 exact Qc<|pb [] (show Ks c a v=((X2 v)&&((v.1 !=(0:Y))&&(v.1==(E9 c a)))) from rfl)
def Uw(c:W Y4)(b:K)(a:Y4)(_:uB):Rd (uA) (uB) (uB):=(bif ((!(Xy a.1))|| ((!(Q8 a.2 1 2))|| (decide ((b:Y)>(0:Y))&&(!(Op.bytesLess ((nth c ((b:Y)-1).toNat).1).toList a.1.toList))))) then(.ret D) else(.next ()))
def Am(_:K)(_:uB):uB:=()
def K8(a:W Y4):uA:=(Out.on (X8 (Uw a) Am a 0 ()) (λ_=>decide ((a.length:Y)<=(5:Y))))
theorem Vz(b:W Y4):ACalls vC 193 [.h b] (.b (K8 b)):=by
 refine en func193 λ_ _ _=>sn [0,2] [] p0 ?_
 refine Qa<|tn [0,2,3] [] p0<|mz [(2,.b D),(3,.i 0)] [] [] []<|wT 0 0 .sh b (λt u=>?_)
 refine S7 (Uw b) Am b () (λc _=> [(3,.i (c:Y))]) [3] (λ_=> []) [3] wf0 (λc v O U=>?_) (λc v O U=>?_) (λx o=>?_)
 ·obtain⟨a,V⟩:=Xo (l:=b) (i:=c) O;refine Qa<|sn [0,2,3,7] [] (pl 2 b (pe 3 (zB ((c:Y)<(b.length:Y))) p0))<|ckT<|Qd<|Qa<|Qp<|Qa<|mz [(7,.b H)] [] [] []<|jn [(43,.b ((!(Xy a.1))|| ((!(Q8 a.2 1 2))|| (decide ((c:Y)>(0:Y))&&(!(Op.bytesLess ((nth b ((c:Y)-1).toNat).1).toList a.1.toList))))))] [7] [] [] (!(Xy a.1)) (λf=>?_) (λf=>?_) ?_
  ·have d:(Xy a.1)=D:=V1 f;refine rN [0,2,3,43] [] (pn 2 V (pc 5 (cb d (Ym a.1)) (pe 6 (show .b (!D)= .b H from rfl) p0))) ?_;exact zA (by rw[f]<;>kernel_rfl)
  ·have d:(Xy a.1)=H:=Z5 f;refine X4 (!(Q8 a.2 1 2)) (λh=>?_) (λh=>?_)
   ·have e:(Q8 a.2 1 2)=D:=V1 h;refine rN [0,2,3,43] [] (pn 2 V (pc 5 (cb d (Ym a.1)) (pe 6 (show .b (!H)= .b D from rfl) (pn 10 V (pc 13 (cb e (Yw a.2 1 2)) (pe 14 (show .b (!D)= .b H from rfl) p0)))))) ?_;exact zA (by rw[f,h]<;>kernel_rfl)
   have e:(Q8 a.2 1 2)=H:=Z5 h;have s:=Vb.1 e;refine X4 (decide ((c:Y)>(0:Y))) (λj=>?_) (λj=>?_)
   ·have w:=uJ j;have p:=ng b ((c:Y)-1).toNat;refine rN [0,2,3,43] [] (pn 2 V (pc 5 (cb d (Ym a.1)) (pe 6 (show .b (!H)= .b D from rfl) (pn 10 V (pc 13 (cb e (Yw a.2 1 2)) (pe 14 (show .b (!H)= .b D from rfl) (pt 18 j (pe 22 (G6 (IntWalk.i64_in ((c:Y)-1) (by omega))) (pg 23 ((c:Y)-1) p (pn 28 V p0)))))))))) ?_;exact zA (by rw[f,h,j]<;>kernel_rfl)
   refine rN [0,2,3,43] [] (pn 2 V (pc 5 (cb d (Ym a.1)) (pe 6 (show .b (!H)= .b D from rfl) (pn 10 V (pc 13 (cb e (Yw a.2 1 2)) (pe 14 (show .b (!H)= .b D from rfl) (pf 18 j p0))))))) ?_;exact zA (by rw[f,h,j]<;>kernel_rfl)
  refine ck ((!(Xy a.1))|| ((!(Q8 a.2 1 2))|| (decide ((c:Y)>(0:Y))&&(!(Op.bytesLess ((nth b ((c:Y)-1).toNat).1).toList a.1.toList))))) (λm=>?_) (λm=>?_)
  ·refine sn [0,2,3] [] p0<|Qc ?_
   have q:(X8 (Uw b) Am b 0 ())= .ret D:=Kj V (Xg m rfl) U;exact pb [] (Pq q)
  have r:(((!(Q8 a.2 1 2))|| (decide ((c:Y)>(0:Y))&&(!(Op.bytesLess ((nth b ((c:Y)-1).toNat).1).toList a.1.toList)))))=D:=FW m;have k:((!(Q8 a.2 1 2)))=D:=CG r;have g:(Q8 a.2 1 2)=H:=Z5 k;have n:=Vb.1 g;refine Qd<|rn [0,2,3] [] (pw 1 c p0) ?_
  exact xw _ (Qr V (Qi m rfl) U)
 ·exact Qa<|sn [0,2,3,7] [] (pl 2 b (pe 3 (zC ((c:Y)<(b.length:Y))) p0))<|ckF<|Xa<|xw _ (Xq O rfl U)
 exact sn [2] [] (pl 1 b p0)<|Qc<|pb [] (Vx o rfl)
def H1(c:W Y4)(f:Yn)(b:K)(a:Wv)(_:uB):Rd (uA) (uB) (uB):=(bif ((!(Ks c a.1 a.2))|| (decide ((b:Y)>(0:Y))&&(!(Op.bytesLess ((nth f.2.2.2.2 ((b:Y)-1).toNat).1).toList a.1.toList)))) then(.ret D) else(.next ()))
def Bt(_:K)(_:uB):uB:=()
def V9(a:W Y4)(f:Yn):uA:=(Out.on (X8 (H1 a f) Bt f.2.2.2.2 0 ()) (λ_=>((K8 a)&&((Q8 f.1 1 60)&&((Q8 f.2.1 0 2)&&(Q8 f.2.2.2.1 0 60))))))
theorem C0(a:W Y4)(f:Yn):ACalls vC 192 [.h a,.a [.i f.1,.i f.2.1,.b f.2.2.1,.i f.2.2.2.1,.h f.2.2.2.2]] (.b (V9 a f)):=by
 refine en func192 λ_ _ _=>sn [0,3,4] [3] p0 ?_
 refine Qa<|tn [0,3,4,5] [3] p0<|mz [(3,.p 3 0),(4,.b D),(5,.i 0)] [1] [(3, [.i f.1,.i f.2.1,.b f.2.2.1,.i f.2.2.2.1,.h f.2.2.2.2])] []<|wB 3 4 .sh f.2.2.2.2 (λr s=>?_)
 refine S7 (H1 a f) Bt f.2.2.2.2 () (λc _=> [(5,.i (c:Y))]) [5] (λ_=> []) [5] wf0 (λc t O U=>?_) (λc t O U=>?_) (λw m=>?_)
 ·obtain⟨b,V⟩:=Xo (l:=f.2.2.2.2) (i:=c) O;refine Qa<|sn [0,3,4,5,10] [3] (pl 3 f.2.2.2.2 (pe 4 (zB ((c:Y)<(f.2.2.2.2.length:Y))) p0))<|ckT<|Qd<|Qa<|Qp<|Qa<|mz [(10,.b H)] [] [] []<|jn [(47,.b ((!(Ks a b.1 b.2))|| (decide ((c:Y)>(0:Y))&&(!(Op.bytesLess ((nth f.2.2.2.2 ((c:Y)-1).toNat).1).toList b.1.toList)))))] [10] [] [] (!(Ks a b.1 b.2)) (λj=>?_) (λj=>?_) ?_
  ·have e:(Ks a b.1 b.2)=D:=V1 j;refine rN [0,3,4,5,47] [3] (pn 4 V (pn 10 V (pc 13 (cb e (D7 a b.1 b.2)) (pe 14 (show .b (!D)= .b H from rfl) p0)))) ?_;exact zA (by rw[j]<;>kernel_rfl)
  ·have e:(Ks a b.1 b.2)=H:=Z5 j;refine X4 (decide ((c:Y)>(0:Y))) (λk=>?_) (λk=>?_)
   ·have u:=uJ k;have n:=ng f.2.2.2.2 ((c:Y)-1).toNat;refine rN [0,3,4,5,47] [3] (pn 4 V (pn 10 V (pc 13 (cb e (D7 a b.1 b.2)) (pe 14 (show .b (!H)= .b D from rfl) (pt 17 k (pe 22 (G6 (IntWalk.i64_in ((c:Y)-1) (by omega))) (pg 23 ((c:Y)-1) n (pn 29 V p0)))))))) ?_;exact zA (by rw[j,k]<;>kernel_rfl)
   refine rN [0,3,4,5,47] [3] (pn 4 V (pn 10 V (pc 13 (cb e (D7 a b.1 b.2)) (pe 14 (show .b (!H)= .b D from rfl) (pf 17 k p0))))) ?_;exact zA (by rw[j,k]<;>kernel_rfl)
  refine ck ((!(Ks a b.1 b.2))|| (decide ((c:Y)>(0:Y))&&(!(Op.bytesLess ((nth f.2.2.2.2 ((c:Y)-1).toNat).1).toList b.1.toList)))) (λo=>?_) (λo=>?_)
  ·refine su [] [47] [] [] p0<|Qc ?_
   have p:(X8 (H1 a f) Bt f.2.2.2.2 0 ())= .ret D:=Kj V (Xg o rfl) U;exact pb [] (Pq p)
  refine Qd<|rn [0,3,4,5] [3] (pw 1 c p0) ?_
  exact xw _ (Qr V (Qi o rfl) U)
 ·exact Qa<|sn [0,3,4,5,10] [3] (pl 3 f.2.2.2.2 (pe 4 (zC ((c:Y)<(f.2.2.2.2.length:Y))) p0))<|ckF<|Xa<|xw _ (Xq O rfl U)
 refine Qa<|jn [(4,.b ((K8 a)&&((Q8 f.1 1 60)&&((Q8 f.2.1 0 2)&&(Q8 f.2.2.2.1 0 60)))))] [0,3,4] [] [3] (K8 a) (λg=>?_) (λg=>?_) ?_
 ·refine X4 (Q8 f.1 1 60) (λh=>?_) (λh=>?_)
  ·have v:=Vb.1 h;refine X4 (Q8 f.2.1 0 2) (λd=>?_) (λd=>?_)
   ·have q:=Vb.1 d;refine rn [4] [] (pc 1 (cb g (Vz a)) (pc 5 (cb h (Yw f.1 1 60)) (pc 10 (cb d (Yw f.2.1 0 2)) (pc 15 (Yw f.2.2.2.1 0 60) p0)))) ?_;exact zA (by rw[g,h,d]<;>kernel_rfl)
   refine rn [4] [] (pc 1 (cb g (Vz a)) (pc 5 (cb h (Yw f.1 1 60)) (pc 10 (cb d (Yw f.2.1 0 2)) p0))) ?_;exact zA (by rw[g,h,d]<;>kernel_rfl)
  refine rn [4] [] (pc 1 (cb g (Vz a)) (pc 5 (cb h (Yw f.1 1 60)) p0)) ?_;exact zA (by rw[g,h]<;>kernel_rfl)
 ·refine rn [4] [] (pc 1 (cb g (Vz a)) p0) ?_;exact zA (by rw[g]<;>kernel_rfl)
 exact Qc<|pb [] (Vx m rfl)
def Hi(a:Yl)(c:K)(b:Yn)(_:uB):Rd (uA) (uB) (uB):=(bif ((!(V9 a.1 b))|| (decide (b.1>=a.2.2)|| (decide ((c:Y)>(0:Y))&&decide ((nth a.2.1 ((c:Y)-1).toNat).1>=b.1)))) then(.ret D) else(.next ()))
def A7(_:K)(_:uB):uB:=()
def Ja(a:Yl):uA:=(Out.on (X8 (Hi a) A7 a.2.1 0 ()) (λ_=>((K8 a.1)&&(decide ((a.2.1.length:Y)<=(12:Y))&&(Q8 a.2.2 1 61)))))
theorem Bu(a:Yl):ACalls vC 150 [.a [.h a.1,.h a.2.1,.i a.2.2]] (.b (Ja a)):=by
 refine en func150 λ_ _ _=>sn [1,2] [1] p0 ?_
 refine Qa<|tn [1,2,3] [1] p0<|mz [(1,.p 1 0),(2,.b D),(3,.i 0)] [0] [(1, [.h a.1,.h a.2.1,.i a.2.2])] []<|wB 1 1 .sh a.2.1 (λp q=>?_)
 refine S7 (Hi a) A7 a.2.1 () (λb _=> [(3,.i (b:Y))]) [3] (λ_=> []) [3] wf0 (λb r O U=>?_) (λb r O U=>?_) (λu k=>?_)
 ·obtain⟨c,V⟩:=Xo (l:=a.2.1) (i:=b) O;refine Qa<|sn [1,2,3,8] [1] (pl 3 a.2.1 (pe 4 (zB ((b:Y)<(a.2.1.length:Y))) p0))<|ckT<|Qd<|Qa<|Qp<|Qa<|mz [(8,.b H)] [] [] []<|jn [(50,.b ((!(V9 a.1 c))|| (decide (c.1>=a.2.2)|| (decide ((b:Y)>(0:Y))&&decide ((nth a.2.1 ((b:Y)-1).toNat).1>=c.1)))))] [8] [] [] (!(V9 a.1 c)) (λg=>?_) (λg=>?_) ?_
  ·have d:(V9 a.1 c)=D:=V1 g;refine rN [1,2,3,50] [1] (pn 5 V (pc 7 (cb d (C0 a.1 c)) (pe 8 (show .b (!D)= .b H from rfl) p0))) ?_;exact zA (by rw[g]<;>kernel_rfl)
  ·have d:(V9 a.1 c)=H:=Z5 g;refine X4 (decide (c.1>=a.2.2)) (λf=>?_) (λf=>?_)
   ·refine rN [1,2,3,50] [1] (pn 5 V (pc 7 (cb d (C0 a.1 c)) (pe 8 (show .b (!H)= .b D from rfl) (pn 13 V (pt 18 f p0))))) ?_;exact zA (by rw[g,f]<;>kernel_rfl)
   have s:=uY f;refine X4 (decide ((b:Y)>(0:Y))) (λj=>?_) (λj=>?_)
   ·have t:=uJ j;have m:=ng a.2.1 ((b:Y)-1).toNat;refine rN [1,2,3,50] [1] (pn 5 V (pc 7 (cb d (C0 a.1 c)) (pe 8 (show .b (!H)= .b D from rfl) (pn 13 V (pf 18 f (pt 22 j (pe 27 (G6 (IntWalk.i64_in ((b:Y)-1) (by omega))) (pg 28 ((b:Y)-1) m (pn 34 V p0))))))))) ?_;exact zA (by rw[g,f,j]<;>kernel_rfl)
   refine rN [1,2,3,50] [1] (pn 5 V (pc 7 (cb d (C0 a.1 c)) (pe 8 (show .b (!H)= .b D from rfl) (pn 13 V (pf 18 f (pf 22 j p0)))))) ?_;exact zA (by rw[g,f,j]<;>kernel_rfl)
  refine ck ((!(V9 a.1 c))|| (decide (c.1>=a.2.2)|| (decide ((b:Y)>(0:Y))&&decide ((nth a.2.1 ((b:Y)-1).toNat).1>=c.1)))) (λn=>?_) (λn=>?_)
  ·refine su [] [50] [] [] p0<|Qc ?_
   have o:(X8 (Hi a) A7 a.2.1 0 ())= .ret D:=Kj V (Xg n rfl) U;exact pb [] (Pq o)
  refine Qd<|rn [1,2,3] [1] (pw 1 b p0) ?_
  exact xw _ (Qr V (Qi n rfl) U)
 ·exact Qa<|sn [1,2,3,8] [1] (pl 3 a.2.1 (pe 4 (zC ((b:Y)<(a.2.1.length:Y))) p0))<|ckF<|Xa<|xw _ (Xq O rfl U)
 refine Qa<|jn [(2,.b ((K8 a.1)&&(decide ((a.2.1.length:Y)<=(12:Y))&&(Q8 a.2.2 1 61))))] [1,2] [] [1] (K8 a.1) (λh=>?_) (λh=>?_) ?_
 ·refine X4 (decide ((a.2.1.length:Y)<=(12:Y))) (λe=>?_) (λe=>?_)
  ·refine rn [2] [] (pc 2 (cb h (Vz a.1)) (pl 6 a.2.1 (pt 7 e (pc 12 (Yw a.2.2 1 61) p0)))) ?_;exact zA (by rw[h,e]<;>kernel_rfl)
  refine rn [2] [] (pc 2 (cb h (Vz a.1)) (pl 6 a.2.1 (pf 7 e p0))) ?_;exact zA (by rw[h,e]<;>kernel_rfl)
 ·refine rn [2] [] (pc 2 (cb h (Vz a.1)) p0) ?_;exact zA (by rw[h]<;>kernel_rfl)
 exact Qc<|pb [] (Vx k rfl)
theorem Qo0(s:W Y4)(n:A):E9 s n=A5 s n:=rfl
theorem CH(s:W Y4)(n:A)(v:Va):Ks s n v=Jf s n v:=by
 unfold Ks Jf;rw[Qgx,Qo0]
theorem NP(s:W Y4):K8 s=Jw s:=by
 unfold K8 Jw
 rw [N3 (f:=Uw s) (g:=Uv s) (e:=Am) (e':=Al) (λk a u=>by
  unfold Uw Uv;rw[VY]
  have h:(!(Q8 a.2 1 2))=((a.2 !=1)&&(a.2 !=2)):=by
   unfold Q8;rw[yQ];simp;omega
  rw[h];generalize(!(Op.bytesLess ((nth s (zK (((k:K):Y)-1))).1).toList a.1.toList))=x;cases Xy a.1<;>cases(a.2 !=(1:Y))<;>cases(a.2 !=(2:Y))<;>cases decide (((k:K):Y)>(0:Y))<;>cases x<;>rfl) (λ_ _=>rfl)]
theorem Qo1(s:W Y4)(f:Yn):V9 s f=Ji s f:=by
 unfold V9 Ji
 rw[N3 (f:=H1 s f) (g:=Vh s f) (e:=Bt) (e':=Ud) (λk a u=>by
  unfold H1 Vh;rw[CH];generalize(!(Op.bytesLess ((nth f.2.2.2.2 (zK (((k:K):Y)-1))).1).toList a.1.toList))=x;cases Jf s a.1 a.2<;>cases decide (((k:K):Y)>(0:Y))<;>cases x<;>rfl) (λ_ _=>rfl),NP]
 congr 1
 funext y
 unfold Wi;simp only[←UY];cases Jw s<;>cases Xv f.1 1 60<;>cases Xv f.2.1 0 2<;>cases Xv f.2.2.2.1 0 60<;>rfl
theorem GI(s:Yl):Ja s=Xr s:=by
 unfold Ja Xr
 rw[N3 (f:=Hi s) (g:=Z2 s) (e:=A7) (e':=K4) (λk a u=>by
  unfold Hi Z2;rw[Qo1]) (λ_ _=>rfl),NP]
 rfl
theorem GJ{n:A}(h:Qz n=H):n.size=1:=by
 unfold Qz at h;simp only[yO,uX] at h;omega
theorem Qq1{n:A}(h:Xy n=H):n.size=1:=GJ ((VY n).trans h)
theorem JD{s:Y}{c:Y}(a:0<=s)(b:s<=65520)(d:0<=c)(e:c<=255):0<=xP (vA vB (vA vB (33*s)+IntKind.i64.wrap c)) 65521/\xP (vA vB (vA vB (33*s)+IntKind.i64.wrap c)) 65521<=65520:=by
 rw[IntWalk.i64_in (33*s) (by omega),IntWalk.i64_in c (by omega),IntWalk.i64_in (33*s+c) (by omega)];rw[Int.tmod_eq_emod_of_nonneg (by omega)];omega
theorem TE{s:Y}{c:Y}(a:0<=s)(b:s<=65520)(d:0<=c)(e:c<=255):0<=xP (vA vB (vA vB (s*33)+IntKind.i64.wrap c)) 65521/\xP (vA vB (vA vB (s*33)+IntKind.i64.wrap c)) 65521<=65520:=by
 rw[Int.mul_comm s 33];exact JD a b d e
theorem XR(s:A)(i:Y):0<=Jl s i/\Jl s i<=255:=by
 unfold Jl;have:=(s.data.toList.getD i.toNat 0).toNat_lt;omega
open GoD (rd own)
def inR(n lo hi:Y):uA:=decide (lo<=n)&&decide (n<=hi)
theorem WF{n lo hi:Y}(a:lo<=n)(b:n<=hi):inR n lo hi=H:=by simp[inR,a,b]
theorem Qq2{n lo hi:Y}(h:¬lo<=n):inR n lo hi=D:=by simp[inR,h]
theorem Qq3{n lo hi:Y}(h:¬n<=hi):inR n lo hi=D:=by simp[inR,h]
theorem Qk5(w:uD)(n lo hi:Y):Calls vC 202 #[.int .i64 n,.int .i64 lo,.int .i64 hi] w (Ret w (.bool (inR n lo hi))):=by
 by_cases a:lo<=n
 . by_cases b:n<=hi
   . rw[WF a b];go_enter func202,ntmps202
     go_wp2
     go_ret
     exact⟨rfl,Below.refl _ _⟩
   rw[Qq3 b];go_enter func202,ntmps202
   go_wp2
   go_ret
   exact⟨rfl,Below.refl _ _⟩
 rw[Qq2 a];go_enter func202,ntmps202
 go_wp2
 go_ret
 exact⟨rfl,Below.refl _ _⟩
theorem GK(w:uD)(n lo hi:Y)(r:uA)(h:inR n lo hi=r):Calls vC 202 #[.int .i64 n,.int .i64 lo,.int .i64 hi] w (Ret w (.bool r)):=h▸Qk5 w n lo hi
end
section
open Go.RowKit
open GoD (rd own)
theorem Qk6(w:uD)(k:K)(os:uP Obj):Below w.heap.size w (Go.Sort.grow (w.drewN k) os):=
 ⟨rfl,rfl,rfl,by rw[Go.Sort.size_grow];exact Nat.le_add_right _ _,λj a=>by
  unfold Go.Sort.grow;rw[yM,uG (by exact a)];rfl⟩
theorem Qk7(w:uD)(d:K)(hd:d<10):Calls vC 229 #[.int .i64 d] w (Ret w (.int .u8 (48+(d:Y)))):=by
 have a:(d:Y)<10:=by omega
 have b:vA vB (48+(d:Y))=48+(d:Y):=by rw[IntKind.wrap_i64];omega
 go_enter func229,ntmps229
 go_wp2
 go_ret
 exact⟨rfl,Below.refl _ _⟩
def tabOk (w : World) : Prop := Lib.TabIs Tryz.prog w "internal/strconv.uint64pow10" .u64 Lib.pow10Tab
theorem Qsx : Tryz.prog.globalNamed "internal/strconv.uint64pow10" = some 6 := by kernel_rfl
theorem tabOk.keep{w w':uD}(h:tabOk w)(a:Below w.heap.size w w'):tabOk w':=Go.Joins.tab_stays Qsx h a (Nat.le_refl _)
def Q7(n:Y):A:=⟨(Lib.itoa n).toArray⟩
theorem Ll(w:uD)(n:Y)(b:I64 n)(c:tabOk w):Calls vC 203 #[.int .i64 n] w (Ret w (.string (Q7 n))):=by
 have a:=Sh.strconv_Itoa n b.1 b.2 w c;rw[show(⟨(Lib.itoa n).toArray⟩:A)=Q7 n from rfl] at a;generalize Q7 n=s at*;clear c b;go_enter func203,ntmps203
 go_wp2_with (go_at_call 254;refine a.mono ?_;rintro e w' ⟨rfl,k,os,rfl⟩;have hb:=Qk6 w k os;generalize Go.Sort.grow (w.drewN k) os=d at*)
 go_ret
 exact⟨rfl,hb⟩
theorem TF:∀(k u:K),u<10^(k+1)->(Lib.decDigits u).length<=k+1
 | 0,u,h=>by rw[Lib.decDigits,dif_pos (by simpa using h)];simp
 | k+1,u,h=>by
   rw[Lib.decDigits];split
   . simp
   have:=TF k (u / 10) (by rw[Nat.pow_succ] at h;omega);simp only[yU,xI];omega
theorem NQ{n:Y}(h:inR n 0 1000000000=H):(Q7 n).size<=10:=by
 unfold inR at h;simp only[yO,uR] at h;have a:=TF 9 n.toNat (by omega);unfold Q7 Lib.itoa;rw[uH (by omega)];show(Lib.decDigits n.toNat).toArray.size<=10;simp only[zX];omega
theorem WG{n:K}(h:¬n<10):Lib.decDigits n=Lib.decDigits (n / 10)++ [zQ (48+n % 10)]:=by rw[Lib.decDigits,dif_neg h]
theorem Ri{n:K}(h:n<10):Lib.decDigits n= [zQ (48+n)]:=by rw[Lib.decDigits,dif_pos h]
def QA(n:K):W uE:=if n=0 then [] else Lib.decDigits n
theorem Qhk{n:K}(h:n≠0)(t:W uE):QA (n / 10)++(zQ (48+n % 10)::t)=QA n++t:=by
 unfold QA;rw[uH h];by_cases a:n<10
 . rw[uG (by omega),Ri a,show n % 10=n by omega];rfl
 rw[uH (by omega),WG a];simp
theorem Qk8(d:K)(hd:d<10)(s:A):(⟨#[zQ (48+d)]⟩:A)++s=⟨(zQ (48+d)::s.data.toList).toArray⟩:=by
 apply ByteArray.ext;rw[ByteArray.data_append];apply Array.toList_inj.1;simp
set_option maxRecDepth 20000 in
theorem AA(w:uD)(n:Y)(q:I64 n)(e:inR n 0 1000000000=H):Calls vC 185 #[.int .i64 n] w (Ret w (.string (Q7 n))):=by
 unfold inR at e;simp only[yO,uR] at e;obtain⟨m,rfl⟩:∃m:K,n=m:=⟨n.toNat,by omega⟩;have r:m<2000000000:=by omega
 clear e q
 have b:Q7 (m:Y)=⟨(Lib.decDigits m).toArray⟩:=by
  unfold Q7 Lib.itoa;rw[uH (by omega)];rfl
 generalize Q7 (m:Y)=f at*;have a:=Lib.hid b;clear b;by_cases p:m=0
 . subst p;have e:f=⟨#[48]⟩:=by rw[a.out,Ri (by omega)];rfl
   subst e;clear a;go_enter func185,ntmps185
   go_wp2
   go_ret
   exact⟨rfl,Below.refl _ _⟩
 have u:¬((m:Y)=0):=by omega
 have v:¬((m:Y)<0):=by omega
 go_enter func185,ntmps185
 go_wp2
 go_loopw [0,4] (λi s x=>∃(k:K) (t:A),k<2000000000/\i= .int .i64 k/\s= .string t/\t.size<=2000000000-k/\Below w.heap.size w x/\Hid (QA k++t.data.toList=Lib.decDigits m)) (λi _ _=>(intOf i).toNat)
 case atStart=>exact⟨m,⟨#[]⟩,r,rfl,rfl,by simp[ByteArray.size],Below.refl _ _,Lib.hid (by unfold QA;rw[uH p];simp)⟩
 case round=>
  obtain⟨k,t,hk,rfl,rfl,y,z,hd⟩:=hrel;by_cases O:k=0
  . subst O
    have j:f=t:=by
     have l:=hd.out;unfold QA at l;rw[uG rfl,List.nil_append] at l;rw[a.out,←l]
    subst j;clear a hd;go_wp2
    go_ret
    exact⟨rfl,z⟩
  have V:¬((k:Y)=0):=by omega
  have c:k % 10<10:=Nat.mod_lt _ (by decide);have a1:¬((k:Y) % 10<0):=by omega
  have a2:∀g:uD,(convert 191 9 (.slice (uC ⟨g.heap.size,0,uF⟩) 1 1)).run vC (g.alloc (.cells #[.int .u8 (48+(k:Y) % 10)] 5))= .ok (.string ⟨#[zQ (48+k % 10)]⟩) (g.alloc (.cells #[.int .u8 (48+(k:Y) % 10)] 5)):=λg=>by
   have h:=Lib.run_convert_whole (P:=vC) (g.alloc (.cells #[.int .u8 (48+(k:Y) % 10)] 5)) 191 5 9 underlying191 underlying5 underlying9 g.heap.size 0 ⟨#[zQ (48+k % 10)]⟩ (λi hi=>by
    have o:i=0:=by have:i<1:=hi;omega
    subst o;have he:(48+(k:Y) % 10)=((zQ (48+k % 10)).toNat:Y):=by rw[UInt8.toNat_ofNat'];omega
    show(g.alloc _).cell? ⟨g.heap.size,0+0,uF⟩=uC (.int .u8 ((zQ (48+k % 10)).toNat:Y));rw[←he];simp[go_sem]) 1
   exact h
  go_wp2_with (go_at_call 229;have d:=(λw1=>Qk7 w1 (k % 10) c);rw[show(((k % 10:K)):Y)=(k:Y) % 10 by omega] at d;refine Vq (w:=w) (d _) (by go_grown) ?_;clear d;intro g1 a3 hb a4 a5;clear hb)
  go_roundw
  case rel=>exact⟨k / 10,⟨#[zQ (48+k % 10)]⟩++t,by omega,by first | rfl | go_num,by rw[UInt8.ofNat_add];rfl,by rw[ByteArray.size_append];have:(⟨#[zQ (48+k % 10)]⟩:A).size=1:=rfl;omega,by go_grown,Lib.hid (by rw[Qk8 _ c];show QA (k / 10)++(zQ (48+k % 10)::t.data.toList)=_;rw[Qhk O];exact hd.out)⟩
  case measure=>simp[intOf];omega
section
variable {P:uW}
theorem Tc{f:K}(c:Fr P f){n:Y}{s:A}(i:s.size<=uO)(h:∀w,Good P w->I64 n->Calls P f #[.int .i64 n] w (Ret w (.string s))):ACalls P f [.i n] (.s s):=by
 refine⟨c,λw j F g o a=>?_⟩;cases a with
 | cons l m=>
   cases m
   obtain⟨rfl,hi⟩:=l;refine(h w j ((Mj n).1 hi)).mono ?_
   rintro e w' ⟨rfl,hb⟩
   exact⟨_,λ_=> [],rfl,hb,λ_=>yJ,λk b d=>by simp at d,λk p b d=>by simp at d,rfl,i⟩
end
theorem Kb{n:Y}(h:0<=n/\n<=1000000000):(Q7 n).size<=10:=NQ (WF h.1 h.2)
theorem Hj(n:Y)(h:0<=n/\n<=1000000000):ACalls vC 203 [.i n] (.s (Q7 n)):=Tc (by unfold Fr;kernel_rfl) (by have:=Kb h;unfold uO;omega) λw a b=>Ll w n b (a.tab _ Qsx)
theorem W4(n:Y)(h:0<=n/\n<=1000000000):ACalls vC 185 [.i n] (.s (Q7 n)):=Tc (by unfold Fr;kernel_rfl) (by have:=Kb h;unfold uO;omega) λw _ a=>AA w n a (WF h.1 h.2)
end
section
open Go.RowKit
theorem TG{s c:Y}{k:K}(d:0<=s)(e:s<10^k)(a:k<=9)(f:48<=c)(g:c<=57):
 vA vB (vA vB (vA vB (10*s)+IntKind.i64.wrap c)-48)=10*s+(c-48)/\0<=10*s+(c-48)/\10*s+(c-48)<10^(k+1):=by
 have h:(10:Y)^k<=10^9:=by exact_mod_cast Nat.pow_le_pow_right (n:=10) (by decide) a
 have i:(10:Y)^9=1000000000:=by decide
 have b:(10:Y)^(k+1)=10*10^k:=by rw[Int.pow_succ];omega
 rw[IntWalk.i64_in (10*s) (by omega),IntWalk.i64_in c (by omega),IntWalk.i64_in (10*s+c) (by omega),IntWalk.i64_in _ (by omega),b];omega
theorem Qo2{c:Y}(h:0<=c/\c<=255)(a:Xv (IntKind.i64.wrap c) 32 126=H):32<=c/\c<=126:=by
 rw[IntWalk.i64_in c (by omega)] at a;exact Kr.1 a
theorem Qk9{s:A}(h:∀j:K,j<s.size->Jl s (j:Y)<=126):∀(j:K) (b:uE),s.data.toList[j]? =uC b->b.toNat<128:=λj b hb=>by
 have c:=(yG.1 hb).1;have d:s.data.toList.length=s.size:=yS;have a:=h j (by omega);unfold Jl at a;rw[zV,yV,hb] at a;simp only[Option.getD_some] at a;omega
def AB(c:uE):W uE->W (W uE)
 | []=> [[]]
 | b::l=>if b=c then []::AB c l else match AB c l with
   | []=> [[b]]
   | p::ps=>(b::p)::ps
theorem AC(c:uE):∀l:W uE,∃p ps,AB c l=p::ps
 | []=>⟨[], [],rfl⟩
 | b::l=>by
   obtain⟨p,ps,h⟩:=AC c l;simp only[AB,h];split
   . exact⟨_,_,rfl⟩
   exact⟨_,_,rfl⟩
theorem EH(c:uE):∀l:W uE,Lib.splitK [c] 0 (l.count c) l=AB c l
 | []=>rfl
 | b ::l=>by
   have d:=EH c l;by_cases h:b=c
   . subst h;rw[List.count_cons_self];have a:Lib.index (b::l) [b]=0:=by rw[Lib.index];simp[List.isPrefixOf]
     rw[Lib.splitK,a,AB,uG rfl,←d];rfl
   rw[List.count_cons_of_ne (by simpa using h),AB,uH h,←d];have g:([c]:W uE).isPrefixOf (b::l)=D:=by simp[List.isPrefixOf,xO h]
   have a:Lib.index (b::l) [c]=if Lib.index l [c]== -1 then-1 else Lib.index l [c]+1:=by rw[Lib.index,g];simp
   cases o:l.count c with
   | zero=>rfl
   | succ k=>
     have i:=Lib.index_ge l [c];simp only[Lib.splitK];by_cases f:Lib.index l [c]= -1
     . rw[a,f];rfl
     rw[a,uH (λe=>f (uX.1 e))];obtain⟨j,hj⟩:∃j:K,Lib.index l [c]=j:=⟨(Lib.index l [c]).toNat,by omega⟩;rw[hj,uH (by simp;omega),uH (by simp)];have m:((j:Y)+1).toNat=j+1:=by omega
     have n:((j:K):Y).toNat=j:=by omega
     simp only[m,n,Nat.add_zero,List.length_cons,List.length_nil];rfl
def Ca(l:W uE):A:=⟨l.toArray⟩
theorem U5(s:A):Ca s.data.toList=s:=by cases s;simp[Ca]
def Qs(c:uE)(s:A):W A:=(AB c s.data.toList).map Ca
theorem NR(c:uE)(s:A):Lib.splitB ⟨#[c]⟩ 0 (Lib.countB s ⟨#[c]⟩) s=Qs c s:=by
 have h:=Lib.splitB_data ⟨#[c]⟩ 0 (Lib.countB s ⟨#[c]⟩) s;have e:Lib.countB s ⟨#[c]⟩=s.data.toList.count c:=Lib.count_one c s.data.toList;rw[e] at h⊢;rw[show(⟨#[c]⟩:A).data.toList= [c] from rfl,EH] at h;unfold Qs;rw[←h,List.map_map];rw[show(Ca ∘ λx:A=>x.data.toList)=id from funext U5,List.map_id]
theorem Qb2(c:uE):∀l:W uE,(AB c l).length<=l.length+1/\∀p,p∈AB c l->p.length<=l.length
 | []=>⟨zO _,λp hp=>by rw[zY.1 hp];exact zO _⟩
 | b ::l=>by
   obtain⟨d,a⟩:=Qb2 c l;obtain⟨p0,ps,h⟩:=AC c l;simp only[AB];split
   . refine⟨Nat.succ_le_succ d,λp hp=>?_⟩;rcases zN.1 hp with rfl | hp
     . exact yX _
     exact Nat.le_succ_of_le (a p hp)
   rw[h] at d a⊢;refine⟨Nat.le_succ_of_le d,λp hp=>?_⟩;rcases zN.1 hp with rfl | hp
   . exact Nat.succ_le_succ (a p0 (zL ..))
   exact Nat.le_succ_of_le (a p (zH _ hp))
theorem Si(c:uE)(s:A):(Qs c s).length<=s.size+1/\∀x,x∈Qs c s->x.size<=s.size:=by
 obtain⟨f,a⟩:=Qb2 c s.data.toList;have e:s.data.toList.length=s.size:=yS;refine⟨by unfold Qs;rw[zJ];omega,λx b=>?_⟩;obtain⟨p,d,rfl⟩:=zU.1 b;have:=a p d;show p.toArray.size<=_;rw[zX];omega
def Xs(a:A)(l:W A):A:=Ca (Lib.join (l.map (·.data.toList)) a.data.toList)
def Vj(s:A):W A:=(Lib.fields s.data.toList).map Ca
theorem Rj:∀(l cur:W uE),(Lib.fieldsGo cur l).length<=l.length+1/\∀p,p∈Lib.fieldsGo cur l->p.length<=cur.length+l.length
 | [],cur=>by
   unfold Lib.fieldsGo;split
   . exact⟨yX _,λp hp=>by simp at hp⟩
   exact⟨zO _,λp hp=>by rw[zY.1 hp];simp⟩
 | b ::l,cur=>by
   obtain⟨d,a⟩:=Rj l [];obtain⟨e,c⟩:=Rj l (cur++ [b]);simp only[List.length_nil,yE,yU,xI] at a c;unfold Lib.fieldsGo;split
   . split
     . exact⟨by simp only[List.length_cons];omega,λp hp=>by have:=a p hp;simp only[List.length_cons];omega⟩
     refine⟨by simp only[List.length_cons];omega,λp hp=>?_⟩;rcases zN.1 hp with rfl | hp
     . omega
     have:=a p hp;simp only[List.length_cons];omega
   exact⟨by simp only[List.length_cons];omega,λp hp=>by have:=c p hp;simp only[List.length_cons];omega⟩
theorem XS(s:A):(Vj s).length<=s.size+1/\∀x,x∈Vj s->x.size<=s.size:=by
 obtain⟨d,a⟩:=Rj s.data.toList [];have e:s.data.toList.length=s.size:=yS;refine⟨by unfold Vj Lib.fields;rw[zJ];omega,λx b=>?_⟩;obtain⟨p,c,rfl⟩:=zU.1 b;have:=a p c;simp only[List.length_nil,yE] at this;show p.toArray.size<=_;rw[zX];omega
section
variable {P:uW}
theorem EI(w:uD)(F:K->Prop):∀l:W A,(∀x,x∈l->x.size<=uO)->VR F w 1 (l.map Value.string) (eL l)
 | [],_=> .nil 1
 | a::l,h=>VR.cons (ce:= [.string a]) (.cons (.str (h a (zL ..))) .nil) rfl (EI w F l λx b=>h x (zH _ b))
theorem NS{F:K->Prop}{w:uD}{l:W A}{t:uV}(o:0<l.length)(e:l.length<=1073741824)(f:∀x,x∈l->x.size<=uO):
 Qj5 F w (.o 0 l) (.returned (.slice (uC ⟨w.heap.size,0,uF⟩) l.length l.length)) (w.alloc (.cells (l.map Value.string).toArray t)):=by
 have d:(w.alloc (.cells (l.map Value.string).toArray t)).heap[w.heap.size]? =uC (.cells (l.map Value.string).toArray t (0,0)):=Array.getElem?_push_size;have c:=Xb d;refine⟨_,λk=>if k=0 then [w.heap.size] else [],rfl,(Below.refl _ _).alloc (zO _) _,λk=>?_,λk b hb=>?_,λk g b hb a=>?_, ?_⟩
 . show(if k=0 then _ else _:W K).Nodup;split<;>simp
 . have hb:b∈(if k=0 then [w.heap.size] else []:W K):=hb;split at hb
   . obtain rfl:=zY.1 hb;exact⟨zO _,c⟩
   simp at hb
 . have hb:b∈(if k=0 then [w.heap.size] else []:W K):=hb;have a:b∈(if g=0 then [w.heap.size] else []:W K):=a;split at hb<;>split at a
   . rename_i h i;rw[h,i]
   all_goals simp_all
 show OwnDeep (if 0=0 then [w.heap.size] else []) _ _ 1 (eL l);rw[uG rfl];refine .of ?_ (by simp);have j:=VR.orr (w':=w.alloc (.cells (l.map Value.string).toArray t)) (EI w F l f) (Uz l);have m:uO>=l.length:=by unfold uO;omega
 have:=OV.slc (w:=w.alloc (.cells (l.map Value.string).toArray t)) (n:=1) (cap:=l.length) (l:=eL l) (L:= []) d (by simp) (by rw[Yu,yD,xC (by simp)];exact j) (by rw[Yu];exact zO _) ⟨m,by rw[Yu];exact e⟩
 rwa [Yu] at this
theorem NT{f:K}(d:Fr P f){c:uE}{t:uV}{s:A}(o:s.size<=1073741000)
 (h:∀w,Good P w->Calls P f #[.string s,.string ⟨#[c]⟩] w λe w'=>e= .returned (.slice (uC ⟨w.heap.size,0,uF⟩) (Lib.countB s ⟨#[c]⟩+1) (Lib.countB s ⟨#[c]⟩+1))/\w'=w.alloc (.cells ((Lib.splitB ⟨#[c]⟩ 0 (Lib.countB s ⟨#[c]⟩) s).map Value.string).toArray t)):
 ACalls P f [.s s,.s ⟨#[c]⟩] (.o 0 (Qs c s)):=by
 refine⟨d,λw j F i p b=>?_⟩;cases b with
 | cons k g=>
   cases g with
   | cons g l=>
     cases l
     obtain⟨rfl,_⟩:=k;obtain⟨rfl,_⟩:=g;refine(h w j).mono ?_
     rintro e w' ⟨rfl,rfl⟩
     obtain⟨q,m⟩:=Si c s;have a:Lib.countB s ⟨#[c]⟩+1=(Qs c s).length:=by rw[←NR,Lib.splitB_all ⟨#[c]⟩ (zO 1) 0 _ s rfl]
     rw[NR,a];exact NS (by rw[←a];exact Nat.succ_pos _) (by omega) λx n=>by have:=m x n;unfold uO;omega
theorem GL{f:K}(g:Fr P f){t:uV}{s:A}(u:s.size<=1073741000)
 (h:∀w,Good P w->Calls P f #[.string s] w λe w'=>e= .returned (.slice (uC ⟨w.heap.size,0,uF⟩) (Lib.fields s.data.toList).length (Lib.fields s.data.toList).length)/\w'=w.alloc (.cells ((Lib.fields s.data.toList).map λl=>Value.string ⟨l.toArray⟩).toArray t)):
 ACalls P f [.s s] (.o 0 (Vj s)):=by
 refine⟨g,λw j F i v a=>?_⟩;cases a with
 | cons m n=>
   cases n
   obtain⟨rfl,_⟩:=m;refine(h w j).mono ?_
   rintro e w' ⟨rfl,rfl⟩
   obtain⟨y,o⟩:=XS s;have c:((Lib.fields s.data.toList).map λl=>Value.string ⟨l.toArray⟩)=(Vj s).map Value.string:=by unfold Vj;rw[List.map_map];rfl
   have d:(Lib.fields s.data.toList).length=(Vj s).length:=by unfold Vj;rw[zJ]
   rw[c,d];by_cases p:0<(Vj s).length
   . exact NS p (by omega) λx q=>by have:=o x q;unfold uO;omega
   have r:Vj s= []:=zP (by omega);rw[r];refine⟨_,λ_=> [],rfl,(Below.refl _ _).alloc (zO _) _,λ_=>yJ,λk b c=>by simp at c,λk z b c=>by simp at c, ?_⟩;exact⟨[],.emp _ 1,yJ,(λb hb=>by simp at hb),.inl rfl⟩
theorem Qb3{X:K->Prop}{w:uD}:∀{l:W A} {cs:W uN},VR X w 1 cs (eL l)->cs=l.map Value.string
 | [],cs,h=>by
   generalize b:eL ([]:W A)=r at h;cases h with
   | nil=>rfl
   | cons=>cases b
 | a :: l,cs,h=>by
   generalize b:eL (a::l)=r at h;cases h with
   | nil=>cases b
   | cons c i d=>
     rw[UM] at b;obtain⟨rfl,rfl⟩: [PV.str a]=_/\eL l=_:=by simpa [GoE.enc] using b
     have e:=Qb3 d;cases c with
     | cons f g=>
       cases g
       cases f with
       | str=>rw[e];rfl
theorem TH{f:K}(i:Fr P f){a:A}{l:W A}(hp:(Xs a l).size<=1073741824)
 (V:∀w oa cap,Good P w->Calls P f #[.slice oa 0 cap,.string a] w λe w'=>e= .returned (.string ⟨#[]⟩)/\w'=w)
 (h:∀w m o c,Good P w->(∀(j:K) x,l[j]? =uC x->w.cell? ⟨m,o+j,uF⟩=uC (.string x))->m<w.heap.size->l.length<=140737488355328->l.length<=c->(Lib.join (l.map (·.data.toList)) a.data.toList).length<=140737488355328->Calls P f #[.slice (uC ⟨m,o,uF⟩) l.length c,.string a] w λe w'=>e= .returned (.string ⟨(Lib.join (l.map (·.data.toList)) a.data.toList).toArray⟩)/\Below w.heap.size w w'):
 ACalls P f [.h l,.s a] (.s (Xs a l)):=by
 refine⟨i,λw v F y hF d=>?_⟩;cases d with
 | cons g p=>
   cases p with
   | cons p h3=>
     cases h3
     obtain⟨rfl,_⟩:=p;have g:VV F w _ (.slc 1 (eL l)):=g;have r:(Xs a l).size<=uO:=by unfold uO;omega
     have key:∀{w':uD},Below w.heap.size w w'->Qj5 F w (.s (Xs a l)) (.returned (.string (Xs a l))) w':=λhb=>⟨_,λ_=> [],rfl,hb,λ_=>yJ,λk b s=>by simp at s,λk k' b s=>by simp at s,rfl,r⟩
     generalize t:PV.slc 1 (eL l)=q at g;cases g with
     | int | bool | str | any | raw=>cases t
     | emp oa n z=>
       have hl:l= []:=by
        have:eL l= []:=(PV.slc.inj t).2;have:=uU zD this;rw[Yu] at this;exact zP this
       subst hl;refine(V w oa _ v).mono ?_
       rintro e w' ⟨rfl,rfl⟩
       exact key (Below.refl _ _)
     | @slc b off cap n cs l1 hb z hr hle hcap=>
       obtain⟨rfl,rfl⟩:1=n/\eL l=l1:=PV.slc.inj t;have e:=Qb3 hr;subst e;rw[Yu] at hle hcap⊢
       refine(h w b off cap v (λj x hj=>z j _ (by rw[yY,hj];rfl)) (hF b hb) (by have:=hcap.2;omega) hle (by
        have e:(Xs a l).size=(Lib.join (l.map (·.data.toList)) a.data.toList).length:=zX;omega)).mono ?_
       rintro e w' ⟨rfl,u⟩
       exact key u
end
end
section
open Go.RowKit
theorem Qtn : Tryz.prog.globalNamed "internal/bytealg.MaxLen" = some 0 := by kernel_rfl
theorem Qto : Tryz.prog.globalNamed "strings.asciiSpace" = some 5 := by kernel_rfl
theorem Td(s:A)(c:uE)(a:s.size<=1073741000):ACalls vC 161 [.s s,.s ⟨#[c]⟩] (.o 0 (Qs c s)):=
 NT (by unfold Fr;kernel_rfl) a λw b=>by
  obtain⟨m,d⟩:=b.mx _ Qtn;exact Sh.strings_Split s ⟨#[c]⟩ m w (by omega) d (zO 1)
theorem AD(s:A)(a:s.size<=1073741000)(c:∀(j:K) b,s.data.toList[j]? =uC b->b.toNat<128):ACalls vC 342 [.s s] (.o 0 (Vj s)):=
 GL (by unfold Fr;kernel_rfl) a λw d=>Sh.strings_Fields s w (by omega) c (d.sp _ Qto)
theorem U0(l:W A)(a:A)(d:(Xs a l).size<=1073741824):ACalls vC 257 [.h l,.s a] (.s (Xs a l)):=
 TH (by unfold Fr;kernel_rfl) d (λw oa cap _=>Sh.strings_Join_none oa cap a w) λw e o c _ f hb g b h=>Sh.strings_Join e o c l a w f hb g b h
open GoD (rd own)
instance instGoDU8:GoD uE where
 n:=1
 rd _ cs a:=cs= [.int .u8 (a.toNat:Y)]
 own L _ cs a:=L= []/\cs= [.int .u8 (a.toNat:Y)]
 size _:=0
 mark a k:=(a,k+1)
 markT a k:=(a,k)
 rd_len h:=by rw[h];rfl
 rd_same h _:=h
 own_same h _:=h
 own_rd h:=h.2
 own_lt h:=by rw[h.1];simp
 own_nd h:=by rw[h.1];simp
 deq:=inferInstance
 mk_le _ k:=Nat.le_succ k
 mkT_le _ k:=zO k
 lv:=1
 lvm:=0
 mk_bd _ k:=by simp
 mkT_bd _ k:=by simp
theorem Opens.u8{P:uW}{t:uV}(a:P.underlying t=uC (.int .u8))(b:P.cellsOf t=1):Opens P t uE:=by
 refine⟨b,Nat.zero_lt_one,λh=>?_⟩;obtain⟨n,rfl,_,hw⟩:=DataW.trod_int a h;simp only[Lit.wf,yO,uR] at hw;have c:0<=n:=hw.1;have d:n<=255:=hw.2;refine⟨zQ n.toNat, ?_⟩;show [Value.int .u8 n]= [Value.int .u8 ((zQ n.toNat).toNat:Y)];have e:((zQ n.toNat).toNat:Y)=n:=by rw[UInt8.toNat_ofNat'];omega
 rw[e]
end
section
open Go.RowKit
open GoD (rd own)
theorem Qm2(a:uE):InR .u8 (a.toNat:Y):=by
 have h:a.toNat<256:=a.toNat_lt;constructor<;>simp[IntKind.min,IntKind.max,IntKind.bits,IntKind.signed]<;>omega
instance instGoEU8:GoE uE where
 enc a:= [.int .u8 (a.toNat:Y)]
 no_any h:=by rw[zY.1 h];simp
 enc_len _:=rfl
 n_pos:=Nat.zero_lt_one
 wide _:=True
 wide_size _:=trivial
 vc_wide _:=trivial
 rd_vc {w cs a} h _:=by rw[show cs=_ from h];exact .cons (.int (Qm2 a)) .nil
 vc_rd h:=by
  cases h with
  | cons b c=>cases c;cases b;rfl
 own_oc h _:=by obtain⟨rfl,h⟩:=h;rw[h];exact OC.cons (L1:= []) (L2:= []) (.int (Qm2 _)) .nil
 oc_own h _:=by
  cases h with
  | cons b c=>cases c;cases b;exact⟨rfl,rfl⟩
open GoE (enc wide)
def Ms(a:A)(_:K)(b:Wv)(_:uB):Rd (Va) (uB) (uB):=(bif (b.1.toList==a.toList) then(.ret b.2) else(.next ()))
def Mt(_:K)(_:uB):uB:=()
def Kf(f:Yn)(a:A):Va:=(Out.on (X8 (Ms a) Mt f.2.2.2.2 0 ()) (λ_=>(0,0,⟨#[]⟩)))
theorem Od(f:Yn)(a:A):ACalls vC 314 [.a [.i f.1,.i f.2.1,.b f.2.2.1,.i f.2.2.2.1,.h f.2.2.2.2],.s a] (.a [.i ((Kf f a).1),.i ((Kf f a).2.1),.s ((Kf f a).2.2)]):=by
 refine en func314 λ_ _ _=>sn [1,2,4] [2,4] p0 ?_
 refine Qa<|tn [1,4,8,9,10] [4] (pl 2 f.2.2.2.2 p0)<|mz [(4,.p 4 0),(8,.h f.2.2.2.2),(9,.i (f.2.2.2.2.length:Y)),(10,.i 0)] [0] [(4, [.i 0,.i 0,.s ⟨#[]⟩])] []<|wT 8 0 .sh f.2.2.2.2 (λh j=>?_)
 refine S7 (Ms a) Mt f.2.2.2.2 () (λb _=> [(10,.i (b:Y))]) [10] (λ_=> []) [1,8,9,10] wf0 (λb k O U=>?_) (λb k O U=>?_) (λm d=>?_)
 ·obtain⟨c,V⟩:=Xo (l:=f.2.2.2.2) (i:=b) O;refine su [(11,.b H)] [] [] [] (pe 0 (zB ((b:Y)<(f.2.2.2.2.length:Y))) p0)<|Qa<|ckT<|Qd<|Qa<|Qp<|sn [1,4,6,8,9,10] [4,6] (pn 0 V p0)<|tn [1,4,6,8,9,10,17] [4,6] p0<|ck (c.1.toList==a.toList) (λe=>?_) (λe=>?_)
  ·refine tu [] [11] [(4, [.i c.2.1,.i c.2.2.1,.s c.2.2.2])] [4] p0<|Qc ?_
   have g:(X8 (Ms a) Mt f.2.2.2.2 0 ())= .ret c.2:=Kj V (Xg e rfl) U;exact pz [] (show Kf f a=_ from Pq g) (λz=> .a [.i z.1,.i z.2.1,.s z.2.2])
  refine Qd<|qu [(10,.i ((b+1:K):Y))] [10,11] [] [] (pw 0 b p0) ?_
  exact xw _ (Qr V (Qi e rfl) U)
 ·exact sn [1,4,8,9,10,11] [4] (pe 0 (zC ((b:Y)<(f.2.2.2.2.length:Y))) p0)<|Qa<|ckF<|Xa<|xw _ (Xq O rfl U)
 exact sn [4] [4] p0<|Qc<|pz [] (show Kf f a=_ from Vx d rfl) (λz=> .a [.i z.1,.i z.2.1,.s z.2.2])
def Un(f:Yn)(a:A):Y×uA:=(bif ((Kf f a).1 !=(1:Y)) then(0,D) else((Kf f a).2.1,H))
theorem GM(f:Yn)(a:A):ACalls vC 315 [.a [.i f.1,.i f.2.1,.b f.2.2.1,.i f.2.2.2.1,.h f.2.2.2.2],.s a] (.tup [(D, [.i (((Un f a)).1)]),(D, [.b (((Un f a)).2)])]):=by
 refine en func315 λ_ _ _=>sn [1,2,4,5] [2] p0 ?_
 refine tn [4,5,6] [6] (pc 2 (Od f a) p0)<|Qa<|tu [(4,.i 0),(5,.b D),(6,.p 6 0),(12,.b ((Kf f a).1 !=(1:Y)))] [0,1] [(6, [.i ((Kf f a).1),.i ((Kf f a).2.1),.s ((Kf f a).2.2)])] [] p0<|ck ((Kf f a).1 !=(1:Y)) (λb=>?_) (λb=>?_)
 ·exact su [] [12] [] [] p0<|Qc<|pz [] (show Un f a=_ from Xg b rfl) (λz=> .tup [(D, [.i z.1]),(D, [.b z.2])])
 exact Qd<|sn [4,5] [] p0<|Qc<|pz [] (show Un f a=_ from Qi b rfl) (λz=> .tup [(D, [.i z.1]),(D, [.b z.2])])
def Vs(a:A)(_:K)(b:Qo)(_:uB):Rd (W Y) (uB) (uB):=(bif (b.1.toList==a.toList) then(.ret b.2) else(.next ()))
def Uo(_:K)(_:uB):uB:=()
def Zb(r:W Qo)(a:A):(W Y):=(Out.on (X8 (Vs a) Uo r 0 ()) (λ_=> []))
theorem Fa(r:W Qo)(a:A):ACalls vC 130 [.h r,.s a] (.o 0 (Zb r a)):=by
 refine en func130 λ_ _ _=>sn [0,1,4] [] p0 ?_
 refine Qa<|tn [1,4,7,8,9] [] (pl 1 r p0)<|mz [(4,.e 0),(7,.h r),(8,.i (r.length:Y)),(9,.i 0)] [0] [] []<|wT 7 0 .sh r (λg h=>?_)
 refine S7 (Vs a) Uo r () (λb _=> [(9,.i (b:Y))]) [9] (λ_=> []) [1,7,8,9] wf0 (λb j O U=>?_) (λb j O U=>?_) (λk d=>?_)
 ·obtain⟨c,V⟩:=Xo (l:=r) (i:=b) O;refine sn [1,4,7,8,9,10] [] (pe 0 (zB ((b:Y)<(r.length:Y))) p0)<|Qa<|ckT<|Qd<|Qa<|Qp<|tn [1,4,6,7,8,9] [6] (pn 0 V p0)<|tu [(6,.p 6 0),(16,.b (c.1.toList==a.toList))] [] [(6, [.s c.1,.h c.2])] [] p0<|ck (c.1.toList==a.toList) (λe=>?_) (λe=>?_)
  ·refine sn [1,4,7,8,9] [] (pc 2 (Ep c.2) p0)<|Qc ?_
   have f:(X8 (Vs a) Uo r 0 ())= .ret c.2:=Kj V (Xg e rfl) U;exact po0 [] (Pq f)
  refine Qd<|rn [1,4,7,8,9] [] (pw 0 b p0) ?_
  exact xw _ (Qr V (Qi e rfl) U)
 ·exact sn [1,4,7,8,9,10] [] (pe 0 (zC ((b:Y)<(r.length:Y))) p0)<|Qa<|ckF<|Xa<|xw _ (Xq O rfl U)
 refine sn [4] [] p0<|opn [(D,4,0,H,384000,1)] ?_
 exact Qc<|po0 [] (Vx d rfl)
def Kx(v:Y)(a:K)(b:Y)(_:uB):Rd (Y) (uB) (uB):=(bif (v==b) then(.ret (a:Y)) else(.next ()))
def Ue(_:K)(_:uB):uB:=()
def Cb(a:W Y)(v:Y):Y:=(Out.on (X8 (Kx v) Ue a 0 ()) (λ_=> -1))
theorem JE(a:W Y)(v:Y):ACalls vC 220 [.h a,.i v] (.i (Cb a v)):=by
 refine en func220 λ_ _ _=>sn [0,1,4] [] p0 ?_
 refine Qa<|tn [0,1,4,7,8] [] (pl 1 a p0)<|mz [(4,.i 0),(7,.i (a.length:Y)),(8,.i 0)] [] [] []<|wT 0 0 .sh a (λg h=>?_)
 refine S7 (Kx v) Ue a () (λb _=> [(8,.i (b:Y))]) [8] (λ_=> []) [0,1,7,8] wf0 (λb j O U=>?_) (λb j O U=>?_) (λk c=>?_)
 ·obtain⟨f,V⟩:=Xo (l:=a) (i:=b) O;refine sn [0,1,4,7,8,9] [] (pe 0 (zB ((b:Y)<(a.length:Y))) p0)<|Qa<|ckT<|Qd<|Qa<|Qp<|tn [0,1,4,5,7,8] [] p0<|tu [(5,.i (b:Y)),(16,.b (v==f))] [] [] [] (pn 3 V p0)<|ck (v==f) (λd=>?_) (λd=>?_)
  ·refine sn [0,1,4,7,8] [] p0<|Qc ?_
   have e:(X8 (Kx v) Ue a 0 ())= .ret (b:Y):=Kj V (Xg d rfl) U;exact pi [] (Pq e)
  refine Qd<|rn [0,1,4,7,8] [] (pw 0 b p0) ?_
  exact xw _ (Qr V (Qi d rfl) U)
 ·exact sn [0,1,4,7,8,9] [] (pe 0 (zC ((b:Y)<(a.length:Y))) p0)<|Qa<|ckF<|Xa<|xw _ (Xq O rfl U)
 exact sn [4] [] p0<|Qc<|pi [] (Vx c rfl)
def Ky(a:W Y)(v:Y):uA:=decide ((Cb a v)>=(0:Y))
theorem Ij(a:W Y)(v:Y):ACalls vC 175 [.h a,.i v] (.b (Ky a v)):=by
 refine en func175 λ_ _ _=>sn [0,1,4] [] p0 ?_
 exact tn [4] [] (pc 2 (JE a v) p0)<|Qc<|pb [] (show Ky a v=decide ((Cb a v)>=(0:Y)) from rfl)
def V2(a:W Y)(b:Y):uA:=(Ky a b)
theorem Pc(a:W Y)(b:Y):ACalls vC 316 [.h a,.i b] (.b (V2 a b)):=by
 refine en func316 λ_ _ _=>sn [0,1,4] [] p0 ?_
 exact tn [4] [] (pc 2 (Ij a b) p0)<|Qc<|pb [] (show V2 a b=(Ky a b) from rfl)
def Zc(n_:K)(q:W Q9)(at_:Y)(f:Yn)(r:W Qo):uA:=match n_ with
 | 0=>default
 | n_+1=>(bif ((nth q at_.toNat).1==(2:Y)) then((Kf f ((nth q at_.toNat).2.2.2.1)).1 !=(0:Y)) else(bif ((nth q at_.toNat).1==(3:Y)) then(((Kf f ((nth q at_.toNat).2.2.2.1)).1==(nth q at_.toNat).2.2.2.2.1)&&(((Kf f ((nth q at_.toNat).2.2.2.1)).2.1==(nth q at_.toNat).2.2.2.2.2.1)&&((((Kf f ((nth q at_.toNat).2.2.2.1)).2.2).toList==((nth q at_.toNat).2.2.2.2.2.2).toList)&&H))) else(bif ((nth q at_.toNat).1==(4:Y)) then(((Un f ((nth q at_.toNat).2.2.2.1))).2&&decide (((Un f ((nth q at_.toNat).2.2.2.1))).1<(nth q at_.toNat).2.2.2.2.2.1)) else(bif ((nth q at_.toNat).1==(5:Y)) then(!(Zc n_ q ((nth q at_.toNat).2.1) f r)) else(bif ((nth q at_.toNat).1==(6:Y)) then((Zc n_ q ((nth q at_.toNat).2.1) f r)&&(Zc n_ q ((nth q at_.toNat).2.2.1) f r)) else(bif ((nth q at_.toNat).1==(7:Y)) then((Zc n_ q ((nth q at_.toNat).2.1) f r)|| (Zc n_ q ((nth q at_.toNat).2.2.1) f r)) else(bif ((nth q at_.toNat).1==(8:Y)) then(V2 (Zb r ((nth q at_.toNat).2.2.2.1)) f.1) else(bif ((nth q at_.toNat).1==(9:Y)) then((f.2.2.2.1 !=(0:Y))&&(V2 (Zb r ((nth q at_.toNat).2.2.2.1)) f.2.2.2.1)) else H))))))))
theorem AE:∀(g:K) (q:W Q9) (at_:Y) (f:Yn) (r:W Qo) (b:Qj q=H) (ha:0<=at_) (hb:at_<(q.length:Y)) (w:at_<((g:K):Y)),ACalls vC 268 [.h q,.i at_,.a [.i f.1,.i f.2.1,.b f.2.2.1,.i f.2.2.2.1,.h f.2.2.2.2],.h r] (.b (Zc g q at_ f r)):=by
 intro g
 induction g with
 | zero=>intro q at_ f r b ha hb w;exact(by omega:False).elim
 | succ g o=>
  intro q at_ f r b ha hb w
  refine en func268 λ_ _ _=>sn [0,1,3,6,8] [6] p0 ?_
  refine wT 0 0 .sh q (λy z=>?_);have t:=ng q at_.toNat;refine tn [0,3,6,8,9] [6,9] (pg 2 at_ t p0)<|Qa<|tu [(6,.p 6 0),(8,.b D),(9,.p 9 0),(17,.i ((nth q at_.toNat).1))] [1,2] [(6, [.i f.1,.i f.2.1,.b f.2.2.1,.i f.2.2.2.1,.h f.2.2.2.2]),(9, [.i ((nth q at_.toNat).1),.i ((nth q at_.toNat).2.1),.i ((nth q at_.toNat).2.2.1),.s ((nth q at_.toNat).2.2.2.1),.i ((nth q at_.toNat).2.2.2.2.1),.i ((nth q at_.toNat).2.2.2.2.2.1),.s ((nth q at_.toNat).2.2.2.2.2.2)])] [] p0<|Qp<|sn [0,3,6,8,9,17,18] [6,9] p0<|ck ((nth q at_.toNat).1==(2:Y)) (λh=>?_) (λh=>?_)
  ·exact tn [8] [] (pc 3 (Od f ((nth q at_.toNat).2.2.2.1)) p0)<|Qc<|pb [] (Xg h rfl)
  have V:=Yi h;refine tn [0,3,6,8,9,17,26] [6,9] p0<|ck ((nth q at_.toNat).1==(3:Y)) (λl=>?_) (λl=>?_)
  ·exact tU [(8,.b (((Kf f ((nth q at_.toNat).2.2.2.1)).1==(nth q at_.toNat).2.2.2.2.1)&&(((Kf f ((nth q at_.toNat).2.2.2.1)).2.1==(nth q at_.toNat).2.2.2.2.2.1)&&((((Kf f ((nth q at_.toNat).2.2.2.1)).2.2).toList==((nth q at_.toNat).2.2.2.2.2.2).toList)&&H))))] [0,3,6,8,9,17] [] [6,9] (pc 3 (Od f ((nth q at_.toNat).2.2.2.1)) p0)<|Qc<|pb [] (Qi h (Xg l rfl))
  have a1:=Yi l;refine tu [(35,.b ((nth q at_.toNat).1==(4:Y)))] [] [] [] p0<|ck ((nth q at_.toNat).1==(4:Y)) (λm=>?_) (λm=>?_)
  ·refine sn [8,9,10,11] [9] (pc 3 (GM f ((nth q at_.toNat).2.2.2.1)) p0)<|Qa<|mz [(10,.i (((Un f ((nth q at_.toNat).2.2.2.1))).1)),(11,.b (((Un f ((nth q at_.toNat).2.2.2.1))).2))] [0,3,6,17,35] [] [6]<|jn [(8,.b (((Un f ((nth q at_.toNat).2.2.2.1))).2&&decide (((Un f ((nth q at_.toNat).2.2.2.1))).1<(nth q at_.toNat).2.2.2.2.2.1)))] [8,9,10,11] [] [9] (((Un f ((nth q at_.toNat).2.2.2.1))).2) (λs=>?_) (λs=>?_) ?_
   ·refine rn [8] [] (pt 0 s p0) ?_;exact zA (by rw[s]<;>kernel_rfl)
   ·refine rn [8] [] (pf 0 s p0) ?_;exact zA (by rw[s]<;>kernel_rfl)
   exact Qc<|pb [] (Qi h (Qi l (Xg m rfl)))
  have a2:=Yi m;refine sn [0,3,6,8,9,17,52] [6,9] p0<|ck ((nth q at_.toNat).1==(5:Y)) (λe=>?_) (λe=>?_)
  ·have u:=eq_of_beq e;exact tn [8] [] (pc 5 (o q ((nth q at_.toNat).2.1) f r b (by have c:=LN b ha hb e;omega) (by have c:=LN b ha hb e;omega) (by have c:=LN b ha hb e;omega)) p0)<|Qc<|pb [] (Qi h (Qi l (Qi m (Xg e rfl))))
  have u:=Yi e;refine tn [0,3,6,8,9,17,61] [6,9] p0<|ck ((nth q at_.toNat).1==(6:Y)) (λd=>?_) (λd=>?_)
  ·have v:=eq_of_beq d;refine Qa<|mz [(61,.b ((nth q at_.toNat).1==(6:Y)))] [35] [] []<|jn [(8,.b ((Zc g q ((nth q at_.toNat).2.1) f r)&&(Zc g q ((nth q at_.toNat).2.2.1) f r)))] [0,3,6,8,9,17,61] [] [6,9] (Zc g q ((nth q at_.toNat).2.1) f r) (λi=>?_) (λi=>?_) ?_
   ·refine rn [8] [] (pc 5 (cb i (o q ((nth q at_.toNat).2.1) f r b (by have c:=VZ b ha hb d;omega) (by have c:=VZ b ha hb d;omega) (by have c:=VZ b ha hb d;omega))) (pc 12 (o q ((nth q at_.toNat).2.2.1) f r b (by have c:=LO b ha hb d;omega) (by have c:=LO b ha hb d;omega) (by have c:=LO b ha hb d;omega)) p0)) ?_;exact zA (by rw[i]<;>kernel_rfl)
   ·refine rn [8] [] (pc 5 (cb i (o q ((nth q at_.toNat).2.1) f r b (by have c:=VZ b ha hb d;omega) (by have c:=VZ b ha hb d;omega) (by have c:=VZ b ha hb d;omega))) p0) ?_;exact zA (by rw[i]<;>kernel_rfl)
   exact Qc<|pb [] (Qi h (Qi l (Qi m (Qi e (Xg d rfl)))))
  have v:=Yi d;refine tu [(77,.b ((nth q at_.toNat).1==(7:Y)))] [35] [] [] p0<|ck ((nth q at_.toNat).1==(7:Y)) (λa=>?_) (λa=>?_)
  ·have x:=eq_of_beq a;refine Qa<|jn [(8,.b ((Zc g q ((nth q at_.toNat).2.1) f r)|| (Zc g q ((nth q at_.toNat).2.2.1) f r)))] [0,3,6,8,9,17,77] [] [6,9] (Zc g q ((nth q at_.toNat).2.1) f r) (λj=>?_) (λj=>?_) ?_
   ·refine rn [8] [] (pc 5 (cb j (o q ((nth q at_.toNat).2.1) f r b (by have c:=UZ b ha hb a;omega) (by have c:=UZ b ha hb a;omega) (by have c:=UZ b ha hb a;omega))) p0) ?_;exact zA (by rw[j]<;>kernel_rfl)
   ·refine rn [8] [] (pc 5 (cb j (o q ((nth q at_.toNat).2.1) f r b (by have c:=UZ b ha hb a;omega) (by have c:=UZ b ha hb a;omega) (by have c:=UZ b ha hb a;omega))) (pc 12 (o q ((nth q at_.toNat).2.2.1) f r b (by have c:=NA b ha hb a;omega) (by have c:=NA b ha hb a;omega) (by have c:=NA b ha hb a;omega)) p0)) ?_;exact zA (by rw[j]<;>kernel_rfl)
   exact Qc<|pb [] (Qi h (Qi l (Qi m (Qi e (Qi d (Xg a rfl))))))
  refine sn [3,6,8,9,17,93] [6,9] p0<|ck ((nth q at_.toNat).1==(8:Y)) (λn=>?_) (λn=>?_)
  ·exact tN [8] [] (pc 3 (Fa r ((nth q at_.toNat).2.2.2.1)) (pc 6 (Pc (Zb r ((nth q at_.toNat).2.2.2.1)) f.1) p0))<|Qc<|pb [] (Qi h (Qi l (Qi m (Qi e (Qi d (Qi a (Xg n rfl)))))))
  refine tn [3,6,8,9,102] [6,9] p0<|ck ((nth q at_.toNat).1==(9:Y)) (λp=>?_) (λp=>?_)
  ·refine Qa<|mz [(102,.b ((nth q at_.toNat).1==(9:Y)))] [0,17,77] [] []<|jn [(8,.b ((f.2.2.2.1 !=(0:Y))&&(V2 (Zb r ((nth q at_.toNat).2.2.2.1)) f.2.2.2.1)))] [3,6,8,9,102] [] [6,9] (f.2.2.2.1 !=(0:Y)) (λk=>?_) (λk=>?_) ?_
   ·refine rN [8] [] (pt 2 k (pc 7 (Fa r ((nth q at_.toNat).2.2.2.1)) (pc 10 (Pc (Zb r ((nth q at_.toNat).2.2.2.1)) f.2.2.2.1) p0))) ?_;exact zA (by rw[k]<;>kernel_rfl)
   ·refine rN [8] [] (pf 2 k p0) ?_;exact zA (by rw[k]<;>kernel_rfl)
   exact Qc<|pb [] (Qi h (Qi l (Qi m (Qi e (Qi d (Qi a (Qi n (Xg p rfl))))))))
  exact Qd<|tu [(8,.b H)] [0,3,6,8,9,17,77] [] [6,9] p0<|Qc<|pb [] (Qi h (Qi l (Qi m (Qi e (Qi d (Qi a (Qi n (Qi p rfl))))))))
def Up(q:W Q9)(f:Yn)(r:W Qo):uA:=((Qj q)&&(Zc (zD q) q ((q.length:Y)-1) f r))
theorem GN(q:W Q9)(f:Yn)(r:W Qo):ACalls vC 217 [.h q,.a [.i f.1,.i f.2.1,.b f.2.2.1,.i f.2.2.2.1,.h f.2.2.2.2],.h r] (.b (Up q f r)):=by
 refine en func217 λ_ _ _=>sn [0,2,4,6] [4] p0 ?_
 refine Qa<|mz [(4,.p 4 0),(6,.b D)] [1] [(4, [.i f.1,.i f.2.1,.b f.2.2.1,.i f.2.2.2.1,.h f.2.2.2.2])] []<|jn [(6,.b ((Qj q)&&(Zc (zD q) q ((q.length:Y)-1) f r)))] [0,2,4,6] [] [4] (Qj q) (λa=>?_) (λa=>?_) ?_
 ·refine wT 0 0 .sh q (λb c=>?_);refine rn [6] [] (pc 1 (cb a (V6 q)) (pl 5 q (pe 6 (G6 (IntWalk.i64_in ((q.length:Y)-1) (by omega))) (pc 9 (AE (zD q) q ((q.length:Y)-1) f r a (by have:=Fs a;omega) (by omega) (by omega)) p0)))) ?_;exact zA (by rw[a]<;>kernel_rfl)
 ·refine rn [6] [] (pc 1 (cb a (V6 q)) p0) ?_;exact zA (by rw[a]<;>kernel_rfl)
 exact Qc<|pb [] (show Up q f r=((Qj q)&&(Zc (zD q) q ((q.length:Y)-1) f r)) from rfl)
def H2(q:W Q9)(r:W Qo)(_:K)(a:Yn)(b:W Y):Rd (W Y) (W Y) (W Y):=(bif (Up q a r) then(.next (b++ [a.1])) else(.next b))
def Fb(_:K)(a:W Y):(W Y):=a
def Zj(a:Yl)(q:W Q9)(r:W Qo):(W Y):=(Out.on (X8 (H2 q r) Fb a.2.1 0 []) (λb=>b))
theorem JF(b:Yl)(q:W Q9)(r:W Qo):ACalls vC 169 [.a [.h b.1,.h b.2.1,.i b.2.2],.h q,.h r] (.o 0 (Zj b q r)):=by
 refine en func169 λ_ _ _=>sn [1,2,3,6] [3] p0 ?_
 refine tn [1,2,3,6,7] [3] p0<|Qa<|tu [(6,.e 0),(7,.one (.slc (.own H 640) 1 [])),(12,.h b.2.1),(13,.i (b.2.1.length:Y)),(14,.i 0)] [0] [] [] (pl 2 b.2.1 p0)<|wT 12 0 .sh b.2.1 (λj k=>?_)
 refine CA (H2 q r) Fb b.2.1 [] (λc a=> [(7,.o 147203 a),(14,.i (c:Y))]) [7,14] (λh=> [(7,.o 147353 h)]) [1,2,7,12,13,14] (λc a=>zD a<=c) (wsf [(640,147203)]) (by simp) (λc a O U=>?_) (λc a O U=>?_) (λh f=>?_)
 ·have e:=U.2;obtain⟨d,V⟩:=Xo (l:=b.2.1) (i:=c) O;refine su [(15,.b H)] [] [] [] (pe 0 (zB ((c:Y)<(b.2.1.length:Y))) p0)<|Qa<|ckT<|Qd<|Qa<|Qp<|sn [1,2,6,7,9,12,13,14] [9] (pn 0 V p0)<|tn [1,2,6,7,9,12,13,14,21] [9] (pc 3 (GN q d r) p0)<|ck (Up q d r) (λg=>?_) (λg=>?_)
  ·refine wT 7 0 (.own H 147203) a (λm n=>?_);refine qu [(7,.one (.slc (.own H 1664) 1 ((eL a)++ [[.i d.1]])))] [7,15] [] [] (pa a [d.1] p0) ?_;refine eqn [(7,.o 1664 (a++ [d.1]))] [7] [] [] (by rw[show((eL a)++ [[.i d.1]])=(eL (a++ [d.1])) from Jg rfl (rfl)]<;>kernel_rfl) ?_;refine rn [1,2,6,7,12,13,14] [] (pw 0 c p0) ?_;exact zZ (a++ [d.1]) (yN (wsf [(1664,147203)]) ⟨Qr V (Xg g rfl) U.1,by first|omega|(simp;omega) | simp⟩)
  refine Qd<|qu [(14,.i ((c+1:K):Y))] [14,15] [] [] (pw 0 c p0) ?_
  exact xw a ⟨Qr V (Qi g rfl) U.1,by first|omega|(simp;omega) | simp⟩
 ·have e:=U.2;exact su [(15,.b D)] [] [] [] (pe 0 (zC ((c:Y)<(b.2.1.length:Y))) p0)<|Qa<|ckF<|Xa<|zZ _ (yN (wsf [(147203,147353)]) (Xq O rfl U.1))
 exact sn [6] [] p0<|Qc<|po0 [] (Vx f rfl)
def Mu(a:A)(_:K)(b:Wv)(_:uB):Rd (Va) (uB) (uB):=(bif (b.1.toList==a.toList) then(.ret b.2) else(.next ()))
def Mv(_:K)(_:uB):uB:=()
def Kl(f:Yn)(a:A):Va:=(Out.on (X8 (Mu a) Mv f.2.2.2.2 0 ()) (λ_=>(0,0,⟨#[]⟩)))
theorem GO(f:Yn)(a:A):ACalls vC 286 [.a [.i f.1,.i f.2.1,.b f.2.2.1,.i f.2.2.2.1,.h f.2.2.2.2],.s a] (.a [.i ((Kl f a).1),.i ((Kl f a).2.1),.s ((Kl f a).2.2)]):=by
 refine en func286 λ_ _ _=>sn [1,2,4] [2,4] p0 ?_
 refine Qa<|tn [1,2,4,5] [2,4] p0<|mz [(2,.p 2 0),(4,.p 4 0),(5,.i 0)] [0] [(2, [.i f.1,.i f.2.1,.b f.2.2.1,.i f.2.2.2.1,.h f.2.2.2.2]),(4, [.i 0,.i 0,.s ⟨#[]⟩])] []<|wB 2 4 .sh f.2.2.2.2 (λh j=>?_)
 refine Qqr (Mu a) Mv f.2.2.2.2 () (λb _=> [(5,.i (b:Y))]) [5] (λ_ _=> []) [] (λ_=> []) [1,2,5] (λ_=> []) [2] wf0 (λb k O U=>?_) (λb k O U=>?_) (λm d=>?_)
 ·obtain⟨c,V⟩:=Xo (l:=f.2.2.2.2) (i:=b) O;refine Qa<|sn [1,2,4,5,10] [2,4] (pl 3 f.2.2.2.2 (pe 4 (zB ((b:Y)<(f.2.2.2.2.length:Y))) p0))<|ckT<|Qd<|Qa<|Qp<|tn [1,2,4,5,20] [2,4] (pn 3 V p0)<|ck (c.1.toList==a.toList) (λe=>?_) (λe=>?_)
  ·refine tu [] [] [(4, [.i c.2.1,.i c.2.2.1,.s c.2.2.2])] [4] (pn 3 V p0)<|Qc ?_
   have g:(X8 (Mu a) Mv f.2.2.2.2 0 ())= .ret c.2:=Kj V (Xg e rfl) U;exact pz [] (show Kl f a=_ from Pq g) (λz=> .a [.i z.1,.i z.2.1,.s z.2.2])
  refine Qd<|qu [(5,.i ((b+1:K):Y))] [5] [] [] (pw 1 b p0) ?_
  exact xw _ (Qr V (Qi e rfl) U)
 ·exact Qa<|sn [1,2,4,5,10] [2,4] (pl 3 f.2.2.2.2 (pe 4 (zC ((b:Y)<(f.2.2.2.2.length:Y))) p0))<|ckF<|Xa<|xw _ (Xq O rfl U)
 exact sn [4] [4] p0<|Qc<|pz [] (show Kl f a=_ from Vx d rfl) (λz=> .a [.i z.1,.i z.2.1,.s z.2.2])
def Ia(a:A)(_:K)(b:Qo)(_:uB):Rd (W Y) (uB) (uB):=(bif (b.1.toList==a.toList) then(.ret b.2) else(.next ()))
def Ib(_:K)(_:uB):uB:=()
def Wz(b:W Qo)(a:A):(W Y):=(Out.on (X8 (Ia a) Ib b 0 ()) (λ_=> []))
theorem Lm(b:W Qo)(a:A):ACalls vC 111 [.h b,.s a] (.o 0 (Wz b a)):=by
 refine en func111 λ_ _ _=>sn [0,1,4] [] p0 ?_
 refine Qa<|tn [0,1,4,5] [] p0<|mz [(4,.e 0),(5,.i 0)] [] [] []<|wT 0 0 .sh b (λe j=>?_)
 refine S7 (Ia a) Ib b () (λc _=> [(5,.i (c:Y))]) [5] (λ_=> []) [0,1,5] wf0 (λc k O U=>?_) (λc k O U=>?_) (λo f=>?_)
 ·obtain⟨d,V⟩:=Xo (l:=b) (i:=c) O;refine Qa<|sn [0,1,4,5,9] [] (pl 2 b (pe 3 (zB ((c:Y)<(b.length:Y))) p0))<|ckT<|Qd<|Qa<|Qp<|tn [0,1,4,5,18] [] (pn 2 V p0)<|ck (d.1.toList==a.toList) (λg=>?_) (λg=>?_)
  ·have m:zD d.2<=1073741824:=Du (Is (Sa V (e)));refine tu [(4,.o 1600 d.2)] [4] [] [] (pn 3 V (po 6 (.flat) (px (Db (n:=(([]:W (W PV)).length+((eL d.2):W (W PV)).length)) (Eo rfl (Yu d.2) (by first|omega|(simp only[List.length_cons,List.length_nil];omega) | (simp;omega) | simp))) (px (Ae (Uz d.2)) p0))))<|Qc ?_
   have h:(X8 (Ia a) Ib b 0 ())= .ret d.2:=Kj V (Xg g rfl) U;exact po0 [] (Pq h)
  refine Qd<|qu [(5,.i ((c+1:K):Y))] [5] [] [] (pw 1 c p0) ?_
  exact xw _ (Qr V (Qi g rfl) U)
 ·exact Qa<|sn [0,1,4,5,9] [] (pl 2 b (pe 3 (zC ((c:Y)<(b.length:Y))) p0))<|ckF<|Xa<|xw _ (Xq O rfl U)
 exact sn [4] [] p0<|Qc<|po0 [] (Vx f rfl)
def Ha(a:Y)(_:K)(b:Y)(_:uB):Rd (uA) (uB) (uB):=(bif (b==a) then(.ret H) else(.next ()))
def C1(_:K)(_:uB):uB:=()
def Kg(a:W Y)(b:Y):uA:=(Out.on (X8 (Ha b) C1 a 0 ()) (λ_=>D))
theorem Be(a:W Y)(c:Y):ACalls vC 108 [.h a,.i c] (.b (Kg a c)):=by
 refine en func108 λ_ _ _=>sn [0,1,4] [] p0 ?_
 refine Qa<|tn [0,1,4,5] [] p0<|mz [(4,.b D),(5,.i 0)] [] [] []<|wT 0 0 .sh a (λg h=>?_)
 refine S7 (Ha c) C1 a () (λb _=> [(5,.i (b:Y))]) [5] (λ_=> []) [0,1,5] wf0 (λb j O U=>?_) (λb j O U=>?_) (λm d=>?_)
 ·obtain⟨k,V⟩:=Xo (l:=a) (i:=b) O;refine Qa<|sn [0,1,4,5,9] [] (pl 2 a (pe 3 (zB ((b:Y)<(a.length:Y))) p0))<|ckT<|Qd<|Qa<|Qp<|tn [0,1,4,5,17] [] (pn 2 V p0)<|ck (k==c) (λe=>?_) (λe=>?_)
  ·refine tu [(4,.b H)] [4] [] [] p0<|Qc ?_
   have f:(X8 (Ha c) C1 a 0 ())= .ret H:=Kj V (Xg e rfl) U;exact pb [] (Pq f)
  refine Qd<|qu [(5,.i ((b+1:K):Y))] [5] [] [] (pw 1 b p0) ?_
  exact xw _ (Qr V (Qi e rfl) U)
 ·exact Qa<|sn [0,1,4,5,9] [] (pl 2 a (pe 3 (zC ((b:Y)<(a.length:Y))) p0))<|ckF<|Xa<|xw _ (Xq O rfl U)
 exact sn [4] [] p0<|Qc<|pb [] (Vx d rfl)
def K5(n_:K)(q:W Q9)(at_:Y)(f:Yn)(a:W Qo):uA:=match n_ with
 | 0=>default
 | n_+1=>(bif ((nth q at_.toNat).1==(1:Y)) then H else(bif ((nth q at_.toNat).1==(2:Y)) then((Kl f ((nth q at_.toNat).2.2.2.1)).1 !=(0:Y)) else(bif ((nth q at_.toNat).1==(3:Y)) then(((Kl f ((nth q at_.toNat).2.2.2.1)).1==(nth q at_.toNat).2.2.2.2.1)&&(((Kl f ((nth q at_.toNat).2.2.2.1)).2.1==(nth q at_.toNat).2.2.2.2.2.1)&&((((Kl f ((nth q at_.toNat).2.2.2.1)).2.2).toList==((nth q at_.toNat).2.2.2.2.2.2).toList)&&H))) else(bif ((nth q at_.toNat).1==(4:Y)) then(((Kl f ((nth q at_.toNat).2.2.2.1)).1==(1:Y))&&decide ((Kl f ((nth q at_.toNat).2.2.2.1)).2.1<(nth q at_.toNat).2.2.2.2.2.1)) else(bif ((nth q at_.toNat).1==(5:Y)) then(!(K5 n_ q ((nth q at_.toNat).2.1) f a)) else(bif ((nth q at_.toNat).1==(6:Y)) then((K5 n_ q ((nth q at_.toNat).2.1) f a)&&(K5 n_ q ((nth q at_.toNat).2.2.1) f a)) else(bif ((nth q at_.toNat).1==(7:Y)) then((K5 n_ q ((nth q at_.toNat).2.1) f a)|| (K5 n_ q ((nth q at_.toNat).2.2.1) f a)) else(bif ((nth q at_.toNat).1==(8:Y)) then(Kg (Wz a ((nth q at_.toNat).2.2.2.1)) f.1) else((f.2.2.2.1 !=(0:Y))&&(Kg (Wz a ((nth q at_.toNat).2.2.2.1)) f.2.2.2.1))))))))))
theorem GP:∀(g:K) (q:W Q9) (at_:Y) (f:Yn) (d:W Qo) (b:Qj q=H) (ha:0<=at_) (hb:at_<(q.length:Y)) (w:at_<((g:K):Y)),ACalls vC 246 [.h q,.i at_,.a [.i f.1,.i f.2.1,.b f.2.2.1,.i f.2.2.2.1,.h f.2.2.2.2],.h d] (.b (K5 g q at_ f d)):=by
 intro g
 induction g with
 | zero=>intro q at_ f d b ha hb w;exact(by omega:False).elim
 | succ g p=>
  intro q at_ f d b ha hb w
  refine en func246 λ_ _ _=>sn [0,1,3,6,8] [6] p0 ?_
  refine wT 0 0 .sh q (λy z=>?_);have u:=ng q at_.toNat;refine tn [0,3,6,8,9] [6,9] (pg 2 at_ u p0)<|tu [(6,.p 6 0),(8,.b D),(9,.p 9 0),(10,.p 10 0)] [1,2] [(6, [.i f.1,.i f.2.1,.b f.2.2.1,.i f.2.2.2.1,.h f.2.2.2.2]),(9, [.i ((nth q at_.toNat).1),.i ((nth q at_.toNat).2.1),.i ((nth q at_.toNat).2.2.1),.s ((nth q at_.toNat).2.2.2.1),.i ((nth q at_.toNat).2.2.2.2.1),.i ((nth q at_.toNat).2.2.2.2.2.1),.s ((nth q at_.toNat).2.2.2.2.2.2)]),(10, [.i ((Kl f ((nth q at_.toNat).2.2.2.1)).1),.i ((Kl f ((nth q at_.toNat).2.2.2.1)).2.1),.s ((Kl f ((nth q at_.toNat).2.2.2.1)).2.2)])] [] (pc 3 (GO f ((nth q at_.toNat).2.2.2.1)) p0)<|Qa<|sn [0,3,6,8,9,10,20] [6,9,10] p0<|Qp<|tn [0,3,6,8,9,10,20,21] [6,9,10] p0<|ck ((nth q at_.toNat).1==(1:Y)) (λh=>?_) (λh=>?_)
  ·exact tu [(8,.b H)] [0,8,10] [] [10] p0<|Qc<|pb [] (Xg h rfl)
  have V:=Yi h;refine tu [(20,.i ((nth q at_.toNat).1)),(23,.b ((nth q at_.toNat).1==(2:Y)))] [] [] [] p0<|ck ((nth q at_.toNat).1==(2:Y)) (λm=>?_) (λm=>?_)
  ·exact sn [3,6,8,9] [6,9] p0<|Qc<|pb [] (Qi h (Xg m rfl))
  have a1:=Yi m;refine sn [0,3,6,8,9,10,20,28] [6,9,10] p0<|ck ((nth q at_.toNat).1==(3:Y)) (λn=>?_) (λn=>?_)
  ·exact tn [3,6,8,9] [6,9] p0<|Qc<|pb [] (Qi h (Qi m (Xg n rfl)))
  have a2:=Yi n;refine tn [0,3,6,8,9,10,20,34] [6,9,10] p0<|ck ((nth q at_.toNat).1==(4:Y)) (λo=>?_) (λo=>?_)
  ·refine Qa<|mz [(34,.b ((nth q at_.toNat).1==(4:Y)))] [23] [] []<|jn [(8,.b (((Kl f ((nth q at_.toNat).2.2.2.1)).1==(1:Y))&&decide ((Kl f ((nth q at_.toNat).2.2.2.1)).2.1<(nth q at_.toNat).2.2.2.2.2.1)))] [0,8,10,20,34] [] [10] ((Kl f ((nth q at_.toNat).2.2.2.1)).1==(1:Y)) (λs=>?_) (λs=>?_) ?_
   ·refine rn [3,6,8,9] [6,9] (pt 2 s p0) ?_;exact zA (by rw[s]<;>kernel_rfl)
   ·refine rn [3,6,8,9] [6,9] (pf 2 s p0) ?_;exact zA (by rw[s]<;>kernel_rfl)
   exact Qc<|pb [] (Qi h (Qi m (Qi n (Xg o rfl))))
  have a3:=Yi o;refine tu [(47,.b ((nth q at_.toNat).1==(5:Y)))] [10,23] [] [10] p0<|ck ((nth q at_.toNat).1==(5:Y)) (λi=>?_) (λi=>?_)
  ·have v:=eq_of_beq i;exact sn [3,6,8,9] [6,9] (pc 5 (p q ((nth q at_.toNat).2.1) f d b (by have e:=LN b ha hb i;omega) (by have e:=LN b ha hb i;omega) (by have e:=LN b ha hb i;omega)) p0)<|Qc<|pb [] (Qi h (Qi m (Qi n (Qi o (Xg i rfl)))))
  have v:=Yi i;refine sn [0,3,6,8,9,20,56] [6,9] p0<|ck ((nth q at_.toNat).1==(6:Y)) (λa=>?_) (λa=>?_)
  ·have t:=eq_of_beq a;refine Qa<|mz [(56,.b ((nth q at_.toNat).1==(6:Y)))] [47] [] []<|jn [(8,.b ((K5 g q ((nth q at_.toNat).2.1) f d)&&(K5 g q ((nth q at_.toNat).2.2.1) f d)))] [0,8,20,56] [] [] (K5 g q ((nth q at_.toNat).2.1) f d) (λj=>?_) (λj=>?_) ?_
   ·refine rn [3,6,8,9] [6,9] (pc 5 (cb j (p q ((nth q at_.toNat).2.1) f d b (by have e:=VZ b ha hb a;omega) (by have e:=VZ b ha hb a;omega) (by have e:=VZ b ha hb a;omega))) (pc 12 (p q ((nth q at_.toNat).2.2.1) f d b (by have e:=LO b ha hb a;omega) (by have e:=LO b ha hb a;omega) (by have e:=LO b ha hb a;omega)) p0)) ?_;exact zA (by rw[j]<;>kernel_rfl)
   ·refine rn [3,6,8,9] [6,9] (pc 5 (cb j (p q ((nth q at_.toNat).2.1) f d b (by have e:=VZ b ha hb a;omega) (by have e:=VZ b ha hb a;omega) (by have e:=VZ b ha hb a;omega))) p0) ?_;exact zA (by rw[j]<;>kernel_rfl)
   exact Qc<|pb [] (Qi h (Qi m (Qi n (Qi o (Qi i (Xg a rfl))))))
  have t:=Yi a;refine tn [0,3,6,8,9,20,72] [6,9] p0<|ck ((nth q at_.toNat).1==(7:Y)) (λc=>?_) (λc=>?_)
  ·have x:=eq_of_beq c;refine Qa<|mz [(72,.b ((nth q at_.toNat).1==(7:Y)))] [47] [] []<|jn [(8,.b ((K5 g q ((nth q at_.toNat).2.1) f d)|| (K5 g q ((nth q at_.toNat).2.2.1) f d)))] [0,8,20,72] [] [] (K5 g q ((nth q at_.toNat).2.1) f d) (λk=>?_) (λk=>?_) ?_
   ·refine rn [3,6,8,9] [6,9] (pc 5 (cb k (p q ((nth q at_.toNat).2.1) f d b (by have e:=UZ b ha hb c;omega) (by have e:=UZ b ha hb c;omega) (by have e:=UZ b ha hb c;omega))) p0) ?_;exact zA (by rw[k]<;>kernel_rfl)
   ·refine rn [3,6,8,9] [6,9] (pc 5 (cb k (p q ((nth q at_.toNat).2.1) f d b (by have e:=UZ b ha hb c;omega) (by have e:=UZ b ha hb c;omega) (by have e:=UZ b ha hb c;omega))) (pc 12 (p q ((nth q at_.toNat).2.2.1) f d b (by have e:=NA b ha hb c;omega) (by have e:=NA b ha hb c;omega) (by have e:=NA b ha hb c;omega)) p0)) ?_;exact zA (by rw[k]<;>kernel_rfl)
   exact Qc<|pb [] (Qi h (Qi m (Qi n (Qi o (Qi i (Qi a (Xg c rfl)))))))
  refine tu [(88,.b ((nth q at_.toNat).1==(8:Y)))] [0,20,47] [] [] p0<|ck ((nth q at_.toNat).1==(8:Y)) (λr=>?_) (λr=>?_)
  ·exact sN [3,6,8,9] [6,9] (pc 3 (Lm d ((nth q at_.toNat).2.2.2.1)) (pc 6 (Be (Wz d ((nth q at_.toNat).2.2.2.1)) f.1) p0))<|Qc<|pb [] (Qi h (Qi m (Qi n (Qi o (Qi i (Qi a (Qi c (Xg r rfl))))))))
  refine Qd<|Qa<|jn [(8,.b ((f.2.2.2.1 !=(0:Y))&&(Kg (Wz d ((nth q at_.toNat).2.2.2.1)) f.2.2.2.1)))] [3,6,8,9,88] [] [6,9] (f.2.2.2.1 !=(0:Y)) (λl=>?_) (λl=>?_) ?_
  ·refine rN [8] [] (pt 2 l (pc 7 (Lm d ((nth q at_.toNat).2.2.2.1)) (pc 10 (Be (Wz d ((nth q at_.toNat).2.2.2.1)) f.2.2.2.1) p0))) ?_;exact zA (by rw[l]<;>kernel_rfl)
  ·refine rN [8] [] (pf 2 l p0) ?_;exact zA (by rw[l]<;>kernel_rfl)
  exact Qc<|pb [] (Qi h (Qi m (Qi n (Qi o (Qi i (Qi a (Qi c (Qi r rfl))))))))
def F1(q:W Q9)(f:Yn)(a:W Qo):uA:=((Yy q)&&(K5 (zD q) q ((q.length:Y)-1) f a))
theorem GQ(q:W Q9)(f:Yn)(b:W Qo):ACalls vC 194 [.h q,.a [.i f.1,.i f.2.1,.b f.2.2.1,.i f.2.2.2.1,.h f.2.2.2.2],.h b] (.b (F1 q f b)):=by
 refine en func194 λ_ _ _=>sn [0,2,4,6] [4] p0 ?_
 refine Qa<|mz [(4,.p 4 0),(6,.b D)] [1] [(4, [.i f.1,.i f.2.1,.b f.2.2.1,.i f.2.2.2.1,.h f.2.2.2.2])] []<|jn [(6,.b ((Yy q)&&(K5 (zD q) q ((q.length:Y)-1) f b)))] [0,2,4,6] [] [4] (Yy q) (λa=>?_) (λa=>?_) ?_
 ·refine wT 0 0 .sh q (λc d=>?_);refine rn [6] [] (pc 1 (cb a (V8 q)) (pl 5 q (pe 6 (G6 (IntWalk.i64_in ((q.length:Y)-1) (by omega))) (pc 9 (GP (zD q) q ((q.length:Y)-1) f b (N7 a) (by have:=Fs (N7 a);omega) (by omega) (by omega)) p0)))) ?_;exact zA (by rw[a]<;>kernel_rfl)
 ·refine rn [6] [] (pc 1 (cb a (V8 q)) p0) ?_;exact zA (by rw[a]<;>kernel_rfl)
 exact Qc<|pb [] (show F1 q f b=((Yy q)&&(K5 (zD q) q ((q.length:Y)-1) f b)) from rfl)
def Bv(q:W Q9)(c:W Qo)(_:K)(a:Yn)(b:W Y):Rd (W Y) (W Y) (W Y):=(bif (F1 q a c) then(.next (b++ [a.1])) else(.next b))
def Fd(_:K)(a:W Y):(W Y):=a
def Jj(a:Yl)(q:W Q9)(b:W Qo):(W Y):=(Out.on (X8 (Bv q b) Fd a.2.1 0 []) (λc=>c))
theorem JG(a:Yl)(q:W Q9)(f:W Qo):ACalls vC 152 [.a [.h a.1,.h a.2.1,.i a.2.2],.h q,.h f] (.o 0 (Jj a q f)):=by
 refine en func152 λ_ _ _=>sn [1,2,3,6] [3] p0 ?_
 refine tn [1,2,3,6,7] [3] p0<|Qa<|tu [(3,.p 3 0),(6,.e 0),(7,.one (.slc (.own H 576) 1 [])),(8,.i 0)] [0] [(3, [.h a.1,.h a.2.1,.i a.2.2])] [] p0<|wB 3 1 .sh a.2.1 (λk m=>?_)
 refine VB (Bv q f) Fd a.2.1 [] (λc b=> [(7,.o 147204 b),(8,.i (c:Y))]) [7,8] (λ_ _=> []) [] (λj=> [(7,.o 147354 j)]) [1,2,3,7,8] (λ_=> []) [3] (λc b=>zD b<=c) (wsf [(576,147204)]) (by simp) (λc b O U=>?_) (λc b O U=>?_) (λj g=>?_)
 ·have e:=U.2;obtain⟨d,V⟩:=Xo (l:=a.2.1) (i:=c) O;refine Qa<|su [(14,.b H)] [] [] [] (pl 3 a.2.1 (pe 4 (zB ((c:Y)<(a.2.1.length:Y))) p0))<|ckT<|Qd<|Qa<|Qp<|sn [1,2,3,6,7,8,24] [3] (pn 4 V (pc 7 (GQ q d f) p0))<|ck (F1 q d f) (λh=>?_) (λh=>?_)
  ·refine wT 7 0 (.own H 147204) b (λn o=>?_);refine qu [(7,.one (.slc (.own H 2112) 1 ((eL b)++ [[.i d.1]])))] [7,14] [] [] (pn 4 V (pa b [d.1] p0)) ?_;refine eqn [(7,.o 2112 (b++ [d.1]))] [7] [] [] (by rw[show((eL b)++ [[.i d.1]])=(eL (b++ [d.1])) from Jg rfl (rfl)]<;>kernel_rfl) ?_;refine rn [1,2,3,6,7,8] [3] (pw 1 c p0) ?_;exact zZ (b++ [d.1]) (yN (wsf [(2112,147204)]) ⟨Qr V (Xg h rfl) U.1,by first|omega|(simp;omega) | simp⟩)
  refine Qd<|qn [1,2,3,6,7,8] [3] (pw 1 c p0) ?_
  exact xw b ⟨Qr V (Qi h rfl) U.1,by first|omega|(simp;omega) | simp⟩
 ·have e:=U.2;exact Qa<|su [(14,.b D)] [] [] [] (pl 3 a.2.1 (pe 4 (zC ((c:Y)<(a.2.1.length:Y))) p0))<|ckF<|Xa<|zZ _ (yN (wsf [(147204,147354)]) (Xq O rfl U.1))
 exact sn [6] [] p0<|Qc<|po0 [] (Vx g rfl)
theorem Qm3(l:W Y)(x:Y):V2 l x=Kg l x:=by
 unfold V2 Ky Cb Kg
 have key:∀(l:W Y) (k:K),decide (((X8 (Kx x) Ue l k ()).on λ_=> -1)>=0)=((X8 (Ha x) C1 l k ()).on λ_=>D):=by
  intro l
  induction l with
  | nil=>intro k;rfl
  | cons a l b=>
    intro k;by_cases h:x=a
    . subst h;simp[X8,Kx,Ha,Out.on]
    have c:(x==a)=D:=uL.2 h;have d:(a==x)=D:=uL.2 (xO h);simp only[X8,Kx,Ha,c,d,uI];exact b (k+1)
 exact key l 0
theorem Qo3(r:W Qo)(s:A):Zb r s=Wz r s:=rfl
theorem Qo4(f:Yn)(s:A):Kf f s=Kl f s:=rfl
theorem Qq4{n:Q9}{k:Y}(h:Y5 n k=H):n.1=1\/n.1=2\/n.1=3\/n.1=4\/n.1=5\/n.1=6\/n.1=7\/n.1=8\/n.1=9:=by
 refine zT λa=>?_
 simp only[not_or] at a;obtain⟨b,c,d,e,f,g,i,j,l⟩:=a;unfold Y5 at h;simp only[uL.2 b,uL.2 c,uL.2 d,uL.2 e,uL.2 f,uL.2 g,uL.2 i,uL.2 j,uL.2 l,uI] at h;cases h
theorem Qb4{q:W Q9}(d:Qj q=H)(f:Yn)(r:W Qo):∀(n:K) (k:Y),0<=k->k<(q.length:Y)->Zc n q k f r=K5 n q k f r
 | 0,_,_,_=>rfl
 | n +1,k,h0,h1=>by
   have e:=T1 d (Dc (l:=q) (i:=zK k) (by omega));rw[Int.toNat_of_nonneg h0] at e;obtain⟨a,b⟩:=G7 d h0 h1;unfold Zc K5;have c:=Qb4 d f r n;unfold Un;simp only[Qo4,Qo3,Qm3];generalize nth q (zK k)=m at e a b⊢;rcases Qq4 e with h | h | h | h | h | h | h | h | h
   . simp[h]
   . simp[h]
   . simp[h]
   . rw[h];cases g:((Kl f m.2.2.2.1).1==(1:Y)) with
     | true=>simp[bne,g]
     | false=>simp[bne,g]
   . simp[h,c _ (a (by simp[h])).1 (by have:=(a (by simp[h])).2;omega)]
   . simp[h,c _ (a (by simp[h])).1 (by have:=(a (by simp[h])).2;omega),c _ (b (by simp[h])).1 (by have:=(b (by simp[h])).2;omega)]
   . simp[h,c _ (a (by simp[h])).1 (by have:=(a (by simp[h])).2;omega),c _ (b (by simp[h])).1 (by have:=(b (by simp[h])).2;omega)]
   . simp[h]
   simp[h]
theorem Qdy(q:W Q9)(f:Yn)(r:W Qo):Up q f r=F1 q f r:=by
 unfold Up F1;rw[←Qgy];cases a:Qj q with
 | false=>rfl
 | true=>rw[Qb4 a f r _ _ (by have:=Fs a;omega) (by omega)]
theorem NU(s:Yl)(q:W Q9)(r:W Qo):Zj s q r=Jj s q r:=by
 unfold Zj Jj
 rw[N3 (f:=H2 q r) (g:=Bv q r) (e:=Fb) (e':=Fd) (λi a s=>by
  unfold H2 Bv;rw[Qdy]) (λ_ _=>rfl)]
end
section
section
variable {φ:Type} (fs:W φ) (idOf:φ->Y)
def sel(p:φ->uA):W Y:=(fs.filter p).map idOf
theorem AF{p q:φ->uA}:∀(l:W φ),(∀f,f∈l->p f=H->q f=H)->(l.filter p).length<=(l.filter q).length/\((l.filter q).length<=(l.filter p).length->l.filter p=l.filter q)
 | [],_=>⟨zO _,λ_=>rfl⟩
 | f :: l,h=>by
   obtain⟨e,c⟩:=AF l λg i=>h g (zH _ i)
   have j:=h f (zL ..);cases a:p f with
   | true=>
     have b:=j a;simp only[xB,a,b,if_true,List.length_cons];exact⟨by omega,λd=>by rw[c (by omega)]⟩
   | false=>
     cases b:q f with
     | true=>
       simp only[xB,a,b,if_true,List.length_cons,yH,if_false];exact⟨by omega,λd=>absurd d (by omega)⟩
     | false=>
       simp only[xB,a,b,yH,if_false];exact⟨e,c⟩
theorem TJ(p:φ->uA):(sel fs idOf p).length<=fs.length:=by
 unfold sel;rw[zJ];exact xH _ _
variable {fs idOf}
theorem Qla{p q:φ->uA}(h:∀f,f∈fs->p f=H->q f=H)(a:sel fs idOf p≠sel fs idOf q):(sel fs idOf p).length+1<=(sel fs idOf q).length:=by
 obtain⟨b,c⟩:=AF fs h;unfold sel at a⊢;rw[zJ,zJ];refine Nat.lt_of_le_of_ne b λe=>a ?_
 rw[c (by omega)]
theorem Qo5{p q:φ->uA}(h:∀f,f∈fs->p f=H->q f=H){x:Y}(a:x∈sel fs idOf p):x∈sel fs idOf q:=by
 unfold sel at a⊢;obtain⟨f,c,rfl⟩:=zU.1 a;obtain⟨b,d⟩:=xD.1 c;exact zU.2 ⟨f,xD.2 ⟨b,h f b d⟩,rfl⟩
end
abbrev CD:=A×W Y
def Qhl(out:W CD)(k:K)(a:W Y):W CD:=out.set k ((nth out k).1,a)
theorem WH{out:W CD}{k:K}(x:CD)(a:k<out.length)(j:K):nth (out.set k x) j=if j=k then x else nth out j:=by
 unfold nth;simp only[yV,List.getElem?_set];by_cases h:k=j
 . subst h;simp[a]
 simp[h,xO h]
theorem Qdz{out:W CD}{k:K}(a:W Y)(b:k<out.length):(Qhl out k a).map (·.1)=out.map (·.1):=by
 unfold Qhl;rw[List.map_set];refine List.ext_getElem (by simp) λi c d=>?_
 rw[List.getElem_set];split
 . rename_i h;subst h;simp[nth,yA,b]
 rfl
def AG(B:K)(act:K->uA):K->W CD->K
 | _, []=>0
 | k,r::l=>(bif act k then B-r.2.length else 0)+AG B act (k+1) l
theorem Qhm(B:K)(act:K->uA):∀(l:W CD) (k:K),AG B act k l<=l.length*B
 | [],k=>by simp[AG]
 | r::l,k=>by
   have:=Qhm B act l (k+1);simp only[AG,List.length_cons,Nat.add_mul,Nat.one_mul];cases act k with
   | true=>simp only[uK];omega
   | false=>simp only[uI];omega
theorem Qb5(B:K)(act:K->uA)(x:CD):∀(l:W CD) (k i:K),i<l.length->act (k+i)=H->(nth l i).2.length+1<=x.2.length->x.2.length<=B->AG B act k (l.set i x)+1<=AG B act k l
 | [],k,i,hi,_,_,_=>by simp at hi
 | r::l,k,0,_,ha,h1,h2=>by
   have e:nth (r::l) 0=r:=rfl;rw[e] at h1;rw[Nat.add_zero] at ha;simp only[zE,AG,ha,uK];omega
 | r::l,k,i+1,hi,ha,h1,h2=>by
   have:=Qb5 B act x l (k+1) i (by simpa using hi) (by rwa [show k+1+i=k+(i+1) by omega]) h1 h2;simp only[zE,AG];omega
section
variable {φ:Type} {fs:W φ} {idOf:φ->Y} (m:K->W CD->φ->uA) (act:K->uA)
def LeC(a b:W CD):Prop:=∀j,(∀x,x∈(nth a j).2->x∈(nth b j).2)/\(act j=D->(nth a j).2=(nth b j).2)
variable (fs idOf)
def Qsy(out:W CD):Prop:=∀k,k<out.length->act k=H->∃p:φ->uA,(nth out k).2=sel fs idOf p/\∀f,f∈fs->p f=H->m k out f=H
def Qlb(nm:W A):Prop:=∀a b:W CD,a.map (·.1)=nm->b.map (·.1)=nm->LeC act a b->∀k,k<nm.length->act k=H->∀f,f∈fs->m k a f=H->m k b f=H
def NV(s:W CD×uA)(k:K):W CD×uA:=bif act k then(if sel fs idOf (m k s.1)=(nth s.1 k).2 then s else(Qhl s.1 k (sel fs idOf (m k s.1)),H)) else s
def GR(ks:W K)(s:W CD×uA):W CD×uA:=ks.foldl (NV fs idOf m act) s
variable {fs idOf m act} {nm:W A}
structure StateC (fs:W φ) (idOf:φ->Y) (m:K->W CD->φ->uA) (act:K->uA) (nm:W A) (o out:W CD):Prop where
 names:out.map (·.1)=nm
 good:Qsy fs idOf m act out
 rest:∀j,act j=D->nth out j=nth o j
theorem Qlc(hm:Qlb fs m act nm){o:W CD}{s:W CD×uA}(h:StateC fs idOf m act nm o s.1){k:K}(hk:k<nm.length):
 StateC fs idOf m act nm o (NV fs idOf m act s k).1/\AG fs.length act 0 (NV fs idOf m act s k).1<=AG fs.length act 0 s.1/\((NV fs idOf m act s k).2=H->s.2=H\/AG fs.length act 0 (NV fs idOf m act s k).1+1<=AG fs.length act 0 s.1):=by
 unfold NV;cases ha:act k with
 | false=>exact⟨h,zO _,.inl⟩
 | true=>
   simp only[uK];split
   . exact⟨h,zO _,.inl⟩
   rename_i q;have z:nm.length=s.1.length:=by rw[←h.names,zJ]
   have a:k<s.1.length:=by omega
   obtain⟨p,g,r⟩:=h.good k a ha;rw[g] at q;have i:=Qla (idOf:=idOf) r (xO q);have b:(Qhl s.1 k (sel fs idOf (m k s.1))).map (·.1)=nm:=by rw[Qdz _ a,h.names]
   have t:LeC act s.1 (Qhl s.1 k (sel fs idOf (m k s.1))):=λj=>by
    unfold Qhl;rw[WH _ a];by_cases d:j=k
    . subst d;rw[uG rfl];exact⟨λx u=>Qo5 r (g▸u),λn=>absurd ha (by simp[n])⟩
    rw[uH d];exact⟨λ_ u=>u,λ_=>rfl⟩
   have c:=hm _ _ h.names b t
   have V:AG fs.length act 0 (Qhl s.1 k (sel fs idOf (m k s.1)))+1<=AG fs.length act 0 s.1:=
    Qb5 _ _ _ _ 0 k a (by rw[yE];exact ha) (by rw[g];exact i) (TJ _ _ _)
   refine⟨⟨b,λj d l=>?_,λj d=>?_⟩,Nat.le_of_succ_le V,λ_=> .inr V⟩
   . have v:j<s.1.length:=by unfold Qhl at d;rwa [zG] at d
     by_cases e:j=k
     . subst e;refine⟨m j s.1, ?_,λf n w=>c j (by omega) l f n w⟩;unfold Qhl;rw[WH _ a,uG rfl]
     obtain⟨p',h1,h2⟩:=h.good j v l;refine⟨p', ?_,λf n y=>c j (by omega) l f n (h2 f n y)⟩;unfold Qhl;rw[WH _ a,uH e];exact h1
   have e:j≠k:=λe=>absurd ha (by simp[←e,d])
   unfold Qhl;rw[WH _ a,uH e];exact h.rest j d
theorem Qb6(a:Qlb fs m act nm){o:W CD}:∀(ks:W K) (s:W CD×uA),(∀k,k∈ks->k<nm.length)->StateC fs idOf m act nm o s.1->
 StateC fs idOf m act nm o (GR fs idOf m act ks s).1/\AG fs.length act 0 (GR fs idOf m act ks s).1<=AG fs.length act 0 s.1/\((GR fs idOf m act ks s).2=H->s.2=H\/AG fs.length act 0 (GR fs idOf m act ks s).1+1<=AG fs.length act 0 s.1)
 | [],s,_,h=>⟨h,zO _,.inl⟩
 | k ::ks,s,hks,h=>by
   obtain⟨d,b,e⟩:=Qlc a h (hks k (zL ..));obtain⟨f,c,g⟩:=Qb6 a ks _ (λj i=>hks j (zH _ i)) d;refine⟨f,yT c b,λhc=>?_⟩;rcases g hc with hc | hc
   . rcases e hc with hc | hc
     . exact .inl hc
     exact .inr (yT (Nat.add_le_add_right c 1) hc)
   exact .inr (yT hc b)
theorem Qtb{R S T:Type}{F:S->Rd R S T}{out:S->W CD}{ch:S->uA}{n:K}(d:n=nm.length)
 (e:∀s,ch s=H->∃s',F s= .next s'/\(out s',ch s')=GR fs idOf m act (zM n) (out s,D))
 (f:∀s,ch s=D->∃t,F s= .brk t)
 (g:Qlb fs m act nm) {o:W CD}:∀(k:K) (s:S),StateC fs idOf m act nm o (out s)->AG fs.length act 0 (out s)+(bif ch s then 2 else 1)<=k->
 ∃s',StateC fs idOf m act nm o (out s')/\ch s'=D/\∃t,F s'= .brk t/\whl F k s=uC (.brk t)
 | 0,s,_,hk=>by cases a:ch s<;>simp[a] at hk
 | k +1,s,h,hk=>by
   cases a:ch s with
   | false=>
     obtain⟨t,i⟩:=f s a;exact⟨s,h,a,t,i,by simp only[whl,i]⟩
   | true=>
     rw[a] at hk;simp only[uK] at hk;obtain⟨s',q,r⟩:=e s a;obtain⟨l,p,b⟩:=Qb6 g (o:=o) (zM n) (out s,D) (λj u=>by rw[←d];exact yK.1 u) h;rw[←r] at l p b;simp only[whl,q];refine Qtb d e f g k s' l ?_;simp only[yH,false_or] at b;cases c:ch s' with
     | false=>simp only[uI];have:AG fs.length act 0 (out s')<=AG fs.length act 0 (out s):=p;omega
     | true=>simp only[uK];have:AG fs.length act 0 (out s')+1<=AG fs.length act 0 (out s):=b c;omega
end
open Go.RowKit in
def ArgLe(a b:AV):Prop:=∀(J:Inj) (w:uD) (v:uN),AR J w v a->AR J w v b
theorem ArgLe.rfl(a:AV):ArgLe a a:=λ_ _ _ h=>h
theorem ArgLe.nil(n:K):ArgLe (.one (.slc .sh 0 [])) (.one (.slc .sh n [])):=λJ w v h=>by
 have a:VV J.F w v (.slc 0 []):=h;show VV J.F w v (.slc n []);generalize c:PV.slc 0 ([]:W (W PV))=p at a;cases a with
 | int | bool | str | any | raw=>cases c
 | emp oa m d=>exact .emp oa n d
 | @slc b off cap m cs l hx hcells hr hle hcap=>
   cases c
   exact .emp _ n hcap.1
theorem AH{P:uW}{f:K}{r:AV}{args a:W AV}(h:All2 ArgLe args a)(c:ACalls P f a r):ACalls P f args r:=⟨c.1,λw e F b g d=>c.2 w e F b g (by
 clear c
 induction h generalizing b with
 | nil=>exact d
 | cons i m j=>
   cases d with
   | cons k l=>exact .cons (i _ _ _ k) (j _ l))⟩
theorem NW{s:St}{t k n:K}{l:W (W PV)}(f:get s.tm t=uC (.one (.slc (.own D k) n l)))(g:Ds l):Weak s ⟨[(t,.one (.slc (.own H k) n l))], []⟩:=λN w0 F0 J a w h=>
 ⟨J, {h with
  bo:=λk c b=>by simp[get] at b
  bi:=λk m c c' b=>by simp[get] at b
  tm :=λi v d=>by
   have j:=h.tm t _ f;by_cases e:i=t
   . subst e;obtain rfl:AV.one (.slc (.own H k) n l)=v:=by simpa [get] using d
     exact MF j g
   simp[get,xO e] at d}⟩
theorem TL{P:uW}{N:K}{a:Base}{b:K->Prop}{Q:Exit->St->Prop}{s:St}{c:Code}(t:K){k n:K}{l:W (W PV)}(d:get s.tm t=uC (.one (.slc (.own D k) n l)))(e:Ds l)(h:AWP P N a b c Q ⟨[(t,.one (.slc (.own H k) n l))], []⟩):AWP P N a b c Q s:=Ex (NW d e) h
end
end Go.Proofs.YtkdnkiggkgakmaaGreatDoor
