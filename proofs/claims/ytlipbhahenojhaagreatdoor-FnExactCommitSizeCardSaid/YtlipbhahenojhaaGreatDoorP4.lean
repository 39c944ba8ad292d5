/- A part. -/
import Derived.Test.YtlipbhahenojhaaGreatDoorP3
import Derived.Sort.EncStr
import Derived.Sort.Grow
import Derived.Lib.SlicesCompact
import Derived.Sort.Walk0
import Derived.Shelf.Strings.Builder1
import Derived.Shelf.Strings.Builder2
import Derived.Shelf.Strings.OnBuilder
import Derived.Shelf.Strconv.Atoi
import Derived.Shelf.Strconv.Itoa0
import Derived.Shelf.Strconv.Itoa1
import Derived.Shelf.LaysM
import Derived.Shelf.Strconv.Itoa2
import Derived.Shelf.Strconv.Itoa3
import Derived.Shelf.Strconv.AtoiErrFast
import Derived.Shelf.Strconv.ParseIntEmpty
import Derived.Shelf.Strconv.AtoiFail
import Derived.Shelf.Strconv.SyntaxError
import Derived.Shelf.LaysC
import Derived.Shelf.Strconv.ToError
import Derived.Shelf.Strconv.AtoiErr
import Derived.Shelf.Strconv.ErrVar
import Derived.Shelf.Strconv.ParseUint10
import Derived.Shelf.Strconv.ParseUint10Empty
import Derived.Shelf.Strconv.ParseUint10Any
import Derived.Shelf.Strconv.ParseInt10
import Derived.Shelf.Strconv.AtoiLong
import Derived.Shelf.Strconv.AtoiInnerAll
import Derived.Shelf.Strconv.RangeError
import Derived.Shelf.Strconv.ToErrorRange
import Derived.Shelf.Strconv.AtoiAll
import Derived.Shelf.Strconv.ErrVarAll
import Derived.Shelf.Strings.Shaped
import Derived.Shelf.Sort.Plain
import Derived.Shelf.Strings.Split
import Derived.Shelf.Strings.Fields
import Derived.Shelf.Strings.SplitShaped
import Derived.Shelf.Slices.Turned
import Derived.Shelf.Slices.CompactS
import Derived.Shelf.Slices.In.SortNone
import Derived.Ground.SlgnProg
import Derived.Ground.SlgfProg
import Derived.Laws.IdiomStrings
import Derived.Lib.ConvBytes
import Derived.Lib.SlBytesRow
import Derived.Lib.SplitLaws
import Derived.Lib.Fields
import Derived.Lib.Join
set_option linter.unusedVariables false
set_option linter.unusedSimpArgs false
namespace Go.Proofs.YtlipbhahenojhaaGreatDoor
open _root_ renaming Int → Y, List → W, Nat → Q, ByteArray → H, Bool → D, Unit → A, if_pos → uB, UInt8 → uC, cond_false → uE, if_neg → uG, beq_eq_false_iff_ne → uH, cond_true → uI, of_decide_eq_true → uJ, Array → uM, Option → uN, Inhabited → uO, decide_eq_true → uP, decide_eq_true_eq → uQ, decide_eq_false → uR, beq_iff_eq → uS, congrArg → uT, of_decide_eq_false → uW, DecidableEq → uX, beq_self_eq_true → uY
open _root_.Bool renaming true → O, false → K
open _root_.Go renaming World → uD, Value → uK, maxLen → uL, TypeId → uU, Program → uV
open _root_.Option renaming some → uA, none → uF
open _root_.Go.IntKind renaming wrap → uZ, i64 → vA
open _root_.Go.Proofs.Tryz renaming prog → vB
open _root_.Go.Proofs.Tryz
open _root_.And renaming intro → yV
open _root_.Array renaming getElem?_toList → yD, getElem?_append → yT, length_toList → xB, getElem?_eq_getElem → xD, getElem?_modify → xM
open _root_.Bool renaming false_eq_true → yA, and_eq_true → yH, not_true → yJ, true_and → yX, or_eq_true → yY, eq_iff_iff → xA
open _root_.Classical renaming byContradiction → zU
open _root_.Exists renaming intro → yB
open _root_.Function renaming comp_def → yN
open _root_.Int renaming toNat → zH, toNat_natCast → zM, le_refl → zT, le_trans → yQ, natCast_add → xL, tmod → xZ
open _root_.List renaming length → zD, set → zE, replicate → zF, length_set → zG, mem_cons_of_mem → zJ, length_map → zK, mem_cons_self → zL, range → zN, mem_cons → zO, eq_nil_of_length_eq_zero → zQ, take → zS, mem_map → zV, pairwise_cons → zX, size_toArray → zY, mem_singleton → zZ, getD → yC, getD_eq_getElem?_getD → yF, drop → yG, getElem?_eq_some_iff → yI, mem_filter → yL, length_append → yM, nodup_nil → yO, mem_range → yP, length_pos_of_mem → yR, mem_append_right → yU, filter_cons → yW, getElem?_map → xF, getElem?_set → xG, range' → xH, getElem_mem → xI, take_of_length_le → xJ, mem_append → xK, length_filter_le → xN, length_mergeSort → xO, length_singleton → xP, mem_append_left → xQ, range_eq_range' → xR, mem_of_getElem? → xS, mergeSort_perm → xT, getElem_of_mem → xU, sum_cons → xV, map → xW
open _root_.Nat renaming le_refl → zP, zero_add → zW, mul_one → yE, le_trans → xC, zero_le → xE, add_zero → xY
open _root_.Ne renaming symm → xX
open _root_.Option renaming isSome_iff_exists → yK, isSome_map → yS
open _root_.Option.some renaming inj → yZ
open _root_.UInt8 renaming ofNat → zR
section
open Go.RowKit
open GoE (enc wide)
def J7(q:W Q0)(a:Q)(b:W D):Rd (W D) (W D) (W D):=(bif ((qa q (dn ((q.length:Y)-1) a)).1==(5:Y)) then(.next (zE b ((qa q (dn ((q.length:Y)-1) a)).2.1).toNat ((nth b (dn ((q.length:Y)-1) a).toNat)|| ((qa q (dn ((q.length:Y)-1) a)).1==(5:Y))))) else(bif ((qa q (dn ((q.length:Y)-1) a)).1==(6:Y)) then(.next (zE (zE b ((qa q (dn ((q.length:Y)-1) a)).2.1).toNat ((nth b (dn ((q.length:Y)-1) a).toNat)|| ((qa q (dn ((q.length:Y)-1) a)).1==(5:Y)))) ((qa q (dn ((q.length:Y)-1) a)).2.2.1).toNat ((nth b (dn ((q.length:Y)-1) a).toNat)|| ((qa q (dn ((q.length:Y)-1) a)).1==(5:Y))))) else(bif ((qa q (dn ((q.length:Y)-1) a)).1==(7:Y)) then(.next (zE (zE b ((qa q (dn ((q.length:Y)-1) a)).2.1).toNat ((nth b (dn ((q.length:Y)-1) a).toNat)|| ((qa q (dn ((q.length:Y)-1) a)).1==(5:Y)))) ((qa q (dn ((q.length:Y)-1) a)).2.2.1).toNat ((nth b (dn ((q.length:Y)-1) a).toNat)|| ((qa q (dn ((q.length:Y)-1) a)).1==(5:Y))))) else(.next b))))
def Bk(_:Q)(a:W D):(W D):=a
def Y5(q:W Q0):(W D):=(bif (!(Qm q)) then [] else(Out.on (Vj (J7 q) Bk (zD q) 0 (zF (q.length:Y).toNat K)) (λa=>a)))
theorem VP(q:W Q0):ACalls vB 360 [.h q] (.o 0 (Y5 q)):=by
 refine en func360 λ_ _ _=>sn [0,2] [] p0 ?_
 refine Qa<|tn [0,2,8] [] (pc 1 (Uu q) p0)<|ck (!(Qm q)) (λh1=>?_) (λh1=>?_)
 ·refine tu [(2,.e 0)] [] [] [] p0<|opn [(K,2,0,O,104,1)] ?_
  exact Qc<|po0 [] (Qu h1 rfl)
 have h:(Qm q)=O:=Yu h1;refine Qd<|wT 0 0 .sh q (λai aj=>?_)
 refine tu [(2,.e 0),(3,.one (.slc (.own O 704) 1 (zF (q.length:Y).toNat [.b K])))] [] [] [] (pl 1 q (px (Nc (lo:=0) (hi:=(q.length:Y)) (n:=1073741824) (⟨by omega,by omega,by omega⟩)) p0)) ?_;refine eqn [(3,.o 704 (zF (q.length:Y).toNat K))] [3] [] [] (by rw[show(zF (q.length:Y).toNat [.b K])=(eL (zF (q.length:Y).toNat K)) from Qpv _ K]<;>kernel_rfl) ?_;refine Qa<|sn [0,2,3,4] [] (pl 1 q (pe 2 (Nn (IntWalk.i64_in ((q.length:Y)-1) (by omega))) p0))<|mz [(4,.i ((q.length:Y)-1))] [] [] []<|Qsa (J7 q) Bk (zD q) (zF (q.length:Y).toNat K) (λa b=> [(3,.o 704 b),(4,.i (dn ((q.length:Y)-1) a))]) [3,4] (λy0=> [(3,.o 704 y0)]) [0,3,4] (λ_ b=>zD b=(q.length:Y).toNat) (λy0=>zD y0=(q.length:Y).toNat) wf0 (by simp) (λa b g U=>?_) (λa b g U=>?_) (λy0 t=>?_)
 ·have s:=U.2;have u:=Qdq ((q.length:Y)-1) a;refine Qa<|sn [0,2,3,4,16] [] (pe 1 (zB ((dn ((q.length:Y)-1) a)>=(0:Y))) p0)<|ckT<|Qd<|Qa<|Qn<|Qa<|mz [(16,.b O)] [] [] []<|jn [(5,.b ((nth b (dn ((q.length:Y)-1) a).toNat)|| ((qa q (dn ((q.length:Y)-1) a)).1==(5:Y))))] [16] [] [] (nth b (dn ((q.length:Y)-1) a).toNat) (λv=>?_) (λv=>?_) ?_
  ·refine wT 3 0 (.own O 704) b (λak al=>?_);have a2:=ng b (dn ((q.length:Y)-1) a).toNat;exact rn [0,2,3,4,5] [] (pG 2 (dn ((q.length:Y)-1) a) a2 (pt 3 v p0))<|zA (by rw[v]<;>kernel_rfl)
  ·refine wT 3 0 (.own O 704) b (λam a5=>?_);have a3:=ng b (dn ((q.length:Y)-1) a).toNat;have w:=ng q (dn ((q.length:Y)-1) a).toNat;exact rn [0,2,3,4,5] [] (pG 2 (dn ((q.length:Y)-1) a) a3 (pf 3 v (pg 7 (dn ((q.length:Y)-1) a) w p0)))<|zA (by rw[v]<;>kernel_rfl)
  have c:=ng q (dn ((q.length:Y)-1) a).toNat;refine sn [0,2,3,4,5,35] [] (pg 2 (dn ((q.length:Y)-1) a) c p0)<|Qn<|tn [0,2,3,4,5,35,36] [] p0<|ck ((qa q (dn ((q.length:Y)-1) a)).1==(5:Y)) (λe=>?_) (λe=>?_)
  ·have a6:=SX h (by omega) (by omega) e;have x:=eq_of_beq e;refine wT 3 0 (.own O 704) b (λa7 a8=>?_);have m:=ng b ((qa q (dn ((q.length:Y)-1) a)).2.1).toNat;refine qu [(3,.one (.slc (.own O 704) 1 (setRow (eL b) ((qa q (dn ((q.length:Y)-1) a)).2.1).toNat 0 [.b ((nth b (dn ((q.length:Y)-1) a).toNat)|| ((qa q (dn ((q.length:Y)-1) a)).1==(5:Y)))])))] [3,5] [] [] (pg 3 (dn ((q.length:Y)-1) a) c (pG 7 ((qa q (dn ((q.length:Y)-1) a)).2.1) m p0)) ?_;refine eqn [(3,.o 704 (zE b ((qa q (dn ((q.length:Y)-1) a)).2.1).toNat ((nth b (dn ((q.length:Y)-1) a).toNat)|| ((qa q (dn ((q.length:Y)-1) a)).1==(5:Y)))))] [3] [] [] (by rw[Wd (y:=((nth b (dn ((q.length:Y)-1) a).toNat)|| ((qa q (dn ((q.length:Y)-1) a)).1==(5:Y)))) m rfl]<;>kernel_rfl) ?_;refine rn [0,2,3,4] [] (pe 1 (show .i (uZ vA ((dn ((q.length:Y)-1) a)-1))= .i (dn ((q.length:Y)-1) (a+1)) from Nn (show uZ vA ((dn ((q.length:Y)-1) a)-1)=(dn ((q.length:Y)-1) (a+1)) from IntWalk.i64_in ((dn ((q.length:Y)-1) a)-1) (by omega))) p0) ?_;exact xw (zE b ((qa q (dn ((q.length:Y)-1) a)).2.1).toNat ((nth b (dn ((q.length:Y)-1) a).toNat)|| ((qa q (dn ((q.length:Y)-1) a)).1==(5:Y)))) ⟨Kb g (Qu e rfl) U.1,(by first|omega|(simp only[zG];omega))⟩
  have x:=Yt e;refine Qa<|tu [(35,.i ((qa q (dn ((q.length:Y)-1) a)).1)),(46,.b ((qa q (dn ((q.length:Y)-1) a)).1==(6:Y)))] [] [] [] p0<|ck ((qa q (dn ((q.length:Y)-1) a)).1==(6:Y)) (λd=>?_) (λd=>?_)
  ·have a9:=DC h (by omega) (by omega) d;have aa:=SY h (by omega) (by omega) d;have z:=eq_of_beq d;refine Qd<|ckt d ?_
   refine wT 3 0 (.own O 704) b (λab ad=>?_);have i:=ng b ((qa q (dn ((q.length:Y)-1) a)).2.1).toNat;have o:(zE b ((qa q (dn ((q.length:Y)-1) a)).2.1).toNat ((nth b (dn ((q.length:Y)-1) a).toNat)|| ((qa q (dn ((q.length:Y)-1) a)).1==(5:Y))))[((qa q (dn ((q.length:Y)-1) a)).2.2.1).toNat]? =uA (nth (zE b ((qa q (dn ((q.length:Y)-1) a)).2.1).toNat ((nth b (dn ((q.length:Y)-1) a).toNat)|| ((qa q (dn ((q.length:Y)-1) a)).1==(5:Y)))) ((qa q (dn ((q.length:Y)-1) a)).2.2.1).toNat):=Hn (by first|omega|(simp only[zG];omega));refine rU [(3,.one (.slc (.own O 704) 1 (setRow (setRow (eL b) ((qa q (dn ((q.length:Y)-1) a)).2.1).toNat 0 [.b ((nth b (dn ((q.length:Y)-1) a).toNat)|| ((qa q (dn ((q.length:Y)-1) a)).1==(5:Y)))]) ((qa q (dn ((q.length:Y)-1) a)).2.2.1).toNat 0 [.b ((nth b (dn ((q.length:Y)-1) a).toNat)|| ((qa q (dn ((q.length:Y)-1) a)).1==(5:Y)))])))] [3,5,35,46] [] [] (pg 3 (dn ((q.length:Y)-1) a) c (pg 9 (dn ((q.length:Y)-1) a) c (pG 14 ((qa q (dn ((q.length:Y)-1) a)).2.1) i (pR 16 (l:=(setRow (eL b) ((qa q (dn ((q.length:Y)-1) a)).2.1).toNat 0 [.b ((nth b (dn ((q.length:Y)-1) a).toNat)|| ((qa q (dn ((q.length:Y)-1) a)).1==(5:Y)))])) (j:=((qa q (dn ((q.length:Y)-1) a)).2.2.1)) (r:= [.b (nth (zE b ((qa q (dn ((q.length:Y)-1) a)).2.1).toNat ((nth b (dn ((q.length:Y)-1) a).toNat)|| ((qa q (dn ((q.length:Y)-1) a)).1==(5:Y)))) ((qa q (dn ((q.length:Y)-1) a)).2.2.1).toNat)]) (by rw[Wd (y:=((nth b (dn ((q.length:Y)-1) a).toNat)|| ((qa q (dn ((q.length:Y)-1) a)).1==(5:Y)))) i rfl];exact Qh0 (by omega) rfl o) p0)))) ?_;refine eqn [(3,.o 704 (zE (zE b ((qa q (dn ((q.length:Y)-1) a)).2.1).toNat ((nth b (dn ((q.length:Y)-1) a).toNat)|| ((qa q (dn ((q.length:Y)-1) a)).1==(5:Y)))) ((qa q (dn ((q.length:Y)-1) a)).2.2.1).toNat ((nth b (dn ((q.length:Y)-1) a).toNat)|| ((qa q (dn ((q.length:Y)-1) a)).1==(5:Y)))))] [3] [] [] (by rw[Wd (y:=((nth b (dn ((q.length:Y)-1) a).toNat)|| ((qa q (dn ((q.length:Y)-1) a)).1==(5:Y)))) i rfl,Wd (y:=((nth b (dn ((q.length:Y)-1) a).toNat)|| ((qa q (dn ((q.length:Y)-1) a)).1==(5:Y)))) o rfl]<;>kernel_rfl) ?_;refine rn [0,2,3,4] [] (pe 1 (show .i (uZ vA ((dn ((q.length:Y)-1) a)-1))= .i (dn ((q.length:Y)-1) (a+1)) from Nn (show uZ vA ((dn ((q.length:Y)-1) a)-1)=(dn ((q.length:Y)-1) (a+1)) from IntWalk.i64_in ((dn ((q.length:Y)-1) a)-1) (by omega))) p0) ?_;exact xw (zE (zE b ((qa q (dn ((q.length:Y)-1) a)).2.1).toNat ((nth b (dn ((q.length:Y)-1) a).toNat)|| ((qa q (dn ((q.length:Y)-1) a)).1==(5:Y)))) ((qa q (dn ((q.length:Y)-1) a)).2.2.1).toNat ((nth b (dn ((q.length:Y)-1) a).toNat)|| ((qa q (dn ((q.length:Y)-1) a)).1==(5:Y)))) ⟨Kb g (Qh e (Qu d rfl)) U.1,(by first|omega|(simp only[zG];omega))⟩
  have z:=Yt d;refine rn [0,2,3,4,5,46] [] p0 ?_;refine ck ((qa q (dn ((q.length:Y)-1) a)).1==(7:Y)) (λf=>?_) (λf=>?_)
  ·have ae:=FA h (by omega) (by omega) f;have af:=Qal h (by omega) (by omega) f;have a1:=eq_of_beq f;refine wT 3 0 (.own O 704) b (λag ah=>?_);have k:=ng b ((qa q (dn ((q.length:Y)-1) a)).2.1).toNat;have p:(zE b ((qa q (dn ((q.length:Y)-1) a)).2.1).toNat ((nth b (dn ((q.length:Y)-1) a).toNat)|| ((qa q (dn ((q.length:Y)-1) a)).1==(5:Y))))[((qa q (dn ((q.length:Y)-1) a)).2.2.1).toNat]? =uA (nth (zE b ((qa q (dn ((q.length:Y)-1) a)).2.1).toNat ((nth b (dn ((q.length:Y)-1) a).toNat)|| ((qa q (dn ((q.length:Y)-1) a)).1==(5:Y)))) ((qa q (dn ((q.length:Y)-1) a)).2.2.1).toNat):=Hn (by first|omega|(simp only[zG];omega));refine qU [(3,.one (.slc (.own O 704) 1 (setRow (setRow (eL b) ((qa q (dn ((q.length:Y)-1) a)).2.1).toNat 0 [.b ((nth b (dn ((q.length:Y)-1) a).toNat)|| ((qa q (dn ((q.length:Y)-1) a)).1==(5:Y)))]) ((qa q (dn ((q.length:Y)-1) a)).2.2.1).toNat 0 [.b ((nth b (dn ((q.length:Y)-1) a).toNat)|| ((qa q (dn ((q.length:Y)-1) a)).1==(5:Y)))])))] [3,5,35,46] [] [] (pg 3 (dn ((q.length:Y)-1) a) c (pg 9 (dn ((q.length:Y)-1) a) c (pG 14 ((qa q (dn ((q.length:Y)-1) a)).2.1) k (pR 16 (l:=(setRow (eL b) ((qa q (dn ((q.length:Y)-1) a)).2.1).toNat 0 [.b ((nth b (dn ((q.length:Y)-1) a).toNat)|| ((qa q (dn ((q.length:Y)-1) a)).1==(5:Y)))])) (j:=((qa q (dn ((q.length:Y)-1) a)).2.2.1)) (r:= [.b (nth (zE b ((qa q (dn ((q.length:Y)-1) a)).2.1).toNat ((nth b (dn ((q.length:Y)-1) a).toNat)|| ((qa q (dn ((q.length:Y)-1) a)).1==(5:Y)))) ((qa q (dn ((q.length:Y)-1) a)).2.2.1).toNat)]) (by rw[Wd (y:=((nth b (dn ((q.length:Y)-1) a).toNat)|| ((qa q (dn ((q.length:Y)-1) a)).1==(5:Y)))) k rfl];exact Qh0 (by omega) rfl p) p0)))) ?_;refine eqn [(3,.o 704 (zE (zE b ((qa q (dn ((q.length:Y)-1) a)).2.1).toNat ((nth b (dn ((q.length:Y)-1) a).toNat)|| ((qa q (dn ((q.length:Y)-1) a)).1==(5:Y)))) ((qa q (dn ((q.length:Y)-1) a)).2.2.1).toNat ((nth b (dn ((q.length:Y)-1) a).toNat)|| ((qa q (dn ((q.length:Y)-1) a)).1==(5:Y)))))] [3] [] [] (by rw[Wd (y:=((nth b (dn ((q.length:Y)-1) a).toNat)|| ((qa q (dn ((q.length:Y)-1) a)).1==(5:Y)))) k rfl,Wd (y:=((nth b (dn ((q.length:Y)-1) a).toNat)|| ((qa q (dn ((q.length:Y)-1) a)).1==(5:Y)))) p rfl]<;>kernel_rfl) ?_;refine rn [0,2,3,4] [] (pe 1 (show .i (uZ vA ((dn ((q.length:Y)-1) a)-1))= .i (dn ((q.length:Y)-1) (a+1)) from Nn (show uZ vA ((dn ((q.length:Y)-1) a)-1)=(dn ((q.length:Y)-1) (a+1)) from IntWalk.i64_in ((dn ((q.length:Y)-1) a)-1) (by omega))) p0) ?_;exact xw (zE (zE b ((qa q (dn ((q.length:Y)-1) a)).2.1).toNat ((nth b (dn ((q.length:Y)-1) a).toNat)|| ((qa q (dn ((q.length:Y)-1) a)).1==(5:Y)))) ((qa q (dn ((q.length:Y)-1) a)).2.2.1).toNat ((nth b (dn ((q.length:Y)-1) a).toNat)|| ((qa q (dn ((q.length:Y)-1) a)).1==(5:Y)))) ⟨Kb g (Qh e (Qh d (Qu f rfl))) U.1,(by first|omega|(simp only[zG];omega))⟩
  have a1:=Yt f;refine Qd<|qn [0,2,3,4] [] (pe 1 (show .i (uZ vA ((dn ((q.length:Y)-1) a)-1))= .i (dn ((q.length:Y)-1) (a+1)) from Nn (show uZ vA ((dn ((q.length:Y)-1) a)-1)=(dn ((q.length:Y)-1) (a+1)) from IntWalk.i64_in ((dn ((q.length:Y)-1) a)-1) (by omega))) p0) ?_
  exact xw b ⟨Kb g (Qh e (Qh d (Qh f rfl))) U.1,(by first|omega|(simp only[zG];omega))⟩
 ·have s:=U.2;have u:=Qdq ((q.length:Y)-1) a;exact Qa<|sn [0,2,3,4,16] [] (pe 1 (zC ((dn ((q.length:Y)-1) a)>=(0:Y))) p0)<|ckF<|Qv<|xw b ⟨Hu g rfl U.1,by first|omega|(simp only[zG];omega)⟩
 have a4:=t.2;exact sn [2] [] p0<|Qc<|po0 [] (Qh h1 (Vz t.1 rfl))
def Bl(q:W Q0)(a:Q)(b:W D):Rd (W D) (W D) (W D):=(bif ((qa q (dn ((q.length:Y)-1) a)).1==(5:Y)) then(bif (((qa q (dn ((q.length:Y)-1) a)).1==(6:Y))|| ((qa q (dn ((q.length:Y)-1) a)).1==(7:Y))) then(.next (zE (zE (zE b ((qa q (dn ((q.length:Y)-1) a)).2.1).toNat O) ((qa q (dn ((q.length:Y)-1) a)).2.1).toNat (nth (zE b ((qa q (dn ((q.length:Y)-1) a)).2.1).toNat O) (dn ((q.length:Y)-1) a).toNat)) ((qa q (dn ((q.length:Y)-1) a)).2.2.1).toNat (nth (zE (zE b ((qa q (dn ((q.length:Y)-1) a)).2.1).toNat O) ((qa q (dn ((q.length:Y)-1) a)).2.1).toNat (nth (zE b ((qa q (dn ((q.length:Y)-1) a)).2.1).toNat O) (dn ((q.length:Y)-1) a).toNat)) (dn ((q.length:Y)-1) a).toNat))) else(.next (zE b ((qa q (dn ((q.length:Y)-1) a)).2.1).toNat O))) else(bif (((qa q (dn ((q.length:Y)-1) a)).1==(6:Y))|| ((qa q (dn ((q.length:Y)-1) a)).1==(7:Y))) then(.next (zE (zE b ((qa q (dn ((q.length:Y)-1) a)).2.1).toNat (nth b (dn ((q.length:Y)-1) a).toNat)) ((qa q (dn ((q.length:Y)-1) a)).2.2.1).toNat (nth (zE b ((qa q (dn ((q.length:Y)-1) a)).2.1).toNat (nth b (dn ((q.length:Y)-1) a).toNat)) (dn ((q.length:Y)-1) a).toNat))) else(.next b)))
def G4(_:Q)(a:W D):(W D):=a
def K0(q:W Q0):(W D):=(bif (!(Zp q)) then [] else(Out.on (Vj (Bl q) G4 (zD q) 0 (zF (q.length:Y).toNat K)) (λa=>a)))
theorem VQ(q:W Q0):ACalls vB 377 [.h q] (.o 0 (K0 q)):=by
 refine en func377 λ_ _ _=>sn [0,2] [] p0 ?_
 refine Qa<|tn [0,2,9] [] (pc 1 (Uw q) p0)<|ck (!(Zp q)) (λh1=>?_) (λh1=>?_)
 ·exact tu [(2,.one (.slc (.own O 640) 1 []))] [] [] [] p0<|Qc<|po0 [] (Qu h1 rfl)
 have f:(Zp q)=O:=Yu h1;refine Qd<|wT 0 0 .sh q (λak al=>?_)
 refine tu [(2,.e 0),(3,.one (.slc (.own O 832) 1 (zF (q.length:Y).toNat [.b K])))] [] [] [] (pl 1 q (px (Nc (lo:=0) (hi:=(q.length:Y)) (n:=1073741824) (⟨by omega,by omega,by omega⟩)) p0)) ?_;refine eqn [(3,.o 832 (zF (q.length:Y).toNat K))] [3] [] [] (by rw[show(zF (q.length:Y).toNat [.b K])=(eL (zF (q.length:Y).toNat K)) from Qpv _ K]<;>kernel_rfl) ?_;refine Qa<|sn [0,2,3,4] [] (pl 1 q (pe 2 (Nn (IntWalk.i64_in ((q.length:Y)-1) (by omega))) p0))<|mz [(4,.i ((q.length:Y)-1))] [] [] []<|Qsa (Bl q) G4 (zD q) (zF (q.length:Y).toNat K) (λa b=> [(3,.o 832 b),(4,.i (dn ((q.length:Y)-1) a))]) [3,4] (λy0=> [(3,.o 832 y0)]) [0,3,4] (λ_ b=>zD b=(q.length:Y).toNat) (λy0=>zD y0=(q.length:Y).toNat) wf0 (by simp) (λa b c U=>?_) (λa b c U=>?_) (λy0 o=>?_)
 ·have l:=U.2;have p:=Qdq ((q.length:Y)-1) a;refine Qa<|sn [0,2,3,4,18] [] (pe 1 (zB ((dn ((q.length:Y)-1) a)>=(0:Y))) p0)<|ckT<|Qd<|Qa<|Qn ?_
  have a2:=ng q (dn ((q.length:Y)-1) a).toNat;refine tn [0,2,3,4,5] [5] (pg 2 (dn ((q.length:Y)-1) a) a2 p0)<|Qa<|mz [(5,.p 5 0)] [] [(5, [.i ((qa q (dn ((q.length:Y)-1) a)).1),.i ((qa q (dn ((q.length:Y)-1) a)).2.1),.i ((qa q (dn ((q.length:Y)-1) a)).2.2.1),.s ((qa q (dn ((q.length:Y)-1) a)).2.2.2.1),.i ((qa q (dn ((q.length:Y)-1) a)).2.2.2.2.1),.i ((qa q (dn ((q.length:Y)-1) a)).2.2.2.2.2.1),.s ((qa q (dn ((q.length:Y)-1) a)).2.2.2.2.2.2)])] []<|jn [(6,.b (((qa q (dn ((q.length:Y)-1) a)).1==(6:Y))|| ((qa q (dn ((q.length:Y)-1) a)).1==(7:Y))))] [] [] [] ((qa q (dn ((q.length:Y)-1) a)).1==(6:Y)) (λm=>?_) (λm=>?_) ?_
  ·have am:=DC (Tk f) (by omega) (by omega) m;have an:=SY (Tk f) (by omega) (by omega) m;exact rn [0,2,3,4,5,6] [5] (pt 2 m p0)<|zA (by rw[m]<;>kernel_rfl)
  ·exact rn [0,2,3,4,5,6] [5] (pf 2 m p0)<|zA (by rw[m]<;>kernel_rfl)
  refine Qa<|sn [0,2,3,4,5,6,35] [5] p0<|ck ((qa q (dn ((q.length:Y)-1) a)).1==(5:Y)) (λg=>?_) (λg=>?_)
  ·have ao:=SX (Tk f) (by omega) (by omega) g;have a3:=eq_of_beq g;refine wT 3 0 (.own O 832) b (λap aq=>?_);have r:=ng b ((qa q (dn ((q.length:Y)-1) a)).2.1).toNat;refine qu [(3,.one (.slc (.own O 832) 1 (setRow (eL b) ((qa q (dn ((q.length:Y)-1) a)).2.1).toNat 0 [.b O])))] [3] [] [] (pG 3 ((qa q (dn ((q.length:Y)-1) a)).2.1) r p0) ?_;refine eqn [(3,.o 832 (zE b ((qa q (dn ((q.length:Y)-1) a)).2.1).toNat O))] [3] [] [] (by rw[Wd (y:=O) r rfl]<;>kernel_rfl) ?_;refine sn [0,2,3,4,5,40] [5] p0<|ck (((qa q (dn ((q.length:Y)-1) a)).1==(6:Y))|| ((qa q (dn ((q.length:Y)-1) a)).1==(7:Y))) (λd=>?_) (λd=>?_)
   ·have a9:=Qsb (Tk f) (by omega) (by omega) d;refine wT 3 0 (.own O 832) (zE b ((qa q (dn ((q.length:Y)-1) a)).2.1).toNat O) (λaa ab=>?_);have s:=ng (zE b ((qa q (dn ((q.length:Y)-1) a)).2.1).toNat O) (dn ((q.length:Y)-1) a).toNat (by first|omega|(simp only[zG];omega));have h:=ng (zE b ((qa q (dn ((q.length:Y)-1) a)).2.1).toNat O) ((qa q (dn ((q.length:Y)-1) a)).2.1).toNat (by first|omega|(simp only[zG];omega));refine tU [(3,.one (.slc (.own O 832) 1 (setRow (eL (zE b ((qa q (dn ((q.length:Y)-1) a)).2.1).toNat O)) ((qa q (dn ((q.length:Y)-1) a)).2.1).toNat 0 [.b (nth (zE b ((qa q (dn ((q.length:Y)-1) a)).2.1).toNat O) (dn ((q.length:Y)-1) a).toNat)])))] [3,6] [] [] (pG 5 (dn ((q.length:Y)-1) a) s (pG 7 ((qa q (dn ((q.length:Y)-1) a)).2.1) h p0)) ?_;refine eqn [(3,.o 832 (zE (zE b ((qa q (dn ((q.length:Y)-1) a)).2.1).toNat O) ((qa q (dn ((q.length:Y)-1) a)).2.1).toNat (nth (zE b ((qa q (dn ((q.length:Y)-1) a)).2.1).toNat O) (dn ((q.length:Y)-1) a).toNat)))] [3] [] [] (by rw[Wd (y:=(nth (zE b ((qa q (dn ((q.length:Y)-1) a)).2.1).toNat O) (dn ((q.length:Y)-1) a).toNat)) h rfl]<;>kernel_rfl) ?_;refine wT 3 0 (.own O 832) (zE (zE b ((qa q (dn ((q.length:Y)-1) a)).2.1).toNat O) ((qa q (dn ((q.length:Y)-1) a)).2.1).toNat (nth (zE b ((qa q (dn ((q.length:Y)-1) a)).2.1).toNat O) (dn ((q.length:Y)-1) a).toNat)) (λad ae=>?_);have t:=ng (zE (zE b ((qa q (dn ((q.length:Y)-1) a)).2.1).toNat O) ((qa q (dn ((q.length:Y)-1) a)).2.1).toNat (nth (zE b ((qa q (dn ((q.length:Y)-1) a)).2.1).toNat O) (dn ((q.length:Y)-1) a).toNat)) (dn ((q.length:Y)-1) a).toNat (by first|omega|(simp only[zG];omega));have i:=ng (zE (zE b ((qa q (dn ((q.length:Y)-1) a)).2.1).toNat O) ((qa q (dn ((q.length:Y)-1) a)).2.1).toNat (nth (zE b ((qa q (dn ((q.length:Y)-1) a)).2.1).toNat O) (dn ((q.length:Y)-1) a).toNat)) ((qa q (dn ((q.length:Y)-1) a)).2.2.1).toNat (by first|omega|(simp only[zG];omega));refine rU [(3,.one (.slc (.own O 832) 1 (setRow (eL (zE (zE b ((qa q (dn ((q.length:Y)-1) a)).2.1).toNat O) ((qa q (dn ((q.length:Y)-1) a)).2.1).toNat (nth (zE b ((qa q (dn ((q.length:Y)-1) a)).2.1).toNat O) (dn ((q.length:Y)-1) a).toNat))) ((qa q (dn ((q.length:Y)-1) a)).2.2.1).toNat 0 [.b (nth (zE (zE b ((qa q (dn ((q.length:Y)-1) a)).2.1).toNat O) ((qa q (dn ((q.length:Y)-1) a)).2.1).toNat (nth (zE b ((qa q (dn ((q.length:Y)-1) a)).2.1).toNat O) (dn ((q.length:Y)-1) a).toNat)) (dn ((q.length:Y)-1) a).toNat)])))] [3,5] [] [5] (pG 5 (dn ((q.length:Y)-1) a) t (pG 7 ((qa q (dn ((q.length:Y)-1) a)).2.2.1) i p0)) ?_;refine eqn [(3,.o 832 (zE (zE (zE b ((qa q (dn ((q.length:Y)-1) a)).2.1).toNat O) ((qa q (dn ((q.length:Y)-1) a)).2.1).toNat (nth (zE b ((qa q (dn ((q.length:Y)-1) a)).2.1).toNat O) (dn ((q.length:Y)-1) a).toNat)) ((qa q (dn ((q.length:Y)-1) a)).2.2.1).toNat (nth (zE (zE b ((qa q (dn ((q.length:Y)-1) a)).2.1).toNat O) ((qa q (dn ((q.length:Y)-1) a)).2.1).toNat (nth (zE b ((qa q (dn ((q.length:Y)-1) a)).2.1).toNat O) (dn ((q.length:Y)-1) a).toNat)) (dn ((q.length:Y)-1) a).toNat)))] [3] [] [] (by rw[Wd (y:=(nth (zE (zE b ((qa q (dn ((q.length:Y)-1) a)).2.1).toNat O) ((qa q (dn ((q.length:Y)-1) a)).2.1).toNat (nth (zE b ((qa q (dn ((q.length:Y)-1) a)).2.1).toNat O) (dn ((q.length:Y)-1) a).toNat)) (dn ((q.length:Y)-1) a).toNat)) i rfl]<;>kernel_rfl) ?_;refine rn [0,2,3,4] [] (pe 1 (show .i (uZ vA ((dn ((q.length:Y)-1) a)-1))= .i (dn ((q.length:Y)-1) (a+1)) from Nn (show uZ vA ((dn ((q.length:Y)-1) a)-1)=(dn ((q.length:Y)-1) (a+1)) from IntWalk.i64_in ((dn ((q.length:Y)-1) a)-1) (by omega))) p0) ?_;exact xw (zE (zE (zE b ((qa q (dn ((q.length:Y)-1) a)).2.1).toNat O) ((qa q (dn ((q.length:Y)-1) a)).2.1).toNat (nth (zE b ((qa q (dn ((q.length:Y)-1) a)).2.1).toNat O) (dn ((q.length:Y)-1) a).toNat)) ((qa q (dn ((q.length:Y)-1) a)).2.2.1).toNat (nth (zE (zE b ((qa q (dn ((q.length:Y)-1) a)).2.1).toNat O) ((qa q (dn ((q.length:Y)-1) a)).2.1).toNat (nth (zE b ((qa q (dn ((q.length:Y)-1) a)).2.1).toNat O) (dn ((q.length:Y)-1) a).toNat)) (dn ((q.length:Y)-1) a).toNat)) ⟨Kb c (Qu g (Qu d rfl)) U.1,(by first|omega|(simp only[zG];omega))⟩
   have u:(((qa q (dn ((q.length:Y)-1) a)).1==(6:Y)))=K:=Sl d;have a4:=Yt u;have v:(((qa q (dn ((q.length:Y)-1) a)).1==(7:Y)))=K:=Rz d;have a5:=Yt v;refine Qd<|qn [0,2,3,4] [] (pe 1 (show .i (uZ vA ((dn ((q.length:Y)-1) a)-1))= .i (dn ((q.length:Y)-1) (a+1)) from Nn (show uZ vA ((dn ((q.length:Y)-1) a)-1)=(dn ((q.length:Y)-1) (a+1)) from IntWalk.i64_in ((dn ((q.length:Y)-1) a)-1) (by omega))) p0) ?_
   exact xw (zE b ((qa q (dn ((q.length:Y)-1) a)).2.1).toNat O) ⟨Kb c (Qu g (Qh d rfl)) U.1,(by first|omega|(simp only[zG];omega))⟩
  have a3:=Yt g;refine Qd<|tn [0,2,3,4,5,40] [5] p0<|ck (((qa q (dn ((q.length:Y)-1) a)).1==(6:Y))|| ((qa q (dn ((q.length:Y)-1) a)).1==(7:Y))) (λe=>?_) (λe=>?_)
  ·have af:=Qsb (Tk f) (by omega) (by omega) e;refine wT 3 0 (.own O 832) b (λag ah=>?_);have w:=ng b (dn ((q.length:Y)-1) a).toNat;have j:=ng b ((qa q (dn ((q.length:Y)-1) a)).2.1).toNat;refine tU [(3,.one (.slc (.own O 832) 1 (setRow (eL b) ((qa q (dn ((q.length:Y)-1) a)).2.1).toNat 0 [.b (nth b (dn ((q.length:Y)-1) a).toNat)])))] [3,6] [] [] (pG 5 (dn ((q.length:Y)-1) a) w (pG 7 ((qa q (dn ((q.length:Y)-1) a)).2.1) j p0)) ?_;refine eqn [(3,.o 832 (zE b ((qa q (dn ((q.length:Y)-1) a)).2.1).toNat (nth b (dn ((q.length:Y)-1) a).toNat)))] [3] [] [] (by rw[Wd (y:=(nth b (dn ((q.length:Y)-1) a).toNat)) j rfl]<;>kernel_rfl) ?_;refine wT 3 0 (.own O 832) (zE b ((qa q (dn ((q.length:Y)-1) a)).2.1).toNat (nth b (dn ((q.length:Y)-1) a).toNat)) (λai aj=>?_);have x:=ng (zE b ((qa q (dn ((q.length:Y)-1) a)).2.1).toNat (nth b (dn ((q.length:Y)-1) a).toNat)) (dn ((q.length:Y)-1) a).toNat (by first|omega|(simp only[zG];omega));have k:=ng (zE b ((qa q (dn ((q.length:Y)-1) a)).2.1).toNat (nth b (dn ((q.length:Y)-1) a).toNat)) ((qa q (dn ((q.length:Y)-1) a)).2.2.1).toNat (by first|omega|(simp only[zG];omega));refine rU [(3,.one (.slc (.own O 832) 1 (setRow (eL (zE b ((qa q (dn ((q.length:Y)-1) a)).2.1).toNat (nth b (dn ((q.length:Y)-1) a).toNat))) ((qa q (dn ((q.length:Y)-1) a)).2.2.1).toNat 0 [.b (nth (zE b ((qa q (dn ((q.length:Y)-1) a)).2.1).toNat (nth b (dn ((q.length:Y)-1) a).toNat)) (dn ((q.length:Y)-1) a).toNat)])))] [3,5] [] [5] (pG 5 (dn ((q.length:Y)-1) a) x (pG 7 ((qa q (dn ((q.length:Y)-1) a)).2.2.1) k p0)) ?_;refine eqn [(3,.o 832 (zE (zE b ((qa q (dn ((q.length:Y)-1) a)).2.1).toNat (nth b (dn ((q.length:Y)-1) a).toNat)) ((qa q (dn ((q.length:Y)-1) a)).2.2.1).toNat (nth (zE b ((qa q (dn ((q.length:Y)-1) a)).2.1).toNat (nth b (dn ((q.length:Y)-1) a).toNat)) (dn ((q.length:Y)-1) a).toNat)))] [3] [] [] (by rw[Wd (y:=(nth (zE b ((qa q (dn ((q.length:Y)-1) a)).2.1).toNat (nth b (dn ((q.length:Y)-1) a).toNat)) (dn ((q.length:Y)-1) a).toNat)) k rfl]<;>kernel_rfl) ?_;refine rn [0,2,3,4] [] (pe 1 (show .i (uZ vA ((dn ((q.length:Y)-1) a)-1))= .i (dn ((q.length:Y)-1) (a+1)) from Nn (show uZ vA ((dn ((q.length:Y)-1) a)-1)=(dn ((q.length:Y)-1) (a+1)) from IntWalk.i64_in ((dn ((q.length:Y)-1) a)-1) (by omega))) p0) ?_;exact xw (zE (zE b ((qa q (dn ((q.length:Y)-1) a)).2.1).toNat (nth b (dn ((q.length:Y)-1) a).toNat)) ((qa q (dn ((q.length:Y)-1) a)).2.2.1).toNat (nth (zE b ((qa q (dn ((q.length:Y)-1) a)).2.1).toNat (nth b (dn ((q.length:Y)-1) a).toNat)) (dn ((q.length:Y)-1) a).toNat)) ⟨Kb c (Qh g (Qu e rfl)) U.1,(by first|omega|(simp only[zG];omega))⟩
  have z:(((qa q (dn ((q.length:Y)-1) a)).1==(6:Y)))=K:=Sl e;have a6:=Yt z;have a1:(((qa q (dn ((q.length:Y)-1) a)).1==(7:Y)))=K:=Rz e;have a7:=Yt a1;refine Qd<|qu [(4,.i (dn ((q.length:Y)-1) (a+1)))] [4,5,6] [] [5] (pe 1 (show .i (uZ vA ((dn ((q.length:Y)-1) a)-1))= .i (dn ((q.length:Y)-1) (a+1)) from Nn (show uZ vA ((dn ((q.length:Y)-1) a)-1)=(dn ((q.length:Y)-1) (a+1)) from IntWalk.i64_in ((dn ((q.length:Y)-1) a)-1) (by omega))) p0) ?_
  exact xw b ⟨Kb c (Qh g (Qh e rfl)) U.1,(by first|omega|(simp only[zG];omega))⟩
 ·have l:=U.2;have p:=Qdq ((q.length:Y)-1) a;exact Qa<|sn [0,2,3,4,18] [] (pe 1 (zC ((dn ((q.length:Y)-1) a)>=(0:Y))) p0)<|ckF<|Qv<|xw b ⟨Hu c rfl U.1,by first|omega|(simp only[zG];omega)⟩
 have a8:=o.2;exact sn [2] [] p0<|Qc<|po0 [] (Qh h1 (Vz o.1 rfl))
theorem Sp{α:Type}[uO α]{l:W α}{i j:Q}(x:α)(h:j≠i):nth (l.set j x) i=nth l i:=by
 simp[nth,yC,List.getElem?_set_ne h]
theorem Qlm{q:W Q0}(f:Qm q=O){k:Q}(h:k<q.length)(s:W D):J7 q k s=Bl q k s:=by
 have g:=Qdq ((q.length:Y)-1) k;obtain⟨a,d⟩:=Nq f (k:=dn ((q.length:Y)-1) k) (by omega) (by omega);unfold J7 Bl;generalize j:dn ((q.length:Y)-1) k=i at a d⊢
 (try unfold qa at*);generalize nth q (zH i)=n at a d⊢
 by_cases e:n.1=5
 . simp[e]
 by_cases b:n.1=6
 . have:=a (.inr (.inl b));simp[b];rw[Sp _ (by omega)]
 by_cases c:n.1=7
 . have:=a (.inr (.inr c));simp[c];rw[Sp _ (by omega)]
 simp only[uH.2 e,uH.2 b,uH.2 c,Bool.or_false,uE]
theorem NJ(q:W Q0):K0 q=Y5 q:=by
 unfold K0 Y5;rw[←Qlk];cases a:Qm q with
 | false=>rfl
 | true=>
   simp only[yJ,uE];rw[NH (f:=Bl q) (g:=J7 q) (e:=G4) (e':=Bk) (λ_ _=>rfl) _ _ _ λi s _ b=>(Qlm a (by omega) s).symm]
theorem Qam(q:W Q0)(k:Q)(s:W D):∃s',J7 q k s= .next s'/\s'.length=s.length:=by
 unfold J7
 (try unfold qa at*);generalize((nth q (zH (dn ((q.length:Y)-1) k))).1==(5:Y))=a
 (try unfold qa at*);generalize((nth q (zH (dn ((q.length:Y)-1) k))).1==(6:Y))=b
 (try unfold qa at*);generalize((nth q (zH (dn ((q.length:Y)-1) k))).1==(7:Y))=c
 cases a<;>cases b<;>cases c<;>exact⟨_,rfl,by simp⟩
theorem BF(q:W Q0):∀(n k:Q) (s:W D),∃s',Vj (J7 q) Bk n k s= .brk s'/\s'.length=s.length
 | 0,k,s=>⟨s,rfl,rfl⟩
 | n+1,k,s=>by
   obtain⟨a,b,c⟩:=Qam q k s;obtain⟨d,e,f⟩:=BF q n (k+1) a;refine⟨d, ?_,f.trans c⟩;simp only[Vj,b];exact e
theorem JV(q:W Q0):zD (Y5 q)<=zD q:=by
 unfold Y5;cases Qm q with
 | false=>exact xE _
 | true=>
   obtain⟨s,a,b⟩:=BF q (zD q) 0 (zF (zH (q.length:Y)) K);simp only[yJ,uE,a,Out.on];rw[b];simp
theorem Qan(q:W Q0):zD (K0 q)<=zD q:=by rw[NJ];exact JV q
end
section
open Go.RowKit Go.Sort
open GoE (enc)
structure OneC (α σ:Type) [GoE α] where
 tu:α->σ
 of:σ->α
 cell:σ->uK
 pv:α->PV
 ok:α->Prop
 of_tu:∀a,of (tu a)=a
 tu_of:∀s,tu (of s)=s
 enc_eq:∀a,enc a= [pv a]
 flat:∀a,(pv a).flat
 vv:∀(X:Q->Prop) (w:uD) v a,VV X w v (pv a)↔v=cell (tu a)/\ok a
def oneS:OneC H (W uC) where
 tu b:=b.data.toList
 of s:=⟨s.toArray⟩
 cell:=encStr
 pv:= .str
 ok b:=b.size<=uL
 of_tu b:=by cases b;simp
 tu_of s:=by simp
 enc_eq _:=rfl
 flat _:=trivial
 vv X w v a:=by
  have e:encStr a.data.toList= .string a:=by cases a;simp[encStr]
  rw[e];exact⟨λh=>by cases h with | str h=>exact⟨rfl,h⟩,λ⟨c,h2⟩=>by subst c;exact .str h2⟩
section
variable {α σ:Type} [GoE α] (C:OneC α σ)
theorem Qln{X:Q->Prop}{w:uD}:∀{l:W α} {cs:W uK},VR X w 1 cs (eL l)->cs=(l.map C.tu).map C.cell/\∀a,a∈l->C.ok a
 | [],cs,h=>by
   generalize c:eL ([]:W α)=r at h;cases h with
   | nil=>exact⟨rfl,λa ha=>by simp at ha⟩
   | cons=>cases c
 | a :: l,cs,h=>by
   generalize c:eL (a::l)=r at h;cases h with
   | nil=>cases c
   | cons f k g=>
     rw[EQ,C.enc_eq] at c;obtain⟨rfl,rfl⟩: [C.pv a]=_/\eL l=_:=by simpa using c
     obtain⟨e,d⟩:=Qln g;cases f with
     | cons i j=>
       cases j
       obtain⟨rfl,ha⟩:=(C.vv X w _ a).1 i;exact⟨by rw[e];rfl,λb hb=>(zO.1 hb).elim (λe=>e▸ha) (d b)⟩
theorem Qlo{X:Q->Prop}{w:uD}:∀{l:W α},(∀a,a∈l->C.ok a)->VR X w 1 ((l.map C.tu).map C.cell) (eL l)
 | [],_=> .nil 1
 | a::l,h=>by
   rw[EQ,C.enc_eq];exact VR.cons (ce:= [C.cell (C.tu a)]) (.cons ((C.vv X w _ a).2 ⟨rfl,h a zL⟩) .nil) rfl (Qlo λb hb=>h b (zJ _ hb))
theorem Qug(l:W α):(eL l).flatten=l.map C.pv:=by
 induction l with
 | nil=>rfl
 | cons a l b=>rw[EQ,C.enc_eq,List.flatten_cons,b];rfl
theorem Qyc(l:W α):eL l=(l.map C.pv).map λc=> [c]:=by
 simp[eL,C.enc_eq,yN]
theorem Qf6(e:σ->uK)[uO σ](d:uM σ)(a:uM uK)(h:d.size<=a.size):(Go.Sort.putCells e 0 d a).toList=d.toList.map e++a.toList.drop d.size:=by
 apply List.ext_getElem?;intro j;unfold Go.Sort.putCells;rw[yD,Array.getElem?_mapIdx];by_cases b:j<d.size
 . rw[List.getElem?_append_left (by simpa using b),xD (by omega:j<a.size),xF,yD,xD b];simp only[Option.map_some];rw[uB ⟨xE _,by omega⟩,Nat.sub_zero,getElem!_pos d j b]
 rw[List.getElem?_append_right (by simpa using Nat.le_of_not_lt b),List.getElem?_drop];have c:d.size+(j-(d.toList.map e).length)=j:=by simp;omega
 rw[c,yD];cases a[j]? with
 | none=>rfl
 | some x=>simp;omega
theorem JW{e:σ->uK}[uO σ]{w:uD}{g:Q}{a:uM uK}{c:uU}(f:w.heap[g]? =uA (.cells a c (0,0)))(q:Q)(d:uM σ)(h:uM Obj):
 (grow (putRow e (Sort.ahead w q) g 0 d) h).heap[g]? =uA (.cells (Go.Sort.putCells e 0 d a) c (0,0)):=by
 have b:g<w.heap.size:=Xy f;unfold grow putRow mapBlock Sort.ahead;simp only[yT,Array.size_modify];rw[uB b,xM,uB rfl,f];rfl
theorem BG{e:σ->uK}[uO σ](w:uD)(g q:Q)(d:uM σ)(a:uM Obj):(∀b,b<w.heap.size->b≠g->(grow (putRow e (Sort.ahead w q) g 0 d) a).heap[b]? =w.heap[b]?)/\∀m,m<=g->m<=w.heap.size->Below m w (grow (putRow e (Sort.ahead w q) g 0 d) a):=by
 have h:∀b,b<w.heap.size->b≠g->(grow (putRow e (Sort.ahead w q) g 0 d) a).heap[b]? =w.heap[b]? :=λb hb c=>by
  unfold grow putRow mapBlock Sort.ahead;simp only[yT,Array.size_modify];rw[uB hb,xM,uG (λe=>c e.symm)]
 refine⟨h,λm f i=>⟨rfl,rfl,rfl, ?_,λb hb=>h b (by omega) (by omega)⟩⟩;unfold grow putRow mapBlock Sort.ahead;simp
theorem Qf7{e:σ->uK}[uO σ]{g:Q}{w:uD}{a:uM uK}{f:uU}{l:W σ}(c:w.heap[g]? =uA (.cells a f (0,0)))(h:a.toList.take l.length=l.map e):Holds e w g 0 l.toArray:=by
 intro j i;have b:j<l.length:=by simpa using i
 have k:a[j]? =uA (e l[j]):=by
  have d:(a.toList.take l.length)[j]? =(l.map e)[j]? :=by rw[h]
  rw[List.getElem?_take,uB b,xF,List.getElem?_eq_getElem b,yD] at d;exact d
 refine⟨?_, ?_⟩
 . rw[zW];simp[World.cell?,c,k,getElem!_pos,b]
 simp[World.frozen?,c]
variable {P:uV} [uO σ]
theorem Qlp(F:Q->Prop)(L:W Q)(w:uD)(a:uN Addr):Qxp F L w 1 O [] (.returned (.tuple #[])) w:=
 ⟨_,rfl,λm _ _=>Below.refl _ _,λ_ _ _=>rfl,rfl,λb c h=>by simpa [DU] using h⟩
theorem Qh6{f:Q}(a1:Iy P f)(d:W σ->W σ)(j:∀l,(d l).length=l.length)(p:∀l x,x∈d l->x∈l)
 (h0:∀oa cap w,Calls P f #[.slice oa 0 cap] w λe w'=>e= .returned (.tuple #[])/\w'=w)
 (h1:∀g cap (l:W σ) w,Holds C.cell w g 0 l.toArray->g<w.heap.size->l.length<4611686018427387904->Calls P f #[.slice (uA ⟨g,0,uF⟩) l.length cap] w λe w'=>e= .returned (.tuple #[])/\∃n o,w'=grow (putRow C.cell (Sort.ahead w n) g 0 (d l).toArray) o)
 (l:W α):ATake P f 1 (eL l) [] K O (eL ((d (l.map C.tu)).map C.of)):=by
 refine⟨a1,λw F G L v a9 _ q _ a2 _ a3 r k=>?_⟩;cases k
 rcases r with⟨hl,oa,rfl⟩ | ⟨g,cap,cur,ty,rfl,rfl,s,hs,hr,h5,h6⟩
 . obtain rfl:l= []:=by simpa [eL] using hl
   have a4:d []= []:=zQ (by rw[j];rfl);refine(h0 oa 0 w).mono ?_
   rintro e w' ⟨rfl,rfl⟩
   rw[List.map_nil,a4];exact Qlp F L w' oa
 have a5:(eL l).length=l.length:=by simp[eL]
 rw[a5] at hr h5 h6⊢;rw[yE] at hr hs;obtain⟨a6,t⟩:=Qln C hr;have hH:Holds C.cell w g 0 (l.map C.tu).toArray:=Qf7 s (by rw[zK];exact a6);have hc:=h1 g cap (l.map C.tu) w hH (Xy s) (by rw[zK];have:=h6.2;omega);rw[zK] at hc;refine hc.mono ?_
 rintro e w' ⟨rfl,n,o,rfl⟩
 have h:=BG (e:=C.cell) w g n (d (l.map C.tu)).toArray o;have ab:=Xy s;refine⟨_,rfl,λm hm hL=>h.2 m (hL g (by simp)) hm,λb hb hn=>h.1 b hb (by simpa using hn),rfl,λv2 l2 h2=>?_⟩;rcases h2 with⟨rfl,oa,rfl⟩ | ⟨g2,u,aa,ad,a7,rfl,y,a8,z,h7,h8⟩
 . exact .inl ⟨by simp[DU],oa,rfl⟩
 obtain rfl:g=g2:=by simpa using a7
 rw[s] at y;cases y
 rw[Qug C,DU];have hd:(d (l.map C.tu)).toArray.size<=cur.size:=by simp only[zY,j,zK];omega
 have i:(xW (λc=> [c]) (zS l2.length (xW C.pv (xW C.of (d (l.map C.tu)))))++yG (xW C.pv (xW C.of (d (l.map C.tu)))).length l2).length=l2.length:=by
  simp only[yM,zK,List.length_take,List.length_drop];omega
 refine .inr ⟨g,u,_,ty,rfl,by rw[i],JW s n _ o, ?_, ?_,by rw[i];exact h7,by rw[i];exact h8⟩
 . simp[Go.Sort.putCells,a8]
 rw[i,yE,Qf6 C.cell _ cur hd,List.take_append];rw[yE] at z;refine VR.append ?_ ?_
 . have hk:VR F (grow (putRow C.cell (Sort.ahead w n) g 0 (d (l.map C.tu)).toArray) o) 1 (cur.toList.take l2.length) l2:=by
    refine z.keep λb hb=>⟨hb,h.1 b (a2 b (q b hb)) λe=>(a3 g (by simp)).2 (q g (e▸hb))⟩
   have:=VR.drop (d (l.map C.tu)).length hk;rw[yE,List.drop_take] at this;simpa using this
 have hm:∀a,a∈(d (l.map C.tu)).map C.of->C.ok a:=λa ha=>by
  obtain⟨x,hx,rfl⟩:=zV.1 ha;obtain⟨b,hb,rfl⟩:=zV.1 (p _ _ hx);rw[C.of_tu];exact t b hb
 have:=VR.take l2.length (Qlo C (X:=F) (w:=grow (putRow C.cell (Sort.ahead w n) g 0 (d (l.map C.tu)).toArray) o) hm);rw[yE,Qyc C] at this;simpa [List.map_take,yN,C.tu_of] using this
theorem Qh7{f:Q}(u:Iy P f)(c:W σ->W σ)(j:∀l,(c l).length<=l.length)(n:∀l x,x∈c l->x∈l)
 (h0:∀oa cap w,Calls P f #[.slice oa 0 cap] w λe w'=>e= .returned (.slice oa 0 cap)/\w'=w)
 (h1:∀g cap (l:W σ) w,Holds C.cell w g 0 l.toArray->l.length<=9223372036854775807->l.length<=cap->Calls P f #[.slice (uA ⟨g,0,uF⟩) l.length cap] w λe w'=>e= .returned (.slice (uA ⟨g,0,uF⟩) (c l).length cap)/\∃q d,(c l++d).length=l.length/\w'=putRow C.cell (Sort.ahead w q) g 0 (c l++d).toArray)
 (l:W α):ATake P f 1 (eL l) [] K K (eL ((c (l.map C.tu)).map C.of)):=by
 refine⟨u,λw F G L v a5 _ a6 _ a7 _ a8 o k=>?_⟩;cases k
 rcases o with⟨hl,oa,rfl⟩ | ⟨g,cap,cur,ty,rfl,rfl,s,hs,y,h5,t⟩
 . obtain rfl:l= []:=by simpa [eL] using hl
   have z:c []= []:=zQ (by have:=j [];simpa using this);refine(h0 oa 0 w).mono ?_
   rintro e w' ⟨rfl,rfl⟩
   rw[List.map_nil,z];exact⟨_,rfl,λm _ _=>Below.refl _ _,λ_ _ _=>rfl, [],yO,λb hb=>(by simp at hb),.inl ⟨rfl,oa,rfl⟩⟩
 have a1:(eL l).length=l.length:=by simp[eL]
 rw[a1] at y h5 t⊢;rw[yE] at y hs;obtain⟨a2,p⟩:=Qln C y;have hH:Holds C.cell w g 0 (l.map C.tu).toArray:=Qf7 s (by rw[zK];exact a2);have hc:=h1 g cap (l.map C.tu) w hH (by rw[zK];have:=t.2;omega) (by rw[zK];exact h5);rw[zK] at hc;refine hc.mono ?_
 rintro e w' ⟨rfl,q,d,r,rfl⟩
 have hw:putRow C.cell (Sort.ahead w q) g 0 (c (l.map C.tu)++d).toArray=grow (putRow C.cell (Sort.ahead w q) g 0 (c (l.map C.tu)++d).toArray) #[]:=(grow_empty _).symm;rw[hw];have h:=BG (e:=C.cell) w g q (c (l.map C.tu)++d).toArray #[];have a9:=Xy s;have hd:(c (l.map C.tu)++d).toArray.size<=cur.size:=by rw[zY,r];omega
 have a3:=j (l.map C.tu);rw[zK] at a3;have i:(eL ((c (l.map C.tu)).map C.of)).length=(c (l.map C.tu)).length:=by simp[eL]
 have a4:g<(grow (putRow C.cell (Sort.ahead w q) g 0 (c (l.map C.tu)++d).toArray) #[]).heap.size:=Xy (JW s q _ #[]);refine⟨_,rfl,λm hm hL=>h.2 m (hL g (by simp)) hm,λb hb hn=>h.1 b hb (by simpa using hn), [g],by simp,λb hb=>?_,.inr ⟨g,cap,_,ty,rfl,by rw[i],JW s q _ #[], ?_, ?_,by rw[i];omega,t.1,by rw[i];have:=t.2;omega⟩⟩
 . obtain rfl:=zZ.1 hb;exact⟨a4,.inr (by simp)⟩
 . simp[Go.Sort.putCells,hs]
 rw[i,yE,Qf6 C.cell _ cur hd]
 have hm:∀a,a∈(c (l.map C.tu)).map C.of->C.ok a:=λa ha=>by
  obtain⟨x,hx,rfl⟩:=zV.1 ha;obtain⟨b,hb,rfl⟩:=zV.1 (n _ _ hx);rw[C.of_tu];exact p b hb
 have:=Qlo C (X:=F) (w:=grow (putRow C.cell (Sort.ahead w q) g 0 (c (l.map C.tu)++d).toArray) #[]) hm;have e1:((c (l.map C.tu)).map C.of).map C.tu=c (l.map C.tu):=by simp[yN,C.tu_of]
 rw[e1] at this;rw[List.map_append,List.append_assoc,List.take_left' (by simp)];exact VR.keep (λb hb=>⟨.inl hb,rfl⟩) this
end
def XQ(l:W H):W H:=((l.map oneS.tu).mergeSort λx y=>decide (x<=y)).map oneS.of
def FB(l:W H):W H:=(Lib.compact (l.map oneS.tu)).map oneS.of
theorem Qp2{σ:Type}[uO σ][uX σ](l:W σ)(x:σ)(h:x∈Lib.compact l):x∈l:=by
 unfold Lib.compact Lib.compactUpTo at h;simp only[zV,yL,yP] at h;obtain⟨j,⟨a,_⟩,e⟩:=h;have b:l.toArray[j]! =l[j]:=by rw[getElem!_pos l.toArray j (by simpa using a)];simp
 rw[b] at e;exact e▸xI a
theorem PR{σ:Type}[uO σ][uX σ](l:W σ):(Lib.compact l).length<=l.length:=by
 unfold Lib.compact Lib.compactUpTo;rw[zK];exact xC (xN _ _) (by rw[List.length_range];exact zP _)
theorem Qao(l:W H):(XQ l).length=l.length:=by simp[XQ,xO]
theorem Qlq(l:W H):(FB l).length<=l.length:=by
 have:=PR (l.map oneS.tu);rw[zK] at this;simpa [FB] using this
theorem Qp3{α:Type}[GoE α]{l k:W α}(d:∀a:α,(enc a).length=1)(h:k.length=l.length):Qs5 (eL l) 0 4294967296 (eL k).flatten=eL k:=by
 have b:∀k:W α,((eL k).flatten.map λc=> [c])=eL k:=λk=>by
  induction k with
  | nil=>rfl
  | cons a k e=>
    rw[EQ,List.flatten_cons,List.map_append,e];have:=d a
    match enc a,this with
    | [p],_=>rfl
 have g:(eL k).flatten.length=k.length:=by
  have:=uT zD (b k);rw[zK] at this;rw[this];simp[eL]
 show DU (eL l) (eL k).flatten=eL k;unfold DU;have f:(eL l).length=l.length:=by simp[eL]
 rw[f,xJ (by omega),b,List.drop_of_length_le (by omega),List.append_nil]
end
section
open Go.RowKit
section
variable {σ:Type} (lt:σ->σ->Prop)
theorem Qf8(d:∀a,¬lt a a)(j:∀a b c,lt a b->lt b c->lt a c):∀(a b:W σ),a.Pairwise lt->b.Pairwise lt->(∀x,x∈a↔x∈b)->a=b
 | [], [],_,_,_=>rfl
 | [],y::b,_,_,h=>by have:=(h y).2 (by simp);simp at this
 | x::a, [],_,_,h=>by have:=(h x).1 (by simp);simp at this
 | x ::a,y::b,ha,hb,h=>by
   rw[zX] at ha hb
   have k:x=y:=by
    have hx:=(h x).1 (by simp);have hy:=(h y).2 (by simp);simp only[zO] at hx hy;rcases hx with e | hx
    . exact e
    rcases hy with e | hy
    . exact e.symm
    exact(d x (j _ _ _ (ha.1 y hy) (hb.1 x hx))).elim
   subst k
   congr 1
   refine Qf8 d j a b ha.2 hb.2 λz=>?_
   have i:=h z;simp only[zO] at i;constructor
   . intro g;have f:=ha.1 z g;rcases i.1 (.inr g) with e | e
     . subst e;exact(d z f).elim
     exact e
   intro g;have f:=hb.1 z g;rcases i.2 (.inr g) with e | e
   . subst e;exact(d z f).elim
   exact e
theorem Qf9[uO σ][uX σ](d:uM σ)(t:∀a b c,¬lt b a->lt b c->lt a c)(k:∀a b,¬lt b a->a≠b->lt a b)(o:∀i j,i<=j->j<d.size->¬lt d[j]! d[i]!):
 ∀m,m<=d.size->(Lib.compactUpTo d m).Pairwise lt/\∀x,x∈Lib.compactUpTo d m↔∃j,j<m/\d[j]! =x
 | 0,_=>by simp[Lib.compactUpTo]
 | m + 1,hm=>by
   obtain⟨u,p⟩:=Qf9 d t k o m (by omega);rw[Lib.compactUpTo_succ];by_cases f:Lib.keeps d m=O
   . rw [uB f];refine⟨?_,λx=>?_⟩
     . rw[List.pairwise_append];refine⟨u,by simp,λa ha b hb=>?_⟩;obtain⟨j,n,rfl⟩:=(p a).1 ha;obtain rfl:b=d[m]! :=by simpa using hb
       have q:=o j (m-1) (by omega) (by omega);have l:=o (m-1) m (by omega) (by omega)
       have r:d[m]! ≠d[m-1]! :=by
        unfold Lib.keeps at f;simp only[yY,uS,bne_iff_ne,uQ] at f;rcases f with h | h
        . omega
        exact h
       exact t _ _ _ q (k _ _ l λe=>r e.symm)
     rw[xK,p x];constructor
     . rintro(⟨j,n,e⟩ | h)
       . exact⟨j,by omega,e⟩
       exact⟨m,by omega,by simpa using(by simpa using h:x=d[m]!).symm⟩
     rintro⟨j,n,e⟩
     by_cases g:j=m
     . subst g;exact .inr (by simp[e])
     exact .inl ⟨j,by omega,e⟩
   rw[uG f,List.append_nil];refine⟨u,λx=>?_⟩;rw[p x]
   have s:m≠0/\d[m]! =d[m-1]! :=by
    unfold Lib.keeps at f;simp only[yY,uS,bne_iff_ne,uQ,not_or,Decidable.not_not] at f;exact f
   constructor
   . rintro⟨j,n,e⟩;exact⟨j,by omega,e⟩
   rintro⟨j,n,e⟩
   by_cases g:j=m
   . subst g;exact⟨j-1,by omega,s.2▸e⟩
   exact⟨j,by omega,e⟩
end
def bl(a b:H):D:=Op.bytesLess a.toList b.toList
theorem Qap{a b c:W uC}(h:a<b)(d:b<c):a<c:=List.lt_trans h d
theorem Qlr(a:W uC):¬a<a:=List.lt_irrefl a
theorem Qdx{a b:W uC}(h:¬b<a)(c:a≠b):a<b:=zU λd=>c (List.le_antisymm h d)
theorem FC(a b:H):bl a b=O↔a.data.toList<b.data.toList:=by
 unfold bl;rw[bytesLess_eq,ByteArray.toList_eq,ByteArray.toList_eq,decide_eq_true_iff]
theorem Qaq(a:H):bl a a=K:=by
 cases h:bl a a with
 | false=>rfl
 | true=>exact(Qlr _ ((FC a a).1 h)).elim
theorem VT{a b c:H}(h:bl a b=O)(d:bl b c=O):bl a c=O:=(FC _ _).2 (Qap ((FC _ _).1 h) ((FC _ _).1 d))
theorem Qsc{a b:H}(h:bl b a=K)(c:a≠b):bl a b=O:=(FC _ _).2 (Qdx (λhb=>by rw[(FC _ _).2 hb] at h;cases h) λe=>c (by cases a;cases b;simp at e;rw[e]))
def PS:W H->H->W H
 | [],s=> [s]
 | x::l,s=>if bl x s then x::PS l s else if x=s then x::l else s::x::l
def HQ(l:W H):Prop:=l.Pairwise λa b=>bl a b=O
theorem Rb(s x:H):∀l,x∈PS l s↔x=s\/x∈l
 | []=>by simp[PS]
 | y ::l=>by
   simp only[PS];split
   . rw[zO,Rb s x l,zO];constructor
     . rintro(h | h | h)<;>simp[h]
     rintro(h | h | h)<;>simp[h]
   split
   . rename_i e;subst e;simp
   simp
theorem VU(s:H):∀l,HQ l->HQ (PS l s)
 | [],_=>by simp[HQ,PS]
 | y ::l,h=>by
   have h:=zX.1 h;simp only[PS];split
   . rename_i a;refine zX.2 ⟨λz hz=>?_,VU s l h.2⟩;rcases(Rb s z l).1 hz with e | hz
     . exact e▸a
     exact h.1 z hz
   split
   . exact zX.2 h
   rename_i a c;have b:bl s y=O:=Qsc (by simpa using a) λe=>c e.symm
   refine zX.2 ⟨λz hz=>?_,zX.2 h⟩;rcases zO.1 hz with rfl | hz
   . exact b
   exact VT b (h.1 z hz)
theorem Qga(s:H):∀l,(PS l s).length<=l.length+1
 | []=>by simp[PS]
 | y::l=>by
   have:=Qga s l;simp only[PS];split
   . simp only[List.length_cons];omega
   split<;>simp
def F1(l a:W H):W H:=a.foldl PS l
theorem Tl(x:H):∀a l,x∈F1 l a↔x∈a\/x∈l
 | [],l=>by simp[F1]
 | y::a,l=>by
   show x∈F1 (PS l y) a↔_;rw[Tl x a,Rb,zO];constructor
   . rintro(h | h | h)<;>simp[h]
   rintro((h | h) | h)<;>simp[h]
theorem Tm:∀a l,HQ l->HQ (F1 l a)
 | [],_,h=>h
 | y::a,l,h=>Tm a (PS l y) (VU y l h)
theorem PT(a b:W H)(c:HQ a)(d:HQ b)(h:∀x,x∈a↔x∈b):a=b:=
 Qf8 (λa b=>bl a b=O) (λa h=>by rw[Qaq] at h;cases h) (λ_ _ _=>VT) a b c d h
theorem FD(l:W H):HQ (FB (XQ l))/\∀x,x∈FB (XQ l)↔x∈l:=by
 have q:(XQ l).map oneS.tu=(l.map oneS.tu).mergeSort λx y=>decide (x<=y):=by simp[XQ,yN,oneS.tu_of]
 unfold FB;rw[q];generalize v:l.map oneS.tu=m;have t:=xT m (λx y=>decide (x<=y))
 have u:=List.pairwise_mergeSort (le:=λ(x y:W uC)=>decide (x<=y)) (λa b c p k=>by
  simp only[uQ] at p k⊢;exact List.le_trans p k) (λa b=>by
  have:=List.le_total a b;simpa using this) m
 generalize(m.mergeSort λx y=>decide (x<=y))=s at t u;have d:∀j,j<s.length->s.toArray[j]! =s[j]! :=λj f=>by simp
 have g:∀i j,i<=j->j<s.toArray.size->¬s.toArray[j]! <s.toArray[i]! :=λi j w f=>by
  have f:j<s.length:=by simpa using f
  rw[d i (by omega),d j f,getElem!_pos s i (by omega),getElem!_pos s j f];by_cases e:i=j
  . subst e;exact Qlr _
  have:=List.pairwise_iff_getElem.1 u i j (by omega) f (by omega);simpa using this
 obtain⟨p,k⟩:=Qf9 (λa b:W uC=>a<b) s.toArray (λa b c r n=>by
  by_cases e:a=b
  . exact e▸n
  exact Qap (Qdx r e) n) (λa b h z=>Qdx h z) g s.length (by simp)
 refine⟨?_,λx=>?_⟩
 . refine List.pairwise_map.2 (p.imp λ{a b} h=>(FC _ _).2 ?_);simpa [oneS] using h
 have o:x∈l↔oneS.tu x∈m:=by
  rw[←v,zV];refine⟨λh=>⟨x,h,rfl⟩,λ⟨y,h,e⟩=>?_⟩;have:=uT oneS.of e;rw[oneS.of_tu,oneS.of_tu] at this;exact this▸h
 rw[o,←t.mem_iff,zV];constructor
 . rintro⟨y,hy,rfl⟩
   obtain⟨j,f,e⟩:=(k y).1 hy;rw[d j f,getElem!_pos s j f] at e;rw[oneS.tu_of];exact e▸xI f
 intro h;obtain⟨j,f,e⟩:=xU h;exact⟨oneS.tu x,(k _).2 ⟨j,f,by rw[d j f,getElem!_pos s j f];exact e⟩,oneS.of_tu x⟩
theorem Qgb(l:W H):FB (XQ l)=F1 [] l:=
 PT _ _ (FD l).1 (Tm l [] List.Pairwise.nil) λx=>by rw[(FD l).2,Tl];simp
end
section
abbrev Hv:=W (Q×Y)
def Rc(E:Hv)(L:W Y):Y:=E.foldl (λm e=>max m (nth L e.1+e.2)) 0
theorem Tn(L:W Y)(x:Y):∀(E:Hv) (m:Y),E.foldl (λm e=>max m (nth L e.1+e.2)) m<=x↔m<=x/\∀e,e∈E->nth L e.1+e.2<=x
 | [],m=>by simp
 | e ::E,m=>by
   rw[List.foldl_cons,Tn L x E];constructor
   . rintro⟨b,a⟩
     refine⟨by omega,λe' he=>?_⟩;rcases zO.1 he with rfl | he
     . omega
     exact a e' he
   rintro⟨b,a⟩
   have:=a e zL;exact⟨by omega,λe' he=>a e' (zJ _ he)⟩
theorem Ec{E:Hv}{L:W Y}{x:Y}:Rc E L<=x↔0<=x/\∀e,e∈E->nth L e.1+e.2<=x:=Tn L x E 0
theorem JX(E:Hv)(L:W Y):0<=Rc E L:=(Ec.1 (zT _)).1
theorem Qar{E:Hv}{L M:W Y}(h:∀j,nth L j<=nth M j):Rc E L<=Rc E M:=
 Ec.2 ⟨JX E M,λe a=>by
  have:=(Ec.1 (zT (Rc E M))).2 e a;have:=h e.1;omega⟩
theorem JY{L:W Y}{i:Q}(x:Y)(j:Q)(a:i<L.length):nth (L.set i x) j=if j=i then x else nth L j:=by
 unfold nth;by_cases h:j=i
 . subst h;simp[yC,a]
 rw[uG h];simp[yC,xG,xX h]
theorem JZ{L:W Y}{i:Q}(h:L.length<=i):nth L i=0:=by
 unfold nth;simp[yC,List.getElem?_eq_none h]
def Cq(E:Q->Hv)(L:W Y)(i:Q):W Y:=if nth L i<Rc (E i) L then L.set i (Rc (E i) L) else L
theorem Pf(E:Q->Hv)(L:W Y)(i:Q):(Cq E L i).length=L.length:=by unfold Cq;split<;>simp
theorem PU(E:Q->Hv)(L:W Y)(i j:Q):nth L j<=nth (Cq E L i) j:=by
 unfold Cq;split
 . rename_i h;by_cases a:i<L.length
   . rw[JY _ _ a];split
     . rename_i e;subst e;omega
     omega
   rw[List.set_eq_of_length_le (by omega)];omega
 omega
def rounds(E:Q->Hv)(a:W Q)(L:W Y):W Y:=a.foldl (Cq E) L
theorem YV(E:Q->Hv):∀(a:W Q) (L:W Y),(rounds E a L).length=L.length
 | [],_=>rfl
 | i::a,L=>(YV E a (Cq E L i)).trans (Pf E L i)
theorem VW(E:Q->Hv)(j:Q):∀(a:W Q) (L:W Y),nth L j<=nth (rounds E a L) j
 | [],_=>zT _
 | i::a,L=>yQ (PU E L i j) (VW E j a (Cq E L i))
theorem Qls{L M:W Y}(a:L.length=M.length)(h:∀j,nth L j=nth M j):L=M:=by
 apply List.ext_getElem a;intro i b c;have:=h i;simpa [nth,yC,b,c] using this
theorem NK(E:Q->Hv):∀(b:W Q) (L:W Y),rounds E b L=L->∀i,i∈b->Cq E L i=L
 | [],_,_,i,hi=>by simp at hi
 | a ::b,L,h,i,hi=>by
   have c:Cq E L a=L:=Qls (Pf E L a) λj=>by
    have d:=PU E L a j;have e:=VW E j b (Cq E L a);have f:nth (rounds E b (Cq E L a)) j=nth L j:=uT (nth · j) h;omega
   rcases zO.1 hi with rfl | hi
   . exact c
   refine NK E b L ?_ i hi;have:rounds E b (Cq E L a)=L:=h
   rwa [c] at this
theorem NL{E:Q->Hv}{L:W Y}{i:Q}(a:i<L.length):Cq E L i=L↔Rc (E i) L<=nth L i:=by
 unfold Cq;constructor
 . intro h;split at h
   . rename_i b;have c:nth (L.set i (Rc (E i) L)) i=nth L i:=by rw[h]
     rw[JY _ _ a,uB rfl] at c;omega
   omega
 intro h;rw[uG (by omega)]
def Sat(E:Q->Hv)(n:Q)(g:W Y):Prop:=∀i,i<n->Rc (E i) g<=nth g i
theorem Qdy{E:Q->Hv}{n:Q}{L g:W Y}{i:Q}(a:i<n)(c:L.length=n)(b:Sat E n g)(h:∀j,nth L j<=nth g j):∀j,nth (Cq E L i) j<=nth g j:=by
 intro j;unfold Cq;split
 . rw[JY _ _ (by omega)];split
   . rename_i e;subst e;exact yQ (Qar h) (b j a)
   exact h j
 exact h j
theorem XR{E:Q->Hv}{n:Q}{g:W Y}(b:Sat E n g):∀(a:W Q) (L:W Y),(∀i,i∈a->i<n)->L.length=n->(∀j,nth L j<=nth g j)->∀j,nth (rounds E a L) j<=nth g j
 | [],_,_,_,h=>h
 | i::a,L,hi,hn,h=>XR b a (Cq E L i) (λk c=>hi k (zJ _ c)) ((Pf E L i).trans hn) (Qdy (hi i zL) hn b h)
theorem Qsd:∀(m:Q) (l:W Y),(∀v:Q,v<m->((v:Q):Y)∈l)->m<=l.length
 | 0,_,_=>xE _
 | m+1,l,h=>by
   have a:=h m (by omega);have:=Qsd m (l.erase (m:Y)) λv b=>(List.mem_erase_of_ne (by omega)).2 (h v (by omega))
   rw[List.length_erase_of_mem a] at this;have:0<l.length:=yR a;omega
theorem Qdz{L:W Y}{i:Q}(h:i<L.length):nth L i∈L:=by
 have:nth L i=L[i]:=by simp[nth,yC,h]
 rw[this];exact xI h
theorem FE{L:W Y}{x:Y}(h:x∈L):∃i,i<L.length/\nth L i=x:=by
 obtain⟨i,a,e⟩:=xU h;exact⟨i,a,by rw[←e];simp[nth,yC,a]⟩
theorem Quh{L:W Y}{f:Y->Y}{i:Q}(h:i<L.length):nth (L.map f) i=f (nth L i):=by simp[nth,yC,h]
theorem Qh8{E:Q->Hv}{n:Q}{f:W Y}(w:∀i e,e∈E i->e.2<=1/\e.1<n)(h:f.length=n)(y:Sat E n f)(a:∀g:W Y,g.length=n->Sat E n g->(∀j,0<=nth g j)->∀j,nth f j<=nth g j)(o:∀j,0<=nth f j):
 ∀i,i<n->nth f i<(n:Y):=by
 intro i t
 have l:∀v:Q,(v:Y)<=nth f i->((v:Q):Y)∈f:=λv z=>by
  refine zU λp=>?_
  have d:∀j,j<n->nth f j≠v:=λj b e=>p (e▸Qdz (by omega))
  have q:(v:Y)<nth f i:=by have:=d i t;omega
  let g:=f.map λx=>if(v:Y)<x then x-1 else x
  have m:∀j,j<n->nth g j=if(v:Y)<nth f j then nth f j-1 else nth f j:=λj b=>Quh (by omega)
  have r:∀j,¬j<n->nth g j=0:=λj b=>JZ (by simp only[g,zK];omega)
  have a1:∀j,¬j<n->nth f j=0:=λj b=>JZ (by omega)
  have c:∀j,0<=nth g j:=λj=>by
   by_cases b:j<n
   . rw[m j b];have:=o j;split<;>omega
   rw[r j b];omega
  have:=a g (by simp only[g,zK];exact h) (λk s=>Ec.2 ⟨c k,λe u=>?_⟩) c i
  . rw[m i t,uB q] at this;omega
  have h1:=(Ec.1 (y k s)).2 e u;obtain⟨h2,b⟩:=w k e u;have h3:=d k s;rw[m k s];have h4:=d e.1 b;rw[m e.1 b];split<;>split<;>omega
 have hp:=Qsd ((nth f i).toNat+1) f λv z=>l v (by have:=o i;omega)
 have:=o i;omega
theorem Qlt:∀(L:W Y) (i:Q) (x:Y),i<L.length->(L.set i x).sum=L.sum+(x-nth L i)
 | [],i,x,h=>by simp at h
 | a::L,0,x,_=>by simp[nth];omega
 | a::L,i+1,x,h=>by
   have:=Qlt L i x (by simpa using h);have e:nth (a::L) (i+1)=nth L i:=rfl;rw[e,List.set_cons_succ,xV,xV,this];omega
theorem Qas:∀(L:W Y) (N:Y),(∀x,x∈L->x<=N)->L.sum<=(L.length:Y)*N
 | [],N,_=>by simp
 | a::L,N,h=>by
   have c:=Qas L N λx b=>h x (zJ _ b)
   have d:=h a zL;rw[xV,List.length_cons,xL,Int.add_mul];omega
theorem Qat{E:Q->Hv}{L:W Y}{i:Q}(a:i<L.length):L.sum<=(Cq E L i).sum/\(Cq E L i≠L->L.sum+1<=(Cq E L i).sum):=by
 unfold Cq;split
 . rename_i h;have:=Qlt L i (Rc (E i) L) a;omega
 exact⟨zT _,λh=>(h rfl).elim⟩
theorem YW{E:Q->Hv}:∀(a:W Q) (L:W Y),(∀i,i∈a->i<L.length)->L.sum<=(rounds E a L).sum/\(rounds E a L≠L->L.sum+1<=(rounds E a L).sum)
 | [],L,_=>⟨zT _,λh=>(h rfl).elim⟩
 | i::a,L,h=>by
   obtain⟨g,c⟩:=Qat (E:=E) (h i zL);obtain⟨j,d⟩:=YW (E:=E) a (Cq E L i) λk f=>by rw[Pf];exact h k (zJ _ f)
   show L.sum<=(rounds E a (Cq E L i)).sum/\(rounds E a (Cq E L i)≠L->L.sum+1<=(rounds E a (Cq E L i)).sum);refine⟨by omega,λb=>?_⟩;by_cases e:Cq E L i=L
   . have:=d (by rw[e] at b⊢;exact b);omega
   have:=c e;omega
def Md(E:Q->Hv)(N:Y):W Q->D×W Y->uN (D×W Y)
 | [],s=>uA s
 | i::is,s=>if N<Rc (E i) s.2 then uF else Md E N is (if nth s.2 i<Rc (E i) s.2 then(O,s.2.set i (Rc (E i) s.2)) else s)
theorem Ng{E:Q->Hv}{N:Y}:∀(a:W Q) (c:D) (L:W Y) (s:D×W Y),(∀i,i∈a->i<L.length)->Md E N a (c,L)=uA s->s.2=rounds E a L/\(s.1=O->c=O\/rounds E a L≠L)/\(s.1=K->c=K/\rounds E a L=L)/\((∀j,nth L j<=N)->∀j,nth s.2 j<=N)
 | [],c,L,s,_,h=>by
   obtain rfl:=yZ h;exact⟨rfl,λh=> .inl h,λh=>⟨h,rfl⟩,λh=>h⟩
 | i :: a,c,L,s,hi,h=>by
   have d:=hi i zL;have b:∀k,k∈a->k<(Cq E L i).length:=λk l=>by rw[Pf];exact hi k (zJ _ l)
   simp only[Md] at h;split at h
   . cases h
   rename_i r;split at h
   . rename_i f;have g:Cq E L i=L.set i (Rc (E i) L):=by unfold Cq;rw[uB f]
     rw[←g] at h;obtain⟨n,t,o,p⟩:=Ng a O (Cq E L i) s b h
     have m:rounds E (i::a) L≠L:=λe=>by
      have:=(YW (E:=E) a (Cq E L i) b).1
      have u:=(Qat (E:=E) d).2 λe'=>by
       have:=(NL d).1 e';omega
      have v:(rounds E a (Cq E L i)).sum=L.sum:=uT List.sum e;omega
     refine⟨n,λ_=> .inr m,λh=>(by have:=(o h).1;cases this),λhb j=>p (λj=>?_) j⟩;rw[g,JY _ _ d];split
     . omega
     exact hb j
   rename_i f;have g:Cq E L i=L:=by unfold Cq;rw[uG f]
   have q:rounds E (i::a) L=rounds E a L:=by show rounds E a (Cq E L i)=_;rw[g]
   rw[q];exact Ng a c L s (λk l=>hi k (zJ _ l)) h
theorem BH{E:Q->Hv}{N:Y}:∀(b:W Q) (c:D) (L:W Y),Md E N b (c,L)=uF->∃a i,(∀k,k∈a->k∈b)/\i∈b/\N<Rc (E i) (rounds E a L)
 | [],c,L,h=>by cases h
 | i ::b,c,L,h=>by
   simp only[Md] at h;split at h
   . rename_i j;exact⟨[],i,λk l=>by simp at l,zL,j⟩
   have key:∀g f,f=Cq E L i->Md E N b (g,f)=uF->∃a k,(∀x,x∈a->x∈i::b)/\k∈i::b/\N<Rc (E k) (rounds E a L):=λg f e h=>by
    obtain⟨a,k,m,n,o⟩:=BH b g f h;subst e;refine⟨i::a,k,λx hx=>?_,zJ _ n,o⟩;rcases zO.1 hx with rfl | hx
    . exact zL
    exact zJ _ (m x hx)
   split at h
   . rename_i d;exact key O _ (by unfold Cq;rw[uB d]) h
   rename_i d;exact key c _ (by unfold Cq;rw[uG d]) h
def VX(E:Q->Hv)(N:Y)(n:Q):Q->D×W Y->uN (uN (W Y))
 | 0,_=>uF
 | k +1,s=>match s.1 with
   | true=>(match Md E N (zN n) (K,s.2) with
     | none=>uA uF
     | some s'=>VX E N n k s')
   | false=>uA (uA s.2)
theorem Gn{n i:Q}(h:i∈zN n):i<n:=yP.1 h
theorem NM{E:Q->Hv}{n:Q}:∀(k:Q) (c:D) (L:W Y),L.length=n->(∀j,nth L j<=(n:Y))->(n:Y)*(n:Y)-L.sum+2<=(k:Y)->(VX E n n k (c,L)).isSome=O
 | 0,c,L,hl,hb,hk=>by
   have:=Qas L n λx b=>by obtain⟨i,_,e⟩:=FE b;exact e▸hb i
   rw[hl] at this;omega
 | k+1,K,L,hl,hb,hk=>rfl
 | k + 1, O,L,hl,hb,hk=>by
   simp only[VX];cases q:Md E n (zN n) (K,L) with
   | none=>rfl
   | some s=>
     obtain⟨a,m,r,o⟩:=Ng (zN n) K L s (λi d=>by rw[hl];exact Gn d) q;obtain⟨t,f⟩:=s;simp only at a m r o⊢;have g:f.length=n:=by rw[a,YV,hl]
     have p:=YW (E:=E) (zN n) L λi d=>by rw[hl];exact Gn d
     rw[←a] at p;cases t with
     | false=>
       cases k with
       | zero=>
         have:=Qas L n λx b=>by obtain⟨i,_,e⟩:=FE b;exact e▸hb i
         rw[hl] at this;omega
       | succ k=>rfl
     | true=>
       have l:f≠L:=by
        rcases m rfl with h | h
        . cases h
        rw[a];exact h
       have:=p.2 l;exact NM k O f g (o hb) (by omega)
def after(E:Q->Hv)(n:Q):Q->W Y
 | 0=>zF n 0
 | k+1=>rounds E (zN n) (after E n k)
theorem Hz(E:Q->Hv)(n:Q):∀k,(after E n k).length=n
 | 0=>by simp[after]
 | k+1=>by rw[after,YV,Hz E n k]
def Qgc(E:Q->Hv)(n:Q)(L:W Y):Prop:=rounds E (zN n) L=L
theorem DD(n j:Q):nth (zF n (0:Y)) j=0:=by
 by_cases h:j<n
 . simp[nth,yC,h]
 exact JZ (by simp;omega)
theorem Ed(E:Q->Hv)(n j:Q):∀k,0<=nth (after E n k) j
 | 0=>by rw[after,DD];omega
 | k+1=>yQ (Ed E n j k) (VW E j _ _)
theorem VY{E:Q->Hv}{n:Q}{L:W Y}(b:L.length=n)(h:Qgc E n L):Sat E n L:=λi a=>(NL (by omega)).1 (NK E _ L h i (yP.2 a))
theorem Pg{E:Q->Hv}{n:Q}{g:W Y}(a:Sat E n g)(b:∀j,0<=nth g j):∀k j,nth (after E n k) j<=nth g j
 | 0,j=>by rw[after,DD];exact b j
 | k+1,j=>XR a _ _ (λi c=>Gn c) (Hz E n k) (Pg a b k) j
theorem YX{E:Q->Hv}{n k:Q}(h:Qgc E n (after E n k)):∀d,after E n (k+d)=after E n k
 | 0=>rfl
 | d+1=>by
   show rounds E (zN n) (after E n (k+d))=_;rw[YX h d];exact h
theorem Qlu{E:Q->Hv}{n k m:Q}(a:Qgc E n (after E n k))(b:Qgc E n (after E n m)):after E n k=after E n m:=by
 rcases Nat.le_total k m with h | h
 . have:=YX a (m-k);rw[show k+(m-k)=m by omega] at this;exact this.symm
 have:=YX b (k-m)
 rwa [show m+(k-m)=k by omega] at this
theorem KA{E:Q->Hv}{n:Q}:∀k,(∀j,j<k->¬Qgc E n (after E n j))->(k:Y)<=(after E n k).sum
 | 0,_=>by
   have:∀n:Q,(zF n (0:Y)).sum=0:=λn=>by simp
   rw[after,this];omega
 | k+1,h=>by
   have b:=KA k λj c=>h j (by omega)
   have d:=(YW (E:=E) (zN n) (after E n k) λi a=>by rw[Hz];exact Gn a).2 (h k (by omega));show((k+1:Q):Y)<=(rounds E (zN n) (after E n k)).sum;omega
variable {E:Q->Hv} {n:Q} (hw:∀i e,e∈E i->e.2<=1/\e.1<n)
include hw in
theorem Qd0{k:Q}(h:Qgc E n (after E n k)):∀i,i<n->nth (after E n k) i<(n:Y):=
 Qh8 hw (Hz E n k) (VY (Hz E n k) h) (λ_ _ a b=>Pg a b k) λj=>Ed E n j k
include hw in
theorem Qau{k:Q}(h:Qgc E n (after E n k)):Qgc E n (after E n (n*n+2)):=by
 have b:∃j,j<=n*n+1/\Qgc E n (after E n j):=zU λc=>by
  have o:=KA (E:=E) (n:=n) (n*n+2) λj f a=>c ⟨j,by omega,a⟩
  have g:=Qas (after E n (n*n+2)) n λx l=>by
   obtain⟨i,d,e⟩:=FE l;rw[Hz] at d;have m:=Pg (VY (Hz E n k) h) (λj=>Ed E n j k) (n*n+2) i;have:=Qd0 hw h i d;omega
  rw[Hz] at g;have m:((n*n+2:Q):Y)=(n:Y)*(n:Y)+2:=by rw[xL,Int.natCast_mul];rfl
  omega
 obtain⟨j,f,a⟩:=b;have:=YX a (n*n+2-j);rw[show j+(n*n+2-j)=n*n+2 by omega] at this;rw[this];exact a
include hw in
theorem VZ:∀(k m:Q) (c:D) (r:uN (W Y)),(c=K->Qgc E n (after E n m))->VX E n n k (c,after E n m)=uA r->
 (∀L,r=uA L->Qgc E n (after E n (n*n+2))/\L=after E n (n*n+2))/\(r=uF->¬Qgc E n (after E n (n*n+2)))
 | 0,m,c,r,_,h=>by cases h
 | k+1,m,K,r,g,h=>by
   obtain rfl:=yZ h;have d:=g rfl;have u:=Qau hw d;refine⟨λL e=>⟨u, ?_⟩,λe=>by cases e⟩;obtain rfl:=yZ e;exact Qlu d u
 | k +1,m,O,r,_,h=>by
   simp only[VX] at h;have l:∀i,i∈zN n->i<(after E n m).length:=λi o=>by rw[Hz];exact Gn o
   cases b:Md E n (zN n) (K,after E n m) with
   | none=>
     rw[b] at h;obtain rfl:=yZ h;refine⟨λL e=>(by cases e),λ_ d=>?_⟩;obtain⟨p,i,f,v,q⟩:=BH _ _ _ b;have a:=VY (Hz E n _) d;have w:=XR a p (after E n m) (λi o=>Gn (f i o)) (Hz E n m) (Pg a (λj=>Ed E n j _) m);have t:=Qar (E:=E i) w;have h6:=a i (Gn v);have h7:=Qd0 hw d i (Gn v);omega
   | some s=>
     rw[b] at h;obtain⟨f,_,q,_⟩:=Ng _ _ _ s l b;obtain⟨x,y⟩:=s;simp only at f q h;have e:y=after E n (m+1):=f;subst e;refine VZ k (m+1) x r (λg=>?_) h;have t:=(q g).2;show rounds E (zN n) (after E n (m+1))=after E n (m+1);have z:after E n (m+1)=after E n m:=t;rw[z];exact t
omit hw
def UR(i:Q)(L:W Y)(e:Q×Y):W Y:=if nth L i<nth L e.1+e.2 then L.set i (nth L e.1+e.2) else L
def G5(i:Q)(E:Hv)(L:W Y):W Y:=E.foldl (UR i) L
theorem To(i:Q)(L:W Y)(e:Q×Y):(UR i L e).length=L.length:=by unfold UR;split<;>simp
theorem Ph(i:Q):∀(E:Hv) (L:W Y),(G5 i E L).length=L.length
 | [],_=>rfl
 | e::E,L=>(Ph i E (UR i L e)).trans (To i L e)
theorem DE{i:Q}{L:W Y}(e:Q×Y)(a:i<L.length)(j:Q):nth (UR i L e) j=if j=i then max (nth L i) (nth L e.1+e.2) else nth L j:=by
 unfold UR;split
 . rw[JY _ _ a];split<;>omega
 split
 . rename_i h;subst h;omega
 rfl
theorem Qav{i:Q}:∀(E:Hv) {L M:W Y},i<M.length->(∀j,j≠i->nth M j=nth L j)->nth L i<=nth M i->(∀e,e∈E->e.1=i->e.2<=0)->∀j,nth (G5 i E M) j=if j=i then E.foldl (λm e=>max m (nth L e.1+e.2)) (nth M i) else nth L j
 | [],L,M,hi,hj,h0,hs,j=>by
   show nth M j=_;split
   . rename_i e;subst e;rfl
   rename_i e;exact hj j e
 | e ::E,L,M,hi,hj,h0,hs,j=>by
   show nth (G5 i E (UR i M e)) j=_;have hb:=DE e hi
   have a:nth (UR i M e) i=max (nth M i) (nth L e.1+e.2):=by
    rw[hb,uB rfl];by_cases b:e.1=i
    . have:=hs e zL b;rw[b];omega
    rw[hj e.1 b]
   rw[Qav E (L:=L) (M:=UR i M e) (by rw[To];exact hi) (λk d=>by rw[hb,uG d];exact hj k d) (by rw[a];omega) (λe' c=>hs e' (zJ _ c)) j,a,List.foldl_cons]
theorem Qp4(L:W Y):∀(E:Hv) (m:Y),0<=m->E.foldl (λm e=>max m (nth L e.1+e.2)) m=max m (Rc E L):=λE m d=>by
 have a:=Tn L (E.foldl (λm e=>max m (nth L e.1+e.2)) m) E m;have b:=a.1 (zT _);have f:Rc E L<=E.foldl (λm e=>max m (nth L e.1+e.2)) m:=Ec.2 ⟨by omega,b.2⟩;have g:=(Tn L (max m (Rc E L)) E m).2 ⟨by omega,λe c=>by have:=(Ec.1 (zT (Rc E L))).2 e c;omega⟩;omega
theorem Qp5{E:Q->Hv}{L:W Y}{i:Q}(b:i<L.length)(c:0<=nth L i)(d:∀e,e∈E i->e.1=i->e.2<=0):G5 i (E i) L=Cq E L i:=
 Qls ((Ph i (E i) L).trans (Pf E L i).symm) λj=>by
  rw[Qav (E i) b (λ_ _=>rfl) (zT _) d,Qp4 _ _ _ c];unfold Cq;by_cases a:nth L i<Rc (E i) L
  . rw[uB a,JY _ _ b];split<;>omega
  rw[uG a];split
  . rename_i e;subst e;omega
  rfl
theorem DF{i:Q}:∀(E:Hv) {L:W Y},i<L.length->∀j,nth L j<=nth (G5 i E L) j
 | [],_,_,_=>zT _
 | e::E,L,hi,j=>by
   have b:=DF E (L:=UR i L e) (by rw[To];exact hi) j;have a:=DE e hi j;show _<=nth (G5 i E (UR i L e)) j;split at a
   . rename_i h;subst h;omega
   omega
theorem NN{i:Q}:∀(E:Hv) {L:W Y},i<L.length->(∃e,e∈E/\e.1=i/\1<=e.2)->nth L i+1<=nth (G5 i E L) i
 | [],_,_,⟨e,he,_⟩=>by simp at he
 | e::E,L,hi,⟨e',he,h1,h2⟩=>by
   have a:=DE e hi i;rw[uB rfl] at a;have hb:=DF E (L:=UR i L e) (by rw[To];exact hi) i;show _<=nth (G5 i E (UR i L e)) i;rcases zO.1 he with rfl | he
   . rw[h1] at a;omega
   have:=NN E (L:=UR i L e) (by rw[To];exact hi) ⟨e',he,h1,h2⟩;omega
def F2(E:Q->Hv)(a:W Q)(L:W Y):W Y:=a.foldl (λL i=>G5 i (E i) L) L
theorem KB(E:Q->Hv):∀(a:W Q) (L:W Y),(F2 E a L).length=L.length
 | [],_=>rfl
 | i::a,L=>(KB E a (G5 i (E i) L)).trans (Ph i _ L)
theorem HS{E:Q->Hv}(c:∀i e,e∈E i->e.1=i->e.2<=0):∀(a:W Q) (L:W Y),(∀i,i∈a->i<L.length)->(∀j,0<=nth L j)->F2 E a L=rounds E a L
 | [],_,_,_=>rfl
 | i::a,L,hi,h0=>by
   have b:=hi i zL;show F2 E a (G5 i (E i) L)=rounds E a (Cq E L i);rw[Qp5 b (h0 i) (c i)];exact HS c a _ (λk d=>by rw[Pf];exact hi k (zJ _ d)) λj=>yQ (h0 j) (PU E L i j)
theorem NO{E:Q->Hv}:∀(a:W Q) (L:W Y),(∀i,i∈a->i<L.length)->∀j,nth L j<=nth (F2 E a L) j
 | [],_,_,_=>zT _
 | i::a,L,hi,j=>yQ (DF (E i) (hi i zL) j) (NO a (G5 i (E i) L) (λk b=>by rw[Ph];exact hi k (zJ _ b)) j)
theorem BI{E:Q->Hv}{i:Q}(b:∃e,e∈E i/\e.1=i/\1<=e.2):∀(a:W Q) (L:W Y),(∀i,i∈a->i<L.length)->i∈a->nth L i+1<=nth (F2 E a L) i
 | [],_,_,h=>by simp at h
 | k::a,L,hi,h=>by
   have c:=hi k zL;have d:∀x,x∈a->x<(G5 k (E k) L).length:=λx f=>by rw[Ph];exact hi x (zJ _ f)
   show _<=nth (F2 E a (G5 k (E k) L)) i;have g:=DF (E k) c i;have j:=NO (E:=E) a (G5 k (E k) L) d i;rcases zO.1 h with rfl | h
   . have:=NN (E i) c b;omega
   have:=BI b a (G5 k (E k) L) d h;omega
def Ee(E:Q->Hv)(n:Q):Q->W Y
 | 0=>zF n 0
 | k+1=>F2 E (zN n) (Ee E n k)
theorem YY(E:Q->Hv)(n:Q):∀k,(Ee E n k).length=n
 | 0=>by simp[Ee]
 | k+1=>by rw[Ee,KB,YY E n k]
theorem Qaw{E:Q->Hv}{n:Q}(a:∀i e,e∈E i->e.1=i->e.2<=0):∀k,Ee E n k=after E n k
 | 0=>rfl
 | k+1=>by
   rw[Ee,after,Qaw a k];exact HS a _ _ (λi b=>by rw[Hz];exact Gn b) λj=>Ed E n j k
theorem Qlv{E:Q->Hv}{n:Q}(g:∀i e,e∈E i->e.2<=1/\e.1<n/\i<n){k:Q}{r:uN (W Y)}(h:VX E n n k (O,zF n 0)=uA r):
 (F2 E (zN n) (Ee E n (n*n+2))=Ee E n (n*n+2)->r=uA (Ee E n (n*n+2)))/\(F2 E (zN n) (Ee E n (n*n+2))≠Ee E n (n*n+2)->r=uF):=by
 have l:∀i e,e∈E i->e.2<=1/\e.1<n:=λi e c=>⟨(g i e c).1,(g i e c).2.1⟩
 obtain⟨m,s⟩:=VZ l k 0 O r (λe=>by cases e) h;by_cases a:∃i,∃e,e∈E i/\e.1=i/\1<=e.2
 . obtain ⟨i,e,c,b,t⟩:=a;have f:i<n:=(g i e c).2.2
   have o:F2 E (zN n) (Ee E n (n*n+2))≠Ee E n (n*n+2):=λp=>by
    have:=BI (E:=E) ⟨e,c,b,t⟩ (zN n) (Ee E n (n*n+2)) (λk u=>by rw[YY];exact Gn u) (yP.2 f);rw[p] at this;omega
   refine⟨λh=>(o h).elim,λ_=>?_⟩;cases r with
   | none=>rfl
   | some L=>
     obtain⟨d,_⟩:=m L rfl;have v:=VY (Hz E n _) d i f;have w:=(Ec.1 v).2 e c;rw[b] at w;omega
 have q:∀i e,e∈E i->e.1=i->e.2<=0:=λi e c b=>zU λx=>a ⟨i,e,c,b,by omega⟩
 rw[Qaw q,HS q _ _ (λi f=>by rw[Hz];exact Gn f) λj=>Ed E n j _];refine⟨λd=>?_,λd=>?_⟩
 . cases r with
   | none=>exact(s rfl d).elim
   | some L=>rw[(m L rfl).2]
 cases r with
 | none=>rfl
 | some L=>exact(d (m L rfl).1).elim
end
section
open Go.Shelf
def Sh.lays156_ren:Go.Shelf.Ren:=⟨λ| 156=>175 | 165=>241 | 166=>242 | 169=>243 | 240=>288 | 241=>289 | 276=>327 | 277=>328 | n=>n,λ| 31=>119 | 9=>9 | 3=>3 | 4=>4 | 0=>0 | 20=>20 | 72=>291 | 76=>295 | 70=>289 | 37=>225 | 75=>294 | 127=>319 | 164=>349 | 5=>5 | 80=>297 | n=>n,λ| n=>n⟩
theorem Sh.lays156:Go.Proofs.Lays.n156 vB Sh.lays156_ren:=by constructor<;>intros<;>kernel_rfl
theorem Sh.Builder_Extra_156:Builder.Extra vB Sh.lays156_ren:={
 sizeBuilder:=by kernel_rfl
 liesBuilder:=by kernel_rfl
 t5:=underlying5
 a5:=Tryz.isAgg5
 z5:=Tryz.sizeOf5
 v5:=Tryz.zeroValue5
 infoByte:=by kernel_rfl
 cellsByte:=by kernel_rfl
 sizeByte:=by kernel_rfl
 neB5:=by decide}
open Go.RowKit in
theorem Sh.strings_Join_none(a:uN Addr)(c:Q)(b:H)(w:uD):
 Calls vB 175 #[.slice a 0 c,.string b] w λe w'=>e= .returned (.string ⟨#[]⟩)/\w'=w:=Any.strings_Join_none Sh.lays156 Sh.Builder_Extra_156 a c b w
open Go.RowKit in
theorem Sh.strings_Join(h o c:Q)(d:W H)(a:H)(w:uD)(b:∀(j:Q) x,d[j]? =uA x->w.cell? ⟨h,o+j,uF⟩=uA (.string x))(i:h<w.heap.size)(k:d.length<=140737488355328)(f:d.length<=c)(g:(Lib.join (d.map (·.data.toList)) a.data.toList).length<=140737488355328):
 Calls vB 175 #[.slice (uA ⟨h,o,uF⟩) d.length c,.string a] w λe w'=>e= .returned (.string ⟨(Lib.join (d.map (·.data.toList)) a.data.toList).toArray⟩)/\Below w.heap.size w w':=Any.strings_Join Sh.lays156 Sh.Builder_Extra_156 h o c d a w b i k f g
def Sh.lays172_ren:Go.Shelf.Ren:=⟨λ| 172=>291 | 244=>332 | 245=>333 | 247=>369 | 279=>370 | 280=>371 | 281=>372 | 282=>373 | 287=>394 | 316=>395 | 171=>173 | 205=>396 | 321=>404 | 322=>405 | 243=>239 | 246=>287 | 283=>323 | 284=>324 | 285=>325 | 286=>326 | 129=>359 | 317=>361 | 318=>362 | 319=>363 | 320=>364 | 337=>387 | 338=>388 | n=>n,λ| 9=>9 | 3=>3 | 75=>294 | 76=>295 | 4=>4 | 5=>5 | 167=>385 | 37=>225 | 0=>0 | 85=>386 | 2=>2 | 168=>388 | 53=>344 | 175=>403 | 46=>340 | 210=>407 | 127=>319 | 145=>423 | 143=>421 | 21=>21 | 171=>343 | 173=>347 | 212=>380 | 51=>375 | 20=>20 | 213=>381 | 232=>412 | 233=>413 | 80=>297 | n=>n,λ| 15=>2 | 16=>3 | 17=>0 | 18=>4 | 19=>5 | n=>n⟩
theorem Sh.lays172:Go.Proofs.Lays.n172 vB Sh.lays172_ren:=by constructor<;>intros<;>kernel_rfl
open Go.RowKit in
theorem Sh.strconv_Atoi(s:H)(n:Y)(a:s.size<=18)(h:Lib.atoi s.data.toList=uA n)(w:uD):
 Calls vB 291 #[.string s] w λe w'=>e= .returned (.tuple #[.int .i64 n,.nilIface])/\∃t,w'=Lib.bytesWorld w 5 t:=Any.strconv_Atoi Sh.lays172 s n a h w
def Sh.laysM171_ren:Go.Shelf.Ren:=⟨λ| 171=>173 | 243=>239 | 246=>287 | 283=>323 | 284=>324 | 285=>325 | 286=>326 | 129=>359 | 317=>361 | 318=>362 | 319=>363 | 320=>364 | 337=>387 | 338=>388 | n=>n,λ| 3=>3 | 9=>9 | 2=>2 | 4=>4 | 171=>343 | 0=>0 | 53=>344 | 37=>225 | 5=>5 | 173=>347 | 212=>380 | 51=>375 | 20=>20 | 213=>381 | 46=>340 | 232=>412 | 233=>413 | n=>n,λ| 17=>0 | 18=>4 | 19=>5 | n=>n⟩
theorem Sh.laysM171:Go.Proofs.LaysM.n171 vB Sh.laysM171_ren:=by constructor<;>intros<;>first | kernel_rfl | (constructor<;>intros<;>kernel_rfl)
open Go.RowKit Go.Sort Go.Lib in
theorem Sh.strconv_Itoa (n : Int) (h0 : -9223372036854775808 ≤ n) (h1 : n ≤ 9223372036854775807) (w : World) (htab : Lib.TabIs Tryz.prog w "internal/strconv.uint64pow10" .u64 Lib.pow10Tab) :
 Calls vB 173 #[.int .i64 n] w λe w'=>e= .returned (.string ⟨(Lib.itoa n).toArray⟩)/\∃k os,w'=grow (w.drewN k) os:=Any.strconv_Itoa Sh.laysM171 n h0 h1 w htab
def Sh.laysC172_ren:Go.Shelf.Ren:=⟨λ| 172=>291 | 244=>332 | 245=>333 | 247=>369 | 279=>370 | 280=>371 | 281=>372 | 282=>373 | 287=>394 | 316=>395 | 171=>173 | 205=>396 | 321=>404 | 322=>405 | 243=>239 | 246=>287 | 283=>323 | 284=>324 | 285=>325 | 286=>326 | 129=>359 | 317=>361 | 318=>362 | 319=>363 | 320=>364 | 337=>387 | 338=>388 | n=>n,λ| 9=>9 | 3=>3 | 75=>294 | 76=>295 | 4=>4 | 5=>5 | 167=>385 | 37=>225 | 0=>0 | 85=>386 | 2=>2 | 168=>388 | 53=>344 | 175=>403 | 46=>340 | 210=>407 | 127=>319 | 145=>423 | 143=>421 | 21=>21 | 171=>343 | 173=>347 | 212=>380 | 51=>375 | 20=>20 | 213=>381 | 232=>412 | 233=>413 | 80=>297 | n=>n,λ| 15=>2 | 16=>3 | 17=>0 | 18=>4 | 19=>5 | n=>n⟩
theorem Sh.laysC172:Go.Proofs.LaysC.n172 vB Sh.laysC172_ren:=by constructor<;>intros<;>first | kernel_rfl | (constructor<;>intros<;>first | kernel_rfl | (constructor<;>intros<;>kernel_rfl))
open Go.RowKit in
theorem Sh.strconv_Atoi_err_var (s : ByteArray) (hl : s.size ≤ 18) (h : Lib.atoi s.data.toList = none) (tp : TypeId) (p : Value) (w : World) (hvar : w.var? Tryz.prog "strconv.ErrSyntax" = some #[.iface tp p]) :
 Calls vB 291 #[.string s] w λe w'=>∃N,e= .returned (.tuple #[.int .i64 0,.iface 388 (.pointer (uA ⟨N,0,uF⟩))])/\w.heap.size<=N/\w'.heap[N]? =uA (.cells #[.string ⟨#[65,116,111,105]⟩,.string s,.iface tp p] 407 (0,0))/\Below w.heap.size w w':=Any.strconv_Atoi_err_var Sh.laysC172 s hl h tp p w hvar
def Sh.lays190_ren:Go.Shelf.Ren:=⟨λ| 190=>278 | 125=>318 | 258=>317 | 128=>358 | 129=>359 | 302=>349 | 303=>350 | 304=>351 | 305=>352 | 306=>353 | 307=>354 | 308=>355 | 309=>356 | 310=>357 | 333=>381 | 329=>382 | 330=>383 | 334=>384 | 335=>385 | 336=>386 | 344=>401 | n=>n,λ| 31=>119 | 9=>9 | 3=>3 | 46=>340 | 0=>0 | 51=>375 | 53=>344 | 4=>4 | 183=>368 | 182=>367 | 131=>276 | 5=>5 | 218=>397 | 222=>401 | 228=>409 | 229=>410 | n=>n,λ| n=>n⟩
theorem Sh.lays190:Go.Proofs.Lays.n190 vB Sh.lays190_ren:=by constructor<;>intros<;>kernel_rfl
open Go.Sort Go.RowKit in
theorem Sh.slices_Sort_string(blk off a:Q)(b:W (W uC))(w:uD)(f:Holds encStr w blk off b.toArray)(c:blk<w.heap.size)(d:b.length<4611686018427387904):
 Calls vB 278 #[.slice (uA ⟨blk,off,uF⟩) b.length a] w λe w'=>
  e= .returned (.tuple #[])/\∃n os,w'=grow (putRow encStr (Sort.ahead w n) blk off (b.mergeSort λx y=>decide (x<=y)).toArray) os:=Any.slices_Sort_string Sh.lays190 blk off a b w f c d
def Sh.lays146_ren:Go.Shelf.Ren:=⟨λ| 146=>248 | 221=>290 | 268=>329 | 138=>330 | 143=>331 | 195=>365 | 197=>366 | 218=>367 | 219=>368 | 260=>389 | 217=>390 | 225=>391 | 224=>392 | 267=>393 | 266=>402 | 314=>403 | n=>n,λ| 9=>9 | 31=>119 | 3=>3 | 4=>4 | 0=>0 | 105=>382 | 21=>21 | 5=>5 | 46=>340 | 119=>414 | 139=>417 | 138=>416 | 146=>418 | 51=>375 | n=>n,λ| 1=>1 | 3=>6 | 4=>7 | n=>n⟩
theorem Sh.lays146:Go.Proofs.Lays.n146 vB Sh.lays146_ren:=by constructor<;>intros<;>kernel_rfl
open Go.RowKit Go.Lib in
theorem Sh.strings_Split(s a:H)(m:Y)(w:uD)(b:s.size<4294967281)(c:w.cell? ⟨1,0,uF⟩=uA (.int .i64 m))(d:1<=a.size):
 Calls vB 248 #[.string s,.string a] w λe w'=>
  e= .returned (.slice (uA ⟨w.heap.size,0,uF⟩) (Lib.countB s a+1) (Lib.countB s a+1))/\w'=w.alloc (.cells ((Lib.splitB a 0 (Lib.countB s a) s).map Value.string).toArray 9):=Any.strings_Split Sh.lays146 (by kernel_rfl) s a m w b c d
def Sh.lays157_ren:Go.Shelf.Ren:=⟨λ| 157=>399 | 229=>406 | 199=>407 | 261=>408 | 311=>409 | 312=>410 | n=>n,λ| 9=>9 | 31=>119 | 3=>3 | 5=>5 | 4=>4 | 119=>414 | 0=>0 | 40=>425 | 152=>426 | 21=>21 | 154=>428 | 51=>375 | 141=>430 | 196=>434 | 193=>431 | 198=>437 | 49=>435 | 194=>432 | 201=>440 | 226=>442 | 46=>340 | 227=>443 | n=>n,λ| 0=>8 | 6=>9 | n=>n⟩
theorem Sh.lays157:Go.Proofs.Lays.n157 vB Sh.lays157_ren:=by constructor<;>intros<;>kernel_rfl
open Go.RowKit Go.Lib in
theorem Sh.strings_Fields (s : ByteArray) (w : World) (hs : s.size < 4294967281) (hascii : ∀ (j : Nat) b, s.data.toList[j]? = some b → b.toNat < 128) (htab : Lib.TabIs Tryz.prog w "strings.asciiSpace" .u8 Lib.asciiSpaceTab) :
 Calls vB 399 #[.string s] w λe w'=>
  e= .returned (.slice (uA ⟨w.heap.size,0,uF⟩) (Lib.fields s.data.toList).length (Lib.fields s.data.toList).length)/\w'=w.alloc (.cells ((Lib.fields s.data.toList).map λl=>Value.string ⟨l.toArray⟩).toArray 9):=Any.strings_Fields Sh.lays157 (by kernel_rfl) (by kernel_rfl) s w hs hascii htab
def Sh.lays194_ren:Go.Shelf.Ren:=⟨λ| 194=>279 | n=>n,λ| 31=>119 | 9=>9 | 3=>3 | 4=>4 | 0=>0 | n=>n,λ| n=>n⟩
theorem Sh.lays194:Go.Proofs.Lays.n194 vB Sh.lays194_ren:=by constructor<;>intros<;>kernel_rfl
open Go.RowKit Go.Lib Go.Sort in
theorem Sh.slices_Compact_string(blk off a:Q)(b:W (W uC))(w:uD)(f:Holds encStr w blk off b.toArray)(d:b.length<=9223372036854775807)(c:b.length<=a):
 Calls vB 279 #[.slice (uA ⟨blk,off,uF⟩) b.length a] w λe w'=>e= .returned (.slice (uA ⟨blk,off,uF⟩) (Lib.compact b).length a)/\∃q,w'=putRow encStr (Sort.ahead w q) blk off (Lib.compact b++zF (b.length-(Lib.compact b).length) []).toArray:=Any.slices_Compact_string Sh.lays194 blk off a b w f d c
open Go.RowKit Go.Lib Go.Sort in
theorem Sh.slices_Compact_string_empty(a:uN Addr)(b:Q)(w:uD):
 Calls vB 279 #[.slice a 0 b] w λe w'=>e= .returned (.slice a 0 b)/\w'=w:=Any.slices_Compact_string_empty Sh.lays194 a b w
open Go.RowKit Go.Sort in
theorem Sh.slices_Sort_string_none(p:uN Addr)(a:Q)(w:uD):
 Calls vB 278 #[.slice p 0 a] w λe w'=>e= .returned (.tuple #[])/\w'=w:=Any.slices_Sort_string_none Sh.lays190 p a w
end
section
open Go.RowKit
theorem Qui(l:W H):ATake vB 278 1 (eL l) [] K O (eL (XQ l)):=by
 have h:=Qh6 oneS (P:=vB) (f:=278) (by unfold Iy;kernel_rfl) (λl=>l.mergeSort λx y=>decide (x<=y)) (λl=>xO _) (λl x h=>(xT l _).mem_iff.1 h) (λoa cap w=>Sh.slices_Sort_string_none oa cap w) (λg cap l w h a b=>Sh.slices_Sort_string g 0 cap l w h a b) l;exact h
theorem Quj(l:W H):ATake vB 279 1 (eL l) [] K K (eL (FB l)):=by
 have h:=Qh7 oneS (P:=vB) (f:=279) (by unfold Iy;kernel_rfl) Lib.compact PR Qp2 (λoa cap w=>Sh.slices_Compact_string_empty oa cap w) (λg cap l w h a b=>(Sh.slices_Compact_string g 0 cap l w h a b).mono (by rintro e w' ⟨c,q,d⟩;exact⟨c,q,_,by have:=PR l;simp;omega,d⟩)) l;exact h
open GoE (enc wide)
def Oa(a:H)(b:Q)(c:H)(_:A):Rd Z (A) (Y):=(bif (Op.bytesLess c.toList a.toList) then(.next ()) else(.brk (b:Y)))
def Oc(a:Q)(_:A):Y:=(a:Y)
def Vl(a:Z)(c:H):Z:=(Out.on (X5 (Oa c) Oc a 0 ()) (λb=>(bif (decide (b<(a.length:Y))&&((nth a b.toNat).toList==c.toList)) then a else zS b.toNat a++ [c]++(yG b.toNat a))))
theorem Ip(a:Z)(c:H)(x:a.length<1073741824):ACalls vB 257 [.h a,.s c] (.h (Vl a c)):=by
 refine en func257 λ_ _ _=>sn [0,1,4] [] p0 ?_
 refine tn [0,1,4,5] [] p0<|Qa<|mz [(4,.e 0),(5,.i 0)] [] [] []<|wT 0 0 .sh a (λh q=>?_)
 refine Qy2 (Oa c) Oc a () (λd _=> [(5,.i (d:Y))]) [5] (λb=> [(5,.i b)]) [5] (λb=>0<=b/\b<=(a.length:Y)) wf0 (λd r e U=>?_) (λd r e U=>?_) (λb f=>?_)
 ·obtain⟨s,V⟩:=Xn (l:=a) (i:=d) e;refine Qa<|sn [0,1,4,5,18] [] (pl 2 a (pe 3 (zB ((d:Y)<(a.length:Y))) (pn 7 V p0)))<|ck (Op.bytesLess s.toList c.toList) (λj=>?_) (λj=>?_)
  ·refine Qd<|Qn<|qn [0,1,4,5] [] (pw 1 d p0) ?_
   exact xw _ (Qp V (Qu j rfl) U)
  exact Qv<|xw (d:Y) ⟨Qpw V (Qh j rfl) U,by first|omega|(simp only[zG];omega)⟩
 ·exact Qa<|sn [0,1,4,5,18] [] (pl 2 a (pe 3 (zC ((d:Y)<(a.length:Y))) p0))<|ckF<|Qv<|xw (d:Y) ⟨Xo e rfl U,by first|omega|(simp only[zG];omega)⟩
 have k:=f.2;refine Qa<|Qa<|jn [(32,.b (decide (b<(a.length:Y))&&((nth a b.toNat).toList==c.toList)))] [] [] [] (decide (b<(a.length:Y))) (λg=>?_) (λg=>?_) ?_
 ·have t:=uJ g;have m:=ng a b.toNat;exact rn [0,1,4,5,32] [] (pl 2 a (pt 3 g (pg 7 b m p0)))<|zA (by rw[g]<;>kernel_rfl)
 ·exact rn [0,1,4,5,32] [] (pl 2 a (pf 3 g p0))<|zA (by rw[g]<;>kernel_rfl)
 refine ck (decide (b<(a.length:Y))&&((nth a b.toNat).toList==c.toList)) (λo=>?_) (λo=>?_)
 ·exact sn [0,1,4,5] [] p0<|Qc<|ph0 [] (Vz f.1 (Qu o rfl))
 refine Qd ?_;have u:zD (zS b.toNat a)<=1073741824:=N9 (Qaf b.toNat (h));refine su [(6,.one (.slc (.own O 2624) 1 (([]++(eL (zS b.toNat a)))++ [[.s c]])))] [1,32] [] [] (pe 3 (Qdr .sh 1 b.toNat b a rfl) (px (Nc (lo:=0) (hi:=b) (n:=(zD (eL a))) (Qk7 (by omega) (by omega) (by omega))) (po 4 (.flat) (px (L7 (n:=(([]:W (W PV)).length+((eL (zS b.toNat a)):W (W PV)).length)) (N1 rfl (Zv (zS b.toNat a)) (by first|omega|(simp only[List.length_cons,List.length_nil];omega) | (simp;omega) | simp))) (px (G1 (Ea (zS b.toNat a))) (px (L7 (n:=((([]++(eL (zS b.toNat a))):W (W PV)).length+([[.s c]]:W (W PV)).length)) (by simp[Zv];omega)) p0)))))) ?_;refine eqn [(6,.o 2624 (zS b.toNat a++ [c]))] [6] [] [] (by rw[show(([]++(eL (zS b.toNat a)))++ [[.s c]])=(eL (zS b.toNat a++ [c])) from NG rfl (rfl)]<;>kernel_rfl) ?_;refine wT 6 0 (.own O 2624) (zS b.toNat a++ [c]) (λv w=>?_);have p:zD (yG b.toNat a)<=1073741824:=N9 (Qag b.toNat (h));refine su [(4,.one (.slc (.own O 2944) 1 ((eL (zS b.toNat a++ [c]))++(eL (yG b.toNat a)))))] [0,4,5,6] [] [] (pe 3 (JS .sh 1 b.toNat b a rfl) (px (Nc (lo:=b) (hi:=(((eL a):W (W PV)).length:Y)) (n:=(zD (eL a))) (JT (by omega) (by omega))) (po 4 (.flat) (pa (zS b.toNat a++ [c]) (yG b.toNat a) (px (G1 (Ea (yG b.toNat a))) p0))))) ?_;refine eqn [(4,.o 2944 (zS b.toNat a++ [c]++(yG b.toNat a)))] [4] [] [] (by rw[show((eL (zS b.toNat a++ [c]))++(eL (yG b.toNat a)))=(eL (zS b.toNat a++ [c]++(yG b.toNat a))) from NG rfl (rfl)]<;>kernel_rfl) ?_;exact Qc<|ph0 [2944] (Vz f.1 (Qh o rfl))
theorem toList_inj{a b:H}:(a.toList==b.toList)=decide (a=b):=by
 rw[ByteArray.toList_eq,ByteArray.toList_eq,xA];simp only[uS,uQ];exact⟨λh=>ByteArray.ext (Array.ext' h),λh=>h▸rfl⟩
def L8(l:W H)(s:H):Q:=(l.takeWhile λx=>bl x s).length
theorem FF(a:H)(l:W H)(s:H):L8 (a::l) s=if bl a s=O then L8 l s+1 else 0:=by
 unfold L8;rw[List.takeWhile_cons];cases bl a s<;>simp
theorem NP(s:H):∀(l:W H) (k:Q),X5 (Oa s) Oc l k ()= .brk (((k+L8 l s:Q)):Y)
 | [],k=>by simp[X5,Oc,L8]
 | a ::l,k=>by
   rw[FF];simp only[X5,Oa];cases h:Op.bytesLess a.toList s.toList with
   | true=>
     have b:bl a s=O:=h;simp only[uI,b,if_true];rw[NP s l (k+1),show k+1+L8 l s=k+(L8 l s+1) by omega]
   | false=>
     have b:bl a s=K:=h;simp[b]
theorem Qlw(s:H):∀l:W H,PS l s=bif (decide (((L8 l s:Q):Y)<(l.length:Y))&&((nth l (L8 l s)).toList==s.toList)) then l else zS (L8 l s) l++ [s]++yG (L8 l s) l
 | []=>by simp[PS,L8]
 | a ::l=>by
   rw[FF,PS];cases h:bl a s with
   | true=>
     simp only[if_true];rw[Qlw s l];have e:nth (a::l) (L8 l s+1)=nth l (L8 l s):=rfl
     rw[e,show decide ((((L8 l s+1:Q)):Y)<((a::l).length:Y))=decide (((L8 l s:Q):Y)<(l.length:Y)) by
      rw[xA];simp only[uQ,List.length_cons];omega]
     generalize(decide (((L8 l s:Q):Y)<(l.length:Y))&&((nth l (L8 l s)).toList==s.toList))=c;cases c<;>simp
   | false=>
     have e:nth (a::l) 0=a:=rfl;simp only[yA,if_false];rw[e,toList_inj];by_cases b:a=s
     . simp[b]
     simp[b]
theorem XS(l:W H)(s:H):Vl l s=PS l s:=by
 unfold Vl;rw[NP,Qlw];simp only[Out.on,zW,zM]
theorem XT(l:W H)(s:H):zD (Vl l s)<=zD l+1:=by rw[XS];exact Qga s l
open GoE (enc wide)
def Ku(n:Q0):D:=((n.1==(8:Y))|| (n.1==(9:Y)))
theorem R0(n:Q0):ACalls vB 316 [.a [.i n.1,.i n.2.1,.i n.2.2.1,.s n.2.2.2.1,.i n.2.2.2.2.1,.i n.2.2.2.2.2.1,.s n.2.2.2.2.2.2]] (.b (Ku n)):=by
 refine en func316 λ_ _ _=>sn [1,2] [1] p0 ?_
 refine Qa<|mz [(1,.p 1 0),(2,.b K)] [0] [(1, [.i n.1,.i n.2.1,.i n.2.2.1,.s n.2.2.2.1,.i n.2.2.2.2.1,.i n.2.2.2.2.2.1,.s n.2.2.2.2.2.2])] []<|jn [(2,.b ((n.1==(8:Y))|| (n.1==(9:Y))))] [1,2] [] [1] (n.1==(8:Y)) (λa=>?_) (λa=>?_) ?_
 ·exact rn [2] [] (pt 2 a p0)<|zA (by rw[a]<;>kernel_rfl)
 ·exact rn [2] [] (pf 2 a p0)<|zA (by rw[a]<;>kernel_rfl)
 exact Qc<|pb [] (show Ku n=((n.1==(8:Y))|| (n.1==(9:Y))) from rfl)
def Mx(l:Z):Z:=FB (XQ l)
theorem QA(l:Z):ACalls vB 233 [.h l] (.h (Mx l)):=by
 refine en func233 λ_ _ _=>sn [0,2] [] p0 ?_
 refine tn [2,3] [] (pc 1 (VN l) p0)<|mz [(2,.e 0),(3,.o 320 l)] [0] [] []<|Pd [320] rfl ?_
 refine su [(3,.one (.slc (.own K 320) 1 (Qs5 (eL l) 0 4294967296 (List.flatten (eL (XQ l))))))] [3] [] [] (po 1 (.take K O (eL (XQ l))) (px (JP (Qui l)) p0)) ?_;refine eqn [(3,.q 320 (XQ l))] [3] [] [] (by rw[Qp3 (λ_=>rfl) (Qao _)]<;>kernel_rfl) ?_;exact sn [2] [] (po 1 (.take K K (eL (FB (XQ l)))) (px (JP (Quj (XQ l))) p0))<|Qc<|ph0 [576] (show Mx l=FB (XQ l) from rfl)
def Hc(q:W Q0)(a:D)(b:Q)(d:D)(c:Z):Rd Z Z Z:=(bif ((Ku (nth q b))&&(d==a)) then(.next (c++ [(nth q b).2.2.2.1])) else(.next c))
def B0(_:Q)(a:Z):Z:=a
def Hw(q:W Q0)(a:D):Z:=(Out.on (X5 (Hc q a) B0 (Y5 q) 0 []) (λb=>(Mx b)))
theorem XU(q:W Q0)(a:D):ACalls vB 322 [.h q,.b a] (.h (Hw q a)):=by
 refine en func322 λ_ _ _=>?_
 have w:=JV q;refine sn [0,1,4] [] p0<|tn [0,1,4,5] [] p0<|Qa<|tu [(4,.e 0),(5,.one (.slc (.own O 512) 1 [])),(10,.o 640 (Y5 q)),(11,.i ((Y5 q).length:Y)),(12,.i 0)] [] [] [] (pc 1 (VP q) (pl 2 (Y5 q) p0))<|wT 10 0 (.own O 640) (Y5 q) (λx y=>?_)
 refine HN (Hc q a) B0 (Y5 q) [] (λb c=> [(5,.o 104 c),(12,.i (b:Y))]) [5,12] (λm=> [(5,.o 105 m)]) [0,1,5,10,11,12] (λb c=>zD c<=b) (wsf [(512,104)]) (by simp) (λb c e U=>?_) (λb c e U=>?_) (λm n=>?_)
 ·have f:=U.2;obtain⟨k,V⟩:=Xn (l:=Y5 q) (i:=b) e;refine su [(13,.b O)] [] [] [] (pe 0 (zB ((b:Y)<((Y5 q).length:Y))) p0)<|Qa<|ckT<|Qd<|Qa<|Qn<|sn [0,1,4,5,6,7,10,11,12] [] (pN 1 V p0)<|Qa<|mz [(6,.i (b:Y)),(7,.b k)] [13] [] []<|jn [(26,.b ((Ku (nth q b))&&(k==a)))] [7] [] [] (Ku (nth q b)) (λg=>?_) (λg=>?_) ?_
  ·refine wT 0 0 .sh q (λz a1=>?_);have o:=ng q b;exact rn [0,1,4,5,6,10,11,12,26] [] (pn 2 o (pc 4 (cb g (R0 (nth q b))) p0))<|zA (by rw[g]<;>kernel_rfl)
  ·refine wT 0 0 .sh q (λa2 a3=>?_);have p:=ng q b;exact ru [(26,.b K)] [7] [] [] (pn 2 p (pc 4 (cb g (R0 (nth q b))) p0))<|zA (by rw[g]<;>kernel_rfl)
  refine ck ((Ku (nth q b))&&(k==a)) (λd=>?_) (λd=>?_)
  ·have h:((k==a))=O:=HM d;have r:=eq_of_beq h;refine wT 0 0 .sh q (λs t=>?_);have j:=ng q b;refine wT 5 0 (.own O 104) c (λu v=>?_);refine ru [(5,.one (.slc (.own O 2176) 1 (eA c ((nth q b).2.2.2.1))))] [5,6,26] [] [] (pn 3 j (pa c [(nth q b).2.2.2.1] p0)) ?_;refine eqn [(5,.o 2176 (c++ [(nth q b).2.2.2.1]))] [5] [] [] (by rw[Wu]<;>kernel_rfl) ?_;refine rn [0,1,4,5,10,11,12] [] (pw 0 b p0) ?_;exact yB (c++ [(nth q b).2.2.2.1]) (yV (wsf [(2176,104)]) ⟨Qp V (Qu d rfl) U.1,by first|omega|(simp;omega) | simp⟩)
  refine Qd<|rn [0,1,4,5,10,11,12] [] (pw 0 b p0) ?_
  exact xw c ⟨Qp V (Qh d rfl) U.1,by first|omega|(simp;omega) | simp⟩
 ·have f:=U.2;exact su [(13,.b K)] [] [] [] (pe 0 (zC ((b:Y)<((Y5 q).length:Y))) p0)<|Qa<|ckF<|Qv<|yB _ (yV (wsf [(104,105)]) (Xo e rfl U.1))
 exact sn [4] [] (pc 1 (QA m) p0)<|Qc<|ph0 [] (Vz n rfl)
def Zi(q:W Q0):Z:=(Hw q K)
theorem WA(q:W Q0):ACalls vB 285 [.h q] (.h (Zi q)):=by
 refine en func285 λ_ _ _=>sn [0,2] [] p0 ?_
 exact tn [2] [] (pc 1 (XU q K) p0)<|Qc<|ph0 [] (show Zi q=(Hw q K) from rfl)
def Yx(q:W Q0):Z:=(Hw q O)
theorem WB(q:W Q0):ACalls vB 286 [.h q] (.h (Yx q)):=by
 refine en func286 λ_ _ _=>sn [0,2] [] p0 ?_
 exact tn [2] [] (pc 1 (XU q O) p0)<|Qc<|ph0 [] (show Yx q=(Hw q O) from rfl)
def I7(q:W Q0)(a:D)(b:Q)(d:D)(c:Z):Rd Z Z Z:=(bif ((Xd ((nth q b).1) 8 9)&&(d==a)) then(.next (Vl c ((nth q b).2.2.2.1))) else(.next c))
def I8(_:Q)(a:Z):Z:=a
def Ef(q:W Q0)(a:D):Z:=(Out.on (X5 (I7 q a) I8 (K0 q) 0 []) (λb=>b))
theorem ZP(q:W Q0)(a:D):ACalls vB 339 [.h q,.b a] (.o 0 (Ef q a)):=by
 refine en func339 λ_ _ _=>?_
 have x:=Qan q;refine sn [0,1,4] [] p0<|tn [0,1,4,5] [] p0<|tu [(4,.e 0),(5,.one (.slc (.own O 512) 1 [])),(6,.o 640 (K0 q))] [] [] [] (pc 1 (VQ q) p0)<|Qa<|su [(7,.i 0)] [] [] [] p0<|wT 6 0 (.own O 640) (K0 q) (λy z=>?_)
 refine HN (I7 q a) I8 (K0 q) [] (λb c=> [(5,.h c),(7,.i (b:Y))]) [5,7] (λg=> [(5,.h g)]) [0,1,5,6,7] (λb c=>zD c<=b) (wgf [] [512] [] []) (by simp) (λb c e U=>?_) (λb c e U=>?_) (λg m=>?_)
 ·have f:=U.2;obtain⟨o,V⟩:=Xn (l:=K0 q) (i:=b) e;refine Qa<|su [(14,.b O)] [] [] [] (pl 2 (K0 q) (pe 3 (zB ((b:Y)<((K0 q).length:Y))) p0))<|ckT<|Qd<|Qa<|Qn<|Qa<|jn [(30,.b ((Xd ((nth q b).1) 8 9)&&(o==a)))] [14] [] [] (Xd ((nth q b).1) 8 9) (λh=>?_) (λh=>?_) ?_
  ·refine wT 0 0 .sh q (λa1 a2=>?_);have p:=ng q b;exact rn [0,1,4,5,6,7,30] [] (pn 2 p (pc 5 (cb h (Js ((nth q b).1) 8 9)) (pN 9 V p0)))<|zA (by rw[h]<;>kernel_rfl)
  ·refine wT 0 0 .sh q (λa3 a4=>?_);have r:=ng q b;exact rn [0,1,4,5,6,7,30] [] (pn 2 r (pc 5 (cb h (Js ((nth q b).1) 8 9)) p0))<|zA (by rw[h]<;>kernel_rfl)
  refine ck ((Xd ((nth q b).1) 8 9)&&(o==a)) (λd=>?_) (λd=>?_)
  ·have j:((o==a))=O:=HM d;have s:=eq_of_beq j;refine wT 0 0 .sh q (λt u=>?_);have k:=ng q b;refine rn [0,1,4,5,6,7] [] (pn 3 k (pc 6 (Ip c ((nth q b).2.2.2.1) (by omega)) p0)) ?_;refine qn [0,1,4,5,6,7] [] (pw 1 b p0) ?_;exact xw (Vl c ((nth q b).2.2.2.1)) ⟨Qp V (Qu d rfl) U.1,(by first|omega|(have hz:=XT c (nth q b).2.2.2.1;omega))⟩
  refine Qd<|rn [0,1,4,5,6,7] [] (pw 1 b p0) ?_
  exact xw c ⟨Qp V (Qh d rfl) U.1,(by first|omega|(have hz:=XT c (nth q b).2.2.2.1;omega))⟩
 ·have f:=U.2;exact Qa<|su [(14,.b K)] [] [] [] (pl 2 (K0 q) (pe 3 (zC ((b:Y)<((K0 q).length:Y))) p0))<|ckF<|Qv<|xw _ (Xo e rfl U.1)
 refine wT 5 0 .sh g (λv w=>?_);exact sn [4] [] (po 2 (.flat) (px (L7 (n:=(([]:W (W PV)).length+((eL g):W (W PV)).length)) (N1 rfl (Zv g) (by first|omega|(simp only[List.length_cons,List.length_nil];omega) | (simp;omega) | simp))) (px (G1 (Ea g)) p0)))<|Qc<|po0 [] (Vz m rfl)
def K1(q:W Q0):Z:=(Ef q K)
theorem WC(q:W Q0):ACalls vB 298 [.h q] (.o 0 (K1 q)):=by
 refine en func298 λ_ _ _=>sn [0,2] [] p0 ?_
 exact tn [2] [] (pc 1 (ZP q K) p0)<|Qc<|po0 [] (show K1 q=(Ef q K) from rfl)
def K2(q:W Q0):Z:=(Ef q O)
theorem WD(q:W Q0):ACalls vB 299 [.h q] (.o 0 (K2 q)):=by
 refine en func299 λ_ _ _=>sn [0,2] [] p0 ?_
 exact tn [2] [] (pc 1 (ZP q O) p0)<|Qc<|po0 [] (show K2 q=(Ef q O) from rfl)
theorem FG(n:Q0):Xd n.1 8 9=Ku n:=by
 unfold Xd Ku;rw[xA];simp;omega
theorem FH(q:W Q0)(b:D):∀(l:W D) (k:Q) (s:W H),∃m,X5 (Hc q b) B0 l k s= .brk (s++m)/\∀t,X5 (I7 q b) I8 l k t= .brk (F1 t m)
 | [],k,s=>⟨[],by simp[X5,B0],λt=>by simp[X5,I8,F1]⟩
 | a ::l,k,s=>by
   simp only[X5,Hc,I7,FG];cases h:(Ku (nth q k)&&(a==b)) with
   | true=>
     obtain⟨m,c,d⟩:=FH q b l (k+1) (s++ [(nth q k).2.2.2.1]);refine⟨(nth q k).2.2.2.1::m, ?_,λt=>?_⟩
     . simp only[uI];rw[c,List.append_assoc];rfl
     simp only[uI];rw[d,XS];rfl
   | false=>
     obtain⟨m,c,d⟩:=FH q b l (k+1) s;exact⟨m,by simp only[uE];exact c,λt=>by simp only[uE];exact d t⟩
theorem Qlx(q:W Q0)(b:D):Ef q b=Hw q b:=by
 unfold Ef Hw;obtain⟨m,a,c⟩:=FH q b (Y5 q) 0 [];rw[NJ,a,c];simp only[Out.on,List.nil_append];exact(Qgb m).symm
theorem Qh9(q:W Q0):K1 q=Zi q:=Qlx q K
theorem Qia(q:W Q0):K2 q=Yx q:=Qlx q O
open GoE (enc wide)
def Zs(d:W Yj)(b:Q)(a:Yj)(_:A):Rd (D) (A) (A):=(bif ((!(Xp a.1))|| (bif decide ((b:Y)>(0:Y)) then((!(Op.bytesLess ((nth d ((b:Y)-1).toNat).1).toList a.1.toList))|| (!(Qm a.2))) else(!(Qm a.2)))) then(.ret K) else(.next ()))
def Wy(_:Q)(_:A):A:=()
def Qo(d:W Yj):D:=(Out.on (X5 (Zs d) Wy d 0 ()) (λ_=>decide ((d.length:Y)<=(5:Y))))
theorem K3(d:W Yj):ACalls vB 227 [.h d] (.b (Qo d)):=by
 refine en func227 λ_ _ _=>sn [0,2] [] p0 ?_
 refine Qa<|tn [0,2,5,6,7] [] (pl 1 d p0)<|mz [(2,.b K),(5,.h d),(6,.i (d.length:Y)),(7,.i 0)] [] [] []<|wT 0 0 .sh d (λp q=>?_)
 refine S8 (Zs d) Wy d () (λa _=> [(7,.i (a:Y))]) [7] (λ_=> []) [5,6,7] wf0 (λa r f U=>?_) (λa r f U=>?_) (λt j=>?_)
 ·obtain ⟨b,V⟩:=Xn (l:=d) (i:=a) f;refine sn [0,2,5,6,7,8] [] (pe 0 (zB ((a:Y)<(d.length:Y))) p0)<|Qa<|ckT<|Qd<|Qa<|Qn<|tn [0,2,3,4,5,6,7] [4] (pn 1 V p0)<|Qa<|mz [(3,.i (a:Y)),(4,.p 4 0)] [] [(4, [.s b.1,.h b.2])] []<|jn [(36,.b ((!(Xp b.1))|| (bif decide ((a:Y)>(0:Y)) then((!(Op.bytesLess ((nth d ((a:Y)-1).toNat).1).toList b.1.toList))|| (!(Qm b.2))) else(!(Qm b.2)))))] [3,4] [] [4] (!(Xp b.1)) (λg=>?_) (λg=>?_) ?_
  ·have c:(Xp b.1)=K:=Kj g;exact rN [0,2,5,6,7,36] [] (pc 2 (cb c (Wl b.1)) (pe 3 (show .b (!K)= .b O from rfl) p0))<|zA (by rw[g]<;>kernel_rfl)
  ·have c:(Xp b.1)=O:=Yu g;refine Ye (decide ((a:Y)>(0:Y))) (λe=>?_) (λe=>?_)
   ·have s:=uJ e;refine Ye (!(Op.bytesLess ((nth d ((a:Y)-1).toNat).1).toList b.1.toList)) (λh=>?_) (λh=>?_)
    ·have k:=ng d ((a:Y)-1).toNat;exact rN [0,2,5,6,7,36] [] (pc 2 (cb c (Wl b.1)) (pe 3 (show .b (!O)= .b K from rfl) (pt 6 e (pe 10 (Nn (IntWalk.i64_in ((a:Y)-1) (by omega))) (pg 11 ((a:Y)-1) k (pt 16 h p0))))))<|zA (by rw[g,e,h]<;>kernel_rfl)
    have m:=ng d ((a:Y)-1).toNat;exact rN [0,2,5,6,7,36] [] (pc 2 (cb c (Wl b.1)) (pe 3 (show .b (!O)= .b K from rfl) (pt 6 e (pe 10 (Nn (IntWalk.i64_in ((a:Y)-1) (by omega))) (pg 11 ((a:Y)-1) m (pf 16 h (pc 22 (Uu b.2) p0)))))))<|zA (by rw[g,e,h]<;>kernel_rfl)
   exact rN [0,2,5,6,7,36] [] (pc 2 (cb c (Wl b.1)) (pe 3 (show .b (!O)= .b K from rfl) (pf 6 e (pc 22 (Uu b.2) p0))))<|zA (by rw[g,e]<;>kernel_rfl)
  refine ck ((!(Xp b.1))|| (bif decide ((a:Y)>(0:Y)) then((!(Op.bytesLess ((nth d ((a:Y)-1).toNat).1).toList b.1.toList))|| (!(Qm b.2))) else(!(Qm b.2)))) (λn=>?_) (λn=>?_)
  ·refine su [] [36] [] [] p0<|Qc ?_
   have o:(X5 (Zs d) Wy d 0 ())= .ret K:=Kc V (Qu n rfl) U;exact pb [] (Pe o)
  refine Qd<|rn [0,2,5,6,7] [] (pw 0 a p0) ?_
  exact xw _ (Qp V (Qh n rfl) U)
 ·exact sn [0,2,5,6,7,8] [] (pe 0 (zC ((a:Y)<(d.length:Y))) p0)<|Qa<|ckF<|Qv<|xw _ (Xo f rfl U)
 exact sn [2] [] (pl 1 d p0)<|Qc<|pb [] (Vz j rfl)
def Ca(d:W Yj)(b:Q)(a:Yj)(_:A):Rd (D) (A) (A):=(bif ((!(Zu a.1))|| ((!(Zp a.2))|| (decide ((b:Y)>(0:Y))&&(!(Op.bytesLess ((nth d ((b:Y)-1).toNat).1).toList a.1.toList))))) then(.ret K) else(.next ()))
def Dy(_:Q)(_:A):A:=()
def Y6(d:W Yj):D:=(Out.on (X5 (Ca d) Dy d 0 ()) (λ_=>decide ((d.length:Y)<=(5:Y))))
theorem Ba(d:W Yj):ACalls vB 256 [.h d] (.b (Y6 d)):=by
 refine en func256 λ_ _ _=>sn [0,2] [] p0 ?_
 refine Qa<|tn [0,2,3] [] p0<|mz [(2,.b K),(3,.i 0)] [] [] []<|wT 0 0 .sh d (λp q=>?_)
 refine S8 (Ca d) Dy d () (λb _=> [(3,.i (b:Y))]) [3] (λ_=> []) [3] wf0 (λb r f U=>?_) (λb r f U=>?_) (λt k=>?_)
 ·obtain⟨a,V⟩:=Xn (l:=d) (i:=b) f;refine Qa<|sn [0,2,3,7] [] (pl 2 d (pe 3 (zB ((b:Y)<(d.length:Y))) p0))<|ckT<|Qd<|Qa<|Qn<|Qa<|mz [(7,.b O)] [] [] []<|jn [(43,.b ((!(Zu a.1))|| ((!(Zp a.2))|| (decide ((b:Y)>(0:Y))&&(!(Op.bytesLess ((nth d ((b:Y)-1).toNat).1).toList a.1.toList))))))] [7] [] [] (!(Zu a.1)) (λg=>?_) (λg=>?_) ?_
  ·have c:(Zu a.1)=K:=Kj g;exact rN [0,2,3,43] [] (pn 2 V (pc 5 (cb c (Va a.1)) (pe 6 (show .b (!K)= .b O from rfl) p0)))<|zA (by rw[g]<;>kernel_rfl)
  ·have c:(Zu a.1)=O:=Yu g;refine Ye (!(Zp a.2)) (λh=>?_) (λh=>?_)
   ·have e:(Zp a.2)=K:=Kj h;exact rN [0,2,3,43] [] (pn 2 V (pc 5 (cb c (Va a.1)) (pe 6 (show .b (!O)= .b K from rfl) (pn 10 V (pc 13 (cb e (Uw a.2)) (pe 14 (show .b (!K)= .b O from rfl) p0))))))<|zA (by rw[g,h]<;>kernel_rfl)
   have e:(Zp a.2)=O:=Yu h;refine Ye (decide ((b:Y)>(0:Y))) (λj=>?_) (λj=>?_)
   ·have s:=uJ j;have m:=ng d ((b:Y)-1).toNat;exact rN [0,2,3,43] [] (pn 2 V (pc 5 (cb c (Va a.1)) (pe 6 (show .b (!O)= .b K from rfl) (pn 10 V (pc 13 (cb e (Uw a.2)) (pe 14 (show .b (!O)= .b K from rfl) (pt 18 j (pe 22 (Nn (IntWalk.i64_in ((b:Y)-1) (by omega))) (pg 23 ((b:Y)-1) m (pn 28 V p0))))))))))<|zA (by rw[g,h,j]<;>kernel_rfl)
   exact rN [0,2,3,43] [] (pn 2 V (pc 5 (cb c (Va a.1)) (pe 6 (show .b (!O)= .b K from rfl) (pn 10 V (pc 13 (cb e (Uw a.2)) (pe 14 (show .b (!O)= .b K from rfl) (pf 18 j p0)))))))<|zA (by rw[g,h,j]<;>kernel_rfl)
  refine ck ((!(Zu a.1))|| ((!(Zp a.2))|| (decide ((b:Y)>(0:Y))&&(!(Op.bytesLess ((nth d ((b:Y)-1).toNat).1).toList a.1.toList))))) (λn=>?_) (λn=>?_)
  ·refine sn [0,2,3] [] p0<|Qc ?_
   have o:(X5 (Ca d) Dy d 0 ())= .ret K:=Kc V (Qu n rfl) U;exact pb [] (Pe o)
  refine Qd<|rn [0,2,3] [] (pw 1 b p0) ?_
  exact xw _ (Qp V (Qh n rfl) U)
 ·exact Qa<|sn [0,2,3,7] [] (pl 2 d (pe 3 (zC ((b:Y)<(d.length:Y))) p0))<|ckF<|Qv<|xw _ (Xo f rfl U)
 exact sn [2] [] (pl 1 d p0)<|Qc<|pb [] (Vz k rfl)
def Eg(x:Yj)(a:H):D:=(x.1.toList==a.toList)
theorem PW(x:Yj)(a:H):ACalls vB 274 [.a [.s x.1,.h x.2],.one (.rptr .sh [.s a])] (.b (Eg x a)):=by
 refine en func274 λ_ _ _=>sn [1,2,3] [2] p0 ?_
 exact tn [3] [] p0<|Qc<|pb [] (show Eg x a=(x.1.toList==a.toList) from rfl)
def Yd(a:H)(b:Q)(c:Yj)(_:A):Rd (Y) (A) (A):=(bif (Eg c a) then(.ret (b:Y)) else(.next ()))
def Zg(_:Q)(_:A):A:=()
def Ke(a:W Yj)(b:H):Y:=(Out.on (X5 (Yd b) Zg a 0 ()) (λ_=> -1))
theorem I9(a:W Yj)(c:H):ACalls vB 271 [.h a,.one (.fnr 274 [[.s c]])] (.i (Ke a c)):=by
 refine en func271 λ_ _ _=>sn [0,1,4] [] p0 ?_
 refine Qa<|tn [0,1,4,7,8] [] (pl 1 a p0)<|mz [(4,.i 0),(7,.i (a.length:Y)),(8,.i 0)] [] [] []<|wT 0 0 .sh a (λj k=>?_)
 refine S8 (Yd c) Zg a () (λb _=> [(8,.i (b:Y))]) [8] (λ_=> []) [0,1,7,8] wf0 (λb m d U=>?_) (λb m d U=>?_) (λn e=>?_)
 ·obtain⟨f,V⟩:=Xn (l:=a) (i:=b) d;refine sn [0,1,4,7,8,9] [] (pe 0 (zB ((b:Y)<(a.length:Y))) p0)<|Qa<|ckT<|Qd<|Qa<|Qn<|tn [0,1,4,5,7,8] [] p0<|tu [(5,.i (b:Y)),(16,.b (Eg f c))] [] [] [] (pn 3 V (pc 5 (PW f c) p0))<|ck (Eg f c) (λg=>?_) (λg=>?_)
  ·refine sn [0,1,4,7,8] [] p0<|Qc ?_
   have h:(X5 (Yd c) Zg a 0 ())= .ret (b:Y):=Kc V (Qu g rfl) U;exact pi [] (Pe h)
  refine Qd<|rn [0,1,4,7,8] [] (pw 0 b p0) ?_
  exact xw _ (Qp V (Qh g rfl) U)
 ·exact sn [0,1,4,7,8,9] [] (pe 0 (zC ((b:Y)<(a.length:Y))) p0)<|Qa<|ckF<|Qv<|xw _ (Xo d rfl U)
 exact sn [4] [] p0<|Qc<|pi [] (Vz e rfl)
def Q9(d:W Yj)(a:H):Y:=(Ke d a)
theorem KC(d:W Yj)(a:H):ACalls vB 226 [.h d,.s a] (.i (Q9 d a)):=by
 refine en func226 λ_ _ _=>sn [0,3,4] [3] p0 ?_
 exact tn [4] [] (pc 2 (I9 d a) p0)<|Qc<|pi [] (show Q9 d a=(Ke d a) from rfl)
def Pi(a:H)(b:Q)(c:Yj)(_:A):Rd (Y) (A) (A):=(bif (c.1.toList==a.toList) then(.ret (b:Y)) else(.next ()))
def Pj(_:Q)(_:A):A:=()
def Xv(d:W Yj)(a:H):Y:=(Out.on (X5 (Pi a) Pj d 0 ()) (λ_=> -1))
theorem R1(d:W Yj)(a:H):ACalls vB 260 [.h d,.s a] (.i (Xv d a)):=by
 refine en func260 λ_ _ _=>sn [0,1,4] [] p0 ?_
 refine Qa<|tn [0,1,4,5] [] p0<|mz [(4,.i 0),(5,.i 0)] [] [] []<|wT 0 0 .sh d (λh j=>?_)
 refine S8 (Pi a) Pj d () (λb _=> [(5,.i (b:Y))]) [5] (λ_=> []) [0,1,5] wf0 (λb k c U=>?_) (λb k c U=>?_) (λn e=>?_)
 ·obtain⟨m,V⟩:=Xn (l:=d) (i:=b) c;refine Qa<|sn [0,1,4,5,9] [] (pl 2 d (pe 3 (zB ((b:Y)<(d.length:Y))) p0))<|ckT<|Qd<|Qa<|Qn<|tn [0,1,4,5,18] [] (pn 2 V p0)<|ck (m.1.toList==a.toList) (λf=>?_) (λf=>?_)
  ·refine tu [(4,.i (b:Y))] [4] [] [] p0<|Qc ?_
   have g:(X5 (Pi a) Pj d 0 ())= .ret (b:Y):=Kc V (Qu f rfl) U;exact pi [] (Pe g)
  refine Qd<|qu [(5,.i ((b+1:Q):Y))] [5] [] [] (pw 1 b p0) ?_
  exact xw _ (Qp V (Qh f rfl) U)
 ·exact Qa<|sn [0,1,4,5,9] [] (pl 2 d (pe 3 (zC ((b:Y)<(d.length:Y))) p0))<|ckF<|Qv<|xw _ (Xo c rfl U)
 exact sn [4] [] p0<|Qc<|pi [] (Vz e rfl)
theorem Dz(d:W Yj):Qo d=Y6 d:=by
 unfold Qo Y6
 rw[Mw (f:=Zs d) (g:=Ca d) (e:=Wy) (e':=Dy) (λk a s=>by
  unfold Zs Ca;rw[Qlk,Qli];cases Zu a.1<;>cases Zp a.2<;>cases decide (((k:Q):Y)>(0:Y))<;>simp) (λ_ _=>rfl)]
theorem Qp6(d:W Yj)(s:H):Xv d s=Q9 d s:=rfl
theorem Qgd(s:H):∀(l:W Yj) (k:Q),X5 (Yd s) Zg l k ()= .brk ()\/∃i:Q,i<l.length/\X5 (Yd s) Zg l k ()= .ret (((k+i:Q)):Y)
 | [],_=> .inl rfl
 | a ::l,k=>by
   simp only[X5,Yd];unfold Eg;cases(a.1.toList==s.toList) with
   | true=>exact .inr ⟨0,by simp,rfl⟩
   | false=>
     simp only[uE];rcases Qgd s l (k+1) with h | ⟨i,b,h⟩
     . exact .inl h
     exact .inr ⟨i+1,by simpa using b,by rw[h,show k+1+i=k+(i+1) by omega]⟩
theorem WE(d:W Yj)(s:H): -1<=Q9 d s/\Q9 d s<(zD d:Y):=by
 unfold Q9 Ke;rcases Qgd s d 0 with h | ⟨i,a,h⟩
 . rw[h];simp only[Out.on];omega
 rw[h];simp only[Out.on];omega
theorem WF(d:W Yj)(s:H): -1<=Xv d s/\Xv d s<(zD d:Y):=WE d s
open GoE (enc wide)
def D0(d:W Yj)(a:W Y)(b:Y)(_:Q)(c:H)(e:Y):Rd (Y) (Y) (Y):=(bif decide ((Q9 d c)>=(0:Y)) then(.next (max e (uZ vA ((nth a (Q9 d c).toNat)+b)))) else(.next e))
def La(_:Q)(a:Y):Y:=a
def Yv(d:W Yj)(a:W Y)(names:Z)(b:Y):Y:=(Out.on (X5 (D0 d a b) La names 0 0) (λc=>c))
theorem Sq(d:W Yj)(a:W Y)(names:Z)(b:Y)(t:zD d<=zD a):ACalls vB 284 [.h d,.h a,.h names,.i b] (.i (Yv d a names b)):=by
 refine en func284 λ_ _ _=>sn [0,1,2,3,8] [] p0 ?_
 refine tn [0,1,2,3,8,9] [] p0<|Qa<|tu [(8,.i 0),(9,.i 0),(13,.h names),(14,.i (names.length:Y)),(15,.i 0)] [2] [] [] (pl 1 names p0)<|wT 13 0 .sh names (λn o=>?_)
 refine S8 (D0 d a b) La names 0 (λc g=> [(9,.i g),(15,.i (c:Y))]) [9,15] (λm=> [(9,.i m)]) [0,1,3,9,13,14,15] wf0 (λc g e U=>?_) (λc g e U=>?_) (λm j=>?_)
 ·obtain⟨f,V⟩:=Xn (l:=names) (i:=c) e;refine su [(16,.b O)] [] [] [] (pe 0 (zB ((c:Y)<(names.length:Y))) p0)<|Qa<|ckT<|Qd<|Qa<|Qn<|su [(11,.s f)] [16] [] [] (pn 0 V p0)<|sn [0,1,3,8,9,12,13,14,15] [] (pc 2 (KC d f) p0)<|tn [0,1,3,8,9,12,13,14,15,23] [] p0<|ck (decide ((Q9 d f)>=(0:Y))) (λh=>?_) (λh=>?_)
  ·have p:=WE d f;have q:=uJ h;refine wT 1 0 .sh a (λr s=>?_);have k:=ng a (Q9 d f).toNat;refine qu [(9,.i (max g (uZ vA ((nth a (Q9 d f).toNat)+b))))] [9,11] [] [] (pg 3 (Q9 d f) k p0) ?_;refine rn [0,1,3,8,9,13,14,15] [] (pw 0 c p0) ?_;exact xw _ (Qp V (Qu h rfl) U)
  refine Qd<|qu [(15,.i ((c+1:Q):Y))] [11,15] [] [] (pw 0 c p0) ?_
  exact xw _ (Qp V (Qh h rfl) U)
 ·exact su [(16,.b K)] [] [] [] (pe 0 (zC ((c:Y)<(names.length:Y))) p0)<|Qa<|ckF<|Qv<|xw _ (Xo e rfl U)
 exact sn [8] [] p0<|Qc<|pi [] (Vz j rfl)
def Cv(d:W Yj)(c:Q)(_:Q)(b:H)(a:W Y):Rd (Rd (W Y) (W Y) (W Y)) (W Y) (W Y):=(bif (decide ((Xv d b)>=(0:Y))&&decide ((nth a (Xv d b).toNat)>(nth a c))) then(.next (zE a c (nth a (Xv d b).toNat))) else(.next a))
def Eh(_:Q)(a:W Y):(W Y):=a
def Cw(d:W Yj)(c:Q)(_:Q)(b:H)(a:W Y):Rd (Rd (W Y) (W Y) (W Y)) (W Y) (W Y):=(bif (decide ((Xv d b)>=(0:Y))&&decide (uZ vA ((nth a (Xv d b).toNat)+1)>(nth a c))) then(.next (zE a c (uZ vA ((nth a (Xv d b).toNat)+1)))) else(.next a))
def Lb(_:Q)(a:W Y):(W Y):=a
def Bm(d:W Yj)(a:Q)(b:Yj)(c:W Y):Rd (W Y) (W Y) (W Y):=(Out.on (X5 (Cv d a) Eh (K1 b.2) 0 c) (λe=>(Out.on (X5 (Cw d a) Lb (K2 b.2) 0 e) (λf=>(.next f)))))
def Lc(_:Q)(a:W Y):(W Y):=a
def H0(d:W Yj)(a:W Y):(W Y):=(Out.on (X5 (Bm d) Lc d 0 a) (λb=>b))
theorem ZQ(d:W Yj)(e:W Y)(hp:zD d<=zD e):ACalls vB 262 [.h d,.h e] (.o 0 (H0 d e)):=by
 refine en func262 λ_ _ _=>sn [0,1,4] [] p0 ?_
 refine wT 1 0 .sh e (λb8 b9=>?_);refine tn [0,4,5] [] (po 2 (.flat) (px (L7 (n:=(([]:W (W PV)).length+((eL e):W (W PV)).length)) (N1 rfl (Zv e) (by first|omega|(simp only[List.length_cons,List.length_nil];omega) | (simp;omega) | simp))) (px (G1 (Ea e)) p0)))<|Qa<|tu [(4,.e 0),(5,.o 960 e),(6,.i 0)] [1] [] [] p0<|wT 0 0 .sh d (λba bb=>?_)
 refine SW (Bm d) Lc d e (λc q=> [(5,.o 960 q),(6,.i (c:Y))]) [5,6] (λy0=> [(5,.o 960 y0)]) [0,5,6] (λ_ q=>zD q=zD e) (λy0=>zD y0=zD e) wf0 (by simp) (λc q u U=>?_) (λc q u U=>?_) (λy0 a7=>?_)
 ·have v:=U.2;obtain⟨h,V⟩:=Xn (l:=d) (i:=c) u;refine Qa<|sn [0,4,5,6,19] [] (pl 2 d (pe 3 (zB ((c:Y)<(d.length:Y))) p0))<|ckT<|Qd<|Qa<|Qn<|tn [0,4,5,6,7] [] (pn 2 V (pc 5 (WC h.2) p0))<|Qa<|tu [(7,.o 1728 (K1 h.2)),(8,.i 0)] [] [] [] p0<|wT 7 0 (.own O 1728) (K1 h.2) (λbc bd=>?_)
  refine SW (Cv d c) Eh (K1 h.2) q (λk1 a=> [(5,.o 960 a),(8,.i (k1:Y))]) [5,8] (λw=> [(5,.o 960 w)]) [5,7,8] (λ_ a=>zD a=zD q) (λw=>zD w=zD q) wf0 (by simp) (λk1 a x j=>?_) (λk1 a x j=>?_) (λw a8=>?_)
  ·have z:=j.2;obtain⟨f,a3⟩:=Xn (l:=K1 h.2) (i:=k1) x;refine Qa<|su [(31,.b O)] [] [] [] (pl 2 (K1 h.2) (pe 3 (zB ((k1:Y)<((K1 h.2).length:Y))) p0))<|ckT<|Qd<|Qa<|Qn<|sn [0,4,5,6,7,8,9] [] (pN 3 a3 (pc 5 (R1 d f) p0))<|Qa<|mz [(9,.i (Xv d f))] [31] [] []<|jn [(52,.b (decide ((Xv d f)>=(0:Y))&&decide ((nth a (Xv d f).toNat)>(nth a c))))] [] [] [] (decide ((Xv d f)>=(0:Y))) (λh7=>?_) (λh7=>?_) ?_
   ·have be:=WF d f;have bf:=uJ h7;refine wT 5 0 (.own O 960) a (λbg aw=>?_);have ak:=ng a (Xv d f).toNat;have a9:=ng a c;exact rN [0,4,5,6,7,8,9,52] [] (pt 1 h7 (pG 5 (Xv d f) ak (pN 9 a9 p0)))<|zA (by rw[h7]<;>kernel_rfl)
   ·exact rU [(52,.b K)] [] [] [] (pf 1 h7 p0)<|zA (by rw[h7]<;>kernel_rfl)
   refine ck (decide ((Xv d f)>=(0:Y))&&decide ((nth a (Xv d f).toNat)>(nth a c))) (λo=>?_) (λo=>?_)
   ·have aa:(decide ((Xv d f)>=(0:Y)))=O:=HL o;have al:=WF d f;have am:=uJ aa;have ab:(decide ((nth a (Xv d f).toNat)>(nth a c)))=O:=HM o;have an:=uJ ab;refine wT 5 0 (.own O 960) a (λax ay=>?_);have ad:=ng a (Xv d f).toNat;have r:=ng a c;refine ru [(5,.one (.slc (.own O 960) 1 (setRow (eL a) c 0 [.i (nth a (Xv d f).toNat)])))] [5,9,52] [] [] (pG 4 (Xv d f) ad (pN 6 r p0)) ?_;refine eqn [(5,.o 960 (zE a c (nth a (Xv d f).toNat)))] [5] [] [] (by rw[Wd (y:=(nth a (Xv d f).toNat)) r rfl]<;>kernel_rfl) ?_;refine rn [0,4,5,6,7,8] [] (pw 1 k1 p0) ?_;exact xw (zE a c (nth a (Xv d f).toNat)) ⟨Qp a3 (Qu o rfl) j.1,(by first|omega|(simp only[zG];omega))⟩
   refine Qd<|rn [0,4,5,6,7,8] [] (pw 1 k1 p0) ?_
   exact xw a ⟨Qp a3 (Qh o rfl) j.1,(by first|omega|(simp only[zG];omega))⟩
  ·have z:=j.2;exact Qa<|su [(31,.b K)] [] [] [] (pl 2 (K1 h.2) (pe 3 (zC ((k1:Y)<((K1 h.2).length:Y))) p0))<|ckF<|Qv<|xw a ⟨Xo x rfl j.1,by first|omega|(simp only[zG];omega)⟩
  have ao:=a8.2;refine sn [0,4,5,6,10] [] (pn 2 V (pc 5 (WD h.2) p0))<|tn [0,4,5,6,10,11] [] p0<|mz [(10,.o 4160 (K2 h.2)),(11,.i 0)] [] [] []<|wT 10 0 (.own O 4160) (K2 h.2) (λaz b1=>?_)
  refine SW (Cw d c) Lb (K2 h.2) w (λs b=> [(5,.o 960 b),(11,.i (s:Y))]) [5,11] (λy2=> [(5,.o 960 y2)]) [5,10,11] (λ_ b=>zD b=zD w) (λy2=>zD y2=zD w) wf0 (by simp) (λs b a4 k=>?_) (λs b a4 k=>?_) (λy2 ae=>?_)
  ·have a5:=k.2;obtain⟨g,a6⟩:=Xn (l:=K2 h.2) (i:=s) a4;refine Qa<|su [(69,.b O)] [] [] [] (pl 2 (K2 h.2) (pe 3 (zB ((s:Y)<((K2 h.2).length:Y))) p0))<|ckT<|Qd<|Qa<|Qn<|sn [0,4,5,6,10,11,12] [] (pN 3 a6 (pc 5 (R1 d g) p0))<|Qa<|mz [(12,.i (Xv d g))] [69] [] []<|jn [(91,.b (decide ((Xv d g)>=(0:Y))&&decide (uZ vA ((nth b (Xv d g).toNat)+1)>(nth b c))))] [] [] [] (decide ((Xv d g)>=(0:Y))) (λm=>?_) (λm=>?_) ?_
   ·have b2:=WF d g;have b3:=uJ m;refine wT 5 0 (.own O 960) b (λb4 b5=>?_);have af:=ng b (Xv d g).toNat;have ag:=ng b c;exact rN [0,4,5,6,10,11,12,91] [] (pt 1 m (pG 5 (Xv d g) af (pN 10 ag p0)))<|zA (by rw[m]<;>kernel_rfl)
   ·exact rU [(91,.b K)] [] [] [] (pf 1 m p0)<|zA (by rw[m]<;>kernel_rfl)
   refine ck (decide ((Xv d g)>=(0:Y))&&decide (uZ vA ((nth b (Xv d g).toNat)+1)>(nth b c))) (λp=>?_) (λp=>?_)
   ·have ah:(decide ((Xv d g)>=(0:Y)))=O:=HL p;have ap:=WF d g;have aq:=uJ ah;have ai:(decide (uZ vA ((nth b (Xv d g).toNat)+1)>(nth b c)))=O:=HM p;have ar:=uJ ai;refine wT 5 0 (.own O 960) b (λb6 b7=>?_);have aj:=ng b (Xv d g).toNat;have t:=ng b c;refine ru [(5,.one (.slc (.own O 960) 1 (setRow (eL b) c 0 [.i (uZ vA ((nth b (Xv d g).toNat)+1))])))] [5,12,91] [] [] (pG 4 (Xv d g) aj (pN 7 t p0)) ?_;refine eqn [(5,.o 960 (zE b c (uZ vA ((nth b (Xv d g).toNat)+1))))] [5] [] [] (by rw[Wd (y:=uZ vA ((nth b (Xv d g).toNat)+1)) t rfl]<;>kernel_rfl) ?_;refine rn [0,4,5,6,10,11] [] (pw 1 s p0) ?_;exact xw (zE b c (uZ vA ((nth b (Xv d g).toNat)+1))) ⟨Qp a6 (Qu p rfl) k.1,(by first|omega|(simp only[zG];omega))⟩
   refine Qd<|rn [0,4,5,6,10,11] [] (pw 1 s p0) ?_
   exact xw b ⟨Qp a6 (Qh p rfl) k.1,(by first|omega|(simp only[zG];omega))⟩
  ·have a5:=k.2;exact Qa<|su [(69,.b K)] [] [] [] (pl 2 (K2 h.2) (pe 3 (zC ((s:Y)<((K2 h.2).length:Y))) p0))<|ckF<|Qv<|xw b ⟨Xo a4 rfl k.1,by first|omega|(simp only[zG];omega)⟩
  have au:=ae.2;refine rn [0,4,5,6] [] (pw 1 c p0) ?_;exact xw y2 ⟨Qp V (Vz a8.1 (Vz ae.1 rfl)) U.1,(by first|omega|(simp only[zG];omega))⟩
 ·have v:=U.2;exact Qa<|sn [0,4,5,6,19] [] (pl 2 d (pe 3 (zC ((c:Y)<(d.length:Y))) p0))<|ckF<|Qv<|xw q ⟨Xo u rfl U.1,by first|omega|(simp only[zG];omega)⟩
 have av:=a7.2;exact sn [4] [] p0<|Qc<|po0 [] (Vz a7.1 rfl)
theorem DG{α R S T:Type}{f:Q->α->S->Rd R S T}{e:Q->S->T}(I:S->Prop)(h:∀k a s,I s->∃s',f k a s= .next s'/\I s'):∀(l:W α) (k:Q) (s:S),I s->∃s',X5 f e l k s= .brk (e (k+l.length) s')/\I s'
 | [],k,s,hs=>⟨s,by simp[X5],hs⟩
 | a::l,k,s,hs=>by
   obtain⟨b,c,d⟩:=h k a s hs;obtain⟨g,i,j⟩:=DG I h l (k+1) b d;refine⟨g, ?_,j⟩;simp only[X5,c];rw[i,List.length_cons,show k+1+l.length=k+(l.length+1) by omega]
theorem Qwl(d:W Yj)(b n:Q)(k:Q)(a:H)(s:W Y)(e:s.length=n):∃s',Cv d b k a s= .next s'/\s'.length=n:=by
 unfold Cv;generalize(decide ((Xv d a)>=(0:Y))&&decide ((nth s (zH (Xv d a)))>(nth s b)))=c;cases c<;>exact⟨_,rfl,by simpa using e⟩
theorem Qwm(d:W Yj)(b n:Q)(k:Q)(a:H)(s:W Y)(e:s.length=n):∃s',Cw d b k a s= .next s'/\s'.length=n:=by
 unfold Cw;generalize(decide ((Xv d a)>=(0:Y))&&decide (uZ vA ((nth s (zH (Xv d a)))+1)>(nth s b)))=c;cases c<;>exact⟨_,rfl,by simpa using e⟩
theorem Qwn(d:W Yj)(n:Q)(k:Q)(a:Yj)(s:W Y)(b:s.length=n):∃s',Bm d k a s= .next s'/\s'.length=n:=by
 unfold Bm;obtain⟨c,f,g⟩:=DG (e:=Eh) (λs:W Y=>s.length=n) (Qwl d k n) (K1 a.2) 0 s b;obtain⟨h,i,j⟩:=DG (e:=Lb) (λs:W Y=>s.length=n) (Qwm d k n) (K2 a.2) 0 c g;refine⟨h, ?_,j⟩;rw[f];simp only[Out.on,Eh];rw[i];rfl
theorem Qax(d:W Yj)(lev:W Y):zD (H0 d lev)=zD lev:=by
 unfold H0;obtain⟨c,a,b⟩:=DG (e:=Lc) (λs:W Y=>s.length=lev.length) (Qwn d lev.length) d 0 lev rfl;rw[a];exact b
theorem Hl{d:W Yj}(h:Qo d=O):zD d<=5:=by
 unfold Qo at h;cases b:X5 (Zs d) Wy d 0 () with
 | brk t=>rw[b] at h;simp only[Out.on,uQ] at h;omega
 | ret r=>
   rw[b] at h;obtain rfl:r=O:=h;exfalso
   have key:∀(l:W Yj) k,X5 (Zs d) Wy l k ()≠ .ret O:=by
    intro l
    induction l with
    | nil=>intro k h;simp[X5] at h
    | cons a l e=>
      intro k h;simp only[X5] at h;unfold Zs at h;split at h
      . rename_i b;exact e _ h
      . cases h
      rename_i r b;cases h;revert b;generalize(_|| _:D)=c;cases c<;>simp
   exact key _ _ b
theorem Qly{d:W Yj}(h:Y6 d=O):uZ vA (uZ vA ((d.length:Y)*(d.length:Y))+1)=((zD d*zD d+1:Q):Y)/\((zD d*zD d+1:Q):Y)<=26:=by
 have a:=Hl ((Dz d).trans h);generalize zD d=n at a⊢;have:n=0\/n=1\/n=2\/n=3\/n=4\/n=5:=by omega
 rcases this with rfl | rfl | rfl | rfl | rfl | rfl<;>decide
def Wk(d:W Yj)(w:Y):W H->Hv
 | []=> []
 | s::r=>if 0<=Q9 d s then(zH (Q9 d s),w)::Wk d w r else Wk d w r
theorem KD(d:W Yj)(w:Y):∀(l:W H) (e:Q×Y),e∈Wk d w l->e.2=w/\e.1<d.length
 | [],e,h=>by simp[Wk] at h
 | s ::r,e,h=>by
   simp only[Wk] at h;split at h
   . rename_i a;rcases zO.1 h with rfl | h
     . have:=(WE d s).2;exact⟨rfl,by show zH _<_;omega⟩
     exact KD d w r e h
   exact KD d w r e h
def Kx(d:W Yj)(i:Q):Hv:=if i<d.length then Wk d 0 (Zi (nth d i).2)++Wk d 1 (Yx (nth d i).2) else []
theorem Pk(d:W Yj)(i:Q)(e:Q×Y)(h:e∈Kx d i):e.2<=1/\e.1<d.length/\i<d.length:=by
 unfold Kx at h;split at h
 . rename_i a;rcases xK.1 h with h | h<;>(have:=KD d _ _ e h;omega)
 simp at h
theorem Qp7(a b:Hv)(L:W Y):Rc (a++b) L=max (Rc a L) (Rc b L):=by
 have d:Rc (a++b) L<=max (Rc a L) (Rc b L):=Ec.2 ⟨by have:=JX a L;omega,λe he=>by
  rcases xK.1 he with he | he
  . have:=(Ec.1 (zT (Rc a L))).2 e he;omega
  have:=(Ec.1 (zT (Rc b L))).2 e he;omega⟩
 have c:=Ec.1 (zT (Rc (a++b) L));have f:Rc a L<=Rc (a++b) L:=Ec.2 ⟨c.1,λe he=>c.2 e (xQ _ he)⟩;have g:Rc b L<=Rc (a++b) L:=Ec.2 ⟨c.1,λe he=>c.2 e (yU _ he)⟩;omega
theorem HV(d:W Yj)(L:W Y)(w:Y)(f:0<=w/\w<=1)(a:∀j,0<=nth L j/\nth L j<=1000000):∀(l:W H) (k:Q) (m:Y),X5 (D0 d L w) La l k m= .brk ((Wk d w l).foldl (λm e=>max m (nth L e.1+e.2)) m)
 | [],k,m=>rfl
 | s::r,k,m=>by
   simp only[X5,D0,Wk];have b:∀j,uZ vA (nth L j+w)=nth L j+w:=λj=>IntWalk.i64_in _ (by have:=a j;omega)
   by_cases h:0<=Q9 d s
   . have c:decide (Q9 d s>=(0:Y))=O:=uP h;rw[c,uI,uB h,b];exact HV d L w f a r (k+1) _
   have c:decide (Q9 d s>=(0:Y))=K:=uR h;rw[c,uE,uG h];exact HV d L w f a r (k+1) _
theorem Qge{d:W Yj}{L:W Y}{w:Y}(a:0<=w/\w<=1)(b:∀j,0<=nth L j/\nth L j<=1000000)(l:W H):Yv d L l w=Rc (Wk d w l) L:=by
 unfold Yv;rw[HV d L w a b];rfl
theorem Qp8{d:W Yj}{L:W Y}(a:∀j,0<=nth L j/\nth L j<=1000000){i:Q}(b:i<d.length):max (Yv d L (Zi (nth d i).2) 0) (Yv d L (Yx (nth d i).2) 1)=Rc (Kx d i) L:=by
 rw[Qge (by omega) a,Qge (by omega) a];unfold Kx;rw[uB b,Qp7]
abbrev Qgf(d:W Yj)(a:Yj)(L:W Y):Y:=max (Yv d L (Zi a.2) 0) (Yv d L (Yx a.2) 1)
abbrev Qlz:=Q->Yj->W Y×D->Rd (Rd (W Y×D) (W Y×D) (W Y)) (W Y×D) (W Y×D)
def Ql0(d:W Yj)(f:Qlz):Prop:=∀k a s,f k a s=bif decide (Qgf d a s.1>(d.length:Y)) then .ret (.ret ([],K)) else(bif decide (Qgf d a s.1>nth s.1 k) then .next (zE s.1 k (Qgf d a s.1),O) else .next (s.1,s.2))
theorem KE{d:W Yj}{f:Qlz}{e:Q->W Y×D->W Y×D}(i:Ql0 d f)(m:∀k s,e k s=s)(hd:d.length<=1000000):
 ∀ (l:W Yj) (k:Q) (L:W Y) (c:D),d.drop k=l->L.length=d.length->(∀j,0<=nth L j/\nth L j<=(d.length:Y))->
   X5 f e l k (L,c)=(match Md (Kx d) d.length (xH k l.length) (c,L) with
    | none=> .ret (.ret ([],K))
    | some s=> .brk (s.2,s.1))
 | [],k,L,c,_,_,_=>by simp[X5,Md,m]
 | a ::l,k,L,c,hl,hlen,hL=>by
   have o:d[k]? =uA a:=by
    have:=uT (·[0]?) hl;simpa using this
   have n:k<d.length:=(yI.1 o).1;have ha:nth d k=a:=T7 o;have b:d.drop (k+1)=l:=by rw[←List.drop_drop,hl];rfl
   have hb:∀j,0<=nth L j/\nth L j<=1000000:=λj=>by have:=hL j;omega
   have p:Qgf d a L=Rc (Kx d k) L:=by rw[←ha];exact Qp8 hb n
   simp only[X5,i k a (L,c),List.length_cons,List.range'_succ,Md,p];by_cases g:(d.length:Y)<Rc (Kx d k) L
   . rw[uP (show Rc (Kx d k) L>(d.length:Y) from g),uI,uB g]
   rw[uR (show¬Rc (Kx d k) L>(d.length:Y) from g),uE,uG g];by_cases h:nth L k<Rc (Kx d k) L
   . rw[uP (show Rc (Kx d k) L>nth L k from h),uI,uB h];refine KE i m hd l (k+1) _ O b (by rw[zG];exact hlen) λj=>?_
     have q:=JX (Kx d k) L;rw[JY _ _ (by omega)];split
     . omega
     exact hL j
   rw[uR (show¬Rc (Kx d k) L>nth L k from h),uE,uG h];exact KE i m hd l (k+1) L c b hlen hL
def Qvz:uN (W Y)->Out (W Y×D) (W Y)
 | none=> .ret ([],K)
 | some L=> .brk L
def Qse(d:W Yj)(f:Qlz)(e:Q->W Y×D->W Y×D)(F:W Y×D->Rd (W Y×D) (W Y×D) (W Y)):Prop:=∀s,F s=bif s.2 then(Out.on (X5 f e d 0 (s.1,K)) λa=> .next (a.1,a.2)) else .brk s.1
theorem Pm{d:W Yj}{f:Qlz}{e:Q->W Y×D->W Y×D}{F:W Y×D->Rd (W Y×D) (W Y×D) (W Y)}(b:Ql0 d f)(g:∀k s,e k s=s)(a:Qse d f e F)(hd:d.length<=1000000):
 ∀(n:Q) (L:W Y) (c:D),L.length=d.length->(∀j,0<=nth L j/\nth L j<=(d.length:Y))->whl F n (L,c)=(VX (Kx d) d.length d.length n (c,L)).map Qvz
 | 0,L,c,_,_=>rfl
 | n+1,L,K,_,_=>by
   simp only[whl,a (L,K),uE,VX];rfl
 | n +1,L,O,hlen,hL=>by
   have h:=KE b g hd d 0 L K rfl hlen hL;have m:xH 0 d.length=zN d.length:=(xR ..).symm;rw[m] at h;simp only[whl,a (L,O),uI,h,VX];cases o:Md (Kx d) d.length (zN d.length) (K,L) with
   | none=>rfl
   | some s=>
     obtain⟨l,_,_,p⟩:=Ng (zN d.length) K L s (λi q=>by rw[hlen];exact Gn q) o;have:=Pm b g a hd n s.2 s.1 (by rw[l,YV,hlen]) λj=>⟨by rw[l];exact yQ (hL j).1 (VW (Kx d) j _ L),p (λj=>(hL j).2) j⟩
     exact this
theorem D1(n:Q):(zF n (0:Y)).length=n/\∀j,0<=nth (zF n (0:Y)) j/\nth (zF n (0:Y)) j<=(n:Y):=
 ⟨by simp,λj=>by rw[DD];omega⟩
theorem Qd1{d:W Yj}{f:Qlz}{e:Q->W Y×D->W Y×D}{F:W Y×D->Rd (W Y×D) (W Y×D) (W Y)}(a:Ql0 d f)(b:∀k s,e k s=s)(c:Qse d f e F)(hd:d.length<=1000000):
 (whl F (zD d*zD d+3) (zF (zH (d.length:Y)) (0:Y),O)).isSome=O:=by
 rw[zM,Pm a b c hd _ _ _ (D1 _).1 (D1 _).2,yS];refine NM _ _ _ (D1 _).1 (λj=>((D1 _).2 j).2) ?_;have:((zD d*zD d+3:Q):Y)=(d.length:Y)*(d.length:Y)+3:=by rw[xL,Int.natCast_mul];rfl
 have g:(zF d.length (0:Y)).sum=0:=by simp
 rw[this,g];omega
open GoE (enc wide)
def Ga(b:W Y)(a:Q)(c:Y)(_:A):Rd (D) (A) (A):=(bif (c !=(nth b a)) then(.ret K) else(.next ()))
def My(_:Q)(_:A):A:=()
def Vq(a:W Y)(b:W Y):D:=(bif ((a.length:Y) !=(b.length:Y)) then K else(Out.on (X5 (Ga b) My a 0 ()) (λ_=>O)))
theorem Od(a:W Y)(b:W Y):ACalls vB 189 [.h a,.h b] (.b (Vq a b)):=by
 refine en func189 λ_ _ _=>sn [0,1,4] [] p0 ?_
 refine Qa<|tn [0,1,4,10] [] (pl 1 a (pl 3 b p0))<|ck ((a.length:Y) !=(b.length:Y)) (λe=>?_) (λe=>?_)
 ·exact tu [(4,.b K)] [] [] [] p0<|Qc<|pb [] (Qu e rfl)
 have k:=Ut e;refine Qd<|Qa<|tu [(4,.b K),(5,.i 0)] [] [] [] p0<|wT 0 0 .sh a (λm n=>?_)
 refine S8 (Ga b) My a () (λc _=> [(5,.i (c:Y))]) [5] (λ_=> []) [0,1,5] wf0 (λc o d U=>?_) (λc o d U=>?_) (λs f=>?_)
 ·obtain⟨p,V⟩:=Xn (l:=a) (i:=c) d;refine Qa<|sn [0,1,4,5,14] [] (pl 2 a (pe 3 (zB ((c:Y)<(a.length:Y))) p0))<|ckT<|Qd<|Qa<|Qn<|wT 1 0 .sh b (λq r=>?_)
  have g:=ng b c;refine tN [0,1,4,5,25] [] (pn 2 V (pn 6 g p0))<|ck (p !=(nth b c)) (λh=>?_) (λh=>?_)
  ·refine tu [] [] [] [] p0<|Qc ?_
   have j:(X5 (Ga b) My a 0 ())= .ret K:=Kc V (Qu h rfl) U;exact pb [] (Qh e (Pe j))
  refine Qd<|qu [(5,.i ((c+1:Q):Y))] [5] [] [] (pw 1 c p0) ?_
  exact xw _ (Qp V (Qh h rfl) U)
 ·exact Qa<|sn [0,1,4,5,14] [] (pl 2 a (pe 3 (zC ((c:Y)<(a.length:Y))) p0))<|ckF<|Qv<|xw _ (Xo d rfl U)
 exact sn [4] [] p0<|Qc<|pb [] (Qh e (Vz f rfl))
def Oe(d:W Yj)(_:Q)(a:W Y):Rd ((W Y)×D) (W Y) (W Y):=(.next (H0 d a))
def Tp(_:Q)(a:W Y):(W Y):=a
def Xj(d:W Yj):(W Y)×D:=(bif (!(Y6 d)) then([],K) else(Out.on (Vj (Oe d) Tp (uZ vA (uZ vA ((d.length:Y)*(d.length:Y))+1)+1).toNat 0 (zF (d.length:Y).toNat (0:Y))) (λa=>(bif (!(Vq (H0 d a) a)) then([],K) else(a,O)))))
theorem Re(d:W Yj):ACalls vB 204 [.h d] (.tup [(K, [.o 0 (((Xj d)).1)]),(K, [.b (((Xj d)).2)])]):=by
 refine en func204 λ_ _ _=>sn [0,2,3] [] p0 ?_
 refine Qa<|tn [0,2,3,8] [] (pc 1 (Ba d) p0)<|ck (!(Y6 d)) (λh=>?_) (λh=>?_)
 ·exact tu [(2,.one (.slc (.own O 576) 1 [])),(3,.b K)] [] [] [] p0<|Qc<|pz [] (show Xj d=_ from Qu h rfl) (λz=> .tup [(K, [.o 0 z.1]),(K, [.b z.2])])
 have i:(Y6 d)=O:=Yu h;have l:=Qly i;refine Qd<|wT 0 0 .sh d (λm o=>?_)
 refine tu [(2,.e 0),(3,.b K),(4,.one (.slc (.own O 768) 1 (zF (d.length:Y).toNat [.i 0])))] [] [] [] (pl 1 d (px (Nc (lo:=0) (hi:=(d.length:Y)) (n:=1073741824) (⟨by omega,by omega,by omega⟩)) p0)) ?_;refine eqn [(4,.o 768 (zF (d.length:Y).toNat (0:Y)))] [4] [] [] (by rw[show(zF (d.length:Y).toNat [.i 0])=(eL (zF (d.length:Y).toNat (0:Y))) from Qpv _ (0:Y)]<;>kernel_rfl) ?_;refine Qa<|sn [0,2,3,4,5] [] p0<|mz [(5,.i 0)] [] [] []<|Qsa (Oe d) Tp (uZ vA (uZ vA ((d.length:Y)*(d.length:Y))+1)+1).toNat (zF (d.length:Y).toNat (0:Y)) (λc a=> [(4,.o 104 a),(5,.i (c:Y))]) [4,5] (λb=> [(4,.o 105 b)]) [4,5] (λ_ a=>zD a=zD d) (λb=>zD b=zD d) (wsf [(768,104)]) (by simp) (λc a e U=>?_) (λc a e U=>?_) (λb f=>?_)
 ·have g:=U.2;refine Qa<|sn [0,2,3,4,5,20] [] (pl 2 d (pl 4 d (pe 7 (zB ((c:Y)<=uZ vA (uZ vA ((d.length:Y)*(d.length:Y))+1))) p0)))<|ckT<|Qd<|Qa<|Qn<|qn [0,2,3,4,5] [] (pc 2 (ZQ d a (by omega)) p0) ?_
  refine qu [(4,.o 1600 (H0 d a)),(5,.i ((c+1:Q):Y))] [4,5] [] [] (pw 1 c p0) ?_;exact yB (H0 d a) (yV (wsf [(1600,104)]) ⟨Kb e rfl U.1,(by have p:=Qax d a;omega)⟩)
 ·have g:=U.2;exact Qa<|sn [0,2,3,4,5,20] [] (pl 2 d (pl 4 d (pe 7 (zC ((c:Y)<=uZ vA (uZ vA ((d.length:Y)*(d.length:Y))+1))) p0)))<|ckF<|Qv<|yB a (yV (wsf [(104,105)]) ⟨Hu e rfl U.1,by first|omega|(simp only[zG];omega)⟩)
 have j:=f.2;refine Qa<|sn [2,3,4,31] [] (pc 2 (ZQ d b (by omega)) (pc 4 (Od (H0 d b) b) p0))<|ck (!(Vq (H0 d b) b)) (λk=>?_) (λk=>?_)
 ·exact tn [2,3,4] [] p0<|Qc<|pz [] (show Xj d=_ from Qh h (Vz f.1 (Qu k rfl))) (λz=> .tup [(K, [.o 0 z.1]),(K, [.b z.2])])
 exact Qd<|tn [2,3] [] p0<|Qc<|pz [] (show Xj d=_ from Qh h (Vz f.1 (Qh k rfl))) (λz=> .tup [(K, [.o 0 z.1]),(K, [.b z.2])])
def Ar(d:W Yj)(c:Q)(b:Yj)(a:(W Y)×D):Rd (Rd ((W Y)×D) ((W Y)×D) (W Y)) ((W Y)×D) ((W Y)×D):=(bif decide ((max (Yv d a.1 (Zi b.2) 0) (Yv d a.1 (Yx b.2) 1))>(d.length:Y)) then(.ret (.ret ([],K))) else(bif decide ((max (Yv d a.1 (Zi b.2) 0) (Yv d a.1 (Yx b.2) 1))>(nth a.1 c)) then(.next (zE a.1 c (max (Yv d a.1 (Zi b.2) 0) (Yv d a.1 (Yx b.2) 1)),O)) else(.next (a.1,a.2))))
def Au(_:Q)(a:(W Y)×D):(W Y)×D:=(a.1,a.2)
def Ux(d:W Yj)(a:(W Y)×D):Rd ((W Y)×D) ((W Y)×D) (W Y):=(bif a.2 then(Out.on (X5 (Ar d) Au d 0 (a.1,K)) (λb=>(.next (b.1,b.2)))) else(.brk a.1))
def Qr(d:W Yj):(W Y)×D:=(bif (!(Qo d)) then([],K) else(Out.on (N2 (Ux d) (zD d*zD d+3) ((zF (d.length:Y).toNat (0:Y)),O)) (λa=>(a,O))))
theorem Iq(d:W Yj)(hd:d.length<=5):(whl (Ux d) (zD d*zD d+3) (zF (d.length:Y).toNat (0:Y),O)).isSome=O:=Qd1 (f:=Ar d) (e:=Au) (λ_ _ _=>rfl) (λ_ _=>rfl) (λ_=>rfl) (by omega)
theorem XV(d:W Yj):ACalls vB 238 [.h d] (.tup [(K, [.o 0 (((Qr d)).1)]),(K, [.b (((Qr d)).2)])]):=by
 refine en func238 λ_ _ _=>sn [0,2,3] [] p0 ?_
 refine Qa<|tn [0,2,3,11] [] (pc 1 (K3 d) p0)<|ck (!(Qo d)) (λp=>?_) (λp=>?_)
 ·refine tu [(2,.e 0),(3,.b K)] [] [] [] p0<|opn [(K,2,0,O,104,1)] ?_
  exact Qc<|pz [] (show Qr d=_ from Qu p rfl) (λz=> .tup [(K, [.o 0 z.1]),(K, [.b z.2])])
 have v:(Qo d)=O:=Yu p;refine Qd<|wT 0 0 .sh d (λa6 a7=>?_)
 refine tu [(2,.e 0),(3,.b K),(4,.one (.slc (.own O 896) 1 (zF (d.length:Y).toNat [.i 0])))] [] [] [] (pl 1 d (px (Nc (lo:=0) (hi:=(d.length:Y)) (n:=1073741824) (⟨by omega,by omega,by omega⟩)) p0)) ?_;refine eqn [(4,.o 896 (zF (d.length:Y).toNat (0:Y)))] [4] [] [] (by rw[show(zF (d.length:Y).toNat [.i 0])=(eL (zF (d.length:Y).toNat (0:Y))) from Qpv _ (0:Y)]<;>kernel_rfl) ?_;refine Qa<|sn [0,2,3,4,5] [] p0<|mz [(5,.b O)] [] [] []<|blw (λ(e:(W Y)×D)=> [(4,.o 896 e.1),(5,.b e.2)]) [4,5] (λe=> []) [] (λ(q:W Y)=> [(4,.o 896 q)]) [0,4,5] (λq=> []) [] (λ(k0:Q) (e:(W Y)×D)=>whl (Ux d) k0 e=uA (N2 (Ux d) (zD d*zD d+3) ((zF (d.length:Y).toNat (0:Y)),O))/\zD e.1=zD d) (λ(q:W Y)=>(N2 (Ux d) (zD d*zD d+3) ((zF (d.length:Y).toNat (0:Y)),O))= .brk q) (zD d*zD d+3) ((zF (d.length:Y).toNat (0:Y)),O) wf0 ⟨Mv (Iq d (Hl (v))),(by simp)⟩ (λ_ h=>P9 h.1) (λk0 e U=>?_) (λq w=>?_)
 ·have x:=U.2;refine Qa<|sn [0,2,3,4,5,15] [] p0<|ck e.2 (λu=>?_) (λu=>?_)
  ·refine Qd<|Qn<|tn [0,2,3,4,5] [] p0<|tu [(5,.b K),(16,.h d),(17,.i (d.length:Y)),(18,.i 0)] [5] [] [] (pl 1 d p0)<|SW (Ar d) Au d (e.1,K) (λk1 a=> [(4,.o 896 a.1),(5,.b a.2),(18,.i (k1:Y))]) [4,5,18] (λj=> [(4,.o 896 j.1),(5,.b j.2)]) [4,5,16,17,18] (λ_ a=>zD a.1=zD e.1) (λj=>zD j.1=zD e.1) wf0 (by simp) (λk1 a k c=>?_) (λk1 a k c=>?_) (λj r=>?_)
   ·have m:=c.2;obtain⟨b,g⟩:=Xn (l:=d) (i:=k1) k;refine su [(19,.b O)] [] [] [] (pe 0 (zB ((k1:Y)<(d.length:Y))) p0)<|Qa<|ckT<|Qd<|Qa<|Qn<|sn [0,2,3,4,5,6,7,16,17,18] [7] (pn 1 g p0)<|tN [0,2,3,4,5,6,8,16,17,18] [] (pc 4 (WA b.2) (pc 5 (Sq d a.1 (Zi b.2) 0 (by omega)) (pc 10 (WB b.2) (pc 11 (Sq d a.1 (Yx b.2) 1 (by omega)) p0))))<|Qa<|tu [(6,.i (k1:Y)),(8,.i (max (Yv d a.1 (Zi b.2) 0) (Yv d a.1 (Yx b.2) 1))),(39,.b (decide ((max (Yv d a.1 (Zi b.2) 0) (Yv d a.1 (Yx b.2) 1))>(d.length:Y))))] [19] [] [] (pl 2 d p0)<|ck (decide ((max (Yv d a.1 (Zi b.2) 0) (Yv d a.1 (Yx b.2) 1))>(d.length:Y))) (λs=>?_) (λs=>?_)
    ·refine su [] [39] [] [] p0<|opn [(K,2,0,O,104,1)] ?_
     refine Qc ?_;have a2:(X5 (Ar d) Au d 0 (e.1,K))= .ret (.ret ([],K)):=Kc g (Qu s rfl) c.1;have a3:(N2 (Ux d) (zD d*zD d+3) ((zF (d.length:Y).toNat (0:Y)),O))= .ret ([],K):=Qt7 (Qu u (Pe a2)) U.1;exact pz [] (show Qr d=_ from Qh p (Pe a3)) (λz=> .tup [(K, [.o 0 z.1]),(K, [.b z.2])])
    have a8:=uW s;refine Qd<|wT 4 0 (.own O 896) a.1 (λa9 a5=>?_)
    have o:=ng a.1 k1;refine sn [0,2,3,4,5,6,8,16,17,18,45] [] (pN 3 o p0)<|ck (decide ((max (Yv d a.1 (Zi b.2) 0) (Yv d a.1 (Yx b.2) 1))>(nth a.1 k1))) (λf=>?_) (λf=>?_)
    ·have t:=uJ f;refine tu [(4,.one (.slc (.own O 896) 1 (setRow (eL a.1) k1 0 [.i (max (Yv d a.1 (Zi b.2) 0) (Yv d a.1 (Yx b.2) 1))])))] [4,6,8,39] [] [] (pN 3 o p0) ?_;refine eqn [(4,.o 896 (zE a.1 k1 (max (Yv d a.1 (Zi b.2) 0) (Yv d a.1 (Yx b.2) 1))))] [4] [] [] (by rw[Wd (y:=(max (Yv d a.1 (Zi b.2) 0) (Yv d a.1 (Yx b.2) 1))) o rfl]<;>kernel_rfl) ?_;refine ru [(5,.b O)] [5] [] [] p0 ?_;refine rn [0,2,3,4,5,16,17,18] [] (pw 0 k1 p0) ?_;exact xw (zE a.1 k1 (max (Yv d a.1 (Zi b.2) 0) (Yv d a.1 (Yx b.2) 1)),O) ⟨Qp g (Qh s (Qu f rfl)) c.1,(by first|omega|(simp only[zG];omega))⟩
    have t:=uW f;refine Qd<|qn [0,2,3,4,5,16,17,18] [] (pw 0 k1 p0) ?_
    exact xw (a.1,a.2) ⟨Qp g (Qh s (Qh f rfl)) c.1,(by first|omega|(simp only[zG];omega))⟩
   ·have m:=c.2;exact su [(19,.b K)] [] [] [] (pe 0 (zC ((k1:Y)<(d.length:Y))) p0)<|Qa<|ckF<|Qv<|xw (a.1,a.2) ⟨Xo k rfl c.1,by first|omega|(simp only[zG];omega)⟩
   have a4:=r.2;exact xw (j.1,j.2) ⟨wn U.1 (Qu u (Vz r.1 rfl)),(by first|omega|(simp only[zG];omega))⟩
  exact Qv<|xw _ (wb U.1 (Qh u rfl))
 exact sn [2,3] [] p0<|Qc<|pz [] (show Qr d=_ from Qh p (Vz w rfl)) (λz=> .tup [(K, [.o 0 z.1]),(K, [.b z.2])])
def Low(b:Y)(L:W Y):Prop:=∀j,0<=nth L j/\nth L j<=b
theorem Qgg{b w:Y}{i:Q}{L:W Y}{p:Q}(a:i<L.length)(c:0<=w/\w<=1)(h:Low b L):Low (b+w) (UR i L (p,w)):=λj=>by
 rw[DE _ a];have d:=h j;have e:=h p;have f:=h i;split
 . show 0<=max (nth L i) (nth L p+w)/\max (nth L i) (nth L p+w)<=b+w;omega
 omega
theorem Qd2(d:W Yj)(c:Q):∀(l:W H) (k:Q) (s:W Y) (b:Y),c<s.length->Low b s->X5 (Cv d c) Eh l k s= .brk (G5 c (Wk d 0 l) s)/\Low b (G5 c (Wk d 0 l) s)
 | [],k,s,b,_,h=>⟨rfl,h⟩
 | a :: l,k,s,b,hk,h=>by
   have m:Cv d c k a s=(bif (decide (0<=Q9 d a)&&decide (nth s c<nth s (zH (Q9 d a)))) then .next (zE s c (nth s (zH (Q9 d a)))) else .next s):=rfl;simp only[X5,m,Wk];by_cases f:0<=Q9 d a
   . rw [uB f,uP f,yX];have hb:Low b (UR c s (zH (Q9 d a),0)):=by have:=Qgg (w:=0) (p:=zH (Q9 d a)) hk (by omega) h;simpa using this
     have j:G5 c ((zH (Q9 d a),0)::Wk d 0 l) s=G5 c (Wk d 0 l) (UR c s (zH (Q9 d a),0)):=rfl;rw[j];have g:=Qd2 d c l (k+1) (UR c s (zH (Q9 d a),0)) b (by rw[To];exact hk) hb;by_cases i:nth s c<nth s (zH (Q9 d a))
     . have e:UR c s (zH (Q9 d a),0)=zE s c (nth s (zH (Q9 d a))):=by unfold UR;simp[i]
       rw[uP i,uI];rw[e] at g⊢;exact g
     have e:UR c s (zH (Q9 d a),0)=s:=by unfold UR;simp[i]
     rw[uR i,uE];rw[e] at g⊢;exact g
   rw[uG f,uR f,Bool.false_and,uE];exact Qd2 d c l (k+1) s b hk h
theorem Qd3(d:W Yj)(c:Q):∀(l:W H) (k:Q) (s:W Y) (b:Y),c<s.length->Low b s->b+l.length<=1000000->X5 (Cw d c) Lb l k s= .brk (G5 c (Wk d 1 l) s)/\Low (b+l.length) (G5 c (Wk d 1 l) s)
 | [],k,s,b,_,h,_=>⟨rfl,by show Low (b+((0:Q):Y)) s;simpa using h⟩
 | a :: l,k,s,b,hk,h,hb=>by
   rw[List.length_cons] at hb⊢;have o:Cw d c k a s=(bif (decide (0<=Q9 d a)&&decide (nth s c<uZ vA (nth s (zH (Q9 d a))+1))) then .next (zE s c (uZ vA (nth s (zH (Q9 d a))+1))) else .next s):=rfl;simp only[X5,o,Wk];have q:b+((l.length+1:Q):Y)=b+1+(l.length:Y):=by omega
   have hw:uZ vA (nth s (zH (Q9 d a))+1)=nth s (zH (Q9 d a))+1:=IntWalk.i64_in _ (by have:=h (zH (Q9 d a));omega);rw[q] at hb⊢;by_cases g:0<=Q9 d a
   . rw [uB g,uP g,yX,hw];have f:=Qgg (w:=1) (p:=zH (Q9 d a)) hk (by omega) h;have n:G5 c ((zH (Q9 d a),1)::Wk d 1 l) s=G5 c (Wk d 1 l) (UR c s (zH (Q9 d a),1)):=rfl;rw[n];have i:=Qd3 d c l (k+1) (UR c s (zH (Q9 d a),1)) (b+1) (by rw[To];exact hk) f hb;by_cases m:nth s c<nth s (zH (Q9 d a))+1
     . have e:UR c s (zH (Q9 d a),1)=zE s c (nth s (zH (Q9 d a))+1):=by unfold UR;rw[uB m]
       rw[uP m,uI];rw[e] at i⊢;exact i
     have e:UR c s (zH (Q9 d a),1)=s:=by unfold UR;rw[uG m]
     rw[uR m,uE];rw[e] at i⊢;exact i
   rw[uG g,uR g,Bool.false_and,uE];exact Qd3 d c l (k+1) s (b+1) hk (λj=>by have:=h j;omega) hb
theorem FI(q:W Q0)(b:D):∀(l:W D) (k:Q) (s:W H),∃t,X5 (Hc q b) B0 l k s= .brk t/\t.length<=s.length+l.length
 | [],k,s=>⟨s,rfl,by simp⟩
 | a ::l,k,s=>by
   simp only[X5,Hc];cases(Ku (nth q k)&&(a==b)) with
   | true=>
     obtain⟨t,c,d⟩:=FI q b l (k+1) (s++ [(nth q k).2.2.2.1]);exact⟨t,c,by simp at d⊢;omega⟩
   | false=>
     obtain⟨t,c,d⟩:=FI q b l (k+1) s;exact⟨t,c,by simp at d⊢;omega⟩
theorem Qp9(q:W Q0):zD (Y5 q)<=9:=by
 cases a:Qm q with
 | true=>have:=JV q;have:=(Nf a).2;omega
 | false=>unfold Y5;rw[a];simp
theorem Qyd(q:W Q0)(b:D):zD (Hw q b)<=9:=by
 unfold Hw;obtain⟨t,a,c⟩:=FI q b (Y5 q) 0 [];rw[a];have e:=Qp9 q;have d:=Qlq (XQ t);rw[Qao] at d;show(FB (XQ t)).length<=9;simp at c;omega
theorem Ql1(i:Q)(a b:Hv)(L:W Y):G5 i (a++b) L=G5 i b (G5 i a L):=List.foldl_append
theorem Quk{d:W Yj}{k:Q}{a:Yj}{s:W Y}{b:Y}(e:d[k]? =uA a)(n:s.length=d.length)(h:Low b s)(o:b+9<=1000000):Bm d k a s= .next (G5 k (Kx d k) s)/\Low (b+9) (G5 k (Kx d k) s):=by
 have c:k<d.length:=(yI.1 e).1;have ha:nth d k=a:=T7 e;obtain⟨f,g⟩:=Qd2 d k (Zi a.2) 0 s b (by omega) h;have p:(Yx a.2).length<=9:=Qyd a.2 O;obtain⟨i,l⟩:=Qd3 d k (Yx a.2) 0 (G5 k (Wk d 0 (Zi a.2)) s) b (by rw[Ph];omega) g (by omega);have m:Kx d k=Wk d 0 (Zi a.2)++Wk d 1 (Yx a.2):=by unfold Kx;rw[uB c,ha]
 rw[m,Ql1];refine⟨?_,λj=>by have:=l j;omega⟩;unfold Bm;rw[Qh9,Qia,f];simp only[Out.on];rw[i]
theorem NQ{d:W Yj}:∀(l:W Yj) (k:Q) (s:W Y) (b:Y),d.drop k=l->s.length=d.length->Low b s->b+9*l.length<=1000000->X5 (Bm d) Lc l k s= .brk (F2 (Kx d) (xH k l.length) s)/\Low (b+9*l.length) (F2 (Kx d) (xH k l.length) s)
 | [],k,s,b,_,_,h,_=>⟨rfl,by show Low (b+9*((0:Q):Y)) s;simpa using h⟩
 | a ::l,k,s,b,hl,hs,h,hb=>by
   have f:d[k]? =uA a:=by
    have:=uT (·[0]?) hl;simpa using this
   have c:d.drop (k+1)=l:=by rw[←List.drop_drop,hl];rfl
   rw[List.length_cons] at hb⊢;obtain⟨g,i⟩:=Quk f hs h (by omega);have e:b+9*((l.length+1:Q):Y)=b+9+9*(l.length:Y):=by omega
   rw[e] at hb⊢;obtain⟨j,m⟩:=NQ l (k+1) (G5 k (Kx d k) s) (b+9) c (by rw[Ph];exact hs) i hb;simp only[X5,g,List.range'_succ];exact⟨j,m⟩
theorem NR{d:W Yj}{s:W Y}{b:Y}(e:s.length=d.length)(h:Low b s)(f:b+9*d.length<=1000000):H0 d s=F2 (Kx d) (zN d.length) s/\Low (b+9*d.length) (F2 (Kx d) (zN d.length) s):=by
 obtain⟨a,c⟩:=NQ d 0 s b rfl e h f;have g:xH 0 d.length=zN d.length:=(xR ..).symm;rw[g] at a c;refine⟨?_,c⟩;unfold H0;rw[a];rfl
theorem FJ{d:W Yj}(hd:d.length<=5):∀(n k m:Q),m+n<=1000->Low (45*m) (Ee (Kx d) d.length m)->Vj (Oe d) Tp n k (Ee (Kx d) d.length m)= .brk (Ee (Kx d) d.length (m+n))/\Low (45*(m+n)) (Ee (Kx d) d.length (m+n))
 | 0,k,m,_,h=>⟨rfl,by simpa using h⟩
 | n+1,k,m,hm,h=>by
   obtain⟨b,a⟩:=NR (YY (Kx d) d.length m) h (by omega);have e:Ee (Kx d) d.length (m+1)=F2 (Kx d) (zN d.length) (Ee (Kx d) d.length m):=rfl;simp only[Vj,Oe,b];rw[←e] at a⊢;have:=FJ hd n (k+1) (m+1) (by omega) (λj=>by have:=a j;omega);rw[show m+(n+1)=m+1+n by omega];refine⟨this.1,λj=>by have:=this.2 j;omega⟩
theorem Ql2(b:W Y):∀(l:W Y) (k:Q),l.length=(b.drop k).length->Out.on (X5 (Ga b) My l k ()) (λ_=>O)=decide (l=b.drop k)
 | [],k,h=>by
   have:b.drop k= []:=zQ (by rw[←h];rfl);rw[this];rfl
 | a ::l,k,h=>by
   have c:k<b.length:=by simp only[List.length_cons,List.length_drop] at h;omega
   have hd:b.drop k=nth b k::b.drop (k+1):=by
    rw[List.drop_eq_getElem_cons c,show nth b k=b[k] by simp[nth,yC,c]]
   rw[hd] at h⊢;simp only[X5,Ga];by_cases e:a=nth b k
   . rw[show(a !=nth b k)=K by simp[e],uE,Ql2 b l (k+1) (by simpa using h)];simp[e]
   rw[show(a !=nth b k)=O by simp[e],uI];simp[e,Out.on]
theorem Ql3(a b:W Y)(h:a.length=b.length):Vq a b=decide (a=b):=by
 unfold Vq;rw[show((a.length:Y) !=(b.length:Y))=K by simp[h],uE,Ql2 b a 0 (by simpa using h),List.drop_zero]
theorem Uo(d:W Yj):Xj d=Qr d:=by
 unfold Xj Qr;rw[←Dz];cases h:Qo d with
 | false=>rfl
 | true=>
   have g:=Hl h;obtain⟨p,_⟩:=Qly ((Dz d).symm.trans h);simp only[yJ,uE];have k:Ee (Kx d) d.length 0=zF (zH (d.length:Y)) (0:Y):=by rw[zM];rfl
   have q:d.length*d.length<=25:=xC (Nat.mul_le_mul g g) (by decide);obtain⟨l,m⟩:=FJ (d:=d) g (d.length*d.length+2) 0 0 (by omega) (λj=>by rw[k,zM,DD];omega);rw[k,zW] at l;rw[zW] at m;rw[p,show zH (((d.length*d.length+1:Q):Y)+1)=d.length*d.length+2 by omega,l];simp only[Out.on];have c:=YY (Kx d) d.length (d.length*d.length+2);obtain⟨s,_⟩:=NR (d:=d) c m (by omega);rw[s,Ql3 _ _ (by rw[KB])];have hw:=Pm (d:=d) (f:=Ar d) (e:=Au) (F:=Ux d) (λ_ _ _=>rfl) (λ_ _=>rfl) (λ_=>rfl) (by omega) (d.length*d.length+3) (zF d.length 0) O (D1 _).1 (D1 _).2
   have b:(VX (Kx d) d.length d.length (d.length*d.length+3) (O,zF d.length 0)).isSome=O:=by
    have:=Iq d g;rw[zM,hw,yS] at this;exact this
   obtain⟨r,o⟩:=yK.1 b;unfold N2;rw[zM,hw,o];obtain⟨t,u⟩:=Qlv (E:=Kx d) (n:=d.length) (λi e v=>Pk d i e v) o;by_cases a:F2 (Kx d) (zN d.length) (Ee (Kx d) d.length (d.length*d.length+2))=Ee (Kx d) d.length (d.length*d.length+2)
   . rw[t a,uP a];rfl
   rw[u a,uR a];rfl
open GoE (enc wide)
def Ag(a:H)(_:Q)(b:Zt)(_:A):Rd (Y) (A) (A):=(bif (b.1.toList==a.toList) then(.ret b.2) else(.next ()))
def Dl(_:Q)(_:A):A:=()
def Df(b:W Zt)(a:H):Y:=(Out.on (X5 (Ag a) Dl b 0 ()) (λ_=>0))
theorem FK(b:W Zt)(a:H):ACalls vB 321 [.h b,.s a] (.i (Df b a)):=by
 refine en func321 λ_ _ _=>sn [0,1,4] [] p0 ?_
 refine Qa<|tn [1,4,7,8,9] [] (pl 1 b p0)<|mz [(4,.i 0),(7,.h b),(8,.i (b.length:Y)),(9,.i 0)] [0] [] []<|wT 7 0 .sh b (λj k=>?_)
 refine S8 (Ag a) Dl b () (λc _=> [(9,.i (c:Y))]) [9] (λ_=> []) [1,7,8,9] wf0 (λc m d U=>?_) (λc m d U=>?_) (λn f=>?_)
 ·obtain⟨e,V⟩:=Xn (l:=b) (i:=c) d;refine sn [1,4,7,8,9,10] [] (pe 0 (zB ((c:Y)<(b.length:Y))) p0)<|Qa<|ckT<|Qd<|Qa<|Qn<|tn [1,4,6,7,8,9] [6] (pn 0 V p0)<|tu [(6,.p 6 0),(16,.b (e.1.toList==a.toList))] [] [(6, [.s e.1,.i e.2])] [] p0<|ck (e.1.toList==a.toList) (λg=>?_) (λg=>?_)
  ·refine sn [1,4,7,8,9] [] p0<|Qc ?_
   have h:(X5 (Ag a) Dl b 0 ())= .ret e.2:=Kc V (Qu g rfl) U;exact pi [] (Pe h)
  refine Qd<|rn [1,4,7,8,9] [] (pw 0 c p0) ?_
  exact xw _ (Qp V (Qh g rfl) U)
 ·exact sn [1,4,7,8,9,10] [] (pe 0 (zC ((c:Y)<(b.length:Y))) p0)<|Qa<|ckF<|Qv<|xw _ (Xo d rfl U)
 exact sn [4] [] p0<|Qc<|pi [] (Vz f rfl)
def Jo(b:W Zt)(a:H)(v:Wx):D:=((Xf v)&&((v.1 !=(0:Y))&&(v.1==(Df b a))))
theorem Pn(c:W Zt)(a:H)(v:Wx):ACalls vB 283 [.h c,.s a,.a [.i v.1,.i v.2.1,.s v.2.2]] (.b (Jo c a v)):=by
 refine en func283 λ_ _ _=>sn [0,1,5,6] [5] p0 ?_
 refine Qa<|mz [(5,.p 5 0),(6,.b K)] [2] [(5, [.i v.1,.i v.2.1,.s v.2.2])] []<|jn [(6,.b ((Xf v)&&((v.1 !=(0:Y))&&(v.1==(Df c a)))))] [0,1,5,6] [] [5] (Xf v) (λb=>?_) (λb=>?_) ?_
 ·refine Ye (v.1 !=(0:Y)) (λd=>?_) (λd=>?_)
  ·exact rN [6] [] (pc 1 (cb b (K4 v)) (pt 5 d (pc 12 (FK c a) p0)))<|zA (by rw[b,d]<;>kernel_rfl)
  exact rN [6] [] (pc 1 (cb b (K4 v)) (pf 5 d p0))<|zA (by rw[b,d]<;>kernel_rfl)
 ·exact rN [6] [] (pc 1 (cb b (K4 v)) p0)<|zA (by rw[b]<;>kernel_rfl)
 exact Qc<|pb [] (show Jo c a v=((Xf v)&&((v.1 !=(0:Y))&&(v.1==(Df c a)))) from rfl)
def Wi(n:Y):D:=(X6 n 0 2)
theorem Ei(n:Y):ACalls vB 156 [.i n] (.b (Wi n)):=by
 refine en func156 λ_ _ _=>sn [0,2] [] p0 ?_
 exact tn [2] [] (pc 1 (Kt n 0 2) p0)<|Qc<|pb [] (show Wi n=(X6 n 0 2) from rfl)
def V7(c:W Zt)(b:Q)(a:Zt)(_:A):Rd (D) (A) (A):=(bif ((!(Q8 a.1))|| (bif (a.2 !=(1:Y)) then((a.2 !=(2:Y))|| (decide ((b:Y)>(0:Y))&&(!(Op.bytesLess ((nth c ((b:Y)-1).toNat).1).toList a.1.toList)))) else(decide ((b:Y)>(0:Y))&&(!(Op.bytesLess ((nth c ((b:Y)-1).toNat).1).toList a.1.toList))))) then(.ret K) else(.next ()))
def Ha(_:Q)(_:A):A:=()
def Jv(a:W Zt):D:=(Out.on (X5 (V7 a) Ha a 0 ()) (λ_=>decide ((a.length:Y)<=(5:Y))))
theorem Dg(c:W Zt):ACalls vB 237 [.h c] (.b (Jv c)):=by
 refine en func237 λ_ _ _=>sn [0,2] [] p0 ?_
 refine Qa<|tn [0,2,5,6,7] [] (pl 1 c p0)<|mz [(2,.b K),(5,.h c),(6,.i (c.length:Y)),(7,.i 0)] [] [] []<|wT 0 0 .sh c (λs t=>?_)
 refine S8 (V7 c) Ha c () (λa _=> [(7,.i (a:Y))]) [7] (λ_=> []) [5,6,7] wf0 (λa u h U=>?_) (λa u h U=>?_) (λy o=>?_)
 ·obtain ⟨b,V⟩:=Xn (l:=c) (i:=a) h;refine sn [0,2,5,6,7,8] [] (pe 0 (zB ((a:Y)<(c.length:Y))) p0)<|Qa<|ckT<|Qd<|Qa<|Qn<|tn [0,2,3,4,5,6,7] [4] (pn 1 V p0)<|Qa<|mz [(3,.i (a:Y)),(4,.p 4 0)] [] [(4, [.s b.1,.i b.2])] []<|jn [(40,.b ((!(Q8 b.1))|| (bif (b.2 !=(1:Y)) then((b.2 !=(2:Y))|| (decide ((a:Y)>(0:Y))&&(!(Op.bytesLess ((nth c ((a:Y)-1).toNat).1).toList b.1.toList)))) else(decide ((a:Y)>(0:Y))&&(!(Op.bytesLess ((nth c ((a:Y)-1).toNat).1).toList b.1.toList))))))] [3,4] [] [4] (!(Q8 b.1)) (λf=>?_) (λf=>?_) ?_
  ·have d:(Q8 b.1)=K:=Kj f;exact rN [0,2,5,6,7,40] [] (pc 2 (cb d (Ja b.1)) (pe 3 (show .b (!K)= .b O from rfl) p0))<|zA (by rw[f]<;>kernel_rfl)
  ·have d:(Q8 b.1)=O:=Yu f;refine Ye (b.2 !=(1:Y)) (λe=>?_) (λe=>?_)
   ·have p:=Sk e;refine Ye (b.2 !=(2:Y)) (λg=>?_) (λg=>?_)
    ·exact rN [0,2,5,6,7,40] [] (pc 2 (cb d (Ja b.1)) (pe 3 (show .b (!O)= .b K from rfl) (pt 7 e (pt 11 g p0))))<|zA (by rw[f,e,g]<;>kernel_rfl)
    have v:=Ut g;refine Ye (decide ((a:Y)>(0:Y))) (λk=>?_) (λk=>?_)
    ·have w:=uJ k;have q:=ng c ((a:Y)-1).toNat;exact rN [0,2,5,6,7,40] [] (pc 2 (cb d (Ja b.1)) (pe 3 (show .b (!O)= .b K from rfl) (pt 7 e (pf 11 g (pt 16 k (pe 20 (Nn (IntWalk.i64_in ((a:Y)-1) (by omega))) (pg 21 ((a:Y)-1) q p0)))))))<|zA (by rw[f,e,g,k]<;>kernel_rfl)
    exact rN [0,2,5,6,7,40] [] (pc 2 (cb d (Ja b.1)) (pe 3 (show .b (!O)= .b K from rfl) (pt 7 e (pf 11 g (pf 16 k p0)))))<|zA (by rw[f,e,g,k]<;>kernel_rfl)
   have p:=Ut e;refine Ye (decide ((a:Y)>(0:Y))) (λm=>?_) (λm=>?_)
   ·have x:=uJ m;have r:=ng c ((a:Y)-1).toNat;exact rN [0,2,5,6,7,40] [] (pc 2 (cb d (Ja b.1)) (pe 3 (show .b (!O)= .b K from rfl) (pf 7 e (pt 16 m (pe 20 (Nn (IntWalk.i64_in ((a:Y)-1) (by omega))) (pg 21 ((a:Y)-1) r p0))))))<|zA (by rw[f,e,m]<;>kernel_rfl)
   exact rN [0,2,5,6,7,40] [] (pc 2 (cb d (Ja b.1)) (pe 3 (show .b (!O)= .b K from rfl) (pf 7 e (pf 16 m p0))))<|zA (by rw[f,e,m]<;>kernel_rfl)
  refine ck ((!(Q8 b.1))|| (bif (b.2 !=(1:Y)) then((b.2 !=(2:Y))|| (decide ((a:Y)>(0:Y))&&(!(Op.bytesLess ((nth c ((a:Y)-1).toNat).1).toList b.1.toList)))) else(decide ((a:Y)>(0:Y))&&(!(Op.bytesLess ((nth c ((a:Y)-1).toNat).1).toList b.1.toList))))) (λj=>?_) (λj=>?_)
  ·refine su [] [40] [] [] p0<|Qc ?_
   have n:(X5 (V7 c) Ha c 0 ())= .ret K:=Kc V (Qu j rfl) U;exact pb [] (Pe n)
  refine Qd<|rn [0,2,5,6,7] [] (pw 0 a p0) ?_
  exact xw _ (Qp V (Qh j rfl) U)
 ·exact sn [0,2,5,6,7,8] [] (pe 0 (zC ((a:Y)<(c.length:Y))) p0)<|Qa<|ckF<|Qv<|xw _ (Xo h rfl U)
 exact sn [2] [] (pl 1 c p0)<|Qc<|pb [] (Vz o rfl)
def K5(b:W Zt)(f:Xt)(c:Q)(a:Hk)(_:A):Rd (D) (A) (A):=(bif (bif decide ((c:Y)>(0:Y)) then((!(Op.bytesLess ((nth f.2.2.2.2 ((c:Y)-1).toNat).1).toList a.1.toList))|| (!(Jo b a.1 a.2))) else(!(Jo b a.1 a.2))) then(.ret K) else(.next ()))
def Uy(_:Q)(_:A):A:=()
def Y7(a:W Zt)(f:Xt):D:=(Out.on (X5 (K5 a f) Uy f.2.2.2.2 0 ()) (λ_=>((X6 f.1 1 60)&&((Wi f.2.1)&&((X6 f.2.2.2.1 0 60)&&(Jv a))))))
theorem Bb(e:W Zt)(f:Xt):ACalls vB 236 [.h e,.a [.i f.1,.i f.2.1,.b f.2.2.1,.i f.2.2.2.1,.h f.2.2.2.2]] (.b (Y7 e f)):=by
 refine en func236 λ_ _ _=>sn [0,3,4] [3] p0 ?_
 refine Qa<|tn [0,3,4,8,9,10] [3] (pl 2 f.2.2.2.2 p0)<|mz [(3,.p 3 0),(4,.b K),(8,.h f.2.2.2.2),(9,.i (f.2.2.2.2.length:Y)),(10,.i 0)] [1] [(3, [.i f.1,.i f.2.1,.b f.2.2.1,.i f.2.2.2.1,.h f.2.2.2.2])] []<|wT 8 0 .sh f.2.2.2.2 (λs t=>?_)
 refine S8 (K5 e f) Uy f.2.2.2.2 () (λa _=> [(10,.i (a:Y))]) [10] (λ_=> []) [8,9,10] wf0 (λa u j U=>?_) (λa u j U=>?_) (λx m=>?_)
 ·obtain⟨b,V⟩:=Xn (l:=f.2.2.2.2) (i:=a) j;refine su [(11,.b O)] [] [] [] (pe 0 (zB ((a:Y)<(f.2.2.2.2.length:Y))) p0)<|Qa<|ckT<|Qd<|Qa<|Qn<|sn [0,3,4,5,6,8,9,10] [3,6] (pn 1 V p0)<|Qa<|mz [(5,.i (a:Y)),(6,.p 6 0)] [11] [(6, [.s b.1,.i b.2.1,.i b.2.2.1,.s b.2.2.2])] []<|jn [(37,.b (bif decide ((a:Y)>(0:Y)) then((!(Op.bytesLess ((nth f.2.2.2.2 ((a:Y)-1).toNat).1).toList b.1.toList))|| (!(Jo e b.1 b.2))) else(!(Jo e b.1 b.2))))] [5,6] [] [6] (decide ((a:Y)>(0:Y))) (λh=>?_) (λh=>?_) ?_
  ·have v:=uJ h;refine Ye (!(Op.bytesLess ((nth f.2.2.2.2 ((a:Y)-1).toNat).1).toList b.1.toList)) (λk=>?_) (λk=>?_)
   ·have n:=ng f.2.2.2.2 ((a:Y)-1).toNat;exact rN [0,3,4,8,9,10,37] [3] (pt 1 h (pe 6 (Nn (IntWalk.i64_in ((a:Y)-1) (by omega))) (pg 7 ((a:Y)-1) n (pt 12 k p0))))<|zA (by rw[h,k]<;>kernel_rfl)
   have o:=ng f.2.2.2.2 ((a:Y)-1).toNat;exact rN [0,3,4,8,9,10,37] [3] (pt 1 h (pe 6 (Nn (IntWalk.i64_in ((a:Y)-1) (by omega))) (pg 7 ((a:Y)-1) o (pf 12 k (pc 20 (Pn e b.1 b.2) p0)))))<|zA (by rw[h,k]<;>kernel_rfl)
  ·exact rN [0,3,4,8,9,10,37] [3] (pf 1 h (pc 20 (Pn e b.1 b.2) p0))<|zA (by rw[h]<;>kernel_rfl)
  refine ck (bif decide ((a:Y)>(0:Y)) then((!(Op.bytesLess ((nth f.2.2.2.2 ((a:Y)-1).toNat).1).toList b.1.toList))|| (!(Jo e b.1 b.2))) else(!(Jo e b.1 b.2))) (λp=>?_) (λp=>?_)
  ·refine su [] [37] [] [] p0<|Qc ?_
   have q:(X5 (K5 e f) Uy f.2.2.2.2 0 ())= .ret K:=Kc V (Qu p rfl) U;exact pb [] (Pe q)
  refine Qd<|rn [0,3,4,8,9,10] [3] (pw 0 a p0) ?_
  exact xw _ (Qp V (Qh p rfl) U)
 ·exact su [(11,.b K)] [] [] [] (pe 0 (zC ((a:Y)<(f.2.2.2.2.length:Y))) p0)<|Qa<|ckF<|Qv<|xw _ (Xo j rfl U)
 refine Qa<|jn [(4,.b ((X6 f.1 1 60)&&((Wi f.2.1)&&((X6 f.2.2.2.1 0 60)&&(Jv e)))))] [0,3,4] [] [3] (X6 f.1 1 60) (λg=>?_) (λg=>?_) ?_
 ·have w:=V0.1 g;refine Ye (Wi f.2.1) (λc=>?_) (λc=>?_)
  ·refine Ye (X6 f.2.2.2.1 0 60) (λd=>?_) (λd=>?_)
   ·have r:=V0.1 d;exact rn [4] [] (pc 2 (cb g (Kt f.1 1 60)) (pc 6 (cb c (Ei f.2.1)) (pc 11 (cb d (Kt f.2.2.2.1 0 60)) (pc 15 (Dg e) p0))))<|zA (by rw[g,c,d]<;>kernel_rfl)
   exact rn [4] [] (pc 2 (cb g (Kt f.1 1 60)) (pc 6 (cb c (Ei f.2.1)) (pc 11 (cb d (Kt f.2.2.2.1 0 60)) p0)))<|zA (by rw[g,c,d]<;>kernel_rfl)
  exact rn [4] [] (pc 2 (cb g (Kt f.1 1 60)) (pc 6 (cb c (Ei f.2.1)) p0))<|zA (by rw[g,c]<;>kernel_rfl)
 ·exact rn [4] [] (pc 2 (cb g (Kt f.1 1 60)) p0)<|zA (by rw[g]<;>kernel_rfl)
 exact Qc<|pb [] (Vz m rfl)
def Jw(a:X2)(c:Q)(b:Xt)(_:A):Rd (D) (A) (A):=(bif ((!(Y7 a.1 b))|| (decide (b.1>=a.2.2)|| (decide ((c:Y)>(0:Y))&&decide ((nth a.2.1 ((c:Y)-1).toNat).1>=b.1)))) then(.ret K) else(.next ()))
def Wm(_:Q)(_:A):A:=()
def Qq(a:X2):D:=(Out.on (X5 (Jw a) Wm a.2.1 0 ()) (λ_=>((Jv a.1)&&(decide ((a.2.1.length:Y)<=(12:Y))&&(X6 a.2.2 1 61)))))
theorem K6(a:X2):ACalls vB 170 [.a [.h a.1,.h a.2.1,.i a.2.2]] (.b (Qq a)):=by
 refine en func170 λ_ _ _=>sn [1,2] [1] p0 ?_
 refine Qa<|tn [1,2,6,7,8] [1] (pl 2 a.2.1 p0)<|mz [(1,.p 1 0),(2,.b K),(6,.h a.2.1),(7,.i (a.2.1.length:Y)),(8,.i 0)] [0] [(1, [.h a.1,.h a.2.1,.i a.2.2])] []<|wT 6 0 .sh a.2.1 (λq r=>?_)
 refine S8 (Jw a) Wm a.2.1 () (λc _=> [(8,.i (c:Y))]) [8] (λ_=> []) [6,7,8] wf0 (λc s g U=>?_) (λc s g U=>?_) (λv m=>?_)
 ·obtain⟨b,V⟩:=Xn (l:=a.2.1) (i:=c) g;refine sn [1,2,6,7,8,9] [1] (pe 0 (zB ((c:Y)<(a.2.1.length:Y))) p0)<|Qa<|ckT<|Qd<|Qa<|Qn<|tn [1,2,3,4,6,7,8] [1,4] (pn 1 V p0)<|Qa<|mz [(3,.i (c:Y)),(4,.p 4 0)] [] [(4, [.i b.1,.i b.2.1,.b b.2.2.1,.i b.2.2.2.1,.h b.2.2.2.2])] []<|jn [(40,.b ((!(Y7 a.1 b))|| (decide (b.1>=a.2.2)|| (decide ((c:Y)>(0:Y))&&decide ((nth a.2.1 ((c:Y)-1).toNat).1>=b.1)))))] [3,4] [] [4] (!(Y7 a.1 b)) (λh=>?_) (λh=>?_) ?_
  ·have d:(Y7 a.1 b)=K:=Kj h;exact rN [1,2,6,7,8,40] [1] (pc 3 (cb d (Bb a.1 b)) (pe 4 (show .b (!K)= .b O from rfl) p0))<|zA (by rw[h]<;>kernel_rfl)
  ·have d:(Y7 a.1 b)=O:=Yu h;refine Ye (decide (b.1>=a.2.2)) (λf=>?_) (λf=>?_)
   ·exact rN [1,2,6,7,8,40] [1] (pc 3 (cb d (Bb a.1 b)) (pe 4 (show .b (!O)= .b K from rfl) (pt 10 f p0)))<|zA (by rw[h,f]<;>kernel_rfl)
   have t:=uW f;refine Ye (decide ((c:Y)>(0:Y))) (λk=>?_) (λk=>?_)
   ·have u:=uJ k;have n:=ng a.2.1 ((c:Y)-1).toNat;exact rN [1,2,6,7,8,40] [1] (pc 3 (cb d (Bb a.1 b)) (pe 4 (show .b (!O)= .b K from rfl) (pf 10 f (pt 14 k (pe 19 (Nn (IntWalk.i64_in ((c:Y)-1) (by omega))) (pg 20 ((c:Y)-1) n p0))))))<|zA (by rw[h,f,k]<;>kernel_rfl)
   exact rN [1,2,6,7,8,40] [1] (pc 3 (cb d (Bb a.1 b)) (pe 4 (show .b (!O)= .b K from rfl) (pf 10 f (pf 14 k p0))))<|zA (by rw[h,f,k]<;>kernel_rfl)
  refine ck ((!(Y7 a.1 b))|| (decide (b.1>=a.2.2)|| (decide ((c:Y)>(0:Y))&&decide ((nth a.2.1 ((c:Y)-1).toNat).1>=b.1)))) (λo=>?_) (λo=>?_)
  ·refine su [] [40] [] [] p0<|Qc ?_
   have p:(X5 (Jw a) Wm a.2.1 0 ())= .ret K:=Kc V (Qu o rfl) U;exact pb [] (Pe p)
  refine Qd<|rn [1,2,6,7,8] [1] (pw 0 c p0) ?_
  exact xw _ (Qp V (Qh o rfl) U)
 ·exact sn [1,2,6,7,8,9] [1] (pe 0 (zC ((c:Y)<(a.2.1.length:Y))) p0)<|Qa<|ckF<|Qv<|xw _ (Xo g rfl U)
 refine Qa<|jn [(2,.b ((Jv a.1)&&(decide ((a.2.1.length:Y)<=(12:Y))&&(X6 a.2.2 1 61))))] [1,2] [] [1] (Jv a.1) (λj=>?_) (λj=>?_) ?_
 ·refine Ye (decide ((a.2.1.length:Y)<=(12:Y))) (λe=>?_) (λe=>?_)
  ·exact rn [2] [] (pc 2 (cb j (Dg a.1)) (pl 6 a.2.1 (pt 7 e (pc 12 (Kt a.2.2 1 61) p0))))<|zA (by rw[j,e]<;>kernel_rfl)
  exact rn [2] [] (pc 2 (cb j (Dg a.1)) (pl 6 a.2.1 (pf 7 e p0)))<|zA (by rw[j,e]<;>kernel_rfl)
 ·exact rn [2] [] (pc 2 (cb j (Dg a.1)) p0)<|zA (by rw[j]<;>kernel_rfl)
 exact Qc<|pb [] (Vz m rfl)
def Nr(a:H)(_:Q)(b:Zt)(_:A):Rd (Y) (A) (A):=(bif (b.1.toList==a.toList) then(.ret b.2) else(.next ()))
def Ns(_:Q)(_:A):A:=()
def Ld(b:W Zt)(a:H):Y:=(Out.on (X5 (Nr a) Ns b 0 ()) (λ_=>0))
theorem FL(b:W Zt)(a:H):ACalls vB 297 [.h b,.s a] (.i (Ld b a)):=by
 refine en func297 λ_ _ _=>sn [0,1,4] [] p0 ?_
 refine Qa<|tn [0,1,4,5] [] p0<|mz [(4,.i 0),(5,.i 0)] [] [] []<|wT 0 0 .sh b (λj k=>?_)
 refine S8 (Nr a) Ns b () (λc _=> [(5,.i (c:Y))]) [5] (λ_=> []) [0,1,5] wf0 (λc m d U=>?_) (λc m d U=>?_) (λn e=>?_)
 ·obtain⟨f,V⟩:=Xn (l:=b) (i:=c) d;refine Qa<|sn [0,1,4,5,9] [] (pl 2 b (pe 3 (zB ((c:Y)<(b.length:Y))) p0))<|ckT<|Qd<|Qa<|Qn<|tn [0,1,4,5,18] [] (pn 2 V p0)<|ck (f.1.toList==a.toList) (λg=>?_) (λg=>?_)
  ·refine tu [(4,.i f.2)] [4] [] [] (pn 2 V p0)<|Qc ?_
   have h:(X5 (Nr a) Ns b 0 ())= .ret f.2:=Kc V (Qu g rfl) U;exact pi [] (Pe h)
  refine Qd<|qu [(5,.i ((c+1:Q):Y))] [5] [] [] (pw 1 c p0) ?_
  exact xw _ (Qp V (Qh g rfl) U)
 ·exact Qa<|sn [0,1,4,5,9] [] (pl 2 b (pe 3 (zC ((c:Y)<(b.length:Y))) p0))<|ckF<|Qv<|xw _ (Xo d rfl U)
 exact sn [4] [] p0<|Qc<|pi [] (Vz e rfl)
def V1(b:W Zt)(a:H)(v:Wx):D:=((Yk v)&&((v.1 !=(0:Y))&&(v.1==(Ld b a))))
theorem G6(c:W Zt)(a:H)(v:Wx):ACalls vB 261 [.h c,.s a,.a [.i v.1,.i v.2.1,.s v.2.2]] (.b (V1 c a v)):=by
 refine en func261 λ_ _ _=>sn [0,1,5,6] [5] p0 ?_
 refine Qa<|mz [(5,.p 5 0),(6,.b K)] [2] [(5, [.i v.1,.i v.2.1,.s v.2.2])] []<|jn [(6,.b ((Yk v)&&((v.1 !=(0:Y))&&(v.1==(Ld c a)))))] [0,1,5,6] [] [5] (Yk v) (λb=>?_) (λb=>?_) ?_
 ·refine Ye (v.1 !=(0:Y)) (λd=>?_) (λd=>?_)
  ·exact rN [6] [] (pc 1 (cb b (Z8 v)) (pt 5 d (pc 12 (FL c a) p0)))<|zA (by rw[b,d]<;>kernel_rfl)
  exact rN [6] [] (pc 1 (cb b (Z8 v)) (pf 5 d p0))<|zA (by rw[b,d]<;>kernel_rfl)
 ·exact rN [6] [] (pc 1 (cb b (Z8 v)) p0)<|zA (by rw[b]<;>kernel_rfl)
 exact Qc<|pb [] (show V1 c a v=((Yk v)&&((v.1 !=(0:Y))&&(v.1==(Ld c a)))) from rfl)
def Ap(c:W Zt)(b:Q)(a:Zt)(_:A):Rd (D) (A) (A):=(bif ((!(Yf a.1))|| ((!(Xd a.2 1 2))|| (decide ((b:Y)>(0:Y))&&(!(Op.bytesLess ((nth c ((b:Y)-1).toNat).1).toList a.1.toList))))) then(.ret K) else(.next ()))
def Cr(_:Q)(_:A):A:=()
def V2(a:W Zt):D:=(Out.on (X5 (Ap a) Cr a 0 ()) (λ_=>decide ((a.length:Y)<=(5:Y))))
theorem Un(b:W Zt):ACalls vB 203 [.h b] (.b (V2 b)):=by
 refine en func203 λ_ _ _=>sn [0,2] [] p0 ?_
 refine Qa<|tn [0,2,3] [] p0<|mz [(2,.b K),(3,.i 0)] [] [] []<|wT 0 0 .sh b (λu v=>?_)
 refine S8 (Ap b) Cr b () (λc _=> [(3,.i (c:Y))]) [3] (λ_=> []) [3] wf0 (λc w f U=>?_) (λc w f U=>?_) (λy p=>?_)
 ·obtain⟨a,V⟩:=Xn (l:=b) (i:=c) f;refine Qa<|sn [0,2,3,7] [] (pl 2 b (pe 3 (zB ((c:Y)<(b.length:Y))) p0))<|ckT<|Qd<|Qa<|Qn<|Qa<|mz [(7,.b O)] [] [] []<|jn [(43,.b ((!(Yf a.1))|| ((!(Xd a.2 1 2))|| (decide ((c:Y)>(0:Y))&&(!(Op.bytesLess ((nth b ((c:Y)-1).toNat).1).toList a.1.toList))))))] [7] [] [] (!(Yf a.1)) (λg=>?_) (λg=>?_) ?_
  ·have d:(Yf a.1)=K:=Kj g;exact rN [0,2,3,43] [] (pn 2 V (pc 5 (cb d (Zb a.1)) (pe 6 (show .b (!K)= .b O from rfl) p0)))<|zA (by rw[g]<;>kernel_rfl)
  ·have d:(Yf a.1)=O:=Yu g;refine Ye (!(Xd a.2 1 2)) (λj=>?_) (λj=>?_)
   ·have e:(Xd a.2 1 2)=K:=Kj j;exact rN [0,2,3,43] [] (pn 2 V (pc 5 (cb d (Zb a.1)) (pe 6 (show .b (!O)= .b K from rfl) (pn 10 V (pc 13 (cb e (Js a.2 1 2)) (pe 14 (show .b (!K)= .b O from rfl) p0))))))<|zA (by rw[g,j]<;>kernel_rfl)
   have e:(Xd a.2 1 2)=O:=Yu j;have t:=Bj.1 e;refine Ye (decide ((c:Y)>(0:Y))) (λk=>?_) (λk=>?_)
   ·have x:=uJ k;have q:=ng b ((c:Y)-1).toNat;exact rN [0,2,3,43] [] (pn 2 V (pc 5 (cb d (Zb a.1)) (pe 6 (show .b (!O)= .b K from rfl) (pn 10 V (pc 13 (cb e (Js a.2 1 2)) (pe 14 (show .b (!O)= .b K from rfl) (pt 18 k (pe 22 (Nn (IntWalk.i64_in ((c:Y)-1) (by omega))) (pg 23 ((c:Y)-1) q (pn 28 V p0))))))))))<|zA (by rw[g,j,k]<;>kernel_rfl)
   exact rN [0,2,3,43] [] (pn 2 V (pc 5 (cb d (Zb a.1)) (pe 6 (show .b (!O)= .b K from rfl) (pn 10 V (pc 13 (cb e (Js a.2 1 2)) (pe 14 (show .b (!O)= .b K from rfl) (pf 18 k p0)))))))<|zA (by rw[g,j,k]<;>kernel_rfl)
  refine ck ((!(Yf a.1))|| ((!(Xd a.2 1 2))|| (decide ((c:Y)>(0:Y))&&(!(Op.bytesLess ((nth b ((c:Y)-1).toNat).1).toList a.1.toList))))) (λn=>?_) (λn=>?_)
  ·refine sn [0,2,3] [] p0<|Qc ?_
   have r:(X5 (Ap b) Cr b 0 ())= .ret K:=Kc V (Qu n rfl) U;exact pb [] (Pe r)
  have s:(((!(Xd a.2 1 2))|| (decide ((c:Y)>(0:Y))&&(!(Op.bytesLess ((nth b ((c:Y)-1).toNat).1).toList a.1.toList)))))=K:=Rz n;have m:((!(Xd a.2 1 2)))=K:=Sl s;have h:(Xd a.2 1 2)=O:=Yu m;have o:=Bj.1 h;refine Qd<|rn [0,2,3] [] (pw 1 c p0) ?_
  exact xw _ (Qp V (Qh n rfl) U)
 ·exact Qa<|sn [0,2,3,7] [] (pl 2 b (pe 3 (zC ((c:Y)<(b.length:Y))) p0))<|ckF<|Qv<|xw _ (Xo f rfl U)
 exact sn [2] [] (pl 1 b p0)<|Qc<|pb [] (Vz p rfl)
def Wz(c:W Zt)(f:Xt)(b:Q)(a:Hk)(_:A):Rd (D) (A) (A):=(bif ((!(V1 c a.1 a.2))|| (decide ((b:Y)>(0:Y))&&(!(Op.bytesLess ((nth f.2.2.2.2 ((b:Y)-1).toNat).1).toList a.1.toList)))) then(.ret K) else(.next ()))
def H9(_:Q)(_:A):A:=()
def Yq(a:W Zt)(f:Xt):D:=(Out.on (X5 (Wz a f) H9 f.2.2.2.2 0 ()) (λ_=>((V2 a)&&((Xd f.1 1 60)&&((Xd f.2.1 0 2)&&(Xd f.2.2.2.1 0 60))))))
theorem Bc(a:W Zt)(f:Xt):ACalls vB 202 [.h a,.a [.i f.1,.i f.2.1,.b f.2.2.1,.i f.2.2.2.1,.h f.2.2.2.2]] (.b (Yq a f)):=by
 refine en func202 λ_ _ _=>sn [0,3,4] [3] p0 ?_
 refine Qa<|tn [0,3,4,5] [3] p0<|mz [(3,.p 3 0),(4,.b K),(5,.i 0)] [1] [(3, [.i f.1,.i f.2.1,.b f.2.2.1,.i f.2.2.2.1,.h f.2.2.2.2])] []<|wB 3 4 .sh f.2.2.2.2 (λs t=>?_)
 refine S8 (Wz a f) H9 f.2.2.2.2 () (λc _=> [(5,.i (c:Y))]) [5] (λ_=> []) [5] wf0 (λc u j U=>?_) (λc u j U=>?_) (λx n=>?_)
 ·obtain⟨b,V⟩:=Xn (l:=f.2.2.2.2) (i:=c) j;refine Qa<|sn [0,3,4,5,10] [3] (pl 3 f.2.2.2.2 (pe 4 (zB ((c:Y)<(f.2.2.2.2.length:Y))) p0))<|ckT<|Qd<|Qa<|Qn<|Qa<|mz [(10,.b O)] [] [] []<|jn [(47,.b ((!(V1 a b.1 b.2))|| (decide ((c:Y)>(0:Y))&&(!(Op.bytesLess ((nth f.2.2.2.2 ((c:Y)-1).toNat).1).toList b.1.toList)))))] [10] [] [] (!(V1 a b.1 b.2)) (λk=>?_) (λk=>?_) ?_
  ·have e:(V1 a b.1 b.2)=K:=Kj k;exact rN [0,3,4,5,47] [3] (pn 4 V (pn 10 V (pc 13 (cb e (G6 a b.1 b.2)) (pe 14 (show .b (!K)= .b O from rfl) p0))))<|zA (by rw[k]<;>kernel_rfl)
  ·have e:(V1 a b.1 b.2)=O:=Yu k;refine Ye (decide ((c:Y)>(0:Y))) (λm=>?_) (λm=>?_)
   ·have v:=uJ m;have o:=ng f.2.2.2.2 ((c:Y)-1).toNat;exact rN [0,3,4,5,47] [3] (pn 4 V (pn 10 V (pc 13 (cb e (G6 a b.1 b.2)) (pe 14 (show .b (!O)= .b K from rfl) (pt 17 m (pe 22 (Nn (IntWalk.i64_in ((c:Y)-1) (by omega))) (pg 23 ((c:Y)-1) o (pn 29 V p0))))))))<|zA (by rw[k,m]<;>kernel_rfl)
   exact rN [0,3,4,5,47] [3] (pn 4 V (pn 10 V (pc 13 (cb e (G6 a b.1 b.2)) (pe 14 (show .b (!O)= .b K from rfl) (pf 17 m p0)))))<|zA (by rw[k,m]<;>kernel_rfl)
  refine ck ((!(V1 a b.1 b.2))|| (decide ((c:Y)>(0:Y))&&(!(Op.bytesLess ((nth f.2.2.2.2 ((c:Y)-1).toNat).1).toList b.1.toList)))) (λp=>?_) (λp=>?_)
  ·refine su [] [47] [] [] p0<|Qc ?_
   have q:(X5 (Wz a f) H9 f.2.2.2.2 0 ())= .ret K:=Kc V (Qu p rfl) U;exact pb [] (Pe q)
  refine Qd<|rn [0,3,4,5] [3] (pw 1 c p0) ?_
  exact xw _ (Qp V (Qh p rfl) U)
 ·exact Qa<|sn [0,3,4,5,10] [3] (pl 3 f.2.2.2.2 (pe 4 (zC ((c:Y)<(f.2.2.2.2.length:Y))) p0))<|ckF<|Qv<|xw _ (Xo j rfl U)
 refine Qa<|jn [(4,.b ((V2 a)&&((Xd f.1 1 60)&&((Xd f.2.1 0 2)&&(Xd f.2.2.2.1 0 60)))))] [0,3,4] [] [3] (V2 a) (λg=>?_) (λg=>?_) ?_
 ·refine Ye (Xd f.1 1 60) (λh=>?_) (λh=>?_)
  ·have w:=Bj.1 h;refine Ye (Xd f.2.1 0 2) (λd=>?_) (λd=>?_)
   ·have r:=Bj.1 d;exact rn [4] [] (pc 1 (cb g (Un a)) (pc 5 (cb h (Js f.1 1 60)) (pc 10 (cb d (Js f.2.1 0 2)) (pc 15 (Js f.2.2.2.1 0 60) p0))))<|zA (by rw[g,h,d]<;>kernel_rfl)
   exact rn [4] [] (pc 1 (cb g (Un a)) (pc 5 (cb h (Js f.1 1 60)) (pc 10 (cb d (Js f.2.1 0 2)) p0)))<|zA (by rw[g,h,d]<;>kernel_rfl)
  exact rn [4] [] (pc 1 (cb g (Un a)) (pc 5 (cb h (Js f.1 1 60)) p0))<|zA (by rw[g,h]<;>kernel_rfl)
 ·exact rn [4] [] (pc 1 (cb g (Un a)) p0)<|zA (by rw[g]<;>kernel_rfl)
 exact Qc<|pb [] (Vz n rfl)
def Kk(a:X2)(c:Q)(b:Xt)(_:A):Rd (D) (A) (A):=(bif ((!(Yq a.1 b))|| (decide (b.1>=a.2.2)|| (decide ((c:Y)>(0:Y))&&decide ((nth a.2.1 ((c:Y)-1).toNat).1>=b.1)))) then(.ret K) else(.next ()))
def Hq(_:Q)(_:A):A:=()
def Xa(a:X2):D:=(Out.on (X5 (Kk a) Hq a.2.1 0 ()) (λ_=>((V2 a.1)&&(decide ((a.2.1.length:Y)<=(12:Y))&&(Xd a.2.2 1 61)))))
theorem Kf(a:X2):ACalls vB 140 [.a [.h a.1,.h a.2.1,.i a.2.2]] (.b (Xa a)):=by
 refine en func140 λ_ _ _=>sn [1,2] [1] p0 ?_
 refine Qa<|tn [1,2,3] [1] p0<|mz [(1,.p 1 0),(2,.b K),(3,.i 0)] [0] [(1, [.h a.1,.h a.2.1,.i a.2.2])] []<|wB 1 1 .sh a.2.1 (λq r=>?_)
 refine S8 (Kk a) Hq a.2.1 () (λb _=> [(3,.i (b:Y))]) [3] (λ_=> []) [3] wf0 (λb s g U=>?_) (λb s g U=>?_) (λv m=>?_)
 ·obtain⟨c,V⟩:=Xn (l:=a.2.1) (i:=b) g;refine Qa<|sn [1,2,3,8] [1] (pl 3 a.2.1 (pe 4 (zB ((b:Y)<(a.2.1.length:Y))) p0))<|ckT<|Qd<|Qa<|Qn<|Qa<|mz [(8,.b O)] [] [] []<|jn [(50,.b ((!(Yq a.1 c))|| (decide (c.1>=a.2.2)|| (decide ((b:Y)>(0:Y))&&decide ((nth a.2.1 ((b:Y)-1).toNat).1>=c.1)))))] [8] [] [] (!(Yq a.1 c)) (λh=>?_) (λh=>?_) ?_
  ·have d:(Yq a.1 c)=K:=Kj h;exact rN [1,2,3,50] [1] (pn 5 V (pc 7 (cb d (Bc a.1 c)) (pe 8 (show .b (!K)= .b O from rfl) p0)))<|zA (by rw[h]<;>kernel_rfl)
  ·have d:(Yq a.1 c)=O:=Yu h;refine Ye (decide (c.1>=a.2.2)) (λf=>?_) (λf=>?_)
   ·exact rN [1,2,3,50] [1] (pn 5 V (pc 7 (cb d (Bc a.1 c)) (pe 8 (show .b (!O)= .b K from rfl) (pn 13 V (pt 18 f p0)))))<|zA (by rw[h,f]<;>kernel_rfl)
   have t:=uW f;refine Ye (decide ((b:Y)>(0:Y))) (λk=>?_) (λk=>?_)
   ·have u:=uJ k;have n:=ng a.2.1 ((b:Y)-1).toNat;exact rN [1,2,3,50] [1] (pn 5 V (pc 7 (cb d (Bc a.1 c)) (pe 8 (show .b (!O)= .b K from rfl) (pn 13 V (pf 18 f (pt 22 k (pe 27 (Nn (IntWalk.i64_in ((b:Y)-1) (by omega))) (pg 28 ((b:Y)-1) n (pn 34 V p0)))))))))<|zA (by rw[h,f,k]<;>kernel_rfl)
   exact rN [1,2,3,50] [1] (pn 5 V (pc 7 (cb d (Bc a.1 c)) (pe 8 (show .b (!O)= .b K from rfl) (pn 13 V (pf 18 f (pf 22 k p0))))))<|zA (by rw[h,f,k]<;>kernel_rfl)
  refine ck ((!(Yq a.1 c))|| (decide (c.1>=a.2.2)|| (decide ((b:Y)>(0:Y))&&decide ((nth a.2.1 ((b:Y)-1).toNat).1>=c.1)))) (λo=>?_) (λo=>?_)
  ·refine su [] [50] [] [] p0<|Qc ?_
   have p:(X5 (Kk a) Hq a.2.1 0 ())= .ret K:=Kc V (Qu o rfl) U;exact pb [] (Pe p)
  refine Qd<|rn [1,2,3] [1] (pw 1 b p0) ?_
  exact xw _ (Qp V (Qh o rfl) U)
 ·exact Qa<|sn [1,2,3,8] [1] (pl 3 a.2.1 (pe 4 (zC ((b:Y)<(a.2.1.length:Y))) p0))<|ckF<|Qv<|xw _ (Xo g rfl U)
 refine Qa<|jn [(2,.b ((V2 a.1)&&(decide ((a.2.1.length:Y)<=(12:Y))&&(Xd a.2.2 1 61))))] [1,2] [] [1] (V2 a.1) (λj=>?_) (λj=>?_) ?_
 ·refine Ye (decide ((a.2.1.length:Y)<=(12:Y))) (λe=>?_) (λe=>?_)
  ·exact rn [2] [] (pc 2 (cb j (Un a.1)) (pl 6 a.2.1 (pt 7 e (pc 12 (Js a.2.2 1 61) p0))))<|zA (by rw[j,e]<;>kernel_rfl)
  exact rn [2] [] (pc 2 (cb j (Un a.1)) (pl 6 a.2.1 (pf 7 e p0)))<|zA (by rw[j,e]<;>kernel_rfl)
 ·exact rn [2] [] (pc 2 (cb j (Un a.1)) p0)<|zA (by rw[j]<;>kernel_rfl)
 exact Qc<|pb [] (Vz m rfl)
theorem Qul(s:W Zt)(n:H):Ld s n=Df s n:=rfl
theorem LE(s:W Zt)(n:H)(v:Wx):V1 s n v=Jo s n v:=by
 unfold V1 Jo;rw[Qlj,Qul]
theorem Qay(s:W Zt):V2 s=Jv s:=by
 unfold V2 Jv
 rw [Mw (f:=Ap s) (g:=V7 s) (e:=Cr) (e':=Ha) (λk a u=>by
  unfold Ap V7;rw[DB]
  have h:(!(Xd a.2 1 2))=((a.2 !=1)&&(a.2 !=2)):=by
   unfold Xd;rw[xA];simp;omega
  rw[h];generalize(!(Op.bytesLess ((nth s (zH (((k:Q):Y)-1))).1).toList a.1.toList))=x;cases Yf a.1<;>cases(a.2 !=(1:Y))<;>cases(a.2 !=(2:Y))<;>cases decide (((k:Q):Y)>(0:Y))<;>cases x<;>rfl) (λ_ _=>rfl)]
theorem FM(s:W Zt)(f:Xt):Yq s f=Y7 s f:=by
 unfold Yq Y7
 rw[Mw (f:=Wz s f) (g:=K5 s f) (e:=H9) (e':=Uy) (λk a u=>by
  unfold Wz K5;rw[LE];generalize(!(Op.bytesLess ((nth f.2.2.2.2 (zH (((k:Q):Y)-1))).1).toList a.1.toList))=x;cases Jo s a.1 a.2<;>cases decide (((k:Q):Y)>(0:Y))<;>cases x<;>rfl) (λ_ _=>rfl),Qay]
 congr 1
 funext y
 unfold Wi;simp only[←EZ];cases Jv s<;>cases X6 f.1 1 60<;>cases X6 f.2.1 0 2<;>cases X6 f.2.2.2.1 0 60<;>rfl
theorem D2(s:X2):Xa s=Qq s:=by
 unfold Xa Qq
 rw[Mw (f:=Kk s) (g:=Jw s) (e:=Hq) (e':=Wm) (λk a u=>by
  unfold Kk Jw;rw[FM]) (λ_ _=>rfl),Qay]
 rfl
theorem PX{n:H}(h:Q8 n=O):n.size=1:=by
 unfold Q8 at h;simp only[yH,uS] at h;omega
theorem Qwo{n:H}(h:Yf n=O):n.size=1:=PX ((DB n).trans h)
theorem HW{s:Y}{c:Y}(a:0<=s)(b:s<=65520)(d:0<=c)(e:c<=255):0<=xZ (uZ vA (uZ vA (33*s)+IntKind.i64.wrap c)) 65521/\xZ (uZ vA (uZ vA (33*s)+IntKind.i64.wrap c)) 65521<=65520:=by
 rw[IntWalk.i64_in (33*s) (by omega),IntWalk.i64_in c (by omega),IntWalk.i64_in (33*s+c) (by omega)];rw[Int.tmod_eq_emod_of_nonneg (by omega)];omega
theorem Qd4{s:Y}{c:Y}(a:0<=s)(b:s<=65520)(d:0<=c)(e:c<=255):0<=xZ (uZ vA (uZ vA (s*33)+IntKind.i64.wrap c)) 65521/\xZ (uZ vA (uZ vA (s*33)+IntKind.i64.wrap c)) 65521<=65520:=by
 rw[Int.mul_comm s 33];exact HW a b d e
theorem WG(s:H)(i:Y):0<=Kp s i/\Kp s i<=255:=by
 unfold Kp;have:=(s.data.toList.getD i.toNat 0).toNat_lt;omega
open GoD (rd own)
def inR(n lo a:Y):D:=decide (lo<=n)&&decide (n<=a)
theorem DH{n lo a:Y}(b:lo<=n)(c:n<=a):inR n lo a=O:=by simp[inR,b,c]
theorem Qwp{n lo a:Y}(h:¬lo<=n):inR n lo a=K:=by simp[inR,h]
theorem Qwq{n lo a:Y}(h:¬n<=a):inR n lo a=K:=by simp[inR,h]
theorem Qqa(w:uD)(n lo a:Y):Calls vB 181 #[.int .i64 n,.int .i64 lo,.int .i64 a] w (Ret w (.bool (inR n lo a))):=by
 by_cases b:lo<=n
 . by_cases c:n<=a
   . rw[DH b c];go_enter func181,ntmps181
     go_wp2
     go_ret
     exact⟨rfl,Below.refl _ _⟩
   rw[Qwq c];go_enter func181,ntmps181
   go_wp2
   go_ret
   exact⟨rfl,Below.refl _ _⟩
 rw[Qwp b];go_enter func181,ntmps181
 go_wp2
 go_ret
 exact⟨rfl,Below.refl _ _⟩
theorem PY(w:uD)(n lo a:Y)(r:D)(h:inR n lo a=r):Calls vB 181 #[.int .i64 n,.int .i64 lo,.int .i64 a] w (Ret w (.bool r)):=h▸Qqa w n lo a
end
section
open Go.RowKit
open GoD (rd own)
theorem Qqb(w:uD)(k:Q)(a:uM Obj):Below w.heap.size w (Go.Sort.grow (w.drewN k) a):=
 ⟨rfl,rfl,rfl,by rw[Go.Sort.size_grow];exact Nat.le_add_right _ _,λj b=>by
  unfold Go.Sort.grow;rw[yT,uB (by exact b)];rfl⟩
theorem Qqc(w:uD)(d:Q)(hd:d<10):Calls vB 143 #[.int .i64 d] w (Ret w (.int .u8 (48+(d:Y)))):=by
 have a:(d:Y)<10:=by omega
 have b:uZ vA (48+(d:Y))=48+(d:Y):=by rw[IntKind.wrap_i64];omega
 go_enter func143,ntmps143
 go_wp2
 go_ret
 exact⟨rfl,Below.refl _ _⟩
def tabOk (w : World) : Prop := Lib.TabIs Tryz.prog w "internal/strconv.uint64pow10" .u64 Lib.pow10Tab
theorem Qye : Tryz.prog.globalNamed "internal/strconv.uint64pow10" = some 0 := by kernel_rfl
theorem tabOk.keep{w w':uD}(h:tabOk w)(a:Below w.heap.size w w'):tabOk w':=Go.Joins.tab_stays Qye h a (Nat.le_refl _)
def Q6(n:Y):H:=⟨(Lib.itoa n).toArray⟩
theorem Po(w:uD)(n:Y)(b:I64 n)(c:tabOk w):Calls vB 107 #[.int .i64 n] w (Ret w (.string (Q6 n))):=by
 have a:=Sh.strconv_Itoa n b.1 b.2 w c;rw[show(⟨(Lib.itoa n).toArray⟩:H)=Q6 n from rfl] at a;generalize Q6 n=s at*;clear c b;go_enter func107,ntmps107
 go_wp2_with (go_at_call 173;refine a.mono ?_;rintro e w' ⟨rfl,k,d,rfl⟩;have hb:=Qqb w k d;generalize Go.Sort.grow (w.drewN k) d=f at*)
 go_ret
 exact⟨rfl,hb⟩
theorem Qd5:∀(k u:Q),u<10^(k+1)->(Lib.decDigits u).length<=k+1
 | 0,u,h=>by rw[Lib.decDigits,dif_pos (by simpa using h)];simp
 | k+1,u,h=>by
   rw[Lib.decDigits];split
   . simp
   have:=Qd5 k (u / 10) (by rw[Nat.pow_succ] at h;omega);simp only[yM,xP];omega
theorem Qaz{n:Y}(h:inR n 0 1000000000=O):(Q6 n).size<=10:=by
 unfold inR at h;simp only[yH,uQ] at h;have a:=Qd5 9 n.toNat (by omega);unfold Q6 Lib.itoa;rw[uG (by omega)];show(Lib.decDigits n.toNat).toArray.size<=10;simp only[zY];omega
theorem DI{n:Q}(h:¬n<10):Lib.decDigits n=Lib.decDigits (n / 10)++ [zR (48+n % 10)]:=by rw[Lib.decDigits,dif_neg h]
theorem XW{n:Q}(h:n<10):Lib.decDigits n= [zR (48+n)]:=by rw[Lib.decDigits,dif_pos h]
def KF(n:Q):W uC:=if n=0 then [] else Lib.decDigits n
theorem Ql4{n:Q}(h:n≠0)(t:W uC):KF (n / 10)++(zR (48+n % 10)::t)=KF n++t:=by
 unfold KF;rw[uG h];by_cases a:n<10
 . rw[uB (by omega),XW a,show n % 10=n by omega];rfl
 rw[uG (by omega),DI a];simp
theorem Qqd(d:Q)(hd:d<10)(s:H):(⟨#[zR (48+d)]⟩:H)++s=⟨(zR (48+d)::s.data.toList).toArray⟩:=by
 apply ByteArray.ext;rw[ByteArray.data_append];apply Array.toList_inj.1;simp
set_option maxRecDepth 20000 in
theorem FN(w:uD)(n:Y)(r:I64 n)(e:inR n 0 1000000000=O):Calls vB 85 #[.int .i64 n] w (Ret w (.string (Q6 n))):=by
 unfold inR at e;simp only[yH,uQ] at e;obtain⟨m,rfl⟩:∃m:Q,n=m:=⟨n.toNat,by omega⟩;have u:m<2000000000:=by omega
 clear e r
 have b:Q6 (m:Y)=⟨(Lib.decDigits m).toArray⟩:=by
  unfold Q6 Lib.itoa;rw[uG (by omega)];rfl
 generalize Q6 (m:Y)=f at*;have a:=Lib.hid b;clear b;by_cases q:m=0
 . subst q;have e:f=⟨#[48]⟩:=by rw[a.out,XW (by omega)];rfl
   subst e;clear a;go_enter func85,ntmps85
   go_wp2
   go_ret
   exact⟨rfl,Below.refl _ _⟩
 have v:¬((m:Y)=0):=by omega
 have x:¬((m:Y)<0):=by omega
 go_enter func85,ntmps85
 go_wp2
 go_loopw [0,4] (λi s y=>∃(k:Q) (t:H),k<2000000000/\i= .int .i64 k/\s= .string t/\t.size<=2000000000-k/\Below w.heap.size w y/\Hid (KF k++t.data.toList=Lib.decDigits m)) (λi _ _=>(intOf i).toNat)
 case atStart=>exact⟨m,⟨#[]⟩,u,rfl,rfl,by simp[ByteArray.size],Below.refl _ _,Lib.hid (by unfold KF;rw[uG q];simp)⟩
 case round=>
  obtain⟨k,t,hk,rfl,rfl,z,hB,hd⟩:=hrel;by_cases j:k=0
  . subst j
    have l:f=t:=by
     have o:=hd.out;unfold KF at o;rw[uB rfl,List.nil_append] at o;rw[a.out,←o]
    subst l;clear a hd;go_wp2
    go_ret
    exact⟨rfl,hB⟩
  have a1:¬((k:Y)=0):=by omega
  have c:k % 10<10:=Nat.mod_lt _ (by decide);have a2:¬((k:Y) % 10<0):=by omega
  have a3:∀g:uD,(convert 225 9 (.slice (uA ⟨g.heap.size,0,uF⟩) 1 1)).run vB (g.alloc (.cells #[.int .u8 (48+(k:Y) % 10)] 5))= .ok (.string ⟨#[zR (48+k % 10)]⟩) (g.alloc (.cells #[.int .u8 (48+(k:Y) % 10)] 5)):=λg=>by
   have h:=Lib.run_convert_whole (P:=vB) (g.alloc (.cells #[.int .u8 (48+(k:Y) % 10)] 5)) 225 5 9 underlying225 underlying5 underlying9 g.heap.size 0 ⟨#[zR (48+k % 10)]⟩ (λi hi=>by
    have p:i=0:=by have:i<1:=hi;omega
    subst p;have he:(48+(k:Y) % 10)=((zR (48+k % 10)).toNat:Y):=by rw[UInt8.toNat_ofNat'];omega
    show(g.alloc _).cell? ⟨g.heap.size,0+0,uF⟩=uA (.int .u8 ((zR (48+k % 10)).toNat:Y));rw[←he];simp[go_sem]) 1
   exact h
  go_wp2_with (go_at_call 143;have d:=(λw1=>Qqc w1 (k % 10) c);rw[show(((k % 10:Q)):Y)=(k:Y) % 10 by omega] at d;refine YP (w:=w) (d _) (by go_grown) ?_;clear d;intro g1 a4 hb a5 a6;clear hb)
  go_roundw
  case rel=>exact⟨k / 10,⟨#[zR (48+k % 10)]⟩++t,by omega,by first | rfl | go_num,by rw[UInt8.ofNat_add];rfl,by rw[ByteArray.size_append];have:(⟨#[zR (48+k % 10)]⟩:H).size=1:=rfl;omega,by go_grown,Lib.hid (by rw[Qqd _ c];show KF (k / 10)++(zR (48+k % 10)::t.data.toList)=_;rw[Ql4 j];exact hd.out)⟩
  case measure=>simp[intOf];omega
section
variable {P:uV}
theorem ZR{f:Q}(c:Iy P f){n:Y}{s:H}(i:s.size<=uL)(h:∀w,Good P w->I64 n->Calls P f #[.int .i64 n] w (Ret w (.string s))):ACalls P f [.i n] (.s s):=by
 refine⟨c,λw j F g p a=>?_⟩;cases a with
 | cons l m=>
   cases m
   obtain⟨rfl,o⟩:=l;refine(h w j ((XB n).1 o)).mono ?_
   rintro e w' ⟨rfl,hb⟩
   exact⟨_,λ_=> [],rfl,hb,λ_=>yO,λk b d=>by simp at d,λk q b d=>by simp at d,rfl,i⟩
end
theorem Vd{n:Y}(h:0<=n/\n<=1000000000):(Q6 n).size<=10:=Qaz (DH h.1 h.2)
theorem Bn(n:Y)(h:0<=n/\n<=1000000000):ACalls vB 107 [.i n] (.s (Q6 n)):=ZR (by unfold Iy;kernel_rfl) (by have:=Vd h;unfold uL;omega) λw a b=>Po w n b (a.tab _ Qye)
theorem H1(n:Y)(h:0<=n/\n<=1000000000):ACalls vB 85 [.i n] (.s (Q6 n)):=ZR (by unfold Iy;kernel_rfl) (by have:=Vd h;unfold uL;omega) λw _ a=>FN w n a (DH h.1 h.2)
end
section
open Go.RowKit
theorem Qd6{s c:Y}{k:Q}(d:0<=s)(e:s<10^k)(a:k<=9)(f:48<=c)(g:c<=57):
 uZ vA (uZ vA (uZ vA (10*s)+IntKind.i64.wrap c)-48)=10*s+(c-48)/\0<=10*s+(c-48)/\10*s+(c-48)<10^(k+1):=by
 have h:(10:Y)^k<=10^9:=by exact_mod_cast Nat.pow_le_pow_right (n:=10) (by decide) a
 have i:(10:Y)^9=1000000000:=by decide
 have b:(10:Y)^(k+1)=10*10^k:=by rw[Int.pow_succ];omega
 rw[IntWalk.i64_in (10*s) (by omega),IntWalk.i64_in c (by omega),IntWalk.i64_in (10*s+c) (by omega),IntWalk.i64_in _ (by omega),b];omega
theorem Qum{c:Y}(h:0<=c/\c<=255)(a:X6 (IntKind.i64.wrap c) 32 126=O):32<=c/\c<=126:=by
 rw[IntWalk.i64_in c (by omega)] at a;exact V0.1 a
theorem Qqe{s:H}(h:∀j:Q,j<s.size->Kp s (j:Y)<=126):∀(j:Q) (b:uC),s.data.toList[j]? =uA b->b.toNat<128:=λj b hb=>by
 have c:=(yI.1 hb).1;have d:s.data.toList.length=s.size:=xB;have a:=h j (by omega);unfold Kp at a;rw[zM,yF,hb] at a;simp only[Option.getD_some] at a;omega
def FO(c:uC):W uC->W (W uC)
 | []=> [[]]
 | b::l=>if b=c then []::FO c l else match FO c l with
   | []=> [[b]]
   | p::ps=>(b::p)::ps
theorem FP(c:uC):∀l:W uC,∃p ps,FO c l=p::ps
 | []=>⟨[], [],rfl⟩
 | b::l=>by
   obtain⟨p,ps,h⟩:=FP c l;simp only[FO,h];split
   . exact⟨_,_,rfl⟩
   exact⟨_,_,rfl⟩
theorem NS(c:uC):∀l:W uC,Lib.splitK [c] 0 (l.count c) l=FO c l
 | []=>rfl
 | b ::l=>by
   have d:=NS c l;by_cases h:b=c
   . subst h;rw[List.count_cons_self];have a:Lib.index (b::l) [b]=0:=by rw[Lib.index];simp[List.isPrefixOf]
     rw[Lib.splitK,a,FO,uB rfl,←d];rfl
   rw[List.count_cons_of_ne (by simpa using h),FO,uG h,←d];have g:([c]:W uC).isPrefixOf (b::l)=K:=by simp[List.isPrefixOf,xX h]
   have a:Lib.index (b::l) [c]=if Lib.index l [c]== -1 then-1 else Lib.index l [c]+1:=by rw[Lib.index,g];simp
   cases o:l.count c with
   | zero=>rfl
   | succ k=>
     have i:=Lib.index_ge l [c];simp only[Lib.splitK];by_cases f:Lib.index l [c]= -1
     . rw[a,f];rfl
     rw[a,uG (λe=>f (uS.1 e))];obtain⟨j,hj⟩:∃j:Q,Lib.index l [c]=j:=⟨(Lib.index l [c]).toNat,by omega⟩;rw[hj,uG (by simp;omega),uG (by simp)];have m:((j:Y)+1).toNat=j+1:=by omega
     have n:((j:Q):Y).toNat=j:=by omega
     simp only[m,n,xY,List.length_cons,List.length_nil];rfl
def Ej(l:W uC):H:=⟨l.toArray⟩
theorem A5(s:H):Ej s.data.toList=s:=by cases s;simp[Ej]
def Q7(c:uC)(s:H):W H:=(FO c s.data.toList).map Ej
theorem Qa0(c:uC)(s:H):Lib.splitB ⟨#[c]⟩ 0 (Lib.countB s ⟨#[c]⟩) s=Q7 c s:=by
 have h:=Lib.splitB_data ⟨#[c]⟩ 0 (Lib.countB s ⟨#[c]⟩) s;have e:Lib.countB s ⟨#[c]⟩=s.data.toList.count c:=Lib.count_one c s.data.toList;rw[e] at h⊢;rw[show(⟨#[c]⟩:H).data.toList= [c] from rfl,NS] at h;unfold Q7;rw[←h,List.map_map];rw[show(Ej ∘ λx:H=>x.data.toList)=id from funext A5,List.map_id]
theorem Qgh(c:uC):∀l:W uC,(FO c l).length<=l.length+1/\∀p,p∈FO c l->p.length<=l.length
 | []=>⟨zP _,λp hp=>by rw[zZ.1 hp];exact zP _⟩
 | b ::l=>by
   obtain⟨d,a⟩:=Qgh c l;obtain⟨p0,ps,h⟩:=FP c l;simp only[FO];split
   . refine⟨Nat.succ_le_succ d,λp hp=>?_⟩;rcases zO.1 hp with rfl | hp
     . exact xE _
     exact Nat.le_succ_of_le (a p hp)
   rw[h] at d a⊢;refine⟨Nat.le_succ_of_le d,λp hp=>?_⟩;rcases zO.1 hp with rfl | hp
   . exact Nat.succ_le_succ (a p0 (zL ..))
   exact Nat.le_succ_of_le (a p (zJ _ hp))
theorem YZ(c:uC)(s:H):(Q7 c s).length<=s.size+1/\∀x,x∈Q7 c s->x.size<=s.size:=by
 obtain⟨f,a⟩:=Qgh c s.data.toList;have e:s.data.toList.length=s.size:=xB;refine⟨by unfold Q7;rw[zK];omega,λx b=>?_⟩;obtain⟨p,d,rfl⟩:=zV.1 b;have:=a p d;show p.toArray.size<=_;rw[zY];omega
def Ya(a:H)(l:W H):H:=Ej (Lib.join (l.map (·.data.toList)) a.data.toList)
def W6(s:H):W H:=(Lib.fields s.data.toList).map Ej
theorem XX:∀(l cur:W uC),(Lib.fieldsGo cur l).length<=l.length+1/\∀p,p∈Lib.fieldsGo cur l->p.length<=cur.length+l.length
 | [],cur=>by
   unfold Lib.fieldsGo;split
   . exact⟨xE _,λp hp=>by simp at hp⟩
   exact⟨zP _,λp hp=>by rw[zZ.1 hp];simp⟩
 | b ::l,cur=>by
   obtain⟨d,a⟩:=XX l [];obtain⟨e,c⟩:=XX l (cur++ [b]);simp only[List.length_nil,zW,yM,xP] at a c;unfold Lib.fieldsGo;split
   . split
     . exact⟨by simp only[List.length_cons];omega,λp hp=>by have:=a p hp;simp only[List.length_cons];omega⟩
     refine⟨by simp only[List.length_cons];omega,λp hp=>?_⟩;rcases zO.1 hp with rfl | hp
     . omega
     have:=a p hp;simp only[List.length_cons];omega
   exact⟨by simp only[List.length_cons];omega,λp hp=>by have:=c p hp;simp only[List.length_cons];omega⟩
theorem WH(s:H):(W6 s).length<=s.size+1/\∀x,x∈W6 s->x.size<=s.size:=by
 obtain⟨d,a⟩:=XX s.data.toList [];have e:s.data.toList.length=s.size:=xB;refine⟨by unfold W6 Lib.fields;rw[zK];omega,λx b=>?_⟩;obtain⟨p,c,rfl⟩:=zV.1 b;have:=a p c;simp only[List.length_nil,zW] at this;show p.toArray.size<=_;rw[zY];omega
section
variable {P:uV}
theorem NT(w:uD)(F:Q->Prop):∀l:W H,(∀x,x∈l->x.size<=uL)->VR F w 1 (l.map Value.string) (eL l)
 | [],_=> .nil 1
 | a::l,h=>VR.cons (ce:= [.string a]) (.cons (.str (h a (zL ..))) .nil) rfl (NT w F l λx b=>h x (zJ _ b))
theorem Qa1{F:Q->Prop}{w:uD}{l:W H}{t:uU}(o:0<l.length)(e:l.length<=1073741824)(f:∀x,x∈l->x.size<=uL):
 Qo7 F w (.o 0 l) (.returned (.slice (uA ⟨w.heap.size,0,uF⟩) l.length l.length)) (w.alloc (.cells (l.map Value.string).toArray t)):=by
 have d:(w.alloc (.cells (l.map Value.string).toArray t)).heap[w.heap.size]? =uA (.cells (l.map Value.string).toArray t (0,0)):=Array.getElem?_push_size;have c:=Xy d;refine⟨_,λk=>if k=0 then [w.heap.size] else [],rfl,(Below.refl _ _).alloc (zP _) _,λk=>?_,λk b hb=>?_,λk g b hb a=>?_, ?_⟩
 . show(if k=0 then _ else _:W Q).Nodup;split<;>simp
 . have hb:b∈(if k=0 then [w.heap.size] else []:W Q):=hb;split at hb
   . obtain rfl:=zZ.1 hb;exact⟨zP _,c⟩
   simp at hb
 . have hb:b∈(if k=0 then [w.heap.size] else []:W Q):=hb;have a:b∈(if g=0 then [w.heap.size] else []:W Q):=a;split at hb<;>split at a
   . rename_i h i;rw[h,i]
   all_goals simp_all
 show OwnDeep (if 0=0 then [w.heap.size] else []) _ _ 1 (eL l);rw[uB rfl];refine .of ?_ (by simp);have j:=VR.orr (w':=w.alloc (.cells (l.map Value.string).toArray t)) (NT w F l f) (Ea l);have m:uL>=l.length:=by unfold uL;omega
 have:=OV.slc (w:=w.alloc (.cells (l.map Value.string).toArray t)) (n:=1) (cap:=l.length) (l:=eL l) (L:= []) d (by simp) (by rw[Zv,yE,xJ (by simp)];exact j) (by rw[Zv];exact zP _) ⟨m,by rw[Zv];exact e⟩
 rwa [Zv] at this
theorem Qa2{f:Q}(d:Iy P f){c:uC}{t:uU}{s:H}(o:s.size<=1073741000)
 (h:∀w,Good P w->Calls P f #[.string s,.string ⟨#[c]⟩] w λe w'=>e= .returned (.slice (uA ⟨w.heap.size,0,uF⟩) (Lib.countB s ⟨#[c]⟩+1) (Lib.countB s ⟨#[c]⟩+1))/\w'=w.alloc (.cells ((Lib.splitB ⟨#[c]⟩ 0 (Lib.countB s ⟨#[c]⟩) s).map Value.string).toArray t)):
 ACalls P f [.s s,.s ⟨#[c]⟩] (.o 0 (Q7 c s)):=by
 refine⟨d,λw j F i p b=>?_⟩;cases b with
 | cons k g=>
   cases g with
   | cons g l=>
     cases l
     obtain⟨rfl,_⟩:=k;obtain⟨rfl,_⟩:=g;refine(h w j).mono ?_
     rintro e w' ⟨rfl,rfl⟩
     obtain⟨q,m⟩:=YZ c s;have a:Lib.countB s ⟨#[c]⟩+1=(Q7 c s).length:=by rw[←Qa0,Lib.splitB_all ⟨#[c]⟩ (zP 1) 0 _ s rfl]
     rw[Qa0,a];exact Qa1 (by rw[←a];exact Nat.succ_pos _) (by omega) λx n=>by have:=m x n;unfold uL;omega
theorem PZ{f:Q}(g:Iy P f){t:uU}{s:H}(u:s.size<=1073741000)
 (h:∀w,Good P w->Calls P f #[.string s] w λe w'=>e= .returned (.slice (uA ⟨w.heap.size,0,uF⟩) (Lib.fields s.data.toList).length (Lib.fields s.data.toList).length)/\w'=w.alloc (.cells ((Lib.fields s.data.toList).map λl=>Value.string ⟨l.toArray⟩).toArray t)):
 ACalls P f [.s s] (.o 0 (W6 s)):=by
 refine⟨g,λw j F i v a=>?_⟩;cases a with
 | cons m n=>
   cases n
   obtain⟨rfl,_⟩:=m;refine(h w j).mono ?_
   rintro e w' ⟨rfl,rfl⟩
   obtain⟨y,o⟩:=WH s;have c:((Lib.fields s.data.toList).map λl=>Value.string ⟨l.toArray⟩)=(W6 s).map Value.string:=by unfold W6;rw[List.map_map];rfl
   have d:(Lib.fields s.data.toList).length=(W6 s).length:=by unfold W6;rw[zK]
   rw[c,d];by_cases p:0<(W6 s).length
   . exact Qa1 p (by omega) λx q=>by have:=o x q;unfold uL;omega
   have r:W6 s= []:=zQ (by omega);rw[r];refine⟨_,λ_=> [],rfl,(Below.refl _ _).alloc (zP _) _,λ_=>yO,λk b c=>by simp at c,λk z b c=>by simp at c, ?_⟩;exact⟨[],.emp _ 1,yO,(λb hb=>by simp at hb),.inl rfl⟩
theorem Qgi{X:Q->Prop}{w:uD}:∀{l:W H} {cs:W uK},VR X w 1 cs (eL l)->cs=l.map Value.string
 | [],cs,h=>by
   generalize b:eL ([]:W H)=r at h;cases h with
   | nil=>rfl
   | cons=>cases b
 | a :: l,cs,h=>by
   generalize b:eL (a::l)=r at h;cases h with
   | nil=>cases b
   | cons c i d=>
     rw[EQ] at b;obtain⟨rfl,rfl⟩: [PV.str a]=_/\eL l=_:=by simpa [GoE.enc] using b
     have e:=Qgi d;cases c with
     | cons f g=>
       cases g
       cases f with
       | str=>rw[e];rfl
theorem Qd7{f:Q}(i:Iy P f){a:H}{l:W H}(hp:(Ya a l).size<=1073741824)
 (h0:∀w oa cap,Good P w->Calls P f #[.slice oa 0 cap,.string a] w λe w'=>e= .returned (.string ⟨#[]⟩)/\w'=w)
 (h:∀w m o c,Good P w->(∀(j:Q) x,l[j]? =uA x->w.cell? ⟨m,o+j,uF⟩=uA (.string x))->m<w.heap.size->l.length<=140737488355328->l.length<=c->(Lib.join (l.map (·.data.toList)) a.data.toList).length<=140737488355328->Calls P f #[.slice (uA ⟨m,o,uF⟩) l.length c,.string a] w λe w'=>e= .returned (.string ⟨(Lib.join (l.map (·.data.toList)) a.data.toList).toArray⟩)/\Below w.heap.size w w'):
 ACalls P f [.h l,.s a] (.s (Ya a l)):=by
 refine⟨i,λw v F y hF d=>?_⟩;cases d with
 | cons g p=>
   cases p with
   | cons p h3=>
     cases h3
     obtain⟨rfl,_⟩:=p;have g:VV F w _ (.slc 1 (eL l)):=g;have r:(Ya a l).size<=uL:=by unfold uL;omega
     have key:∀{w':uD},Below w.heap.size w w'->Qo7 F w (.s (Ya a l)) (.returned (.string (Ya a l))) w':=λhb=>⟨_,λ_=> [],rfl,hb,λ_=>yO,λk b s=>by simp at s,λk k' b s=>by simp at s,rfl,r⟩
     generalize t:PV.slc 1 (eL l)=q at g;cases g with
     | int | bool | str | any | raw=>cases t
     | emp oa n z=>
       have hl:l= []:=by
        have:eL l= []:=(PV.slc.inj t).2;have:=uT zD this;rw[Zv] at this;exact zQ this
       subst hl;refine(h0 w oa _ v).mono ?_
       rintro e w' ⟨rfl,rfl⟩
       exact key (Below.refl _ _)
     | @slc b off cap n cs l1 hb z hr hle hcap=>
       obtain⟨rfl,rfl⟩:1=n/\eL l=l1:=PV.slc.inj t;have e:=Qgi hr;subst e;rw[Zv] at hle hcap⊢
       refine(h w b off cap v (λj x hj=>z j _ (by rw[xF,hj];rfl)) (hF b hb) (by have:=hcap.2;omega) hle (by
        have e:(Ya a l).size=(Lib.join (l.map (·.data.toList)) a.data.toList).length:=zY;omega)).mono ?_
       rintro e w' ⟨rfl,u⟩
       exact key u
end
end
section
open Go.RowKit
theorem Qy6 : Tryz.prog.globalNamed "internal/bytealg.MaxLen" = some 1 := by kernel_rfl
theorem Qy7 : Tryz.prog.globalNamed "strings.asciiSpace" = some 8 := by kernel_rfl
theorem ZT(s:H)(c:uC)(a:s.size<=1073741000):ACalls vB 248 [.s s,.s ⟨#[c]⟩] (.o 0 (Q7 c s)):=
 Qa2 (by unfold Iy;kernel_rfl) a λw b=>by
  obtain⟨m,d⟩:=b.mx _ Qy6;exact Sh.strings_Split s ⟨#[c]⟩ m w (by omega) d (zP 1)
theorem FQ(s:H)(a:s.size<=1073741000)(c:∀(j:Q) b,s.data.toList[j]? =uA b->b.toNat<128):ACalls vB 399 [.s s] (.o 0 (W6 s)):=
 PZ (by unfold Iy;kernel_rfl) a λw d=>Sh.strings_Fields s w (by omega) c (d.sp _ Qy7)
theorem Av(l:W H)(a:H)(d:(Ya a l).size<=1073741824):ACalls vB 175 [.h l,.s a] (.s (Ya a l)):=
 Qd7 (by unfold Iy;kernel_rfl) d (λw oa cap _=>Sh.strings_Join_none oa cap a w) λw e o c _ f hb g b h=>Sh.strings_Join e o c l a w f hb g b h
open GoD (rd own)
instance instGoDU8:GoD uC where
 n:=1
 rd _ cs a:=cs= [.int .u8 (a.toNat:Y)]
 own L _ cs a:=L= []/\cs= [.int .u8 (a.toNat:Y)]
 size _:=0
 mark a k:=(a,k+1)
 markT a k:=(a,k)
 rd_len h:=by rw[h];rfl
 rd_same h _:=h
 own_same h _:=h
 own_rd h:=h.2
 own_lt h:=by rw[h.1];simp
 own_nd h:=by rw[h.1];simp
 deq:=inferInstance
 mk_le _ k:=Nat.le_succ k
 mkT_le _ k:=zP k
 lv:=1
 lvm:=0
 mk_bd _ k:=by simp
 mkT_bd _ k:=by simp
theorem Opens.u8{P:uV}{t:uU}(a:P.underlying t=uA (.int .u8))(b:P.cellsOf t=1):Opens P t uC:=by
 refine⟨b,Nat.zero_lt_one,λh=>?_⟩;obtain⟨n,rfl,_,hw⟩:=DataW.trod_int a h;simp only[Lit.wf,yH,uQ] at hw;have c:0<=n:=hw.1;have d:n<=255:=hw.2;refine⟨zR n.toNat, ?_⟩;show [Value.int .u8 n]= [Value.int .u8 ((zR n.toNat).toNat:Y)];have e:((zR n.toNat).toNat:Y)=n:=by rw[UInt8.toNat_ofNat'];omega
 rw[e]
end
section
open Go.RowKit
open GoD (rd own)
theorem Qsf(a:uC):InR .u8 (a.toNat:Y):=by
 have h:a.toNat<256:=a.toNat_lt;constructor<;>simp[IntKind.min,IntKind.max,IntKind.bits,IntKind.signed]<;>omega
instance instGoEU8:GoE uC where
 enc a:= [.int .u8 (a.toNat:Y)]
 no_any h:=by rw[zZ.1 h];simp
 enc_len _:=rfl
 n_pos:=Nat.zero_lt_one
 wide _:=True
 wide_size _:=trivial
 vc_wide _:=trivial
 rd_vc {w cs a} h _:=by rw[show cs=_ from h];exact .cons (.int (Qsf a)) .nil
 vc_rd h:=by
  cases h with
  | cons b c=>cases c;cases b;rfl
 own_oc h _:=by obtain⟨rfl,h⟩:=h;rw[h];exact OC.cons (L1:= []) (L2:= []) (.int (Qsf _)) .nil
 oc_own h _:=by
  cases h with
  | cons b c=>cases c;cases b;exact⟨rfl,rfl⟩
open GoE (enc wide)
def R3(a:H)(_:Q)(b:Hk)(_:A):Rd (Wx) (A) (A):=(bif (b.1.toList==a.toList) then(.ret b.2) else(.next ()))
def R4(_:Q)(_:A):A:=()
def X7(f:Xt)(a:H):Wx:=(Out.on (X5 (R3 a) R4 f.2.2.2.2 0 ()) (λ_=>(0,0,⟨#[]⟩)))
theorem Le(f:Xt)(a:H):ACalls vB 345 [.a [.i f.1,.i f.2.1,.b f.2.2.1,.i f.2.2.2.1,.h f.2.2.2.2],.s a] (.a [.i ((X7 f a).1),.i ((X7 f a).2.1),.s ((X7 f a).2.2)]):=by
 refine en func345 λ_ _ _=>sn [1,2,4] [2,4] p0 ?_
 refine Qa<|tn [1,4,8,9,10] [4] (pl 2 f.2.2.2.2 p0)<|mz [(4,.p 4 0),(8,.h f.2.2.2.2),(9,.i (f.2.2.2.2.length:Y)),(10,.i 0)] [0] [(4, [.i 0,.i 0,.s ⟨#[]⟩])] []<|wT 8 0 .sh f.2.2.2.2 (λj k=>?_)
 refine S8 (R3 a) R4 f.2.2.2.2 () (λb _=> [(10,.i (b:Y))]) [10] (λ_=> []) [1,8,9,10] wf0 (λb m c U=>?_) (λb m c U=>?_) (λn e=>?_)
 ·obtain⟨d,V⟩:=Xn (l:=f.2.2.2.2) (i:=b) c;refine su [(11,.b O)] [] [] [] (pe 0 (zB ((b:Y)<(f.2.2.2.2.length:Y))) p0)<|Qa<|ckT<|Qd<|Qa<|Qn<|sn [1,4,6,8,9,10] [4,6] (pn 0 V p0)<|tn [1,4,6,8,9,10,17] [4,6] p0<|ck (d.1.toList==a.toList) (λg=>?_) (λg=>?_)
  ·refine tu [] [11] [(4, [.i d.2.1,.i d.2.2.1,.s d.2.2.2])] [4] p0<|Qc ?_
   have h:(X5 (R3 a) R4 f.2.2.2.2 0 ())= .ret d.2:=Kc V (Qu g rfl) U;exact pz [] (show X7 f a=_ from Pe h) (λz=> .a [.i z.1,.i z.2.1,.s z.2.2])
  refine Qd<|qu [(10,.i ((b+1:Q):Y))] [10,11] [] [] (pw 0 b p0) ?_
  exact xw _ (Qp V (Qh g rfl) U)
 ·exact sn [1,4,8,9,10,11] [4] (pe 0 (zC ((b:Y)<(f.2.2.2.2.length:Y))) p0)<|Qa<|ckF<|Qv<|xw _ (Xo c rfl U)
 exact sn [4] [4] p0<|Qc<|pz [] (show X7 f a=_ from Vz e rfl) (λz=> .a [.i z.1,.i z.2.1,.s z.2.2])
def Ah(f:Xt)(a:H):Y×D:=(bif ((X7 f a).1 !=(1:Y)) then(0,K) else((X7 f a).2.1,O))
theorem RA(f:Xt)(a:H):ACalls vB 378 [.a [.i f.1,.i f.2.1,.b f.2.2.1,.i f.2.2.2.1,.h f.2.2.2.2],.s a] (.tup [(K, [.i (((Ah f a)).1)]),(K, [.b (((Ah f a)).2)])]):=by
 refine en func378 λ_ _ _=>sn [1,2,4,5] [2] p0 ?_
 refine tn [4,5,6] [6] (pc 2 (Le f a) p0)<|Qa<|tu [(4,.i 0),(5,.b K),(6,.p 6 0),(12,.b ((X7 f a).1 !=(1:Y)))] [0,1] [(6, [.i ((X7 f a).1),.i ((X7 f a).2.1),.s ((X7 f a).2.2)])] [] p0<|ck ((X7 f a).1 !=(1:Y)) (λb=>?_) (λb=>?_)
 ·exact su [] [12] [] [] p0<|Qc<|pz [] (show Ah f a=_ from Qu b rfl) (λz=> .tup [(K, [.i z.1]),(K, [.b z.2])])
 exact Qd<|sn [4,5] [] p0<|Qc<|pz [] (show Ah f a=_ from Qh b rfl) (λz=> .tup [(K, [.i z.1]),(K, [.b z.2])])
def B2(a:H)(_:Q)(b:Qi)(_:A):Rd (W Y) (A) (A):=(bif (b.1.toList==a.toList) then(.ret b.2) else(.next ()))
def Dm(_:Q)(_:A):A:=()
def X8(r:W Qi)(a:H):(W Y):=(Out.on (X5 (B2 a) Dm r 0 ()) (λ_=> []))
theorem Lf(r:W Qi)(a:H):ACalls vB 169 [.h r,.s a] (.o 0 (X8 r a)):=by
 refine en func169 λ_ _ _=>sn [0,1,4] [] p0 ?_
 refine Qa<|tn [1,4,7,8,9] [] (pl 1 r p0)<|mz [(4,.e 0),(7,.h r),(8,.i (r.length:Y)),(9,.i 0)] [0] [] []<|wT 7 0 .sh r (λh j=>?_)
 refine S8 (B2 a) Dm r () (λb _=> [(9,.i (b:Y))]) [9] (λ_=> []) [1,7,8,9] wf0 (λb k c U=>?_) (λb k c U=>?_) (λm e=>?_)
 ·obtain⟨d,V⟩:=Xn (l:=r) (i:=b) c;refine sn [1,4,7,8,9,10] [] (pe 0 (zB ((b:Y)<(r.length:Y))) p0)<|Qa<|ckT<|Qd<|Qa<|Qn<|tn [1,4,6,7,8,9] [6] (pn 0 V p0)<|tu [(6,.p 6 0),(16,.b (d.1.toList==a.toList))] [] [(6, [.s d.1,.h d.2])] [] p0<|ck (d.1.toList==a.toList) (λf=>?_) (λf=>?_)
  ·refine sn [1,4,7,8,9] [] (pc 2 (HO d.2) p0)<|Qc ?_
   have g:(X5 (B2 a) Dm r 0 ())= .ret d.2:=Kc V (Qu f rfl) U;exact po0 [] (Pe g)
  refine Qd<|rn [1,4,7,8,9] [] (pw 0 b p0) ?_
  exact xw _ (Qp V (Qh f rfl) U)
 ·exact sn [1,4,7,8,9,10] [] (pe 0 (zC ((b:Y)<(r.length:Y))) p0)<|Qa<|ckF<|Qv<|xw _ (Xo c rfl U)
 refine sn [4] [] p0<|opn [(K,4,0,O,104,1)] ?_
 exact Qc<|po0 [] (Vz e rfl)
def We(v:Y)(a:Q)(b:Y)(_:A):Rd (Y) (A) (A):=(bif (v==b) then(.ret (a:Y)) else(.next ()))
def Aa(_:Q)(_:A):A:=()
def Ek(a:W Y)(v:Y):Y:=(Out.on (X5 (We v) Aa a 0 ()) (λ_=> -1))
theorem HX(a:W Y)(v:Y):ACalls vB 320 [.h a,.i v] (.i (Ek a v)):=by
 refine en func320 λ_ _ _=>sn [0,1,4] [] p0 ?_
 refine Qa<|tn [0,1,4,7,8] [] (pl 1 a p0)<|mz [(4,.i 0),(7,.i (a.length:Y)),(8,.i 0)] [] [] []<|wT 0 0 .sh a (λh j=>?_)
 refine S8 (We v) Aa a () (λb _=> [(8,.i (b:Y))]) [8] (λ_=> []) [0,1,7,8] wf0 (λb k c U=>?_) (λb k c U=>?_) (λm d=>?_)
 ·obtain⟨g,V⟩:=Xn (l:=a) (i:=b) c;refine sn [0,1,4,7,8,9] [] (pe 0 (zB ((b:Y)<(a.length:Y))) p0)<|Qa<|ckT<|Qd<|Qa<|Qn<|tn [0,1,4,5,7,8] [] p0<|tu [(5,.i (b:Y)),(16,.b (v==g))] [] [] [] (pn 3 V p0)<|ck (v==g) (λe=>?_) (λe=>?_)
  ·refine sn [0,1,4,7,8] [] p0<|Qc ?_
   have f:(X5 (We v) Aa a 0 ())= .ret (b:Y):=Kc V (Qu e rfl) U;exact pi [] (Pe f)
  refine Qd<|rn [0,1,4,7,8] [] (pw 0 b p0) ?_
  exact xw _ (Qp V (Qh e rfl) U)
 ·exact sn [0,1,4,7,8,9] [] (pe 0 (zC ((b:Y)<(a.length:Y))) p0)<|Qa<|ckF<|Qv<|xw _ (Xo c rfl U)
 exact sn [4] [] p0<|Qc<|pi [] (Vz d rfl)
def W0(a:W Y)(v:Y):D:=decide ((Ek a v)>=(0:Y))
theorem N3(a:W Y)(v:Y):ACalls vB 282 [.h a,.i v] (.b (W0 a v)):=by
 refine en func282 λ_ _ _=>sn [0,1,4] [] p0 ?_
 exact tn [4] [] (pc 2 (HX a v) p0)<|Qc<|pb [] (show W0 a v=decide ((Ek a v)>=(0:Y)) from rfl)
def Hx(a:W Y)(b:Y):D:=(W0 a b)
theorem QB(a:W Y)(b:Y):ACalls vB 379 [.h a,.i b] (.b (Hx a b)):=by
 refine en func379 λ_ _ _=>sn [0,1,4] [] p0 ?_
 exact tn [4] [] (pc 2 (N3 a b) p0)<|Qc<|pb [] (show Hx a b=(W0 a b) from rfl)
def Z2(n_:Q)(q:W Q0)(a:Y)(f:Xt)(r:W Qi):D:=match n_ with
 | 0=>default
 | n_+1=>(bif ((qa q a).1==(2:Y)) then((X7 f ((qa q a).2.2.2.1)).1 !=(0:Y)) else(bif ((qa q a).1==(3:Y)) then(((X7 f ((qa q a).2.2.2.1)).1==(qa q a).2.2.2.2.1)&&(((X7 f ((qa q a).2.2.2.1)).2.1==(qa q a).2.2.2.2.2.1)&&((((X7 f ((qa q a).2.2.2.1)).2.2).toList==((qa q a).2.2.2.2.2.2).toList)&&O))) else(bif ((qa q a).1==(4:Y)) then(((Ah f ((qa q a).2.2.2.1))).2&&decide (((Ah f ((qa q a).2.2.2.1))).1<(qa q a).2.2.2.2.2.1)) else(bif ((qa q a).1==(5:Y)) then(!(Z2 n_ q ((qa q a).2.1) f r)) else(bif ((qa q a).1==(6:Y)) then((Z2 n_ q ((qa q a).2.1) f r)&&(Z2 n_ q ((qa q a).2.2.1) f r)) else(bif ((qa q a).1==(7:Y)) then((Z2 n_ q ((qa q a).2.1) f r)|| (Z2 n_ q ((qa q a).2.2.1) f r)) else(bif ((qa q a).1==(8:Y)) then(Hx (X8 r ((qa q a).2.2.2.1)) f.1) else(bif ((qa q a).1==(9:Y)) then((f.2.2.2.1 !=(0:Y))&&(Hx (X8 r ((qa q a).2.2.2.1)) f.2.2.2.1)) else O))))))))
theorem FR:∀(h:Q) (q:W Q0) (a:Y) (f:Xt) (r:W Qi) (c:Qm q=O) (ha:0<=a) (hb:a<(q.length:Y)) (x:a<((h:Q):Y)),ACalls vB 343 [.h q,.i a,.a [.i f.1,.i f.2.1,.b f.2.2.1,.i f.2.2.2.1,.h f.2.2.2.2],.h r] (.b (Z2 h q a f r)):=by
 intro h
 induction h with
 | zero=>intro q a f r c ha hb x;exact(by omega:False).elim
 | succ h p=>
  intro q a f r c ha hb x
  refine en func343 λ_ _ _=>sn [0,1,3,6,8] [6] p0 ?_
  refine wT 0 0 .sh q (λz a1=>?_);have u:=ng q a.toNat;refine tn [0,3,6,8,9] [6,9] (pg 2 a u p0)<|Qa<|tu [(6,.p 6 0),(8,.b K),(9,.p 9 0),(17,.i ((qa q a).1))] [1,2] [(6, [.i f.1,.i f.2.1,.b f.2.2.1,.i f.2.2.2.1,.h f.2.2.2.2]),(9, [.i ((qa q a).1),.i ((qa q a).2.1),.i ((qa q a).2.2.1),.s ((qa q a).2.2.2.1),.i ((qa q a).2.2.2.2.1),.i ((qa q a).2.2.2.2.2.1),.s ((qa q a).2.2.2.2.2.2)])] [] p0<|Qn<|sn [0,3,6,8,9,17,18] [6,9] p0<|ck ((qa q a).1==(2:Y)) (λi=>?_) (λi=>?_)
  ·exact tn [8] [] (pc 3 (Le f ((qa q a).2.2.2.1)) p0)<|Qc<|pb [] (Qu i rfl)
  have a2:=Yt i;refine tn [0,3,6,8,9,17,26] [6,9] p0<|ck ((qa q a).1==(3:Y)) (λm=>?_) (λm=>?_)
  ·exact tU [(8,.b (((X7 f ((qa q a).2.2.2.1)).1==(qa q a).2.2.2.2.1)&&(((X7 f ((qa q a).2.2.2.1)).2.1==(qa q a).2.2.2.2.2.1)&&((((X7 f ((qa q a).2.2.2.1)).2.2).toList==((qa q a).2.2.2.2.2.2).toList)&&O))))] [0,3,6,8,9,17] [] [6,9] (pc 3 (Le f ((qa q a).2.2.2.1)) p0)<|Qc<|pb [] (Qh i (Qu m rfl))
  have a3:=Yt m;refine tu [(35,.b ((qa q a).1==(4:Y)))] [] [] [] p0<|ck ((qa q a).1==(4:Y)) (λn=>?_) (λn=>?_)
  ·refine sn [8,9,10,11] [9] (pc 3 (RA f ((qa q a).2.2.2.1)) p0)<|Qa<|mz [(10,.i (((Ah f ((qa q a).2.2.2.1))).1)),(11,.b (((Ah f ((qa q a).2.2.2.1))).2))] [0,3,6,17,35] [] [6]<|jn [(8,.b (((Ah f ((qa q a).2.2.2.1))).2&&decide (((Ah f ((qa q a).2.2.2.1))).1<(qa q a).2.2.2.2.2.1)))] [8,9,10,11] [] [9] (((Ah f ((qa q a).2.2.2.1))).2) (λt=>?_) (λt=>?_) ?_
   ·exact rn [8] [] (pt 0 t p0)<|zA (by rw[t]<;>kernel_rfl)
   ·exact rn [8] [] (pf 0 t p0)<|zA (by rw[t]<;>kernel_rfl)
   exact Qc<|pb [] (Qh i (Qh m (Qu n rfl)))
  have a4:=Yt n;refine sn [0,3,6,8,9,17,52] [6,9] p0<|ck ((qa q a).1==(5:Y)) (λg=>?_) (λg=>?_)
  ·have v:=eq_of_beq g;exact tn [8] [] (pc 5 (p q ((qa q a).2.1) f r c (by have d:=SX c ha hb g;omega) (by have d:=SX c ha hb g;omega) (by have d:=SX c ha hb g;omega)) p0)<|Qc<|pb [] (Qh i (Qh m (Qh n (Qu g rfl))))
  have v:=Yt g;refine tn [0,3,6,8,9,17,61] [6,9] p0<|ck ((qa q a).1==(6:Y)) (λe=>?_) (λe=>?_)
  ·have w:=eq_of_beq e;refine Qa<|mz [(61,.b ((qa q a).1==(6:Y)))] [35] [] []<|jn [(8,.b ((Z2 h q ((qa q a).2.1) f r)&&(Z2 h q ((qa q a).2.2.1) f r)))] [0,3,6,8,9,17,61] [] [6,9] (Z2 h q ((qa q a).2.1) f r) (λj=>?_) (λj=>?_) ?_
   ·refine rn [8] [] (pc 5 (cb j (p q ((qa q a).2.1) f r c (by have d:=DC c ha hb e;omega) (by have d:=DC c ha hb e;omega) (by have d:=DC c ha hb e;omega))) (pc 12 (p q ((qa q a).2.2.1) f r c (by have d:=SY c ha hb e;omega) (by have d:=SY c ha hb e;omega) (by have d:=SY c ha hb e;omega)) p0)) ?_;exact zA (by rw[j]<;>kernel_rfl)
   ·refine rn [8] [] (pc 5 (cb j (p q ((qa q a).2.1) f r c (by have d:=DC c ha hb e;omega) (by have d:=DC c ha hb e;omega) (by have d:=DC c ha hb e;omega))) p0) ?_;exact zA (by rw[j]<;>kernel_rfl)
   exact Qc<|pb [] (Qh i (Qh m (Qh n (Qh g (Qu e rfl)))))
  have w:=Yt e;refine tu [(77,.b ((qa q a).1==(7:Y)))] [35] [] [] p0<|ck ((qa q a).1==(7:Y)) (λb=>?_) (λb=>?_)
  ·have y:=eq_of_beq b;refine Qa<|jn [(8,.b ((Z2 h q ((qa q a).2.1) f r)|| (Z2 h q ((qa q a).2.2.1) f r)))] [0,3,6,8,9,17,77] [] [6,9] (Z2 h q ((qa q a).2.1) f r) (λk=>?_) (λk=>?_) ?_
   ·refine rn [8] [] (pc 5 (cb k (p q ((qa q a).2.1) f r c (by have d:=FA c ha hb b;omega) (by have d:=FA c ha hb b;omega) (by have d:=FA c ha hb b;omega))) p0) ?_;exact zA (by rw[k]<;>kernel_rfl)
   ·refine rn [8] [] (pc 5 (cb k (p q ((qa q a).2.1) f r c (by have d:=FA c ha hb b;omega) (by have d:=FA c ha hb b;omega) (by have d:=FA c ha hb b;omega))) (pc 12 (p q ((qa q a).2.2.1) f r c (by have d:=Qal c ha hb b;omega) (by have d:=Qal c ha hb b;omega) (by have d:=Qal c ha hb b;omega)) p0)) ?_;exact zA (by rw[k]<;>kernel_rfl)
   exact Qc<|pb [] (Qh i (Qh m (Qh n (Qh g (Qh e (Qu b rfl))))))
  refine sn [3,6,8,9,17,93] [6,9] p0<|ck ((qa q a).1==(8:Y)) (λo=>?_) (λo=>?_)
  ·exact tN [8] [] (pc 3 (Lf r ((qa q a).2.2.2.1)) (pc 6 (QB (X8 r ((qa q a).2.2.2.1)) f.1) p0))<|Qc<|pb [] (Qh i (Qh m (Qh n (Qh g (Qh e (Qh b (Qu o rfl)))))))
  refine tn [3,6,8,9,102] [6,9] p0<|ck ((qa q a).1==(9:Y)) (λs=>?_) (λs=>?_)
  ·refine Qa<|mz [(102,.b ((qa q a).1==(9:Y)))] [0,17,77] [] []<|jn [(8,.b ((f.2.2.2.1 !=(0:Y))&&(Hx (X8 r ((qa q a).2.2.2.1)) f.2.2.2.1)))] [3,6,8,9,102] [] [6,9] (f.2.2.2.1 !=(0:Y)) (λl=>?_) (λl=>?_) ?_
   ·exact rN [8] [] (pt 2 l (pc 7 (Lf r ((qa q a).2.2.2.1)) (pc 10 (QB (X8 r ((qa q a).2.2.2.1)) f.2.2.2.1) p0)))<|zA (by rw[l]<;>kernel_rfl)
   ·exact rN [8] [] (pf 2 l p0)<|zA (by rw[l]<;>kernel_rfl)
   exact Qc<|pb [] (Qh i (Qh m (Qh n (Qh g (Qh e (Qh b (Qh o (Qu s rfl))))))))
  exact Qd<|tu [(8,.b O)] [0,3,6,8,9,17,77] [] [6,9] p0<|Qc<|pb [] (Qh i (Qh m (Qh n (Qh g (Qh e (Qh b (Qh o (Qh s rfl))))))))
def Ai(q:W Q0)(f:Xt)(r:W Qi):D:=((Qm q)&&(Z2 (zD q) q ((q.length:Y)-1) f r))
theorem RB(q:W Q0)(f:Xt)(r:W Qi):ACalls vB 307 [.h q,.a [.i f.1,.i f.2.1,.b f.2.2.1,.i f.2.2.2.1,.h f.2.2.2.2],.h r] (.b (Ai q f r)):=by
 refine en func307 λ_ _ _=>sn [0,2,4,6] [4] p0 ?_
 refine Qa<|mz [(4,.p 4 0),(6,.b K)] [1] [(4, [.i f.1,.i f.2.1,.b f.2.2.1,.i f.2.2.2.1,.h f.2.2.2.2])] []<|jn [(6,.b ((Qm q)&&(Z2 (zD q) q ((q.length:Y)-1) f r)))] [0,2,4,6] [] [4] (Qm q) (λa=>?_) (λa=>?_) ?_
 ·refine wT 0 0 .sh q (λb c=>?_);refine rn [6] [] (pc 1 (cb a (Uu q)) (pl 5 q (pe 6 (Nn (IntWalk.i64_in ((q.length:Y)-1) (by omega))) (pc 9 (FR (zD q) q ((q.length:Y)-1) f r a (by have:=Nf a;omega) (by omega) (by omega)) p0)))) ?_;exact zA (by rw[a]<;>kernel_rfl)
 ·exact rn [6] [] (pc 1 (cb a (Uu q)) p0)<|zA (by rw[a]<;>kernel_rfl)
 exact Qc<|pb [] (show Ai q f r=((Qm q)&&(Z2 (zD q) q ((q.length:Y)-1) f r)) from rfl)
def Cb(q:W Q0)(r:W Qi)(_:Q)(a:Xt)(b:W Y):Rd (W Y) (W Y) (W Y):=(bif (Ai q a r) then(.next (b++ [a.1])) else(.next b))
def Lg(_:Q)(a:W Y):(W Y):=a
def Jc(a:X2)(q:W Q0)(r:W Qi):(W Y):=(Out.on (X5 (Cb q r) Lg a.2.1 0 []) (λb=>b))
theorem HY(a:X2)(q:W Q0)(r:W Qi):ACalls vB 266 [.a [.h a.1,.h a.2.1,.i a.2.2],.h q,.h r] (.o 0 (Jc a q r)):=by
 refine en func266 λ_ _ _=>sn [1,2,3,6] [3] p0 ?_
 refine tn [1,2,3,6,7] [3] p0<|Qa<|tu [(6,.e 0),(7,.one (.slc (.own O 640) 1 [])),(12,.h a.2.1),(13,.i (a.2.1.length:Y)),(14,.i 0)] [0] [] [] (pl 2 a.2.1 p0)<|wT 12 0 .sh a.2.1 (λk m=>?_)
 refine HN (Cb q r) Lg a.2.1 [] (λb c=> [(7,.o 104 c),(14,.i (b:Y))]) [7,14] (λj=> [(7,.o 105 j)]) [1,2,7,12,13,14] (λb c=>zD c<=b) (wsf [(640,104)]) (by simp) (λb c d U=>?_) (λb c d U=>?_) (λj g=>?_)
 ·have e:=U.2;obtain⟨f,V⟩:=Xn (l:=a.2.1) (i:=b) d;refine su [(15,.b O)] [] [] [] (pe 0 (zB ((b:Y)<(a.2.1.length:Y))) p0)<|Qa<|ckT<|Qd<|Qa<|Qn<|sn [1,2,6,7,9,12,13,14] [9] (pn 0 V p0)<|tn [1,2,6,7,9,12,13,14,21] [9] (pc 3 (RB q f r) p0)<|ck (Ai q f r) (λh=>?_) (λh=>?_)
  ·refine wT 7 0 (.own O 104) c (λn o=>?_);refine qu [(7,.one (.slc (.own O 1664) 1 (eA c f.1)))] [7,15] [] [] (pa c [f.1] p0) ?_;refine eqn [(7,.o 1664 (c++ [f.1]))] [7] [] [] (by rw[Wu]<;>kernel_rfl) ?_;refine rn [1,2,6,7,12,13,14] [] (pw 0 b p0) ?_;exact yB (c++ [f.1]) (yV (wsf [(1664,104)]) ⟨Qp V (Qu h rfl) U.1,by first|omega|(simp;omega) | simp⟩)
  refine Qd<|qu [(14,.i ((b+1:Q):Y))] [14,15] [] [] (pw 0 b p0) ?_
  exact xw c ⟨Qp V (Qh h rfl) U.1,by first|omega|(simp;omega) | simp⟩
 ·have e:=U.2;exact su [(15,.b K)] [] [] [] (pe 0 (zC ((b:Y)<(a.2.1.length:Y))) p0)<|Qa<|ckF<|Qv<|yB _ (yV (wsf [(104,105)]) (Xo d rfl U.1))
 exact sn [6] [] p0<|Qc<|po0 [] (Vz g rfl)
def R5(a:H)(_:Q)(b:Hk)(_:A):Rd (Wx) (A) (A):=(bif (b.1.toList==a.toList) then(.ret b.2) else(.next ()))
def R6(_:Q)(_:A):A:=()
def Ys(f:Xt)(a:H):Wx:=(Out.on (X5 (R5 a) R6 f.2.2.2.2 0 ()) (λ_=>(0,0,⟨#[]⟩)))
theorem Tq(f:Xt)(a:H):ACalls vB 338 [.a [.i f.1,.i f.2.1,.b f.2.2.1,.i f.2.2.2.1,.h f.2.2.2.2],.s a] (.a [.i ((Ys f a).1),.i ((Ys f a).2.1),.s ((Ys f a).2.2)]):=by
 refine en func338 λ_ _ _=>sn [1,2,4] [2,4] p0 ?_
 refine Qa<|tn [1,2,4,5] [2,4] p0<|mz [(2,.p 2 0),(4,.p 4 0),(5,.i 0)] [0] [(2, [.i f.1,.i f.2.1,.b f.2.2.1,.i f.2.2.2.1,.h f.2.2.2.2]),(4, [.i 0,.i 0,.s ⟨#[]⟩])] []<|wB 2 4 .sh f.2.2.2.2 (λj k=>?_)
 refine Qlc (R5 a) R6 f.2.2.2.2 () (λb _=> [(5,.i (b:Y))]) [5] (λ_ _=> []) [] (λ_=> []) [1,2,5] (λ_=> []) [2] wf0 (λb m c U=>?_) (λb m c U=>?_) (λn e=>?_)
 ·obtain⟨d,V⟩:=Xn (l:=f.2.2.2.2) (i:=b) c;refine Qa<|sn [1,2,4,5,10] [2,4] (pl 3 f.2.2.2.2 (pe 4 (zB ((b:Y)<(f.2.2.2.2.length:Y))) p0))<|ckT<|Qd<|Qa<|Qn<|tn [1,2,4,5,20] [2,4] (pn 3 V p0)<|ck (d.1.toList==a.toList) (λg=>?_) (λg=>?_)
  ·refine tu [] [] [(4, [.i d.2.1,.i d.2.2.1,.s d.2.2.2])] [4] (pn 3 V p0)<|Qc ?_
   have h:(X5 (R5 a) R6 f.2.2.2.2 0 ())= .ret d.2:=Kc V (Qu g rfl) U;exact pz [] (show Ys f a=_ from Pe h) (λz=> .a [.i z.1,.i z.2.1,.s z.2.2])
  refine Qd<|qu [(5,.i ((b+1:Q):Y))] [5] [] [] (pw 1 b p0) ?_
  exact xw _ (Qp V (Qh g rfl) U)
 ·exact Qa<|sn [1,2,4,5,10] [2,4] (pl 3 f.2.2.2.2 (pe 4 (zC ((b:Y)<(f.2.2.2.2.length:Y))) p0))<|ckF<|Qv<|xw _ (Xo c rfl U)
 exact sn [4] [4] p0<|Qc<|pz [] (show Ys f a=_ from Vz e rfl) (λz=> .a [.i z.1,.i z.2.1,.s z.2.2])
def Nt(a:H)(_:Q)(b:Qi)(_:A):Rd (W Y) (A) (A):=(bif (b.1.toList==a.toList) then(.ret b.2) else(.next ()))
def Nu(_:Q)(_:A):A:=()
def Yn(b:W Qi)(a:H):(W Y):=(Out.on (X5 (Nt a) Nu b 0 ()) (λ_=> []))
theorem Lh(b:W Qi)(a:H):ACalls vB 139 [.h b,.s a] (.o 0 (Yn b a)):=by
 refine en func139 λ_ _ _=>sn [0,1,4] [] p0 ?_
 refine Qa<|tn [0,1,4,5] [] p0<|mz [(4,.e 0),(5,.i 0)] [] [] []<|wT 0 0 .sh b (λf k=>?_)
 refine S8 (Nt a) Nu b () (λc _=> [(5,.i (c:Y))]) [5] (λ_=> []) [0,1,5] wf0 (λc m d U=>?_) (λc m d U=>?_) (λp g=>?_)
 ·obtain⟨e,V⟩:=Xn (l:=b) (i:=c) d;refine Qa<|sn [0,1,4,5,9] [] (pl 2 b (pe 3 (zB ((c:Y)<(b.length:Y))) p0))<|ckT<|Qd<|Qa<|Qn<|tn [0,1,4,5,18] [] (pn 2 V p0)<|ck (e.1.toList==a.toList) (λh=>?_) (λh=>?_)
  ·have o:zD e.2<=1073741824:=N9 (PO (PN V (f)));refine tu [(4,.o 1600 e.2)] [4] [] [] (pn 3 V (po 6 (.flat) (px (L7 (n:=(([]:W (W PV)).length+((eL e.2):W (W PV)).length)) (N1 rfl (Zv e.2) (by first|omega|(simp only[List.length_cons,List.length_nil];omega) | (simp;omega) | simp))) (px (G1 (Ea e.2)) p0))))<|Qc ?_
   have j:(X5 (Nt a) Nu b 0 ())= .ret e.2:=Kc V (Qu h rfl) U;exact po0 [] (Pe j)
  refine Qd<|qu [(5,.i ((c+1:Q):Y))] [5] [] [] (pw 1 c p0) ?_
  exact xw _ (Qp V (Qh h rfl) U)
 ·exact Qa<|sn [0,1,4,5,9] [] (pl 2 b (pe 3 (zC ((c:Y)<(b.length:Y))) p0))<|ckF<|Qv<|xw _ (Xo d rfl U)
 exact sn [4] [] p0<|Qc<|po0 [] (Vz g rfl)
def Bd(a:Y)(_:Q)(b:Y)(_:A):Rd (D) (A) (A):=(bif (b==a) then(.ret O) else(.next ()))
def Fi(_:Q)(_:A):A:=()
def Ur(a:W Y)(b:Y):D:=(Out.on (X5 (Bd b) Fi a 0 ()) (λ_=>K))
theorem Gp(a:W Y)(d:Y):ACalls vB 201 [.h a,.i d] (.b (Ur a d)):=by
 refine en func201 λ_ _ _=>sn [0,1,4] [] p0 ?_
 refine Qa<|tn [0,1,4,5] [] p0<|mz [(4,.b K),(5,.i 0)] [] [] []<|wT 0 0 .sh a (λh j=>?_)
 refine S8 (Bd d) Fi a () (λb _=> [(5,.i (b:Y))]) [5] (λ_=> []) [0,1,5] wf0 (λb k c U=>?_) (λb k c U=>?_) (λn e=>?_)
 ·obtain⟨m,V⟩:=Xn (l:=a) (i:=b) c;refine Qa<|sn [0,1,4,5,9] [] (pl 2 a (pe 3 (zB ((b:Y)<(a.length:Y))) p0))<|ckT<|Qd<|Qa<|Qn<|tn [0,1,4,5,17] [] (pn 2 V p0)<|ck (m==d) (λf=>?_) (λf=>?_)
  ·refine tu [(4,.b O)] [4] [] [] p0<|Qc ?_
   have g:(X5 (Bd d) Fi a 0 ())= .ret O:=Kc V (Qu f rfl) U;exact pb [] (Pe g)
  refine Qd<|qu [(5,.i ((b+1:Q):Y))] [5] [] [] (pw 1 b p0) ?_
  exact xw _ (Qp V (Qh f rfl) U)
 ·exact Qa<|sn [0,1,4,5,9] [] (pl 2 a (pe 3 (zC ((b:Y)<(a.length:Y))) p0))<|ckF<|Qv<|xw _ (Xo c rfl U)
 exact sn [4] [] p0<|Qc<|pb [] (Vz e rfl)
def Wn(n_:Q)(q:W Q0)(a:Y)(f:Xt)(b:W Qi):D:=match n_ with
 | 0=>default
 | n_+1=>(bif ((qa q a).1==(1:Y)) then O else(bif ((qa q a).1==(2:Y)) then((Ys f ((qa q a).2.2.2.1)).1 !=(0:Y)) else(bif ((qa q a).1==(3:Y)) then(((Ys f ((qa q a).2.2.2.1)).1==(qa q a).2.2.2.2.1)&&(((Ys f ((qa q a).2.2.2.1)).2.1==(qa q a).2.2.2.2.2.1)&&((((Ys f ((qa q a).2.2.2.1)).2.2).toList==((qa q a).2.2.2.2.2.2).toList)&&O))) else(bif ((qa q a).1==(4:Y)) then(((Ys f ((qa q a).2.2.2.1)).1==(1:Y))&&decide ((Ys f ((qa q a).2.2.2.1)).2.1<(qa q a).2.2.2.2.2.1)) else(bif ((qa q a).1==(5:Y)) then(!(Wn n_ q ((qa q a).2.1) f b)) else(bif ((qa q a).1==(6:Y)) then((Wn n_ q ((qa q a).2.1) f b)&&(Wn n_ q ((qa q a).2.2.1) f b)) else(bif ((qa q a).1==(7:Y)) then((Wn n_ q ((qa q a).2.1) f b)|| (Wn n_ q ((qa q a).2.2.1) f b)) else(bif ((qa q a).1==(8:Y)) then(Ur (Yn b ((qa q a).2.2.2.1)) f.1) else((f.2.2.2.1 !=(0:Y))&&(Ur (Yn b ((qa q a).2.2.2.1)) f.2.2.2.1))))))))))
theorem RC:∀(g:Q) (q:W Q0) (a:Y) (f:Xt) (a_:W Qi) (c:Qm q=O) (ha:0<=a) (hb:a<(q.length:Y)) (w:a<((g:Q):Y)),ACalls vB 336 [.h q,.i a,.a [.i f.1,.i f.2.1,.b f.2.2.1,.i f.2.2.2.1,.h f.2.2.2.2],.h a_] (.b (Wn g q a f a_)):=by
 intro g
 induction g with
 | zero=>intro q a f a_ c ha hb w;exact(by omega:False).elim
 | succ g p=>
  intro q a f a_ c ha hb w
  refine en func336 λ_ _ _=>sn [0,1,3,6,8] [6] p0 ?_
  refine wT 0 0 .sh q (λy z=>?_);have u:=ng q a.toNat;refine tn [0,3,6,8,9] [6,9] (pg 2 a u p0)<|tu [(6,.p 6 0),(8,.b K),(9,.p 9 0),(10,.p 10 0)] [1,2] [(6, [.i f.1,.i f.2.1,.b f.2.2.1,.i f.2.2.2.1,.h f.2.2.2.2]),(9, [.i ((qa q a).1),.i ((qa q a).2.1),.i ((qa q a).2.2.1),.s ((qa q a).2.2.2.1),.i ((qa q a).2.2.2.2.1),.i ((qa q a).2.2.2.2.2.1),.s ((qa q a).2.2.2.2.2.2)]),(10, [.i ((Ys f ((qa q a).2.2.2.1)).1),.i ((Ys f ((qa q a).2.2.2.1)).2.1),.s ((Ys f ((qa q a).2.2.2.1)).2.2)])] [] (pc 3 (Tq f ((qa q a).2.2.2.1)) p0)<|Qa<|sn [0,3,6,8,9,10,20] [6,9,10] p0<|Qn<|tn [0,3,6,8,9,10,20,21] [6,9,10] p0<|ck ((qa q a).1==(1:Y)) (λh=>?_) (λh=>?_)
  ·exact tu [(8,.b O)] [0,8,10] [] [10] p0<|Qc<|pb [] (Qu h rfl)
  have a1:=Yt h;refine tu [(20,.i ((qa q a).1)),(23,.b ((qa q a).1==(2:Y)))] [] [] [] p0<|ck ((qa q a).1==(2:Y)) (λm=>?_) (λm=>?_)
  ·exact sn [3,6,8,9] [6,9] p0<|Qc<|pb [] (Qh h (Qu m rfl))
  have a2:=Yt m;refine sn [0,3,6,8,9,10,20,28] [6,9,10] p0<|ck ((qa q a).1==(3:Y)) (λn=>?_) (λn=>?_)
  ·exact tn [3,6,8,9] [6,9] p0<|Qc<|pb [] (Qh h (Qh m (Qu n rfl)))
  have a3:=Yt n;refine tn [0,3,6,8,9,10,20,34] [6,9,10] p0<|ck ((qa q a).1==(4:Y)) (λo=>?_) (λo=>?_)
  ·refine Qa<|mz [(34,.b ((qa q a).1==(4:Y)))] [23] [] []<|jn [(8,.b (((Ys f ((qa q a).2.2.2.1)).1==(1:Y))&&decide ((Ys f ((qa q a).2.2.2.1)).2.1<(qa q a).2.2.2.2.2.1)))] [0,8,10,20,34] [] [10] ((Ys f ((qa q a).2.2.2.1)).1==(1:Y)) (λs=>?_) (λs=>?_) ?_
   ·exact rn [3,6,8,9] [6,9] (pt 2 s p0)<|zA (by rw[s]<;>kernel_rfl)
   ·exact rn [3,6,8,9] [6,9] (pf 2 s p0)<|zA (by rw[s]<;>kernel_rfl)
   exact Qc<|pb [] (Qh h (Qh m (Qh n (Qu o rfl))))
  have a4:=Yt o;refine tu [(47,.b ((qa q a).1==(5:Y)))] [10,23] [] [10] p0<|ck ((qa q a).1==(5:Y)) (λi=>?_) (λi=>?_)
  ·have v:=eq_of_beq i;exact sn [3,6,8,9] [6,9] (pc 5 (p q ((qa q a).2.1) f a_ c (by have e:=SX c ha hb i;omega) (by have e:=SX c ha hb i;omega) (by have e:=SX c ha hb i;omega)) p0)<|Qc<|pb [] (Qh h (Qh m (Qh n (Qh o (Qu i rfl)))))
  have v:=Yt i;refine sn [0,3,6,8,9,20,56] [6,9] p0<|ck ((qa q a).1==(6:Y)) (λb=>?_) (λb=>?_)
  ·have t:=eq_of_beq b;refine Qa<|mz [(56,.b ((qa q a).1==(6:Y)))] [47] [] []<|jn [(8,.b ((Wn g q ((qa q a).2.1) f a_)&&(Wn g q ((qa q a).2.2.1) f a_)))] [0,8,20,56] [] [] (Wn g q ((qa q a).2.1) f a_) (λj=>?_) (λj=>?_) ?_
   ·refine rn [3,6,8,9] [6,9] (pc 5 (cb j (p q ((qa q a).2.1) f a_ c (by have e:=DC c ha hb b;omega) (by have e:=DC c ha hb b;omega) (by have e:=DC c ha hb b;omega))) (pc 12 (p q ((qa q a).2.2.1) f a_ c (by have e:=SY c ha hb b;omega) (by have e:=SY c ha hb b;omega) (by have e:=SY c ha hb b;omega)) p0)) ?_;exact zA (by rw[j]<;>kernel_rfl)
   ·refine rn [3,6,8,9] [6,9] (pc 5 (cb j (p q ((qa q a).2.1) f a_ c (by have e:=DC c ha hb b;omega) (by have e:=DC c ha hb b;omega) (by have e:=DC c ha hb b;omega))) p0) ?_;exact zA (by rw[j]<;>kernel_rfl)
   exact Qc<|pb [] (Qh h (Qh m (Qh n (Qh o (Qh i (Qu b rfl))))))
  have t:=Yt b;refine tn [0,3,6,8,9,20,72] [6,9] p0<|ck ((qa q a).1==(7:Y)) (λd=>?_) (λd=>?_)
  ·have x:=eq_of_beq d;refine Qa<|mz [(72,.b ((qa q a).1==(7:Y)))] [47] [] []<|jn [(8,.b ((Wn g q ((qa q a).2.1) f a_)|| (Wn g q ((qa q a).2.2.1) f a_)))] [0,8,20,72] [] [] (Wn g q ((qa q a).2.1) f a_) (λk=>?_) (λk=>?_) ?_
   ·refine rn [3,6,8,9] [6,9] (pc 5 (cb k (p q ((qa q a).2.1) f a_ c (by have e:=FA c ha hb d;omega) (by have e:=FA c ha hb d;omega) (by have e:=FA c ha hb d;omega))) p0) ?_;exact zA (by rw[k]<;>kernel_rfl)
   ·refine rn [3,6,8,9] [6,9] (pc 5 (cb k (p q ((qa q a).2.1) f a_ c (by have e:=FA c ha hb d;omega) (by have e:=FA c ha hb d;omega) (by have e:=FA c ha hb d;omega))) (pc 12 (p q ((qa q a).2.2.1) f a_ c (by have e:=Qal c ha hb d;omega) (by have e:=Qal c ha hb d;omega) (by have e:=Qal c ha hb d;omega)) p0)) ?_;exact zA (by rw[k]<;>kernel_rfl)
   exact Qc<|pb [] (Qh h (Qh m (Qh n (Qh o (Qh i (Qh b (Qu d rfl)))))))
  refine tu [(88,.b ((qa q a).1==(8:Y)))] [0,20,47] [] [] p0<|ck ((qa q a).1==(8:Y)) (λr=>?_) (λr=>?_)
  ·exact sN [3,6,8,9] [6,9] (pc 3 (Lh a_ ((qa q a).2.2.2.1)) (pc 6 (Gp (Yn a_ ((qa q a).2.2.2.1)) f.1) p0))<|Qc<|pb [] (Qh h (Qh m (Qh n (Qh o (Qh i (Qh b (Qh d (Qu r rfl))))))))
  refine Qd<|Qa<|jn [(8,.b ((f.2.2.2.1 !=(0:Y))&&(Ur (Yn a_ ((qa q a).2.2.2.1)) f.2.2.2.1)))] [3,6,8,9,88] [] [6,9] (f.2.2.2.1 !=(0:Y)) (λl=>?_) (λl=>?_) ?_
  ·exact rN [8] [] (pt 2 l (pc 7 (Lh a_ ((qa q a).2.2.2.1)) (pc 10 (Gp (Yn a_ ((qa q a).2.2.2.1)) f.2.2.2.1) p0)))<|zA (by rw[l]<;>kernel_rfl)
  ·exact rN [8] [] (pf 2 l p0)<|zA (by rw[l]<;>kernel_rfl)
  exact Qc<|pb [] (Qh h (Qh m (Qh n (Qh o (Qh i (Qh b (Qh d (Qh r rfl))))))))
def Me(q:W Q0)(f:Xt)(a:W Qi):D:=((Zp q)&&(Wn (zD q) q ((q.length:Y)-1) f a))
theorem RD(q:W Q0)(f:Xt)(b:W Qi):ACalls vB 293 [.h q,.a [.i f.1,.i f.2.1,.b f.2.2.1,.i f.2.2.2.1,.h f.2.2.2.2],.h b] (.b (Me q f b)):=by
 refine en func293 λ_ _ _=>sn [0,2,4,6] [4] p0 ?_
 refine Qa<|mz [(4,.p 4 0),(6,.b K)] [1] [(4, [.i f.1,.i f.2.1,.b f.2.2.1,.i f.2.2.2.1,.h f.2.2.2.2])] []<|jn [(6,.b ((Zp q)&&(Wn (zD q) q ((q.length:Y)-1) f b)))] [0,2,4,6] [] [4] (Zp q) (λa=>?_) (λa=>?_) ?_
 ·refine wT 0 0 .sh q (λc d=>?_);refine rn [6] [] (pc 1 (cb a (Uw q)) (pl 5 q (pe 6 (Nn (IntWalk.i64_in ((q.length:Y)-1) (by omega))) (pc 9 (RC (zD q) q ((q.length:Y)-1) f b (Tk a) (by have:=Nf (Tk a);omega) (by omega) (by omega)) p0)))) ?_;exact zA (by rw[a]<;>kernel_rfl)
 ·exact rn [6] [] (pc 1 (cb a (Uw q)) p0)<|zA (by rw[a]<;>kernel_rfl)
 exact Qc<|pb [] (show Me q f b=((Zp q)&&(Wn (zD q) q ((q.length:Y)-1) f b)) from rfl)
def D3(q:W Q0)(c:W Qi)(_:Q)(a:Xt)(b:W Y):Rd (W Y) (W Y) (W Y):=(bif (Me q a c) then(.next (b++ [a.1])) else(.next b))
def Lk(_:Q)(a:W Y):(W Y):=a
def Ze(a:X2)(q:W Q0)(b:W Qi):(W Y):=(Out.on (X5 (D3 q b) Lk a.2.1 0 []) (λc=>c))
theorem Sr(a:X2)(q:W Q0)(g:W Qi):ACalls vB 253 [.a [.h a.1,.h a.2.1,.i a.2.2],.h q,.h g] (.o 0 (Ze a q g)):=by
 refine en func253 λ_ _ _=>sn [1,2,3,6] [3] p0 ?_
 refine tn [1,2,3,6,7] [3] p0<|Qa<|tu [(3,.p 3 0),(6,.e 0),(7,.one (.slc (.own O 576) 1 [])),(8,.i 0)] [0] [(3, [.h a.1,.h a.2.1,.i a.2.2])] [] p0<|wB 3 1 .sh a.2.1 (λm n=>?_)
 refine LC (D3 q g) Lk a.2.1 [] (λc b=> [(7,.o 104 b),(8,.i (c:Y))]) [7,8] (λ_ _=> []) [] (λk=> [(7,.o 105 k)]) [1,2,3,7,8] (λ_=> []) [3] (λc b=>zD b<=c) (wsf [(576,104)]) (by simp) (λc b d U=>?_) (λc b d U=>?_) (λk h=>?_)
 ·have e:=U.2;obtain⟨f,V⟩:=Xn (l:=a.2.1) (i:=c) d;refine Qa<|su [(14,.b O)] [] [] [] (pl 3 a.2.1 (pe 4 (zB ((c:Y)<(a.2.1.length:Y))) p0))<|ckT<|Qd<|Qa<|Qn<|sn [1,2,3,6,7,8,24] [3] (pn 4 V (pc 7 (RD q f g) p0))<|ck (Me q f g) (λj=>?_) (λj=>?_)
  ·refine wT 7 0 (.own O 104) b (λo p=>?_);refine qu [(7,.one (.slc (.own O 2112) 1 (eA b f.1)))] [7,14] [] [] (pn 4 V (pa b [f.1] p0)) ?_;refine eqn [(7,.o 2112 (b++ [f.1]))] [7] [] [] (by rw[Wu]<;>kernel_rfl) ?_;refine rn [1,2,3,6,7,8] [3] (pw 1 c p0) ?_;exact yB (b++ [f.1]) (yV (wsf [(2112,104)]) ⟨Qp V (Qu j rfl) U.1,by first|omega|(simp;omega) | simp⟩)
  refine Qd<|qn [1,2,3,6,7,8] [3] (pw 1 c p0) ?_
  exact xw b ⟨Qp V (Qh j rfl) U.1,by first|omega|(simp;omega) | simp⟩
 ·have e:=U.2;exact Qa<|su [(14,.b K)] [] [] [] (pl 3 a.2.1 (pe 4 (zC ((c:Y)<(a.2.1.length:Y))) p0))<|ckF<|Qv<|yB _ (yV (wsf [(104,105)]) (Xo d rfl U.1))
 exact sn [6] [] p0<|Qc<|po0 [] (Vz h rfl)
theorem Qwr(l:W Y)(x:Y):Hx l x=Ur l x:=by
 unfold Hx W0 Ek Ur
 have key:∀(l:W Y) (k:Q),decide (((X5 (We x) Aa l k ()).on λ_=> -1)>=0)=((X5 (Bd x) Fi l k ()).on λ_=>K):=by
  intro l
  induction l with
  | nil=>intro k;rfl
  | cons a l b=>
    intro k;by_cases h:x=a
    . subst h;simp[X5,We,Bd,Out.on]
    have c:(x==a)=K:=uH.2 h;have d:(a==x)=K:=uH.2 (xX h);simp only[X5,We,Bd,c,d,uE];exact b (k+1)
 exact key l 0
theorem Ql5(r:W Qi)(s:H):X8 r s=Yn r s:=rfl
theorem Qun(f:Xt)(s:H):X7 f s=Ys f s:=rfl
theorem Qws{n:Q0}{k:Y}(h:Jb n k=O):n.1=1\/n.1=2\/n.1=3\/n.1=4\/n.1=5\/n.1=6\/n.1=7\/n.1=8\/n.1=9:=by
 refine zU λa=>?_
 simp only[not_or] at a;obtain⟨b,c,d,e,f,g,i,j,l⟩:=a;unfold Jb at h;simp only[uH.2 b,uH.2 c,uH.2 d,uH.2 e,uH.2 f,uH.2 g,uH.2 i,uH.2 j,uH.2 l,uE] at h;cases h
theorem Qgj{q:W Q0}(d:Qm q=O)(f:Xt)(r:W Qi):∀(n:Q) (k:Y),0<=k->k<(q.length:Y)->Z2 n q k f r=Wn n q k f r
 | 0,_,_,_=>rfl
 | n +1,k,h0,h1=>by
   have e:=HP d (Hn (l:=q) (i:=zH k) (by omega));rw[Int.toNat_of_nonneg h0] at e;obtain⟨a,b⟩:=Nq d h0 h1;unfold Z2 Wn;have c:=Qgj d f r n;unfold Ah;simp only[Qun,Ql5,Qwr]
   (try unfold qa at*);generalize nth q (zH k)=m at e a b⊢
   rcases Qws e with h | h | h | h | h | h | h | h | h
   . simp[h]
   . simp[h]
   . simp[h]
   . rw[h];cases g:((Ys f m.2.2.2.1).1==(1:Y)) with
     | true=>simp[bne,g]
     | false=>simp[bne,g]
   . simp[h,c _ (a (by simp[h])).1 (by have:=(a (by simp[h])).2;omega)]
   . simp[h,c _ (a (by simp[h])).1 (by have:=(a (by simp[h])).2;omega),c _ (b (by simp[h])).1 (by have:=(b (by simp[h])).2;omega)]
   . simp[h,c _ (a (by simp[h])).1 (by have:=(a (by simp[h])).2;omega),c _ (b (by simp[h])).1 (by have:=(b (by simp[h])).2;omega)]
   . simp[h]
   simp[h]
theorem Qib(q:W Q0)(f:Xt)(r:W Qi):Ai q f r=Me q f r:=by
 unfold Ai Me;rw[←Qlk];cases a:Qm q with
 | false=>rfl
 | true=>rw[Qgj a f r _ _ (by have:=Nf a;omega) (by omega)]
theorem Qz0(s:X2)(q:W Q0)(r:W Qi):Jc s q r=Ze s q r:=by
 unfold Jc Ze
 rw[Mw (f:=Cb q r) (g:=D3 q r) (e:=Lg) (e':=Lk) (λi a s=>by
  unfold Cb D3;rw[Qib]) (λ_ _=>rfl)]
end
section
section
variable {φ:Type} (fs:W φ) (idOf:φ->Y)
def sel(p:φ->D):W Y:=(fs.filter p).map idOf
theorem FT{p q:φ->D}:∀(l:W φ),(∀f,f∈l->p f=O->q f=O)->(l.filter p).length<=(l.filter q).length/\((l.filter q).length<=(l.filter p).length->l.filter p=l.filter q)
 | [],_=>⟨zP _,λ_=>rfl⟩
 | f :: l,h=>by
   obtain⟨e,c⟩:=FT l λg i=>h g (zJ _ i)
   have j:=h f (zL ..);cases a:p f with
   | true=>
     have b:=j a;simp only[yW,a,b,if_true,List.length_cons];exact⟨by omega,λd=>by rw[c (by omega)]⟩
   | false=>
     cases b:q f with
     | true=>
       simp only[yW,a,b,if_true,List.length_cons,yA,if_false];exact⟨by omega,λd=>absurd d (by omega)⟩
     | false=>
       simp only[yW,a,b,yA,if_false];exact⟨e,c⟩
theorem Quo(p:φ->D):(sel fs idOf p).length<=fs.length:=by
 unfold sel;rw[zK];exact xN _ _
variable {fs idOf}
theorem Qqf{p q:φ->D}(h:∀f,f∈fs->p f=O->q f=O)(a:sel fs idOf p≠sel fs idOf q):(sel fs idOf p).length+1<=(sel fs idOf q).length:=by
 obtain⟨b,c⟩:=FT fs h;unfold sel at a⊢;rw[zK,zK];refine Nat.lt_of_le_of_ne b λe=>a ?_
 rw[c (by omega)]
theorem Qup{p q:φ->D}(h:∀f,f∈fs->p f=O->q f=O){x:Y}(a:x∈sel fs idOf p):x∈sel fs idOf q:=by
 unfold sel at a⊢;obtain⟨f,c,rfl⟩:=zV.1 a;obtain⟨b,d⟩:=yL.1 c;exact zV.2 ⟨f,yL.2 ⟨b,h f b d⟩,rfl⟩
end
abbrev CD:=H×W Y
def Ql6(a:W CD)(k:Q)(b:W Y):W CD:=a.set k ((nth a k).1,b)
theorem DJ{a:W CD}{k:Q}(x:CD)(b:k<a.length)(j:Q):nth (a.set k x) j=if j=k then x else nth a j:=by
 unfold nth;simp only[yF,xG];by_cases h:k=j
 . subst h;simp[b]
 simp[h,xX h]
theorem Qic{a:W CD}{k:Q}(b:W Y)(c:k<a.length):(Ql6 a k b).map (·.1)=a.map (·.1):=by
 unfold Ql6;rw[List.map_set];refine List.ext_getElem (by simp) λi d e=>?_
 rw[List.getElem_set];split
 . rename_i h;subst h;simp[nth,yC,c]
 rfl
def FU(B:Q)(a:Q->D):Q->W CD->Q
 | _, []=>0
 | k,r::l=>(bif a k then B-r.2.length else 0)+FU B a (k+1) l
theorem Ql7(B:Q)(a:Q->D):∀(l:W CD) (k:Q),FU B a k l<=l.length*B
 | [],k=>by simp[FU]
 | r::l,k=>by
   have:=Ql7 B a l (k+1);simp only[FU,List.length_cons,Nat.add_mul,Nat.one_mul];cases a k with
   | true=>simp only[uI];omega
   | false=>simp only[uE];omega
theorem Qgk(B:Q)(a:Q->D)(x:CD):∀(l:W CD) (k i:Q),i<l.length->a (k+i)=O->(nth l i).2.length+1<=x.2.length->x.2.length<=B->FU B a k (l.set i x)+1<=FU B a k l
 | [],k,i,hi,_,_,_=>by simp at hi
 | r::l,k,0,_,ha,h1,h2=>by
   have e:nth (r::l) 0=r:=rfl;rw[e] at h1;rw[xY] at ha;simp only[zE,FU,ha,uI];omega
 | r::l,k,i+1,hi,ha,h1,h2=>by
   have:=Qgk B a x l (k+1) i (by simpa using hi) (by rwa [show k+1+i=k+(i+1) by omega]) h1 h2;simp only[zE,FU];omega
section
variable {φ:Type} {fs:W φ} {idOf:φ->Y} (m:Q->W CD->φ->D) (act:Q->D)
def LeC(a b:W CD):Prop:=∀j,(∀x,x∈(nth a j).2->x∈(nth b j).2)/\(act j=K->(nth a j).2=(nth b j).2)
variable (fs idOf)
def Qyf(a:W CD):Prop:=∀k,k<a.length->act k=O->∃p:φ->D,(nth a k).2=sel fs idOf p/\∀f,f∈fs->p f=O->m k a f=O
def Qqg(nm:W H):Prop:=∀a b:W CD,a.map (·.1)=nm->b.map (·.1)=nm->LeC act a b->∀k,k<nm.length->act k=O->∀f,f∈fs->m k a f=O->m k b f=O
def Qa3(s:W CD×D)(k:Q):W CD×D:=bif act k then(if sel fs idOf (m k s.1)=(nth s.1 k).2 then s else(Ql6 s.1 k (sel fs idOf (m k s.1)),O)) else s
def RE(a:W Q)(s:W CD×D):W CD×D:=a.foldl (Qa3 fs idOf m act) s
variable {fs idOf m act} {nm:W H}
structure StateC (fs:W φ) (idOf:φ->Y) (m:Q->W CD->φ->D) (act:Q->D) (nm:W H) (o out:W CD):Prop where
 names:out.map (·.1)=nm
 good:Qyf fs idOf m act out
 rest:∀j,act j=K->nth out j=nth o j
theorem Qqh(hm:Qqg fs m act nm){o:W CD}{s:W CD×D}(h:StateC fs idOf m act nm o s.1){k:Q}(hk:k<nm.length):
 StateC fs idOf m act nm o (Qa3 fs idOf m act s k).1/\FU fs.length act 0 (Qa3 fs idOf m act s k).1<=FU fs.length act 0 s.1/\((Qa3 fs idOf m act s k).2=O->s.2=O\/FU fs.length act 0 (Qa3 fs idOf m act s k).1+1<=FU fs.length act 0 s.1):=by
 unfold Qa3;cases ha:act k with
 | false=>exact⟨h,zP _,.inl⟩
 | true=>
   simp only[uI];split
   . exact⟨h,zP _,.inl⟩
   rename_i q;have z:nm.length=s.1.length:=by rw[←h.names,zK]
   have a:k<s.1.length:=by omega
   obtain⟨p,g,r⟩:=h.good k a ha;rw[g] at q;have i:=Qqf (idOf:=idOf) r (xX q);have b:(Ql6 s.1 k (sel fs idOf (m k s.1))).map (·.1)=nm:=by rw[Qic _ a,h.names]
   have t:LeC act s.1 (Ql6 s.1 k (sel fs idOf (m k s.1))):=λj=>by
    unfold Ql6;rw[DJ _ a];by_cases d:j=k
    . subst d;rw[uB rfl];exact⟨λx u=>Qup r (g▸u),λn=>absurd ha (by simp[n])⟩
    rw[uG d];exact⟨λ_ u=>u,λ_=>rfl⟩
   have c:=hm _ _ h.names b t
   have hr:FU fs.length act 0 (Ql6 s.1 k (sel fs idOf (m k s.1)))+1<=FU fs.length act 0 s.1:=
    Qgk _ _ _ _ 0 k a (by rw[zW];exact ha) (by rw[g];exact i) (Quo _ _ _)
   refine⟨⟨b,λj d l=>?_,λj d=>?_⟩,Nat.le_of_succ_le hr,λ_=> .inr hr⟩
   . have v:j<s.1.length:=by unfold Ql6 at d;rwa [zG] at d
     by_cases e:j=k
     . subst e;refine⟨m j s.1, ?_,λf n w=>c j (by omega) l f n w⟩;unfold Ql6;rw[DJ _ a,uB rfl]
     obtain⟨p',h1,h2⟩:=h.good j v l;refine⟨p', ?_,λf n y=>c j (by omega) l f n (h2 f n y)⟩;unfold Ql6;rw[DJ _ a,uG e];exact h1
   have e:j≠k:=λe=>absurd ha (by simp[←e,d])
   unfold Ql6;rw[DJ _ a,uG e];exact h.rest j d
theorem Qgl(b:Qqg fs m act nm){o:W CD}:∀(a:W Q) (s:W CD×D),(∀k,k∈a->k<nm.length)->StateC fs idOf m act nm o s.1->
 StateC fs idOf m act nm o (RE fs idOf m act a s).1/\FU fs.length act 0 (RE fs idOf m act a s).1<=FU fs.length act 0 s.1/\((RE fs idOf m act a s).2=O->s.2=O\/FU fs.length act 0 (RE fs idOf m act a s).1+1<=FU fs.length act 0 s.1)
 | [],s,_,h=>⟨h,zP _,.inl⟩
 | k ::a,s,hks,h=>by
   obtain⟨e,c,f⟩:=Qqh b h (hks k (zL ..));obtain⟨g,d,i⟩:=Qgl b a _ (λj l=>hks j (zJ _ l)) e;refine⟨g,xC d c,λhc=>?_⟩;rcases i hc with hc | hc
   . rcases f hc with hc | hc
     . exact .inl hc
     exact .inr (xC (Nat.add_le_add_right d 1) hc)
   exact .inr (xC hc c)
theorem Qys{R S T:Type}{F:S->Rd R S T}{out:S->W CD}{ch:S->D}{n:Q}(d:n=nm.length)
 (e:∀s,ch s=O->∃s',F s= .next s'/\(out s',ch s')=RE fs idOf m act (zN n) (out s,K))
 (f:∀s,ch s=K->∃t,F s= .brk t)
 (g:Qqg fs m act nm) {o:W CD}:∀(k:Q) (s:S),StateC fs idOf m act nm o (out s)->FU fs.length act 0 (out s)+(bif ch s then 2 else 1)<=k->
 ∃s',StateC fs idOf m act nm o (out s')/\ch s'=K/\∃t,F s'= .brk t/\whl F k s=uA (.brk t)
 | 0,s,_,hk=>by cases a:ch s<;>simp[a] at hk
 | k +1,s,h,hk=>by
   cases a:ch s with
   | false=>
     obtain⟨t,i⟩:=f s a;exact⟨s,h,a,t,i,by simp only[whl,i]⟩
   | true=>
     rw[a] at hk;simp only[uI] at hk;obtain⟨s',q,r⟩:=e s a;obtain⟨l,p,b⟩:=Qgl g (o:=o) (zN n) (out s,K) (λj u=>by rw[←d];exact yP.1 u) h;rw[←r] at l p b;simp only[whl,q];refine Qys d e f g k s' l ?_;simp only[yA,false_or] at b;cases c:ch s' with
     | false=>simp only[uE];have:FU fs.length act 0 (out s')<=FU fs.length act 0 (out s):=p;omega
     | true=>simp only[uI];have:FU fs.length act 0 (out s')+1<=FU fs.length act 0 (out s):=b c;omega
end
open Go.RowKit in
def ArgLe(a b:AV):Prop:=∀(J:Inj) (w:uD) (v:uK),AR J w v a->AR J w v b
theorem ArgLe.rfl(a:AV):ArgLe a a:=λ_ _ _ h=>h
theorem ArgLe.nil(n:Q):ArgLe (.one (.slc .sh 0 [])) (.one (.slc .sh n [])):=λJ w v h=>by
 have a:VV J.F w v (.slc 0 []):=h;show VV J.F w v (.slc n []);generalize c:PV.slc 0 ([]:W (W PV))=p at a;cases a with
 | int | bool | str | any | raw=>cases c
 | emp oa m d=>exact .emp oa n d
 | @slc b off cap m cs l hx hcells hr hle hcap=>
   cases c
   exact .emp _ n hcap.1
theorem Qd8{P:uV}{f:Q}{r:AV}{args a:W AV}(h:All2 ArgLe args a)(c:ACalls P f a r):ACalls P f args r:=⟨c.1,λw e F b g d=>c.2 w e F b g (by
 clear c
 induction h generalizing b with
 | nil=>exact d
 | cons i m j=>
   cases d with
   | cons k l=>exact .cons (i _ _ _ k) (j _ l))⟩
end
section
open Go.RowKit
def G7(n:Q0)(c:Y):D:=((n.2.1==c)&&(n.1==6|| n.1==7|| n.1==5))|| ((n.2.2.1==c)&&(n.1==6|| n.1==7))
theorem Ql8(c:Y)(k:Q)(a:Q0)(s:Y)(e:0<=s)(f:s<=1000):∃s',Wb c k a s= .next s'/\s+(bif G7 a c then 1 else 0)<=s'/\s'<=s+2:=by
 have b:uZ vA (s+1)=s+1:=IntWalk.i64_in _ (by omega);have d:uZ vA (s+1+1)=s+1+1:=IntWalk.i64_in _ (by omega);unfold Wb G7;rw[b,d];cases(a.2.1==c)<;>cases(a.2.2.1==c)<;>cases(a.1==6)<;>cases(a.1==7)<;>cases(a.1==5)<;>exact⟨_,rfl,by first | (simp;done) | (simp;omega) | omega,by omega⟩
theorem Qa4(c:Y):∀(l:W Q0) (k:Q) (s:Y),0<=s->s+2*l.length<=1000->∃s',X5 (Wb c) Bv l k s= .brk s'/\s+(l.filter λn=>G7 n c).length<=s'
 | [],k,s,_,_=>⟨s,rfl,by simp⟩
 | a::l,k,s,h0,h1=>by
   rw[List.length_cons] at h1;obtain⟨s1,d,b,h⟩:=Ql8 c k a s h0 (by omega);have e:0<=s1:=by cases hb:G7 a c<;>(rw[hb] at b;simp at b;omega)
   obtain⟨f,g,i⟩:=Qa4 c l (k+1) s1 e (by omega);refine⟨f,by simp only[X5,d];exact g, ?_⟩;rw[yW];cases hb:G7 a c with
   | true=>rw[hb] at b;simp only[uI] at b;simp only[if_true,List.length_cons];omega
   | false=>rw[hb] at b;simp only[uE] at b;simp only[yA,if_false];omega
theorem Qwt{α:Type}{p:α->D}{l:W α}{i j:Q}{a b:α}(c:i<j)(d:l[i]? =uA a)(f:l[j]? =uA b)(g:p a=O)(h:p b=O):2<=(l.filter p).length:=by
 have e:l=l.take j++l.drop j:=(List.take_append_drop j l).symm;rw[e,List.filter_append,yM];have k:1<=((l.take j).filter p).length:=yR (a:=a) (yL.2 ⟨xS (i:=i) (by rw[List.getElem?_take,uB c];exact d),g⟩);have m:1<=((l.drop j).filter p).length:=yR (a:=b) (yL.2 ⟨xS (i:=0) (by rw[List.getElem?_drop];exact f),h⟩);omega
theorem Quq{q:W Q0}(h:Qm q=O){i:Q}(e:i+1<q.length):Vp q (i:Y)=1:=by
 obtain⟨⟨t,d⟩,_⟩:=Qll h;have:=Ra (λk a t=>by unfold Ju;generalize(_|| _:D)=c;cases c<;>simp) d i (nth q i) (Hn (by omega));unfold Ju at this;rw[zW] at this;have hd:decide (((i:Q):Y)<((q.length:Y)-1))=O:=uP (by omega);rw[hd,yX] at this;cases b:(Vp q ((i:Q):Y) !=(1:Y)) with
 | false=>exact Ut b
 | true=>rw[b,Bool.or_true] at this;simp at this
theorem Qqi{q:W Q0}(h:Qm q=O){c i j:Q}(d:c+1<q.length)(a:i<j)(f:j<q.length)(k:G7 (nth q i) (c:Y)=O)(l:G7 (nth q j) (c:Y)=O):False:=by
 have b:=Quq h d;have m:=(Nf h).2;obtain⟨s,e,g⟩:=Qa4 (c:Y) q 0 0 (by omega) (by omega);unfold Vp at b;rw[e] at b;have:=Qwt (p:=λn=>G7 n (c:Y)) a (Hn (by omega)) (Hn f) k l;simp only[Out.on] at b;omega
theorem Ql9{q:W Q0}(h:Qm q=O){c i:Q}(g:i<q.length)(a:G7 (nth q i) (c:Y)=O):c<i:=by
 obtain⟨b,d⟩:=Nq h (k:=(i:Y)) (by omega) (by omega)
 (try unfold qa at b d);rw[zM] at b d
 unfold G7 at a;simp only[yY,yH,uS] at a;rcases a with⟨e,f⟩ | ⟨e,f⟩
 . have:=b (by omega);omega
 have:=d (by omega);omega
theorem RF{L:W D}{i:Q}(x:D)(a:i<L.length)(j:Q):nth (L.set i x) j=if j=i then x else nth L j:=by
 unfold nth;simp only[yF,xG];by_cases h:i=j
 . subst h;simp[a]
 simp[h,xX h]
theorem Qqj{q:W Q0}(h:Qm q=O){k:Q}(hk:k<q.length)(s:W D)(r:s.length=q.length):∃s',J7 q k s= .next s'/\s'.length=q.length/\
 (∀j:Q,G7 (nth q (q.length-1-k)) (j:Y)=K->nth s' j=nth s j)/\
 (∀j:Q,G7 (nth q (q.length-1-k)) (j:Y)=O->nth s' j=(nth s (q.length-1-k)|| ((nth q (q.length-1-k)).1==5))):=by
 have t:zH (dn ((q.length:Y)-1) k)=q.length-1-k:=by rw[Qdq];omega
 obtain⟨f,l⟩:=Nq h (k:=((q.length-1-k:Q):Y)) (by omega) (by omega)
 (try unfold qa at f l);rw[zM] at f l
 have u:q.length-1-k<s.length:=by omega
 unfold J7 qa;rw[t];generalize q.length-1-k=i at f l u⊢
 (try unfold qa at*);generalize nth q i=n at f l⊢
 generalize(nth s i|| (n.1==5))=b
 have c:∀(g:(n.1==(5:Y))=K),(n.1=6\/n.1=7)->(zE (zE s (zH n.2.1) b) (zH n.2.2.1) b).length=q.length/\(∀j:Q,G7 n (j:Y)=K->nth (zE (zE s (zH n.2.1) b) (zH n.2.2.1) b) j=nth s j)/\(∀j:Q,G7 n (j:Y)=O->nth (zE (zE s (zH n.2.1) b) (zH n.2.2.1) b) j=b):=λg d=>by
  obtain⟨z,g2⟩:=f (.inr d);obtain⟨g3,g4⟩:=l d;have m:(n.1==6|| n.1==7)=O:=by rcases d with e | e<;>simp[e]
  have o:(zE s (zH n.2.1) b).length=s.length:=zG ..;refine⟨by rw[zG,o,r],λj a=>?_,λj a=>?_⟩
  . simp only[G7,m,Bool.true_or,Bool.and_true,Bool.or_eq_false_iff,uH,ne_eq] at a;rw[Sp _ (by omega),Sp _ (by omega)]
  simp only[G7,m,Bool.true_or,Bool.and_true,yY,uS] at a;rw[RF _ (by omega),RF _ (by omega)];split
  . rfl
  rw[uB (by omega)]
 by_cases p:n.1=5
 . obtain ⟨z,g2⟩:=f (.inl p);simp only[p,uY,uI];refine⟨_,rfl,by rw[zG,r],λj a=>?_,λj a=>?_⟩
   . have:n.2.1≠(j:Y):=by simpa [G7,p] using a
     exact Sp _ (by omega)
   have:n.2.1=(j:Y):=by simpa [G7,p] using a
   rw[RF _ (by omega),uB (by omega)]
 have g:(n.1==(5:Y))=K:=uH.2 p;rw[g,uE];by_cases v:n.1=6
 . simp only[v,uY,uI];exact⟨_,rfl,c g (.inl v)⟩
 by_cases w:n.1=7
 . simp only[w,uY,uI];exact⟨_,rfl,c g (.inr w)⟩
 have x:(n.1==(6:Y))=K:=uH.2 v;have y:(n.1==(7:Y))=K:=uH.2 w;rw[x,y,uE,uE];refine⟨_,rfl,r,λ_ _=>rfl,λj a=>?_⟩;simp[G7,g,x,y] at a
def Qma(q:W Q0)(k:Q)(s:W D):Prop:=s.length=q.length/\∀i,q.length<=i+k->i<q.length->∀c:Q,G7 (nth q i) (c:Y)=O->nth s c=(nth s i|| ((nth q i).1==5))
theorem Qqk{q:W Q0}(h:Qm q=O){k:Q}(m:k<q.length){s:W D}(l:Qma q k s):∃s',J7 q k s= .next s'/\Qma q (k+1) s':=by
 obtain⟨s',n,o,g,p⟩:=Qqj h m s l.1
 have a:nth s' (q.length-1-k)=nth s (q.length-1-k):=g _ (by
  cases d:G7 (nth q (q.length-1-k)) ((q.length-1-k:Q):Y) with
  | false=>rfl
  | true=>have:=Ql9 h (by omega) d;omega)
 refine⟨s',n,o,λi r b c f=>?_⟩;by_cases e:i=q.length-1-k
 . subst e;rw[p c f,a]
 have t:=Ql9 h b f
 have u:G7 (nth q (q.length-1-k)) (c:Y)=K:=by
  cases d:G7 (nth q (q.length-1-k)) (c:Y) with
  | false=>rfl
  | true=>exact(Qqi h (c:=c) (i:=q.length-1-k) (j:=i) (by omega) (by omega) b d f).elim
 have v:G7 (nth q (q.length-1-k)) (i:Y)=K:=by
  cases d:G7 (nth q (q.length-1-k)) (i:Y) with
  | false=>rfl
  | true=>have:=Ql9 h (by omega) d;omega
 rw[g c u,g i v];exact l.2 i (by omega) b c f
theorem Qgm{q:W Q0}(h:Qm q=O):∀(n k:Q) (s:W D),k+n=q.length->Qma q k s->∃s',Vj (J7 q) Bk n k s= .brk s'/\Qma q q.length s'
 | 0,k,s,hk,hs=>⟨s,rfl,by rw[show k=q.length by omega] at hs;exact hs⟩
 | n+1,k,s,hk,hs=>by
   obtain⟨a,b,c⟩:=Qqk h (by omega) hs;obtain⟨d,e,f⟩:=Qgm h n (k+1) a (by omega) c;exact⟨d,by simp only[Vj,b];exact e,f⟩
theorem Qql{q:W Q0}(h:Qm q=O):Qma q q.length (Y5 q):=by
 unfold Y5;obtain⟨s,a,b⟩:=Qgm h (zD q) 0 (zF (zH (q.length:Y)) K) (by omega) ⟨by simp,λi a b=>by omega⟩;rw[h];simp only[yJ,uE,a,Out.on];exact b
theorem Qqm{q:W Q0}{i:Q}(n:i<(Y5 q).length)(o:nth (Y5 q) i=O)(hd:Ku (nth q i)=O):(nth q i).2.2.2.1∈Yx q:=by
 have key:∀(l:W D) (k:Q) (s:W H),∃t,X5 (Hc q O) B0 l k s= .brk t/\(∀x,x∈s->x∈t)/\∀j,l[j]? =uA O->Ku (nth q (k+j))=O->(nth q (k+j)).2.2.2.1∈t:=by
  intro l
  induction l with
  | nil=>intro k s;exact⟨s,rfl,λ_ h=>h,λj h=>by simp at h⟩
  | cons a l g=>
    intro k s;simp only[X5,Hc];cases m:(Ku (nth q k)&&(a==O)) with
    | true=>
      obtain⟨t,c,e,d⟩:=g (k+1) (s++ [(nth q k).2.2.2.1]);refine⟨t,c,λx p=>e x (xQ _ p),λj f b=>?_⟩;cases j with
      | zero=>exact e _ (yU _ (by simp))
      | succ j=>
        have:=d j (by simpa using f) (by rwa [show k+1+j=k+(j+1) by omega])
        rwa [show k+1+j=k+(j+1) by omega] at this
    | false=>
      obtain⟨t,c,e,d⟩:=g (k+1) s;refine⟨t,c,e,λj f b=>?_⟩;cases j with
      | zero=>
        obtain rfl:a=O:=by simpa using f
        rw[xY] at b;rw[b] at m;cases m
      | succ j=>
        have:=d j (by simpa using f) (by rwa [show k+1+j=k+(j+1) by omega])
        rwa [show k+1+j=k+(j+1) by omega] at this
 unfold Yx Hw;obtain⟨t,c,_,d⟩:=key (Y5 q) 0 [];rw[c];simp only[Out.on];have:=d i (by rw[Hn n,o]) (by rwa [zW]);rw[zW] at this;exact((FD t).2 _).2 this
theorem RG(l:W Y)(x:Y):Hx l x=O↔x∈l:=by
 unfold Hx W0 Ek
 have key:∀(l:W Y) (k:Q),decide (((X5 (We x) Aa l k ()).on λ_=> -1)>=0)=O↔x∈l:=by
  intro l
  induction l with
  | nil=>intro k;simp[X5,Out.on,Aa]
  | cons a l b=>
    intro k;by_cases h:x=a
    . subst h;simp[X5,We,Out.on]
    have c:(x==a)=K:=uH.2 h;simp only[X5,We,c,uE];rw[b (k+1)];simp[h]
 exact key l 0
structure Seen (q:W Q0) (a b:W Qi):Prop where
 grow:∀nm x,x∈X8 a nm->x∈X8 b nm
 same:∀nm,nm∈Yx q->X8 a nm=X8 b nm
theorem NU{q:W Q0}(x:Qm q=O){a b:W Qi}(s:Seen q a b)(f:Xt):∀(n:Q) (k:Q),k<n->k<q.length->
 (nth (Y5 q) k=O->Z2 n q (k:Y) f a=Z2 n q (k:Y) f b)/\(Z2 n q (k:Y) f a=O->Z2 n q (k:Y) f b=O)
 | 0,_,h,_=>absurd h (by omega)
 | n +1,k,hkn,hk=>by
   obtain⟨r,t⟩:=Nq x (k:=(k:Y)) (by omega) (by omega)
   (try unfold qa at r t);rw[zM] at r t
   obtain⟨a1,d⟩:=Qql x;have d:=d k (by omega) hk;have u:=Qws (HP x (Hn hk));have o:=Qqm (q:=q) (i:=k) (by omega);have ih:=NU x s f n;unfold Z2
   (try unfold qa);rw[zM]
   (try unfold qa at*);generalize nth q k=m at r t d u o⊢
   have g:∀c:Y,0<=c->c<(k:Y)->G7 m c=O->((nth (Y5 q) k|| (m.1==5))=O->Z2 n q c f a=Z2 n q c f b)/\(Z2 n q c f a=O->Z2 n q c f b=O):=λc h0 h1 y=>by
    obtain⟨j,rfl⟩:∃j:Q,c=(j:Y):=⟨zH c,by omega⟩;obtain⟨p,v⟩:=ih j (by omega) (by omega);exact⟨λl=>p ((d j y).trans l),v⟩
   rcases u with h | h | h | h | h | h | h | h | h
   . simp[h]
   . simp[h]
   . simp[h]
   . simp[h]
   . obtain⟨k1,w⟩:=r (.inl h);obtain⟨p,_⟩:=g m.2.1 k1 w (by simp[G7,h]);have:=p (by simp[h]);simp[h,this]
   . obtain⟨k1,w⟩:=r (.inr (.inl h));obtain⟨z,k4⟩:=t (.inl h);obtain⟨p,v⟩:=g m.2.1 k1 w (by simp[G7,h]);obtain⟨g3,g4⟩:=g m.2.2.1 z k4 (by simp[G7,h]);refine⟨λl=>?_,λe=>?_⟩
     . simp[h,p (by simp[l]),g3 (by simp[l])]
     simp[h] at e⊢;exact⟨v e.1,g4 e.2⟩
   . obtain⟨k1,w⟩:=r (.inr (.inr h));obtain⟨z,k4⟩:=t (.inr h);obtain⟨p,v⟩:=g m.2.1 k1 w (by simp[G7,h]);obtain⟨g3,g4⟩:=g m.2.2.1 z k4 (by simp[G7,h]);refine⟨λl=>?_,λe=>?_⟩
     . simp[h,p (by simp[l]),g3 (by simp[l])]
     simp[h] at e⊢;exact e.imp v g4
   . refine⟨λl=>?_,λe=>?_⟩
     . simp[h,s.same _ (o l (by simp[Ku,h]))]
     simp[h] at e⊢;exact(RG _ _).2 (s.grow _ _ ((RG _ _).1 e))
   refine⟨λl=>?_,λe=>?_⟩
   . simp[h,s.same _ (o l (by simp[Ku,h]))]
   simp[h] at e⊢;exact⟨e.1,(RG _ _).2 (s.grow _ _ ((RG _ _).1 e.2))⟩
theorem Qa5{q:W Q0}{a b:W Qi}(d:Seen q a b)(f:Xt)(h:Ai q f a=O):Ai q f b=O:=by
 unfold Ai at h⊢;cases c:Qm q with
 | false=>rw[c] at h;cases h
 | true=>
   rw[c,yX] at h;rw[yX];have g:=Nf c;have e:((q.length:Y)-1)=((q.length-1:Q):Y):=by omega
   rw[e] at h⊢;exact(NU c d f q.length (q.length-1) (by omega) (by omega)).2 h
theorem Qid(s:X2)(q:W Q0)(r:W Qi):Jc s q r=sel s.2.1 (λf=>f.1) λf=>Ai q f r:=by
 unfold Jc;rw[Eb (f:=Cb q r) (p:=λf=>Ai q f r) (g:=λf=>f.1) (λ_ _ _=>rfl)];rfl
theorem WI{d:W Yj}{L:W Y}(h:Qr d=(L,O)):Qo d=O/\L.length=d.length/\Sat (Kx d) d.length L/\∀j,0<=nth L j:=by
 unfold Qr at h;cases c:Qo d with
 | false=>rw[c] at h;simp at h
 | true=>
   rw[c] at h;simp only[yJ,uE] at h;have m:=Hl c;have hw:=Pm (d:=d) (f:=Ar d) (e:=Au) (F:=Ux d) (λ_ _ _=>rfl) (λ_ _=>rfl) (λ_=>rfl) (by omega) (d.length*d.length+3) (zF d.length 0) O (D1 _).1 (D1 _).2
   have a:(VX (Kx d) d.length d.length (d.length*d.length+3) (O,zF d.length 0)).isSome=O:=by
    have:=Iq d m;rw[zM,hw,yS] at this;exact this
   obtain⟨r,k⟩:=yK.1 a;unfold N2 at h;rw[zM,hw,k] at h;have g:∀i e,e∈Kx d i->e.2<=1/\e.1<d.length:=λi e l=>⟨(Pk d i e l).1,(Pk d i e l).2.1⟩
   obtain⟨n,_⟩:=VZ g _ 0 O r (λe=>by cases e) k;cases r with
   | none=>simp[Qvz,Out.on] at h
   | some M=>
     have e:M=L:=by simpa [Qvz,Out.on] using h
     subst e;obtain⟨b,o⟩:=n M rfl;rw[o];exact⟨rfl,Hz _ _ _,VY (Hz _ _ _) b,λj=>Ed _ _ j _⟩
theorem Qmb{d:W Yj}{L:W Y}(h:Qr d=(L,O)):∀j,nth L j<=(d.length:Y):=by
 obtain⟨g,k,_,_⟩:=WI h;have n:=Hl g;unfold Qr at h;rw[g] at h;simp only[yJ,uE] at h;have hw:=Pm (d:=d) (f:=Ar d) (e:=Au) (F:=Ux d) (λ_ _ _=>rfl) (λ_ _=>rfl) (λ_=>rfl) (by omega) (d.length*d.length+3) (zF d.length 0) O (D1 _).1 (D1 _).2
 have a:(VX (Kx d) d.length d.length (d.length*d.length+3) (O,zF d.length 0)).isSome=O:=by
  have:=Iq d n;rw[zM,hw,yS] at this;exact this
 obtain⟨r,l⟩:=yK.1 a;unfold N2 at h;rw[zM,hw,l] at h;have c:∀i e,e∈Kx d i->e.2<=1/\e.1<d.length:=λi e m=>⟨(Pk d i e m).1,(Pk d i e m).2.1⟩
 obtain⟨o,_⟩:=VZ c _ 0 O r (λe=>by cases e) l;cases r with
 | none=>simp[Qvz,Out.on] at h
 | some M=>
   have e:M=L:=by simpa [Qvz,Out.on] using h
   subst e;obtain⟨b,p⟩:=o M rfl;intro j;by_cases q:j<d.length
   . rw[p];exact Int.le_of_lt (Qd0 c b j q)
   have:nth M j=0:=JZ (by omega);omega
theorem Nh{d:W Yj}{w:Y}{nm:H}:∀{l:W H},nm∈l->0<=Q9 d nm->(zH (Q9 d nm),w)∈Wk d w l
 | x::l,h,h0=>by
   simp only[Wk];rcases zO.1 h with rfl | h
   . rw[uB h0];exact zL ..
   split
   . exact zJ _ (Nh h h0)
   exact Nh h h0
theorem Qie{d:W Yj}{L:W Y}(h:Qr d=(L,O)){i:Q}(a:i<d.length){nm:H}(b:nm∈Yx (nth d i).2)(c:0<=Q9 d nm):nth L (zH (Q9 d nm))<nth L i:=by
 obtain⟨_,_,e,_⟩:=WI h
 have f:(zH (Q9 d nm),(1:Y))∈Kx d i:=by
  unfold Kx;rw[uB a];exact yU _ (Nh b c)
 have:=(Ec.1 (e i a)).2 _ f;simp only at this;omega
end
end Go.Proofs.YtlipbhahenojhaaGreatDoor
