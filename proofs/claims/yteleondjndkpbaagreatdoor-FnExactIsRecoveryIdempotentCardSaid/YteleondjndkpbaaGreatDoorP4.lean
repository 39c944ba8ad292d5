/- Texts of this proof, put together by a program: Nga, Ngb, Zd, Sh, Ts, Dpa, Dpb, Dpc, Dpd, Sta, Stb, Stc, Stg, Sth, Std, Ste, Isa, Isb, Yn0, In, Nf, Ws0, Sp, Sq, By, Gb. -/
import Derived.Test.YteleondjndkpbaaGreatDoorP3
import Derived.KernelRfl
import Derived.Sort.EncStr
import Derived.Sort.Grow
import Derived.Lib.SlicesCompact
import Derived.Sort.Walk0
import Derived.Shelf.Strings.Builder1
import Derived.Shelf.Strings.Builder2
import Derived.Shelf.Strings.OnBuilder
import Derived.Shelf.Small.Bits
import Derived.Shelf.Small.Wraps
import Derived.Shelf.Strings.BuilderF
import Derived.Shelf.Strings.BuilderK
import Derived.Shelf.Utf8.RuneCount
import Derived.Shelf.Strings.Builder2Cap
import Derived.Shelf.Strconv.Atoi
import Derived.Shelf.Strconv.Itoa0
import Derived.Shelf.Strconv.Itoa1
import Derived.Shelf.LaysM
import Derived.Shelf.Strconv.Itoa2
import Derived.Shelf.Strconv.Itoa3
import Derived.Shelf.Strconv.AtoiErrFast
import Derived.Shelf.Strconv.ParseIntEmpty
import Derived.Shelf.Strconv.AtoiFail
import Derived.Shelf.Strconv.Clone
import Derived.Shelf.Strconv.SyntaxError
import Derived.Shelf.LaysC
import Derived.Shelf.Strconv.ToError
import Derived.Shelf.Strconv.AtoiErr
import Derived.Shelf.Strconv.ErrVar
import Derived.Shelf.Strconv.Lower
import Derived.Shelf.Strconv.ParseUint10
import Derived.Shelf.Strconv.ParseUint10Empty
import Derived.Shelf.Strconv.ParseUint10Any
import Derived.Shelf.Strconv.ParseInt10
import Derived.Shelf.Strconv.AtoiLong
import Derived.Shelf.Strconv.AtoiInnerAll
import Derived.Shelf.Strconv.RangeError
import Derived.Shelf.Strconv.ToErrorRange
import Derived.Shelf.Strconv.AtoiAll
import Derived.Shelf.Strconv.ErrVarAll
import Derived.Shelf.Strconv.ParseUintEmpty
import Derived.Shelf.Strconv.ParseUint10b64
import Derived.Shelf.Strconv.ParseUint10b32
import Derived.Shelf.Strconv.ParseUint10b16
import Derived.Shelf.Strconv.ParseUint10b8
import Derived.Shelf.Strings.Search1
import Derived.Shelf.Strings.Search2
import Derived.Shelf.Strings.Search3
import Derived.Shelf.Strings.Count
import Derived.Shelf.Strings.Shaped
import Derived.Shelf.Sort.Plain
import Derived.Shelf.Strings.Split
import Derived.Shelf.Strings.Fields
import Derived.Shelf.Strings.SplitShaped
import Derived.Shelf.Unicode.Latin
import Derived.Shelf.Unicode.Decode
import Derived.Shelf.Strings.RuneCount
import Derived.Shelf.Strings.Explode
import Derived.Shelf.Unicode.DecodeSlow
import Derived.Shelf.Unicode.DecodeAny
import Derived.Shelf.Unicode.Is16White
import Derived.Shelf.Unicode.IsSpaceAny
import Derived.Shelf.Unicode.Is16WhiteD
import Derived.Shelf.Unicode.Is16Any
import Derived.Shelf.Unicode.Is32Any
import Derived.Shelf.Unicode.ExclAny
import Derived.Shelf.Slices.Turned
import Derived.Shelf.Slices.Equal
import Derived.Ground.Names2Prog
import Derived.Shelf.Slices.Clone
import Derived.Shelf.Slices.CompactI
import Derived.Shelf.Slices.CompactS
import Derived.Shelf.Slices.SearchI
import Derived.Shelf.Slices.Cells
import Derived.Shelf.Slices.In.SortNone
import Derived.Shelf.Slices.Empties2
import Derived.Ground.SlgnProg
import Derived.Shelf.SlicesE.Equal
import Derived.Shelf.SlicesE.Compact
import Derived.Shelf.SlicesE.Clone
import Derived.Ground.SlgfProg
import Derived.Shelf.SlicesE.IndexFunc
import Derived.Shelf.SlicesE.DeleteFunc
import Derived.Test.YteleondjndkpbaaGreatDoorProg
import Derived.Outline
import Derived.Laws.IdiomStrings
import Derived.Lib.ItoaNum
import Derived.Lib.ConvBytes
import Derived.Lib.SlBytesRow
import Derived.Lib.SmallJoins
import Derived.Lib.SplitLaws
import Derived.Lib.Fields
import Derived.Lib.Join
set_option linter.unusedVariables false
set_option linter.unusedSimpArgs false
namespace Go.Proofs.YteleondjndkpbaaGreatDoor
open _root_ renaming Int → Y, List → W, Nat → Q, congrArg → D, ByteArray → B, Bool → A, Unit → uA, UInt8 → uC, if_pos → uE, if_neg → uF, of_decide_eq_true → uG, cond_false → uH, Option → uI, Array → uL, cond_true → uM, Inhabited → uN, decide_eq_true_eq → uO, decide_eq_false → uP, decide_eq_true → uQ, of_decide_eq_false → uR, beq_iff_eq → uT, DecidableEq → uV, beq_eq_false_iff_ne → uW
open _root_.Bool renaming true → K, false → H
open _root_.Go renaming World → uB, maxLen → uJ, Value → uK, TypeId → uS, Program → uU
open _root_.Option renaming some → J, none → uD
open _root_.And renaming intro → xJ
open _root_.Array renaming getElem?_toList → yB, getElem?_append → yL, length_toList → yQ, getElem?_eq_getElem → yT, getElem?_modify → xC
open _root_.Bool renaming and_eq_true → yM, eq_iff_iff → yO, not_true → xG
open _root_.Classical renaming byContradiction → zW
open _root_.Exists renaming intro → yZ
open _root_.Function renaming comp_def → yH
open _root_.Int renaming toNat → zJ, le_refl → zS, toNat_natCast → zU, le_trans → yK, natCast_add → xB, tmod → xK
open _root_.List renaming length → zD, set → zE, replicate → zF, length_set → zG, mem_cons_of_mem → zH, length_cons → zK, length_map → zL, mem_cons_self → zM, range → zN, mem_cons → zO, eq_nil_of_length_eq_zero → zP, take → zR, pairwise_cons → zV, size_toArray → zX, mem_map → zY, mem_singleton → zZ, length_nil → yA, length_mergeSort → yC, getD → yE, drop → yF, getElem?_eq_some_iff → yG, nodup_nil → yJ, mergeSort_perm → yP, length_append → yR, mem_range → yS, getElem?_map → yV, range' → yW, getElem_mem → yX, take_of_length_le → yY, mem_append → xA, length_singleton → xD, range_eq_range' → xE, getElem_of_mem → xF, sum_cons → xH, map → xI
open _root_.Nat renaming le_refl → zT, mul_one → yD, zero_add → yI, zero_le → yU
open _root_.Option.some renaming inj → yN
open _root_.UInt8 renaming ofNat → zQ
section
open Go.RowKit
open GoE (enc wide)
def Z3 (q:W Q2) (k0:Q) (s0:W A):Rd (W A) (W A) (W A):=(bif ((nth q (dn ((q.length:Y)-1) k0).toNat).1==(5:Y)) then (.next (zE s0 ((nth q (dn ((q.length:Y)-1) k0).toNat).2.1).toNat ((nth s0 (dn ((q.length:Y)-1) k0).toNat)|| ((nth q (dn ((q.length:Y)-1) k0).toNat).1==(5:Y))))) else (bif ((nth q (dn ((q.length:Y)-1) k0).toNat).1==(6:Y)) then (.next (zE (zE s0 ((nth q (dn ((q.length:Y)-1) k0).toNat).2.1).toNat ((nth s0 (dn ((q.length:Y)-1) k0).toNat)|| ((nth q (dn ((q.length:Y)-1) k0).toNat).1==(5:Y)))) ((nth q (dn ((q.length:Y)-1) k0).toNat).2.2.1).toNat ((nth s0 (dn ((q.length:Y)-1) k0).toNat)|| ((nth q (dn ((q.length:Y)-1) k0).toNat).1==(5:Y))))) else (bif ((nth q (dn ((q.length:Y)-1) k0).toNat).1==(7:Y)) then (.next (zE (zE s0 ((nth q (dn ((q.length:Y)-1) k0).toNat).2.1).toNat ((nth s0 (dn ((q.length:Y)-1) k0).toNat)|| ((nth q (dn ((q.length:Y)-1) k0).toNat).1==(5:Y)))) ((nth q (dn ((q.length:Y)-1) k0).toNat).2.2.1).toNat ((nth s0 (dn ((q.length:Y)-1) k0).toNat)|| ((nth q (dn ((q.length:Y)-1) k0).toNat).1==(5:Y))))) else (.next s0))))
def Uy (_:Q) (s0:W A):(W A):=s0
def X9 (q:W Q2):(W A):=(bif (!(Qk q)) then [] else (Out.on (Ks (Z3 q) Uy (zD q) 0 (zF (q.length:Y).toNat H)) (λy0=>y0)))
theorem T3 (q:W Q2):ACalls Tryz.prog 301 [.h q] (.o 0 (X9 q)):=by
 refine en Qa Tryz.func301 λw0 F0 hG=> ?_
 refine sn Qa [0,2] [] p0 <| Qb <| tn Qa [0,2,8] [] (pc 1 (Vv q) p0) <| ck (!(Qk q)) (λh1=> ?_) (λh1=> ?_)
 ·refine tu Qa [(2,.e 0)] [] [] [] p0 <| opn [(H,2,0,K,384000,1)] ?_
  exact Qd <| po0 [] (Q9 h1 (rfl))
 have h1n:(Qk q)=K:=Zz h1;refine Qf <| wT 0 0 .sh q (λhw2 hl3=> ?_)
 refine tu Qa [(2,.e 0),(3,.one (.slc (.own K 704) 1 (zF (q.length:Y).toNat [.b H])))] [] [] [] (pl 1 q (px (Gc (lo:=0) (hi:=(q.length:Y)) (n:=1073741824) (⟨by omega,by omega,by omega⟩)) p0)) <| eqn [(3,.o 704 (zF (q.length:Y).toNat H))] [3] [] [] (by rw[show (zF (q.length:Y).toNat [.b H])=(eL (zF (q.length:Y).toNat H)) from Qig _ H];first | done | kernel_rfl) ?_
 refine Qb <| sn Qa [0,2,3,4] [] (pl 1 q (pe 2 (Jl (IntWalk.i64_in ((q.length:Y)-1) (by omega))) p0)) <| mz [(4,.i ((q.length:Y)-1))] [] [] [] <| Ql9 (Z3 q) Uy (zD q) (zF (q.length:Y).toNat H) (λk0 s0=> [(3,.o 704 s0),(4,.i (dn ((q.length:Y)-1) k0))]) [3,4] (λy0=> [(3,.o 704 y0)]) [0,3,4] (λ_ s0=>zD s0=(q.length:Y).toNat) (λy0=>zD y0=(q.length:Y).toNat) wf0 (by simp) (λk0 s0 O U=> ?_) (λk0 s0 O U=> ?_) (λy0 hD0=> ?_)
 ·have hA0_0:=U.2;have hdn0:=OT ((q.length:Y)-1) k0;refine Qb <| sn Qa [0,2,3,4,16] [] (pe 1 (zB ((dn ((q.length:Y)-1) k0)>=(0:Y))) p0) <| ckT <| Qf <| Qb <| Qo <| Qb <| mz [(16,.b K)] [] [] [] <| jn [(5,.b ((nth s0 (dn ((q.length:Y)-1) k0).toNat)|| ((nth q (dn ((q.length:Y)-1) k0).toNat).1==(5:Y))))] [16] [] [] (nth s0 (dn ((q.length:Y)-1) k0).toNat) (λh4=> ?_) (λh4=> ?_) ?_
  ·refine wT 3 0 (.own K 704) s0 (λhw6 hl7=> ?_);have hx5:=ng s0 (dn ((q.length:Y)-1) k0).toNat;refine rn Qa [0,2,3,4,5] [] (pG 2 (dn ((q.length:Y)-1) k0) hx5 (pt 3 h4 p0)) ?_;exact zA (by rw[h4]<;>kernel_rfl)
  ·refine wT 3 0 (.own K 704) s0 (λhw9 hl10=> ?_);have hx8:=ng s0 (dn ((q.length:Y)-1) k0).toNat;have hx11:=ng q (dn ((q.length:Y)-1) k0).toNat;refine rn Qa [0,2,3,4,5] [] (pG 2 (dn ((q.length:Y)-1) k0) hx8 (pf 3 h4 (pg 7 (dn ((q.length:Y)-1) k0) hx11 p0))) ?_;exact zA (by rw[h4]<;>kernel_rfl)
  have hx12:=ng q (dn ((q.length:Y)-1) k0).toNat;refine sn Qa [0,2,3,4,5,35] [] (pg 2 (dn ((q.length:Y)-1) k0) hx12 p0) <| Qo <| tn Qa [0,2,3,4,5,35,36] [] p0 <| ck ((nth q (dn ((q.length:Y)-1) k0).toNat).1==(5:Y)) (λh13=> ?_) (λh13=> ?_)
  ·have h13k:=GG h1n (by omega) (by omega) h13;have h13d:=eq_of_beq h13;refine wT 3 0 (.own K 704) s0 (λhw15 hl16=> ?_);have hx14:=ng s0 ((nth q (dn ((q.length:Y)-1) k0).toNat).2.1).toNat;refine qu Qa [(3,.one (.slc (.own K 704) 1 (setRow (eL s0) ((nth q (dn ((q.length:Y)-1) k0).toNat).2.1).toNat 0 [.b ((nth s0 (dn ((q.length:Y)-1) k0).toNat)|| ((nth q (dn ((q.length:Y)-1) k0).toNat).1==(5:Y)))])))] [3,5] [] [] (pg 3 (dn ((q.length:Y)-1) k0) hx12 (pG 7 ((nth q (dn ((q.length:Y)-1) k0).toNat).2.1) hx14 p0)) ?_;refine eqn [(3,.o 704 (zE s0 ((nth q (dn ((q.length:Y)-1) k0).toNat).2.1).toNat ((nth s0 (dn ((q.length:Y)-1) k0).toNat)|| ((nth q (dn ((q.length:Y)-1) k0).toNat).1==(5:Y)))))] [3] [] [] (by rw[Ke (y:=((nth s0 (dn ((q.length:Y)-1) k0).toNat)|| ((nth q (dn ((q.length:Y)-1) k0).toNat).1==(5:Y)))) hx14 rfl]<;>kernel_rfl) ?_;refine rn Qa [0,2,3,4] [] (pe 1 (show .i (IntKind.i64.wrap ((dn ((q.length:Y)-1) k0)-1))= .i (dn ((q.length:Y)-1) (k0+1)) from Jl (show IntKind.i64.wrap ((dn ((q.length:Y)-1) k0)-1)=(dn ((q.length:Y)-1) (k0+1)) from IntWalk.i64_in ((dn ((q.length:Y)-1) k0)-1) (by omega))) p0) ?_;exact xw (zE s0 ((nth q (dn ((q.length:Y)-1) k0).toNat).2.1).toNat ((nth s0 (dn ((q.length:Y)-1) k0).toNat)|| ((nth q (dn ((q.length:Y)-1) k0).toNat).1==(5:Y)))) ⟨Z6 O (Q9 h13 (rfl)) U.1,(by first|omega|(simp only[zG];omega))⟩
  have h13d:=X0 h13;refine Qb <| tu Qa [(35,.i ((nth q (dn ((q.length:Y)-1) k0).toNat).1)),(46,.b ((nth q (dn ((q.length:Y)-1) k0).toNat).1==(6:Y)))] [] [] [] p0 <| ck ((nth q (dn ((q.length:Y)-1) k0).toNat).1==(6:Y)) (λh17=> ?_) (λh17=> ?_)
  ·have h17k:=KG h1n (by omega) (by omega) h17;have h17m:=GH h1n (by omega) (by omega) h17;have h17d:=eq_of_beq h17;refine Qf <| ckt h17 ?_
   refine wT 3 0 (.own K 704) s0 (λhw19 hl20=> ?_);have hx18:=ng s0 ((nth q (dn ((q.length:Y)-1) k0).toNat).2.1).toNat;have hx21:(zE s0 ((nth q (dn ((q.length:Y)-1) k0).toNat).2.1).toNat ((nth s0 (dn ((q.length:Y)-1) k0).toNat)|| ((nth q (dn ((q.length:Y)-1) k0).toNat).1==(5:Y))))[((nth q (dn ((q.length:Y)-1) k0).toNat).2.2.1).toNat]? =J (nth (zE s0 ((nth q (dn ((q.length:Y)-1) k0).toNat).2.1).toNat ((nth s0 (dn ((q.length:Y)-1) k0).toNat)|| ((nth q (dn ((q.length:Y)-1) k0).toNat).1==(5:Y)))) ((nth q (dn ((q.length:Y)-1) k0).toNat).2.2.1).toNat):=Cu (by first|omega|(simp only[zG];omega));refine rU Qa Yo [(3,.one (.slc (.own K 704) 1 (setRow (setRow (eL s0) ((nth q (dn ((q.length:Y)-1) k0).toNat).2.1).toNat 0 [.b ((nth s0 (dn ((q.length:Y)-1) k0).toNat)|| ((nth q (dn ((q.length:Y)-1) k0).toNat).1==(5:Y)))]) ((nth q (dn ((q.length:Y)-1) k0).toNat).2.2.1).toNat 0 [.b ((nth s0 (dn ((q.length:Y)-1) k0).toNat)|| ((nth q (dn ((q.length:Y)-1) k0).toNat).1==(5:Y)))])))] [3,5,35,46] [] [] (pg 3 (dn ((q.length:Y)-1) k0) hx12 (pg 9 (dn ((q.length:Y)-1) k0) hx12 (pG 14 ((nth q (dn ((q.length:Y)-1) k0).toNat).2.1) hx18 (pR 16 (l:=(setRow (eL s0) ((nth q (dn ((q.length:Y)-1) k0).toNat).2.1).toNat 0 [.b ((nth s0 (dn ((q.length:Y)-1) k0).toNat)|| ((nth q (dn ((q.length:Y)-1) k0).toNat).1==(5:Y)))])) (j:=((nth q (dn ((q.length:Y)-1) k0).toNat).2.2.1)) (r:= [.b (nth (zE s0 ((nth q (dn ((q.length:Y)-1) k0).toNat).2.1).toNat ((nth s0 (dn ((q.length:Y)-1) k0).toNat)|| ((nth q (dn ((q.length:Y)-1) k0).toNat).1==(5:Y)))) ((nth q (dn ((q.length:Y)-1) k0).toNat).2.2.1).toNat)]) (by rw[Ke (y:=((nth s0 (dn ((q.length:Y)-1) k0).toNat)|| ((nth q (dn ((q.length:Y)-1) k0).toNat).1==(5:Y)))) hx18 rfl];exact Qbd (by omega) rfl hx21) p0)))) ?_;refine eqn [(3,.o 704 (zE (zE s0 ((nth q (dn ((q.length:Y)-1) k0).toNat).2.1).toNat ((nth s0 (dn ((q.length:Y)-1) k0).toNat)|| ((nth q (dn ((q.length:Y)-1) k0).toNat).1==(5:Y)))) ((nth q (dn ((q.length:Y)-1) k0).toNat).2.2.1).toNat ((nth s0 (dn ((q.length:Y)-1) k0).toNat)|| ((nth q (dn ((q.length:Y)-1) k0).toNat).1==(5:Y)))))] [3] [] [] (by rw[Ke (y:=((nth s0 (dn ((q.length:Y)-1) k0).toNat)|| ((nth q (dn ((q.length:Y)-1) k0).toNat).1==(5:Y)))) hx18 rfl,Ke (y:=((nth s0 (dn ((q.length:Y)-1) k0).toNat)|| ((nth q (dn ((q.length:Y)-1) k0).toNat).1==(5:Y)))) hx21 rfl]<;>kernel_rfl) ?_;refine rn Qa [0,2,3,4] [] (pe 1 (show .i (IntKind.i64.wrap ((dn ((q.length:Y)-1) k0)-1))= .i (dn ((q.length:Y)-1) (k0+1)) from Jl (show IntKind.i64.wrap ((dn ((q.length:Y)-1) k0)-1)=(dn ((q.length:Y)-1) (k0+1)) from IntWalk.i64_in ((dn ((q.length:Y)-1) k0)-1) (by omega))) p0) ?_;exact xw (zE (zE s0 ((nth q (dn ((q.length:Y)-1) k0).toNat).2.1).toNat ((nth s0 (dn ((q.length:Y)-1) k0).toNat)|| ((nth q (dn ((q.length:Y)-1) k0).toNat).1==(5:Y)))) ((nth q (dn ((q.length:Y)-1) k0).toNat).2.2.1).toNat ((nth s0 (dn ((q.length:Y)-1) k0).toNat)|| ((nth q (dn ((q.length:Y)-1) k0).toNat).1==(5:Y)))) ⟨Z6 O (Qj h13 (Q9 h17 (rfl))) U.1,(by first|omega|(simp only[zG];omega))⟩
  have h17d:=X0 h17;refine rn Qa [0,2,3,4,5,46] [] p0 ?_;refine ck ((nth q (dn ((q.length:Y)-1) k0).toNat).1==(7:Y)) (λh22=> ?_) (λh22=> ?_)
  ·have h22k:=WN h1n (by omega) (by omega) h22;have h22m:=IS h1n (by omega) (by omega) h22;have h22d:=eq_of_beq h22;refine wT 3 0 (.own K 704) s0 (λhw24 hl25=> ?_);have hx23:=ng s0 ((nth q (dn ((q.length:Y)-1) k0).toNat).2.1).toNat;have hx26:(zE s0 ((nth q (dn ((q.length:Y)-1) k0).toNat).2.1).toNat ((nth s0 (dn ((q.length:Y)-1) k0).toNat)|| ((nth q (dn ((q.length:Y)-1) k0).toNat).1==(5:Y))))[((nth q (dn ((q.length:Y)-1) k0).toNat).2.2.1).toNat]? =J (nth (zE s0 ((nth q (dn ((q.length:Y)-1) k0).toNat).2.1).toNat ((nth s0 (dn ((q.length:Y)-1) k0).toNat)|| ((nth q (dn ((q.length:Y)-1) k0).toNat).1==(5:Y)))) ((nth q (dn ((q.length:Y)-1) k0).toNat).2.2.1).toNat):=Cu (by first|omega|(simp only[zG];omega));refine qU Qa Yo [(3,.one (.slc (.own K 704) 1 (setRow (setRow (eL s0) ((nth q (dn ((q.length:Y)-1) k0).toNat).2.1).toNat 0 [.b ((nth s0 (dn ((q.length:Y)-1) k0).toNat)|| ((nth q (dn ((q.length:Y)-1) k0).toNat).1==(5:Y)))]) ((nth q (dn ((q.length:Y)-1) k0).toNat).2.2.1).toNat 0 [.b ((nth s0 (dn ((q.length:Y)-1) k0).toNat)|| ((nth q (dn ((q.length:Y)-1) k0).toNat).1==(5:Y)))])))] [3,5,35,46] [] [] (pg 3 (dn ((q.length:Y)-1) k0) hx12 (pg 9 (dn ((q.length:Y)-1) k0) hx12 (pG 14 ((nth q (dn ((q.length:Y)-1) k0).toNat).2.1) hx23 (pR 16 (l:=(setRow (eL s0) ((nth q (dn ((q.length:Y)-1) k0).toNat).2.1).toNat 0 [.b ((nth s0 (dn ((q.length:Y)-1) k0).toNat)|| ((nth q (dn ((q.length:Y)-1) k0).toNat).1==(5:Y)))])) (j:=((nth q (dn ((q.length:Y)-1) k0).toNat).2.2.1)) (r:= [.b (nth (zE s0 ((nth q (dn ((q.length:Y)-1) k0).toNat).2.1).toNat ((nth s0 (dn ((q.length:Y)-1) k0).toNat)|| ((nth q (dn ((q.length:Y)-1) k0).toNat).1==(5:Y)))) ((nth q (dn ((q.length:Y)-1) k0).toNat).2.2.1).toNat)]) (by rw[Ke (y:=((nth s0 (dn ((q.length:Y)-1) k0).toNat)|| ((nth q (dn ((q.length:Y)-1) k0).toNat).1==(5:Y)))) hx23 rfl];exact Qbd (by omega) rfl hx26) p0)))) ?_;refine eqn [(3,.o 704 (zE (zE s0 ((nth q (dn ((q.length:Y)-1) k0).toNat).2.1).toNat ((nth s0 (dn ((q.length:Y)-1) k0).toNat)|| ((nth q (dn ((q.length:Y)-1) k0).toNat).1==(5:Y)))) ((nth q (dn ((q.length:Y)-1) k0).toNat).2.2.1).toNat ((nth s0 (dn ((q.length:Y)-1) k0).toNat)|| ((nth q (dn ((q.length:Y)-1) k0).toNat).1==(5:Y)))))] [3] [] [] (by rw[Ke (y:=((nth s0 (dn ((q.length:Y)-1) k0).toNat)|| ((nth q (dn ((q.length:Y)-1) k0).toNat).1==(5:Y)))) hx23 rfl,Ke (y:=((nth s0 (dn ((q.length:Y)-1) k0).toNat)|| ((nth q (dn ((q.length:Y)-1) k0).toNat).1==(5:Y)))) hx26 rfl]<;>kernel_rfl) ?_;refine rn Qa [0,2,3,4] [] (pe 1 (show .i (IntKind.i64.wrap ((dn ((q.length:Y)-1) k0)-1))= .i (dn ((q.length:Y)-1) (k0+1)) from Jl (show IntKind.i64.wrap ((dn ((q.length:Y)-1) k0)-1)=(dn ((q.length:Y)-1) (k0+1)) from IntWalk.i64_in ((dn ((q.length:Y)-1) k0)-1) (by omega))) p0) ?_;exact xw (zE (zE s0 ((nth q (dn ((q.length:Y)-1) k0).toNat).2.1).toNat ((nth s0 (dn ((q.length:Y)-1) k0).toNat)|| ((nth q (dn ((q.length:Y)-1) k0).toNat).1==(5:Y)))) ((nth q (dn ((q.length:Y)-1) k0).toNat).2.2.1).toNat ((nth s0 (dn ((q.length:Y)-1) k0).toNat)|| ((nth q (dn ((q.length:Y)-1) k0).toNat).1==(5:Y)))) ⟨Z6 O (Qj h13 (Qj h17 (Q9 h22 (rfl)))) U.1,(by first|omega|(simp only[zG];omega))⟩
  have h22d:=X0 h22;refine Qf <| qn Qa [0,2,3,4] [] (pe 1 (show .i (IntKind.i64.wrap ((dn ((q.length:Y)-1) k0)-1))= .i (dn ((q.length:Y)-1) (k0+1)) from Jl (show IntKind.i64.wrap ((dn ((q.length:Y)-1) k0)-1)=(dn ((q.length:Y)-1) (k0+1)) from IntWalk.i64_in ((dn ((q.length:Y)-1) k0)-1) (by omega))) p0) ?_
  exact xw s0 ⟨Z6 O (Qj h13 (Qj h17 (Qj h22 (rfl)))) U.1,(by first|omega|(simp only[zG];omega))⟩
 ·have hA0_0:=U.2;have hdn0:=OT ((q.length:Y)-1) k0;exact Qb <| sn Qa [0,2,3,4,16] [] (pe 1 (zC ((dn ((q.length:Y)-1) k0)>=(0:Y))) p0) <| ckF <| Q4 <| xw s0 ⟨U6 O (rfl) U.1,by first|omega|(simp only[zG];omega)⟩
 have hD0_0:=hD0.2;exact sn Qa [2] [] p0 <| Qd <| po0 [] (Qj h1 (Vp hD0.1 (rfl)))
def Uz (q:W Q2) (k0:Q) (s0:W A):Rd (W A) (W A) (W A):=(bif ((nth q (dn ((q.length:Y)-1) k0).toNat).1==(5:Y)) then (bif (((nth q (dn ((q.length:Y)-1) k0).toNat).1==(6:Y))|| ((nth q (dn ((q.length:Y)-1) k0).toNat).1==(7:Y))) then (.next (zE (zE (zE s0 ((nth q (dn ((q.length:Y)-1) k0).toNat).2.1).toNat K) ((nth q (dn ((q.length:Y)-1) k0).toNat).2.1).toNat (nth (zE s0 ((nth q (dn ((q.length:Y)-1) k0).toNat).2.1).toNat K) (dn ((q.length:Y)-1) k0).toNat)) ((nth q (dn ((q.length:Y)-1) k0).toNat).2.2.1).toNat (nth (zE (zE s0 ((nth q (dn ((q.length:Y)-1) k0).toNat).2.1).toNat K) ((nth q (dn ((q.length:Y)-1) k0).toNat).2.1).toNat (nth (zE s0 ((nth q (dn ((q.length:Y)-1) k0).toNat).2.1).toNat K) (dn ((q.length:Y)-1) k0).toNat)) (dn ((q.length:Y)-1) k0).toNat))) else (.next (zE s0 ((nth q (dn ((q.length:Y)-1) k0).toNat).2.1).toNat K))) else (bif (((nth q (dn ((q.length:Y)-1) k0).toNat).1==(6:Y))|| ((nth q (dn ((q.length:Y)-1) k0).toNat).1==(7:Y))) then (.next (zE (zE s0 ((nth q (dn ((q.length:Y)-1) k0).toNat).2.1).toNat (nth s0 (dn ((q.length:Y)-1) k0).toNat)) ((nth q (dn ((q.length:Y)-1) k0).toNat).2.2.1).toNat (nth (zE s0 ((nth q (dn ((q.length:Y)-1) k0).toNat).2.1).toNat (nth s0 (dn ((q.length:Y)-1) k0).toNat)) (dn ((q.length:Y)-1) k0).toNat))) else (.next s0)))
def Dn (_:Q) (s0:W A):(W A):=s0
def Jo (q:W Q2):(W A):=(bif (!(Yt q)) then [] else (Out.on (Ks (Uz q) Dn (zD q) 0 (zF (q.length:Y).toNat H)) (λy0=>y0)))
theorem T4 (q:W Q2):ACalls Tryz.prog 322 [.h q] (.o 0 (Jo q)):=by
 refine en Qa Tryz.func322 λw0 F0 hG=> ?_
 refine sn Qa [0,2] [] p0 <| Qb <| tn Qa [0,2,9] [] (pc 1 (Vx q) p0) <| ck (!(Yt q)) (λh1=> ?_) (λh1=> ?_)
 ·exact tu Qa [(2,.one (.slc (.own K 640) 1 []))] [] [] [] p0 <| Qd <| po0 [] (Q9 h1 (rfl))
 have h1n:(Yt q)=K:=Zz h1;refine Qf <| wT 0 0 .sh q (λhw2 hl3=> ?_)
 refine tu Qa [(2,.e 0),(3,.one (.slc (.own K 832) 1 (zF (q.length:Y).toNat [.b H])))] [] [] [] (pl 1 q (px (Gc (lo:=0) (hi:=(q.length:Y)) (n:=1073741824) (⟨by omega,by omega,by omega⟩)) p0)) <| eqn [(3,.o 832 (zF (q.length:Y).toNat H))] [3] [] [] (by rw[show (zF (q.length:Y).toNat [.b H])=(eL (zF (q.length:Y).toNat H)) from Qig _ H];first | done | kernel_rfl) ?_
 refine Qb <| sn Qa [0,2,3,4] [] (pl 1 q (pe 2 (Jl (IntWalk.i64_in ((q.length:Y)-1) (by omega))) p0)) <| mz [(4,.i ((q.length:Y)-1))] [] [] [] <| Ql9 (Uz q) Dn (zD q) (zF (q.length:Y).toNat H) (λk0 s0=> [(3,.o 832 s0),(4,.i (dn ((q.length:Y)-1) k0))]) [3,4] (λy0=> [(3,.o 832 y0)]) [0,3,4] (λ_ s0=>zD s0=(q.length:Y).toNat) (λy0=>zD y0=(q.length:Y).toNat) wf0 (by simp) (λk0 s0 O U=> ?_) (λk0 s0 O U=> ?_) (λy0 hD0=> ?_)
 ·have hA0_0:=U.2;have hdn0:=OT ((q.length:Y)-1) k0;refine Qb <| sn Qa [0,2,3,4,18] [] (pe 1 (zB ((dn ((q.length:Y)-1) k0)>=(0:Y))) p0) <| ckT <| Qf <| Qb <| Qo ?_
  have hx4:=ng q (dn ((q.length:Y)-1) k0).toNat;refine tn Qa [0,2,3,4,5] [5] (pg 2 (dn ((q.length:Y)-1) k0) hx4 p0) <| Qb <| mz [(5,.p 5 0)] [] [(5, [.i ((nth q (dn ((q.length:Y)-1) k0).toNat).1),.i ((nth q (dn ((q.length:Y)-1) k0).toNat).2.1),.i ((nth q (dn ((q.length:Y)-1) k0).toNat).2.2.1),.s ((nth q (dn ((q.length:Y)-1) k0).toNat).2.2.2.1),.i ((nth q (dn ((q.length:Y)-1) k0).toNat).2.2.2.2.1),.i ((nth q (dn ((q.length:Y)-1) k0).toNat).2.2.2.2.2.1),.s ((nth q (dn ((q.length:Y)-1) k0).toNat).2.2.2.2.2.2)])] [] <| jn [(6,.b (((nth q (dn ((q.length:Y)-1) k0).toNat).1==(6:Y))|| ((nth q (dn ((q.length:Y)-1) k0).toNat).1==(7:Y))))] [] [] [] ((nth q (dn ((q.length:Y)-1) k0).toNat).1==(6:Y)) (λh5=> ?_) (λh5=> ?_) ?_
  ·have h5k:=KG (Ni h1n) (by omega) (by omega) h5;have h5m:=GH (Ni h1n) (by omega) (by omega) h5;refine rn Qa [0,2,3,4,5,6] [5] (pt 2 h5 p0) ?_;exact zA (by rw[h5]<;>kernel_rfl)
  ·refine rn Qa [0,2,3,4,5,6] [5] (pf 2 h5 p0) ?_;exact zA (by rw[h5]<;>kernel_rfl)
  refine Qb <| sn Qa [0,2,3,4,5,6,35] [5] p0 <| ck ((nth q (dn ((q.length:Y)-1) k0).toNat).1==(5:Y)) (λh6=> ?_) (λh6=> ?_)
  ·have h6k:=GG (Ni h1n) (by omega) (by omega) h6;have h6d:=eq_of_beq h6;refine wT 3 0 (.own K 832) s0 (λhw8 hl9=> ?_);have hx7:=ng s0 ((nth q (dn ((q.length:Y)-1) k0).toNat).2.1).toNat;refine qu Qa [(3,.one (.slc (.own K 832) 1 (setRow (eL s0) ((nth q (dn ((q.length:Y)-1) k0).toNat).2.1).toNat 0 [.b K])))] [3] [] [] (pG 3 ((nth q (dn ((q.length:Y)-1) k0).toNat).2.1) hx7 p0) ?_;refine eqn [(3,.o 832 (zE s0 ((nth q (dn ((q.length:Y)-1) k0).toNat).2.1).toNat K))] [3] [] [] (by rw[Ke (y:=K) hx7 rfl]<;>kernel_rfl) ?_;refine sn Qa [0,2,3,4,5,40] [5] p0 <| ck (((nth q (dn ((q.length:Y)-1) k0).toNat).1==(6:Y))|| ((nth q (dn ((q.length:Y)-1) k0).toNat).1==(7:Y))) (λh10=> ?_) (λh10=> ?_)
   ·have h10k:=Qkl (Ni h1n) (by omega) (by omega) h10;refine wT 3 0 (.own K 832) (zE s0 ((nth q (dn ((q.length:Y)-1) k0).toNat).2.1).toNat K) (λhw12 hl13=> ?_);have hx11:=ng (zE s0 ((nth q (dn ((q.length:Y)-1) k0).toNat).2.1).toNat K) (dn ((q.length:Y)-1) k0).toNat (by first|omega|(simp only[zG];omega));have hx14:=ng (zE s0 ((nth q (dn ((q.length:Y)-1) k0).toNat).2.1).toNat K) ((nth q (dn ((q.length:Y)-1) k0).toNat).2.1).toNat (by first|omega|(simp only[zG];omega));refine tU Qa Yo [(3,.one (.slc (.own K 832) 1 (setRow (eL (zE s0 ((nth q (dn ((q.length:Y)-1) k0).toNat).2.1).toNat K)) ((nth q (dn ((q.length:Y)-1) k0).toNat).2.1).toNat 0 [.b (nth (zE s0 ((nth q (dn ((q.length:Y)-1) k0).toNat).2.1).toNat K) (dn ((q.length:Y)-1) k0).toNat)])))] [3,6] [] [] (pG 5 (dn ((q.length:Y)-1) k0) hx11 (pG 7 ((nth q (dn ((q.length:Y)-1) k0).toNat).2.1) hx14 p0)) <| eqn [(3,.o 832 (zE (zE s0 ((nth q (dn ((q.length:Y)-1) k0).toNat).2.1).toNat K) ((nth q (dn ((q.length:Y)-1) k0).toNat).2.1).toNat (nth (zE s0 ((nth q (dn ((q.length:Y)-1) k0).toNat).2.1).toNat K) (dn ((q.length:Y)-1) k0).toNat)))] [3] [] [] (by rw[Ke (y:=(nth (zE s0 ((nth q (dn ((q.length:Y)-1) k0).toNat).2.1).toNat K) (dn ((q.length:Y)-1) k0).toNat)) hx14 rfl]<;>kernel_rfl) ?_
    refine wT 3 0 (.own K 832) (zE (zE s0 ((nth q (dn ((q.length:Y)-1) k0).toNat).2.1).toNat K) ((nth q (dn ((q.length:Y)-1) k0).toNat).2.1).toNat (nth (zE s0 ((nth q (dn ((q.length:Y)-1) k0).toNat).2.1).toNat K) (dn ((q.length:Y)-1) k0).toNat)) (λhw16 hl17=> ?_);have hx15:=ng (zE (zE s0 ((nth q (dn ((q.length:Y)-1) k0).toNat).2.1).toNat K) ((nth q (dn ((q.length:Y)-1) k0).toNat).2.1).toNat (nth (zE s0 ((nth q (dn ((q.length:Y)-1) k0).toNat).2.1).toNat K) (dn ((q.length:Y)-1) k0).toNat)) (dn ((q.length:Y)-1) k0).toNat (by first|omega|(simp only[zG];omega));have hx18:=ng (zE (zE s0 ((nth q (dn ((q.length:Y)-1) k0).toNat).2.1).toNat K) ((nth q (dn ((q.length:Y)-1) k0).toNat).2.1).toNat (nth (zE s0 ((nth q (dn ((q.length:Y)-1) k0).toNat).2.1).toNat K) (dn ((q.length:Y)-1) k0).toNat)) ((nth q (dn ((q.length:Y)-1) k0).toNat).2.2.1).toNat (by first|omega|(simp only[zG];omega));refine rU Qa Yo [(3,.one (.slc (.own K 832) 1 (setRow (eL (zE (zE s0 ((nth q (dn ((q.length:Y)-1) k0).toNat).2.1).toNat K) ((nth q (dn ((q.length:Y)-1) k0).toNat).2.1).toNat (nth (zE s0 ((nth q (dn ((q.length:Y)-1) k0).toNat).2.1).toNat K) (dn ((q.length:Y)-1) k0).toNat))) ((nth q (dn ((q.length:Y)-1) k0).toNat).2.2.1).toNat 0 [.b (nth (zE (zE s0 ((nth q (dn ((q.length:Y)-1) k0).toNat).2.1).toNat K) ((nth q (dn ((q.length:Y)-1) k0).toNat).2.1).toNat (nth (zE s0 ((nth q (dn ((q.length:Y)-1) k0).toNat).2.1).toNat K) (dn ((q.length:Y)-1) k0).toNat)) (dn ((q.length:Y)-1) k0).toNat)])))] [3,5] [] [5] (pG 5 (dn ((q.length:Y)-1) k0) hx15 (pG 7 ((nth q (dn ((q.length:Y)-1) k0).toNat).2.2.1) hx18 p0)) ?_;refine eqn [(3,.o 832 (zE (zE (zE s0 ((nth q (dn ((q.length:Y)-1) k0).toNat).2.1).toNat K) ((nth q (dn ((q.length:Y)-1) k0).toNat).2.1).toNat (nth (zE s0 ((nth q (dn ((q.length:Y)-1) k0).toNat).2.1).toNat K) (dn ((q.length:Y)-1) k0).toNat)) ((nth q (dn ((q.length:Y)-1) k0).toNat).2.2.1).toNat (nth (zE (zE s0 ((nth q (dn ((q.length:Y)-1) k0).toNat).2.1).toNat K) ((nth q (dn ((q.length:Y)-1) k0).toNat).2.1).toNat (nth (zE s0 ((nth q (dn ((q.length:Y)-1) k0).toNat).2.1).toNat K) (dn ((q.length:Y)-1) k0).toNat)) (dn ((q.length:Y)-1) k0).toNat)))] [3] [] [] (by rw[Ke (y:=(nth (zE (zE s0 ((nth q (dn ((q.length:Y)-1) k0).toNat).2.1).toNat K) ((nth q (dn ((q.length:Y)-1) k0).toNat).2.1).toNat (nth (zE s0 ((nth q (dn ((q.length:Y)-1) k0).toNat).2.1).toNat K) (dn ((q.length:Y)-1) k0).toNat)) (dn ((q.length:Y)-1) k0).toNat)) hx18 rfl]<;>kernel_rfl) ?_;refine rn Qa [0,2,3,4] [] (pe 1 (show .i (IntKind.i64.wrap ((dn ((q.length:Y)-1) k0)-1))= .i (dn ((q.length:Y)-1) (k0+1)) from Jl (show IntKind.i64.wrap ((dn ((q.length:Y)-1) k0)-1)=(dn ((q.length:Y)-1) (k0+1)) from IntWalk.i64_in ((dn ((q.length:Y)-1) k0)-1) (by omega))) p0) ?_;exact xw (zE (zE (zE s0 ((nth q (dn ((q.length:Y)-1) k0).toNat).2.1).toNat K) ((nth q (dn ((q.length:Y)-1) k0).toNat).2.1).toNat (nth (zE s0 ((nth q (dn ((q.length:Y)-1) k0).toNat).2.1).toNat K) (dn ((q.length:Y)-1) k0).toNat)) ((nth q (dn ((q.length:Y)-1) k0).toNat).2.2.1).toNat (nth (zE (zE s0 ((nth q (dn ((q.length:Y)-1) k0).toNat).2.1).toNat K) ((nth q (dn ((q.length:Y)-1) k0).toNat).2.1).toNat (nth (zE s0 ((nth q (dn ((q.length:Y)-1) k0).toNat).2.1).toNat K) (dn ((q.length:Y)-1) k0).toNat)) (dn ((q.length:Y)-1) k0).toNat)) ⟨Z6 O (Q9 h6 (Q9 h10 (rfl))) U.1,(by first|omega|(simp only[zG];omega))⟩
   have h10l:(((nth q (dn ((q.length:Y)-1) k0).toNat).1==(6:Y)))=H:=JL h10;have h10ld:=X0 h10l;have h10r:(((nth q (dn ((q.length:Y)-1) k0).toNat).1==(7:Y)))=H:=WL h10;have h10rd:=X0 h10r;refine Qf <| qn Qa [0,2,3,4] [] (pe 1 (show .i (IntKind.i64.wrap ((dn ((q.length:Y)-1) k0)-1))= .i (dn ((q.length:Y)-1) (k0+1)) from Jl (show IntKind.i64.wrap ((dn ((q.length:Y)-1) k0)-1)=(dn ((q.length:Y)-1) (k0+1)) from IntWalk.i64_in ((dn ((q.length:Y)-1) k0)-1) (by omega))) p0) ?_
   exact xw (zE s0 ((nth q (dn ((q.length:Y)-1) k0).toNat).2.1).toNat K) ⟨Z6 O (Q9 h6 (Qj h10 (rfl))) U.1,(by first|omega|(simp only[zG];omega))⟩
  have h6d:=X0 h6;refine Qf <| tn Qa [0,2,3,4,5,40] [5] p0 <| ck (((nth q (dn ((q.length:Y)-1) k0).toNat).1==(6:Y))|| ((nth q (dn ((q.length:Y)-1) k0).toNat).1==(7:Y))) (λh19=> ?_) (λh19=> ?_)
  ·have h19k:=Qkl (Ni h1n) (by omega) (by omega) h19;refine wT 3 0 (.own K 832) s0 (λhw21 hl22=> ?_);have hx20:=ng s0 (dn ((q.length:Y)-1) k0).toNat;have hx23:=ng s0 ((nth q (dn ((q.length:Y)-1) k0).toNat).2.1).toNat;refine tU Qa Yo [(3,.one (.slc (.own K 832) 1 (setRow (eL s0) ((nth q (dn ((q.length:Y)-1) k0).toNat).2.1).toNat 0 [.b (nth s0 (dn ((q.length:Y)-1) k0).toNat)])))] [3,6] [] [] (pG 5 (dn ((q.length:Y)-1) k0) hx20 (pG 7 ((nth q (dn ((q.length:Y)-1) k0).toNat).2.1) hx23 p0)) <| eqn [(3,.o 832 (zE s0 ((nth q (dn ((q.length:Y)-1) k0).toNat).2.1).toNat (nth s0 (dn ((q.length:Y)-1) k0).toNat)))] [3] [] [] (by rw[Ke (y:=(nth s0 (dn ((q.length:Y)-1) k0).toNat)) hx23 rfl]<;>kernel_rfl) ?_
   refine wT 3 0 (.own K 832) (zE s0 ((nth q (dn ((q.length:Y)-1) k0).toNat).2.1).toNat (nth s0 (dn ((q.length:Y)-1) k0).toNat)) (λhw25 hl26=> ?_);have hx24:=ng (zE s0 ((nth q (dn ((q.length:Y)-1) k0).toNat).2.1).toNat (nth s0 (dn ((q.length:Y)-1) k0).toNat)) (dn ((q.length:Y)-1) k0).toNat (by first|omega|(simp only[zG];omega));have hx27:=ng (zE s0 ((nth q (dn ((q.length:Y)-1) k0).toNat).2.1).toNat (nth s0 (dn ((q.length:Y)-1) k0).toNat)) ((nth q (dn ((q.length:Y)-1) k0).toNat).2.2.1).toNat (by first|omega|(simp only[zG];omega));refine rU Qa Yo [(3,.one (.slc (.own K 832) 1 (setRow (eL (zE s0 ((nth q (dn ((q.length:Y)-1) k0).toNat).2.1).toNat (nth s0 (dn ((q.length:Y)-1) k0).toNat))) ((nth q (dn ((q.length:Y)-1) k0).toNat).2.2.1).toNat 0 [.b (nth (zE s0 ((nth q (dn ((q.length:Y)-1) k0).toNat).2.1).toNat (nth s0 (dn ((q.length:Y)-1) k0).toNat)) (dn ((q.length:Y)-1) k0).toNat)])))] [3,5] [] [5] (pG 5 (dn ((q.length:Y)-1) k0) hx24 (pG 7 ((nth q (dn ((q.length:Y)-1) k0).toNat).2.2.1) hx27 p0)) ?_;refine eqn [(3,.o 832 (zE (zE s0 ((nth q (dn ((q.length:Y)-1) k0).toNat).2.1).toNat (nth s0 (dn ((q.length:Y)-1) k0).toNat)) ((nth q (dn ((q.length:Y)-1) k0).toNat).2.2.1).toNat (nth (zE s0 ((nth q (dn ((q.length:Y)-1) k0).toNat).2.1).toNat (nth s0 (dn ((q.length:Y)-1) k0).toNat)) (dn ((q.length:Y)-1) k0).toNat)))] [3] [] [] (by rw[Ke (y:=(nth (zE s0 ((nth q (dn ((q.length:Y)-1) k0).toNat).2.1).toNat (nth s0 (dn ((q.length:Y)-1) k0).toNat)) (dn ((q.length:Y)-1) k0).toNat)) hx27 rfl]<;>kernel_rfl) ?_;refine rn Qa [0,2,3,4] [] (pe 1 (show .i (IntKind.i64.wrap ((dn ((q.length:Y)-1) k0)-1))= .i (dn ((q.length:Y)-1) (k0+1)) from Jl (show IntKind.i64.wrap ((dn ((q.length:Y)-1) k0)-1)=(dn ((q.length:Y)-1) (k0+1)) from IntWalk.i64_in ((dn ((q.length:Y)-1) k0)-1) (by omega))) p0) ?_;exact xw (zE (zE s0 ((nth q (dn ((q.length:Y)-1) k0).toNat).2.1).toNat (nth s0 (dn ((q.length:Y)-1) k0).toNat)) ((nth q (dn ((q.length:Y)-1) k0).toNat).2.2.1).toNat (nth (zE s0 ((nth q (dn ((q.length:Y)-1) k0).toNat).2.1).toNat (nth s0 (dn ((q.length:Y)-1) k0).toNat)) (dn ((q.length:Y)-1) k0).toNat)) ⟨Z6 O (Qj h6 (Q9 h19 (rfl))) U.1,(by first|omega|(simp only[zG];omega))⟩
  have h19l:(((nth q (dn ((q.length:Y)-1) k0).toNat).1==(6:Y)))=H:=JL h19;have h19ld:=X0 h19l;have h19r:(((nth q (dn ((q.length:Y)-1) k0).toNat).1==(7:Y)))=H:=WL h19;have h19rd:=X0 h19r;refine Qf <| qu Qa [(4,.i (dn ((q.length:Y)-1) (k0+1)))] [4,5,6] [] [5] (pe 1 (show .i (IntKind.i64.wrap ((dn ((q.length:Y)-1) k0)-1))= .i (dn ((q.length:Y)-1) (k0+1)) from Jl (show IntKind.i64.wrap ((dn ((q.length:Y)-1) k0)-1)=(dn ((q.length:Y)-1) (k0+1)) from IntWalk.i64_in ((dn ((q.length:Y)-1) k0)-1) (by omega))) p0) ?_
  exact xw s0 ⟨Z6 O (Qj h6 (Qj h19 (rfl))) U.1,(by first|omega|(simp only[zG];omega))⟩
 ·have hA0_0:=U.2;have hdn0:=OT ((q.length:Y)-1) k0;exact Qb <| sn Qa [0,2,3,4,18] [] (pe 1 (zC ((dn ((q.length:Y)-1) k0)>=(0:Y))) p0) <| ckF <| Q4 <| xw s0 ⟨U6 O (rfl) U.1,by first|omega|(simp only[zG];omega)⟩
 have hD0_0:=hD0.2;exact sn Qa [2] [] p0 <| Qd <| po0 [] (Qj h1 (Vp hD0.1 (rfl)))
theorem Ms {α:Type} [uN α] {l:W α} {i j:Q} (x:α) (h:j≠i):nth (l.set j x) i=nth l i:=by
 simp[nth,yE,List.getElem?_set_ne h]
theorem Qen {q:W Q2} (hv:Qk q=K) {k:Q} (hk:k<q.length) (s:W A):Z3 q k s=Uz q k s:=by
 have hdn:=OT ((q.length:Y)-1) k;obtain ⟨hl,hr⟩:=Gr hv (k:=dn ((q.length:Y)-1) k) (by omega) (by omega);unfold Z3 Uz;generalize hi:dn ((q.length:Y)-1) k=i at hl hr⊢;generalize nth q (zJ i)=n at hl hr⊢;by_cases h5:n.1=5
 . simp[h5]
 by_cases h6:n.1=6
 . have:=hl (.inr (.inl h6));simp[h6];rw[Ms _ (by omega)]
 by_cases h7:n.1=7
 . have:=hl (.inr (.inr h7));simp[h7];rw[Ms _ (by omega)]
 simp only[uW.2 h5,uW.2 h6,uW.2 h7,Bool.or_false,uH]
theorem BV (q:W Q2):Jo q=X9 q:=by
 unfold Jo X9;rw[←Qel];cases hv:Qk q with
 | false=>rfl
 | true=>
   simp only[xG,uH];rw[BT (f:=Uz q) (g:=Z3 q) (e:=Dn) (e':=Uy) (λ_ _=>rfl) _ _ _ λi s _ hi=>(Qen hv (by omega) s).symm]
theorem IT (q:W Q2) (k:Q) (s:W A):∃s',Z3 q k s= .next s'/\s'.length=s.length:=by
 unfold Z3;generalize ((nth q (zJ (dn ((q.length:Y)-1) k))).1==(5:Y))=a;generalize ((nth q (zJ (dn ((q.length:Y)-1) k))).1==(6:Y))=b;generalize ((nth q (zJ (dn ((q.length:Y)-1) k))).1==(7:Y))=c;cases a<;>cases b<;>cases c<;>exact ⟨_,rfl,by simp⟩
theorem JA (q:W Q2):∀(n k:Q) (s:W A),∃s',Ks (Z3 q) Uy n k s= .brk s'/\s'.length=s.length
 | 0,k,s=>⟨s,rfl,rfl⟩
 | n+1,k,s=>by
   obtain ⟨s1,h1,h2⟩:=IT q k s;obtain ⟨s2,h3,h4⟩:=JA q n (k+1) s1;refine ⟨s2, ?_,h4.trans h2⟩;simp only[Ks,h1];exact h3
theorem S0 (q:W Q2):zD (X9 q)<=zD q:=by
 unfold X9;cases Qk q with
 | false=>exact yU _
 | true=>
   obtain ⟨s,h1,h2⟩:=JA q (zD q) 0 (zF (zJ (q.length:Y)) H);simp only[xG,uH,h1,Out.on];rw[h2];simp
theorem IU (q:W Q2):zD (Jo q)<=zD q:=by rw[BV];exact S0 q
end
section
open Go.RowKit Go.Sort
open GoE (enc)
structure OneC (α σ:Type) [GoE α] where
 tu:α->σ
 of:σ->α
 cell:σ->uK
 pv:α->PV
 ok:α->Prop
 of_tu:∀a,of (tu a)=a
 tu_of:∀s,tu (of s)=s
 enc_eq:∀a,enc a= [pv a]
 flat:∀a,(pv a).flat
 vv:∀(X:Q->Prop) (w:uB) v a,VV X w v (pv a)↔v=cell (tu a)/\ok a
def Qp0:OneC Y Y where
 tu:=id
 of:=id
 cell:= .int .i64
 pv:= .int .i64
 ok:=InR .i64
 of_tu _:=rfl
 tu_of _:=rfl
 enc_eq _:=rfl
 flat _:=trivial
 vv X w v a:=⟨λh=>by cases h with | int h=>exact ⟨rfl,h⟩,λ⟨h1,h2⟩=>by subst h1;exact .int h2⟩
def oneS:OneC B (W uC) where
 tu b:=b.data.toList
 of s:=⟨s.toArray⟩
 cell:=encStr
 pv:= .str
 ok b:=b.size<=uJ
 of_tu b:=by cases b;simp
 tu_of s:=by simp
 enc_eq _:=rfl
 flat _:=trivial
 vv X w v a:=by
  have e:encStr a.data.toList= .string a:=by cases a;simp[encStr]
  rw[e];exact ⟨λh=>by cases h with | str h=>exact ⟨rfl,h⟩,λ⟨h1,h2⟩=>by subst h1;exact .str h2⟩
section
variable {α σ:Type} [GoE α] (C:OneC α σ)
theorem Qeo {X:Q->Prop} {w:uB}:∀{l:W α} {cs:W uK},VR X w 1 cs (eL l)->cs=(l.map C.tu).map C.cell/\∀a,a∈l->C.ok a
 | [],cs,h=>by
   generalize hr:eL ([]:W α)=r at h;cases h with
   | nil=>exact ⟨rfl,λa ha=>by simp at ha⟩
   | cons=>cases hr
 | a :: l,cs,h=>by
   generalize hr:eL (a::l)=r at h;cases h with
   | nil=>cases hr
   | cons h1 h2 h3=>
     rw[WA,C.enc_eq] at hr;obtain ⟨rfl,rfl⟩: [C.pv a]=_/\eL l=_:=by simpa using hr
     obtain ⟨e,hok⟩:=Qeo h3;cases h1 with
     | cons h4 h5=>
       cases h5
       obtain ⟨rfl,ha⟩:=(C.vv X w _ a).1 h4;exact ⟨by rw[e];rfl,λb hb=>(zO.1 hb).elim (λe=>e▸ha) (hok b)⟩
theorem Qep {X:Q->Prop} {w:uB}:∀{l:W α},(∀a,a∈l->C.ok a)->VR X w 1 ((l.map C.tu).map C.cell) (eL l)
 | [],_=> .nil 1
 | a::l,h=>by
   rw[WA,C.enc_eq];exact VR.cons (ce:= [C.cell (C.tu a)]) (.cons ((C.vv X w _ a).2 ⟨rfl,h a zM⟩) .nil) rfl (Qep λb hb=>h b (zH _ hb))
theorem Qmg (l:W α):(eL l).flatten=l.map C.pv:=by
 induction l with
 | nil=>rfl
 | cons a l ih=>rw[WA,C.enc_eq,List.flatten_cons,ih];rfl
theorem Qqj (l:W α):eL l=(l.map C.pv).map λc=> [c]:=by
 simp[eL,C.enc_eq,yH]
theorem SX (e:σ->uK) [uN σ] (d:uL σ) (cur:uL uK) (h:d.size<=cur.size):(Go.Sort.putCells e 0 d cur).toList=d.toList.map e++cur.toList.drop d.size:=by
 apply List.ext_getElem?;intro j;unfold Go.Sort.putCells;rw[yB,Array.getElem?_mapIdx];by_cases hj:j<d.size
 . rw[List.getElem?_append_left (by simpa using hj),yT (by omega:j<cur.size),yV,yB,yT hj];simp only[Option.map_some];rw[uE ⟨yU _,by omega⟩,Nat.sub_zero,getElem!_pos d j hj]
 rw[List.getElem?_append_right (by simpa using Nat.le_of_not_lt hj),List.getElem?_drop];have e1:d.size+(j-(d.toList.map e).length)=j:=by simp;omega
 rw[e1,yB];cases cur[j]? with
 | none=>rfl
 | some x=>simp;omega
theorem S1 {e:σ->uK} [uN σ] {w:uB} {g:Q} {cur:uL uK} {ty:uS} (hg:w.heap[g]? =J (.cells cur ty (0,0))) (q:Q) (d:uL σ) (os:uL Obj):
 (grow (putRow e (Sort.ahead w q) g 0 d) os).heap[g]? =J (.cells (Go.Sort.putCells e 0 d cur) ty (0,0)):=by
 have hlt:g<w.heap.size:=Xe hg;unfold grow putRow mapBlock Sort.ahead;simp only[yL,Array.size_modify];rw[uE hlt,xC,uE rfl,hg];rfl
theorem JB {e:σ->uK} [uN σ] (w:uB) (g q:Q) (d:uL σ) (os:uL Obj):(∀b,b<w.heap.size->b≠g->(grow (putRow e (Sort.ahead w q) g 0 d) os).heap[b]? =w.heap[b]?)/\∀m,m<=g->m<=w.heap.size->Below m w (grow (putRow e (Sort.ahead w q) g 0 d) os):=by
 have h:∀b,b<w.heap.size->b≠g->(grow (putRow e (Sort.ahead w q) g 0 d) os).heap[b]? =w.heap[b]? :=λb hb hn=>by
  unfold grow putRow mapBlock Sort.ahead;simp only[yL,Array.size_modify];rw[uE hb,xC,uF (λe=>hn e.symm)]
 refine ⟨h,λm hm hs=>⟨rfl,rfl,rfl, ?_,λb hb=>h b (by omega) (by omega)⟩⟩;unfold grow putRow mapBlock Sort.ahead;simp
theorem SY {e:σ->uK} [uN σ] {g:Q} {w:uB} {cur:uL uK} {ty:uS} {l:W σ} (hg:w.heap[g]? =J (.cells cur ty (0,0))) (ht:cur.toList.take l.length=l.map e):Holds e w g 0 l.toArray:=by
 intro j hj;have hjl:j<l.length:=by simpa using hj
 have hc:cur[j]? =J (e l[j]):=by
  have h5:(cur.toList.take l.length)[j]? =(l.map e)[j]? :=by rw[ht]
  rw[List.getElem?_take,uE hjl,yV,List.getElem?_eq_getElem hjl,yB] at h5;exact h5
 refine ⟨?_, ?_⟩
 . rw[yI];simp[World.cell?,hg,hc,getElem!_pos,hjl]
 simp[World.frozen?,hg]
variable {P:uU} [uN σ]
theorem Qeq (F:Q->Prop) (L:W Q) (w:uB) (oa:uI Addr):Qpx F L w 1 K [] (.returned (.tuple #[])) w:=
 ⟨_,rfl,λm _ _=>Below.refl _ _,λ_ _ _=>rfl,rfl,λv2 l2 h=>by simpa [KY] using h⟩
theorem BW {f:Q} (hok:F9 P f) (srt:W σ->W σ) (hlen:∀l,(srt l).length=l.length) (hmem:∀l x,x∈srt l->x∈l)
 (h0:∀oa cap w,Calls P f #[.slice oa 0 cap] w λe w'=>e= .returned (.tuple #[])/\w'=w)
 (h1:∀g cap (l:W σ) w,Holds C.cell w g 0 l.toArray->g<w.heap.size->l.length<4611686018427387904->Calls P f #[.slice (J ⟨g,0,uD⟩) l.length cap] w λe w'=>e= .returned (.tuple #[])/\∃n os,w'=grow (putRow C.cell (Sort.ahead w n) g 0 (srt l).toArray) os)
 (l:W α):ATake P f 1 (eL l) [] H K (eL ((srt (l.map C.tu)).map C.of)):=by
 refine ⟨hok,λw F G L v vals _ hFG _ hGs _ hLG hrow hargs=> ?_⟩;cases hargs
 rcases hrow with ⟨hl,oa,rfl⟩ | ⟨g,cap,cur,ty,rfl,rfl,hg,hs,hr,h5,h6⟩
 . obtain rfl:l= []:=by simpa [eL] using hl
   have hs0:srt []= []:=zP (by rw[hlen];rfl);refine (h0 oa 0 w).mono ?_
   rintro e w' ⟨rfl,rfl⟩
   rw[List.map_nil,hs0];exact Qeq F L w' oa
 have hll:(eL l).length=l.length:=by simp[eL]
 rw[hll] at hr h5 h6⊢;rw[yD] at hr hs;obtain ⟨hcs,hok'⟩:=Qeo C hr;have hH:Holds C.cell w g 0 (l.map C.tu).toArray:=SY hg (by rw[zL];exact hcs);have hc:=h1 g cap (l.map C.tu) w hH (Xe hg) (by rw[zL];have:=h6.2;omega);rw[zL] at hc;refine hc.mono ?_
 rintro e w' ⟨rfl,n,os,rfl⟩
 have hother:=JB (e:=C.cell) w g n (srt (l.map C.tu)).toArray os;have hgl:=Xe hg;refine ⟨_,rfl,λm hm hL=>hother.2 m (hL g (by simp)) hm,λb hb hn=>hother.1 b hb (by simpa using hn),rfl,λv2 l2 h2=> ?_⟩;rcases h2 with ⟨rfl,oa,rfl⟩ | ⟨g2,cap2,cur2,ty2,hL2,rfl,hg2,hs2,hr2,h7,h8⟩
 . exact .inl ⟨by simp[KY],oa,rfl⟩
 obtain rfl:g=g2:=by simpa using hL2
 rw[hg] at hg2;cases hg2
 rw[Qmg C,KY];have hd:(srt (l.map C.tu)).toArray.size<=cur.size:=by simp only[zX,hlen,zL];omega
 have hlen2:(xI (λc=> [c]) (zR l2.length (xI C.pv (xI C.of (srt (l.map C.tu)))))++yF (xI C.pv (xI C.of (srt (l.map C.tu)))).length l2).length=l2.length:=by
  simp only[yR,zL,List.length_take,List.length_drop];omega
 refine .inr ⟨g,cap2,_,ty,rfl,by rw[hlen2],S1 hg n _ os, ?_, ?_,by rw[hlen2];exact h7,by rw[hlen2];exact h8⟩
 . simp[Go.Sort.putCells,hs2]
 rw[hlen2,yD,SX C.cell _ cur hd,List.take_append];rw[yD] at hr2;refine VR.append ?_ ?_
 . have hk:VR F (grow (putRow C.cell (Sort.ahead w n) g 0 (srt (l.map C.tu)).toArray) os) 1 (cur.toList.take l2.length) l2:=by
    refine hr2.keep λb hb=>⟨hb,hother.1 b (hGs b (hFG b hb)) λe=>(hLG g (by simp)).2 (hFG g (e▸hb))⟩
   have:=VR.drop (srt (l.map C.tu)).length hk;rw[yD,List.drop_take] at this;simpa using this
 have hm:∀a,a∈(srt (l.map C.tu)).map C.of->C.ok a:=λa ha=>by
  obtain ⟨x,hx,rfl⟩:=zY.1 ha;obtain ⟨b,hb,rfl⟩:=zY.1 (hmem _ _ hx);rw[C.of_tu];exact hok' b hb
 have:=VR.take l2.length (Qep C (X:=F) (w:=grow (putRow C.cell (Sort.ahead w n) g 0 (srt (l.map C.tu)).toArray) os) hm);rw[yD,Qqj C] at this;simpa [List.map_take,yH,C.tu_of] using this
theorem BX {f:Q} (hok:F9 P f) (cmp:W σ->W σ) (hlen:∀l,(cmp l).length<=l.length) (hmem:∀l x,x∈cmp l->x∈l)
 (h0:∀oa cap w,Calls P f #[.slice oa 0 cap] w λe w'=>e= .returned (.slice oa 0 cap)/\w'=w)
 (h1:∀g cap (l:W σ) w,Holds C.cell w g 0 l.toArray->l.length<=9223372036854775807->l.length<=cap->Calls P f #[.slice (J ⟨g,0,uD⟩) l.length cap] w λe w'=>e= .returned (.slice (J ⟨g,0,uD⟩) (cmp l).length cap)/\∃q pad,(cmp l++pad).length=l.length/\w'=putRow C.cell (Sort.ahead w q) g 0 (cmp l++pad).toArray)
 (l:W α):ATake P f 1 (eL l) [] H H (eL ((cmp (l.map C.tu)).map C.of)):=by
 refine ⟨hok,λw F G L v vals _ hFG _ hGs _ hLG hrow hargs=> ?_⟩;cases hargs
 rcases hrow with ⟨hl,oa,rfl⟩ | ⟨g,cap,cur,ty,rfl,rfl,hg,hs,hr,h5,h6⟩
 . obtain rfl:l= []:=by simpa [eL] using hl
   have hs0:cmp []= []:=zP (by have:=hlen [];simpa using this);refine (h0 oa 0 w).mono ?_
   rintro e w' ⟨rfl,rfl⟩
   rw[List.map_nil,hs0];exact ⟨_,rfl,λm _ _=>Below.refl _ _,λ_ _ _=>rfl, [],yJ,λb hb=>(by simp at hb),.inl ⟨rfl,oa,rfl⟩⟩
 have hll:(eL l).length=l.length:=by simp[eL]
 rw[hll] at hr h5 h6⊢;rw[yD] at hr hs;obtain ⟨hcs,hok'⟩:=Qeo C hr;have hH:Holds C.cell w g 0 (l.map C.tu).toArray:=SY hg (by rw[zL];exact hcs);have hc:=h1 g cap (l.map C.tu) w hH (by rw[zL];have:=h6.2;omega) (by rw[zL];exact h5);rw[zL] at hc;refine hc.mono ?_
 rintro e w' ⟨rfl,q,pad,hpad,rfl⟩
 have hw:putRow C.cell (Sort.ahead w q) g 0 (cmp (l.map C.tu)++pad).toArray=grow (putRow C.cell (Sort.ahead w q) g 0 (cmp (l.map C.tu)++pad).toArray) #[]:=(grow_empty _).symm;rw[hw];have hother:=JB (e:=C.cell) w g q (cmp (l.map C.tu)++pad).toArray #[];have hgl:=Xe hg;have hd:(cmp (l.map C.tu)++pad).toArray.size<=cur.size:=by rw[zX,hpad];omega
 have hle:=hlen (l.map C.tu);rw[zL] at hle;have hel:(eL ((cmp (l.map C.tu)).map C.of)).length=(cmp (l.map C.tu)).length:=by simp[eL]
 have hsz:g<(grow (putRow C.cell (Sort.ahead w q) g 0 (cmp (l.map C.tu)++pad).toArray) #[]).heap.size:=Xe (S1 hg q _ #[]);refine ⟨_,rfl,λm hm hL=>hother.2 m (hL g (by simp)) hm,λb hb hn=>hother.1 b hb (by simpa using hn), [g],by simp,λb hb=> ?_,.inr ⟨g,cap,_,ty,rfl,by rw[hel],S1 hg q _ #[], ?_, ?_,by rw[hel];omega,h6.1,by rw[hel];have:=h6.2;omega⟩⟩
 . obtain rfl:=zZ.1 hb;exact ⟨hsz,.inr (by simp)⟩
 . simp[Go.Sort.putCells,hs]
 rw[hel,yD,SX C.cell _ cur hd]
 have hm:∀a,a∈(cmp (l.map C.tu)).map C.of->C.ok a:=λa ha=>by
  obtain ⟨x,hx,rfl⟩:=zY.1 ha;obtain ⟨b,hb,rfl⟩:=zY.1 (hmem _ _ hx);rw[C.of_tu];exact hok' b hb
 have:=Qep C (X:=F) (w:=grow (putRow C.cell (Sort.ahead w q) g 0 (cmp (l.map C.tu)++pad).toArray) #[]) hm;have e1:((cmp (l.map C.tu)).map C.of).map C.tu=cmp (l.map C.tu):=by simp[yH,C.tu_of]
 rw[e1] at this;rw[List.map_append,List.append_assoc,List.take_left' (by simp)];exact VR.keep (λb hb=>⟨.inl hb,rfl⟩) this
end
def YI (l:W Y):W Y:=l.mergeSort λx y=>decide (x<=y)
def Ph (l:W B):W B:=((l.map oneS.tu).mergeSort λx y=>decide (x<=y)).map oneS.of
def IV (l:W Y):W Y:=Lib.compact l
def WO (l:W B):W B:=(Lib.compact (l.map oneS.tu)).map oneS.of
theorem SZ {σ:Type} [uN σ] [uV σ] (l:W σ) (x:σ) (h:x∈Lib.compact l):x∈l:=by
 unfold Lib.compact Lib.compactUpTo at h;simp only[zY,List.mem_filter,yS] at h;obtain ⟨j,⟨hj,_⟩,e⟩:=h;have e1:l.toArray[j]! =l[j]:=by rw[getElem!_pos l.toArray j (by simpa using hj)];simp
 rw[e1] at e;exact e▸yX hj
theorem Rh {σ:Type} [uN σ] [uV σ] (l:W σ):(Lib.compact l).length<=l.length:=by
 unfold Lib.compact Lib.compactUpTo;rw[zL];exact Nat.le_trans (List.length_filter_le _ _) (by rw[List.length_range];exact zT _)
theorem IW (l:W Y):(YI l).length=l.length:=yC _
theorem IX (l:W B):(Ph l).length=l.length:=by simp[Ph,yC]
theorem Qer (l:W Y):(IV l).length<=l.length:=Rh l
theorem Qes (l:W B):(WO l).length<=l.length:=by
 have:=Rh (l.map oneS.tu);rw[zL] at this;simpa [WO] using this
theorem TA {α:Type} [GoE α] {l k:W α} (h1:∀a:α,(enc a).length=1) (h:k.length=l.length):Qj7 (eL l) 0 4294967296 (eL k).flatten=eL k:=by
 have hk:∀k:W α,((eL k).flatten.map λc=> [c])=eL k:=λk=>by
  induction k with
  | nil=>rfl
  | cons a k ih=>
    rw[WA,List.flatten_cons,List.map_append,ih];have:=h1 a
    match enc a,this with
    | [p],_=>rfl
 have hf:(eL k).flatten.length=k.length:=by
  have:=D zD (hk k);rw[zL] at this;rw[this];simp[eL]
 show KY (eL l) (eL k).flatten=eL k;unfold KY;have e1:(eL l).length=l.length:=by simp[eL]
 rw[e1,yY (by omega),hk,List.drop_of_length_le (by omega),List.append_nil]
end
section
open Go.RowKit
section
variable {σ:Type} (lt:σ->σ->Prop)
theorem TB (irr:∀a,¬lt a a) (tr:∀a b c,lt a b->lt b c->lt a c):∀(a b:W σ),a.Pairwise lt->b.Pairwise lt->(∀x,x∈a↔x∈b)->a=b
 | [], [],_,_,_=>rfl
 | [],y::b,_,_,h=>by have:=(h y).2 (by simp);simp at this
 | x::a, [],_,_,h=>by have:=(h x).1 (by simp);simp at this
 | x ::a,y::b,ha,hb,h=>by
   rw[zV] at ha hb
   have h1:x=y:=by
    have hx:=(h x).1 (by simp);have hy:=(h y).2 (by simp);simp only[zO] at hx hy;rcases hx with e | hx
    . exact e
    rcases hy with e | hy
    . exact e.symm
    exact (irr x (tr _ _ _ (ha.1 y hy) (hb.1 x hx))).elim
   subst h1
   congr 1
   refine TB irr tr a b ha.2 hb.2 λz=> ?_
   have hz:=h z;simp only[zO] at hz;constructor
   . intro hm;have hlt:=ha.1 z hm;rcases hz.1 (.inr hm) with e | e
     . subst e;exact (irr z hlt).elim
     exact e
   intro hm;have hlt:=hb.1 z hm;rcases hz.2 (.inr hm) with e | e
   . subst e;exact (irr z hlt).elim
   exact e
theorem TC [uN σ] [uV σ] (d:uL σ) (tr:∀a b c,¬lt b a->lt b c->lt a c) (tri:∀a b,¬lt b a->a≠b->lt a b) (hs:∀i j,i<=j->j<d.size->¬lt d[j]! d[i]!):
 ∀m,m<=d.size->(Lib.compactUpTo d m).Pairwise lt/\∀x,x∈Lib.compactUpTo d m↔∃j,j<m/\d[j]! =x
 | 0,_=>by simp[Lib.compactUpTo]
 | m + 1,hm=>by
   obtain ⟨h1,h2⟩:=TC d tr tri hs m (by omega);rw[Lib.compactUpTo_succ];by_cases hk:Lib.keeps d m=K
   . rw [uE hk];refine ⟨?_,λx=> ?_⟩
     . rw[List.pairwise_append];refine ⟨h1,by simp,λa ha b hb=> ?_⟩;obtain ⟨j,hj,rfl⟩:=(h2 a).1 ha;obtain rfl:b=d[m]! :=by simpa using hb
       have hle:=hs j (m-1) (by omega) (by omega);have hle2:=hs (m-1) m (by omega) (by omega)
       have hne:d[m]! ≠d[m-1]! :=by
        unfold Lib.keeps at hk;simp only[Bool.or_eq_true,uT,bne_iff_ne,uO] at hk;rcases hk with h | h
        . omega
        exact h
       exact tr _ _ _ hle (tri _ _ hle2 λe=>hne e.symm)
     rw[xA,h2 x];constructor
     . rintro (⟨j,hj,e⟩ | h)
       . exact ⟨j,by omega,e⟩
       exact ⟨m,by omega,by simpa using (by simpa using h:x=d[m]!).symm⟩
     rintro ⟨j,hj,e⟩
     by_cases hjm:j=m
     . subst hjm;exact .inr (by simp[e])
     exact .inl ⟨j,by omega,e⟩
   rw[uF hk,List.append_nil];refine ⟨h1,λx=> ?_⟩;rw[h2 x]
   have hm0:m≠0/\d[m]! =d[m-1]! :=by
    unfold Lib.keeps at hk;simp only[Bool.or_eq_true,uT,bne_iff_ne,uO,not_or,Decidable.not_not] at hk;exact hk
   constructor
   . rintro ⟨j,hj,e⟩;exact ⟨j,by omega,e⟩
   rintro ⟨j,hj,e⟩
   by_cases hjm:j=m
   . subst hjm;exact ⟨j-1,by omega,hm0.2▸e⟩
   exact ⟨j,by omega,e⟩
end
def bl (a b:B):A:=Op.bytesLess a.toList b.toList
theorem IY {a b c:W uC} (h:a<b) (h':b<c):a<c:=List.lt_trans h h'
theorem Qet (a:W uC):¬a<a:=List.lt_irrefl a
theorem PB {a b:W uC} (h:¬b<a) (hn:a≠b):a<b:=zW λh'=>hn (List.le_antisymm h h')
theorem WP (a b:B):bl a b=K↔a.data.toList<b.data.toList:=by
 unfold bl;rw[bytesLess_eq,ByteArray.toList_eq,ByteArray.toList_eq,decide_eq_true_iff]
theorem Qkm (a:B):bl a a=H:=by
 cases h:bl a a with
 | false=>rfl
 | true=>exact (Qet _ ((WP a a).1 h)).elim
theorem DY {a b c:B} (h:bl a b=K) (h':bl b c=K):bl a c=K:=(WP _ _).2 (IY ((WP _ _).1 h) ((WP _ _).1 h'))
theorem Qop {a b:B} (h:bl b a=H) (hn:a≠b):bl a b=K:=(WP _ _).2 (PB (λhb=>by rw[(WP _ _).2 hb] at h;cases h) λe=>hn (by cases a;cases b;simp at e;rw[e]))
def IZ:W B->B->W B
 | [],s=> [s]
 | x::l,s=>if bl x s then x::IZ l s else if x=s then x::l else s::x::l
def Qkn (l:W B):Prop:=l.Pairwise λa b=>bl a b=K
theorem DZ (s x:B):∀l,x∈IZ l s↔x=s\/x∈l
 | []=>by simp[IZ]
 | y ::l=>by
   simp only[IZ];split
   . rw[zO,DZ s x l,zO];constructor
     . rintro (h | h | h)<;>simp[h]
     rintro (h | h | h)<;>simp[h]
   split
   . rename_i e;subst e;simp
   simp
theorem TD (s:B):∀l,Qkn l->Qkn (IZ l s)
 | [],_=>by simp[Qkn,IZ]
 | y ::l,h=>by
   have h:=zV.1 h;simp only[IZ];split
   . rename_i hl;refine zV.2 ⟨λz hz=> ?_,TD s l h.2⟩;rcases (DZ s z l).1 hz with e | hz
     . exact e▸hl
     exact h.1 z hz
   split
   . exact zV.2 h
   rename_i hl hn;have hs:bl s y=K:=Qop (by simpa using hl) λe=>hn e.symm
   refine zV.2 ⟨λz hz=> ?_,zV.2 h⟩;rcases zO.1 hz with rfl | hz
   . exact hs
   exact DY hs (h.1 z hz)
theorem TE (s:B):∀l,(IZ l s).length<=l.length+1
 | []=>by simp[IZ]
 | y::l=>by
   have:=TE s l;simp only[IZ];split
   . simp only[zK];omega
   split<;>simp
def S3 (l xs:W B):W B:=xs.foldl IZ l
theorem WQ (x:B):∀xs l,x∈S3 l xs↔x∈xs\/x∈l
 | [],l=>by simp[S3]
 | y::xs,l=>by
   show x∈S3 (IZ l y) xs↔_;rw[WQ x xs,DZ,zO];constructor
   . rintro (h | h | h)<;>simp[h]
   rintro ((h | h) | h)<;>simp[h]
theorem WR:∀xs l,Qkn l->Qkn (S3 l xs)
 | [],_,h=>h
 | y::xs,l,h=>WR xs (IZ l y) (TD y l h)
theorem Qil (a b:W B) (ha:Qkn a) (hb:Qkn b) (h:∀x,x∈a↔x∈b):a=b:=
 TB (λa b=>bl a b=K) (λa h=>by rw[Qkm] at h;cases h) (λ_ _ _=>DY) a b ha hb h
theorem WS (l:W B):Qkn (WO (Ph l))/\∀x,x∈WO (Ph l)↔x∈l:=by
 have hto:(Ph l).map oneS.tu=(l.map oneS.tu).mergeSort λx y=>decide (x<=y):=by simp[Ph,yH,oneS.tu_of]
 unfold WO;rw[hto];generalize hm:l.map oneS.tu=m;have hp:=yP m (λx y=>decide (x<=y))
 have hs:=List.pairwise_mergeSort (le:=λ(x y:W uC)=>decide (x<=y)) (λa b c h1 h2=>by
  simp only[uO] at h1 h2⊢;exact List.le_trans h1 h2) (λa b=>by
  have:=List.le_total a b;simpa using this) m
 generalize (m.mergeSort λx y=>decide (x<=y))=s at hp hs;have hget:∀j,j<s.length->s.toArray[j]! =s[j]! :=λj hj=>by simp
 have hmono:∀i j,i<=j->j<s.toArray.size->¬s.toArray[j]! <s.toArray[i]! :=λi j hij hj=>by
  have hj:j<s.length:=by simpa using hj
  rw[hget i (by omega),hget j hj,getElem!_pos s i (by omega),getElem!_pos s j hj];by_cases e:i=j
  . subst e;exact Qet _
  have:=List.pairwise_iff_getElem.1 hs i j (by omega) hj (by omega);simpa using this
 obtain ⟨h1,h2⟩:=TC (λa b:W uC=>a<b) s.toArray (λa b c hab hbc=>by
  by_cases e:a=b
  . exact e▸hbc
  exact IY (PB hab e) hbc) (λa b h hn=>PB h hn) hmono s.length (by simp)
 refine ⟨?_,λx=> ?_⟩
 . refine List.pairwise_map.2 (h1.imp λ{a b} h=>(WP _ _).2 ?_);simpa [oneS] using h
 have hmem:x∈l↔oneS.tu x∈m:=by
  rw[←hm,zY];refine ⟨λh=>⟨x,h,rfl⟩,λ⟨y,h,e⟩=> ?_⟩;have:=D oneS.of e;rw[oneS.of_tu,oneS.of_tu] at this;exact this▸h
 rw[hmem,←hp.mem_iff,zY];constructor
 . rintro ⟨y,hy,rfl⟩
   obtain ⟨j,hj,e⟩:=(h2 y).1 hy;rw[hget j hj,getElem!_pos s j hj] at e;rw[oneS.tu_of];exact e▸yX hj
 intro h;obtain ⟨j,hj,e⟩:=xF h;exact ⟨oneS.tu x,(h2 _).2 ⟨j,hj,by rw[hget j hj,getElem!_pos s j hj];exact e⟩,oneS.of_tu x⟩
theorem Qim (l:W B):WO (Ph l)=S3 [] l:=
 Qil _ _ (WS l).1 (WR l [] List.Pairwise.nil) λx=>by rw[(WS l).2,WQ];simp
end
section
abbrev Wh:=W (Q×Y)
def Ln (E:Wh) (L:W Y):Y:=E.foldl (λm e=>max m (nth L e.1+e.2)) 0
theorem Nj (L:W Y) (x:Y):∀(E:Wh) (m:Y),E.foldl (λm e=>max m (nth L e.1+e.2)) m<=x↔m<=x/\∀e,e∈E->nth L e.1+e.2<=x
 | [],m=>by simp
 | e ::E,m=>by
   rw[List.foldl_cons,Nj L x E];constructor
   . rintro ⟨h1,h2⟩
     refine ⟨by omega,λe' he=> ?_⟩;rcases zO.1 he with rfl | he
     . omega
     exact h2 e' he
   rintro ⟨h1,h2⟩
   have:=h2 e zM;exact ⟨by omega,λe' he=>h2 e' (zH _ he)⟩
theorem Dp {E:Wh} {L:W Y} {x:Y}:Ln E L<=x↔0<=x/\∀e,e∈E->nth L e.1+e.2<=x:=Nj L x E 0
theorem S4 (E:Wh) (L:W Y):0<=Ln E L:=(Dp.1 (zS _)).1
theorem LA {E:Wh} {L M:W Y} (h:∀j,nth L j<=nth M j):Ln E L<=Ln E M:=
 Dp.2 ⟨S4 E M,λe he=>by
  have:=(Dp.1 (zS (Ln E M))).2 e he;have:=h e.1;omega⟩
theorem S5 {L:W Y} {i:Q} (x:Y) (j:Q) (hi:i<L.length):nth (L.set i x) j=if j=i then x else nth L j:=by
 unfold nth;by_cases h:j=i
 . subst h;simp[yE,hi]
 rw[uF h];simp[yE,List.getElem?_set,Ne.symm h]
theorem WT {L:W Y} {i:Q} (h:L.length<=i):nth L i=0:=by
 unfold nth;simp[yE,List.getElem?_eq_none h]
def H4 (E:Q->Wh) (L:W Y) (i:Q):W Y:=if nth L i<Ln (E i) L then L.set i (Ln (E i) L) else L
theorem Iw (E:Q->Wh) (L:W Y) (i:Q):(H4 E L i).length=L.length:=by unfold H4;split<;>simp
theorem EA (E:Q->Wh) (L:W Y) (i j:Q):nth L j<=nth (H4 E L i) j:=by
 unfold H4;split
 . rename_i h;by_cases hi:i<L.length
   . rw[S5 _ _ hi];split
     . rename_i e;subst e;omega
     omega
   rw[List.set_eq_of_length_le (by omega)];omega
 omega
def rounds (E:Q->Wh) (is:W Q) (L:W Y):W Y:=is.foldl (H4 E) L
theorem Ri (E:Q->Wh):∀(is:W Q) (L:W Y),(rounds E is L).length=L.length
 | [],_=>rfl
 | i::is,L=>(Ri E is (H4 E L i)).trans (Iw E L i)
theorem T5 (E:Q->Wh) (j:Q):∀(is:W Q) (L:W Y),nth L j<=nth (rounds E is L) j
 | [],_=>zS _
 | i::is,L=>yK (EA E L i j) (T5 E j is (H4 E L i))
theorem Qeu {L M:W Y} (hl:L.length=M.length) (h:∀j,nth L j=nth M j):L=M:=by
 apply List.ext_getElem hl;intro i h1 h2;have:=h i;simpa [nth,yE,h1,h2] using this
theorem BY (E:Q->Wh):∀(is:W Q) (L:W Y),rounds E is L=L->∀i,i∈is->H4 E L i=L
 | [],_,_,i,hi=>by simp at hi
 | a ::is,L,h,i,hi=>by
   have h1:H4 E L a=L:=Qeu (Iw E L a) λj=>by
    have h2:=EA E L a j;have h3:=T5 E j is (H4 E L a);have h4:nth (rounds E is (H4 E L a)) j=nth L j:=D (nth · j) h;omega
   rcases zO.1 hi with rfl | hi
   . exact h1
   refine BY E is L ?_ i hi;have:rounds E is (H4 E L a)=L:=h
   rwa [h1] at this
theorem BZ {E:Q->Wh} {L:W Y} {i:Q} (hi:i<L.length):H4 E L i=L↔Ln (E i) L<=nth L i:=by
 unfold H4;constructor
 . intro h;split at h
   . rename_i hlt;have h2:nth (L.set i (Ln (E i) L)) i=nth L i:=by rw[h]
     rw[S5 _ _ hi,uE rfl] at h2;omega
   omega
 intro h;rw[uF (by omega)]
def Sat (E:Q->Wh) (n:Q) (g:W Y):Prop:=∀i,i<n->Ln (E i) g<=nth g i
theorem PC {E:Q->Wh} {n:Q} {L g:W Y} {i:Q} (hi:i<n) (hn:L.length=n) (hs:Sat E n g) (h:∀j,nth L j<=nth g j):∀j,nth (H4 E L i) j<=nth g j:=by
 intro j;unfold H4;split
 . rw[S5 _ _ (by omega)];split
   . rename_i e;subst e;exact yK (LA h) (hs j hi)
   exact h j
 exact h j
theorem Pi {E:Q->Wh} {n:Q} {g:W Y} (hs:Sat E n g):∀(is:W Q) (L:W Y),(∀i,i∈is->i<n)->L.length=n->(∀j,nth L j<=nth g j)->∀j,nth (rounds E is L) j<=nth g j
 | [],_,_,_,h=>h
 | i::is,L,hi,hn,h=>Pi hs is (H4 E L i) (λk hk=>hi k (zH _ hk)) ((Iw E L i).trans hn) (PC (hi i zM) hn hs h)
theorem Qko:∀(m:Q) (l:W Y),(∀v:Q,v<m->((v:Q):Y)∈l)->m<=l.length
 | 0,_,_=>yU _
 | m+1,l,h=>by
   have hm:=h m (by omega);have:=Qko m (l.erase (m:Y)) λv hv=>(List.mem_erase_of_ne (by omega)).2 (h v (by omega))
   rw[List.length_erase_of_mem hm] at this;have:0<l.length:=List.length_pos_of_mem hm;omega
theorem PD {L:W Y} {i:Q} (h:i<L.length):nth L i∈L:=by
 have:nth L i=L[i]:=by simp[nth,yE,h]
 rw[this];exact yX h
theorem EB {L:W Y} {x:Y} (h:x∈L):∃i,i<L.length/\nth L i=x:=by
 obtain ⟨i,hi,e⟩:=xF h;exact ⟨i,hi,by rw[←e];simp[nth,yE,hi]⟩
theorem Qmh {L:W Y} {f:Y->Y} {i:Q} (h:i<L.length):nth (L.map f) i=f (nth L i):=by simp[nth,yE,h]
theorem Qbl {E:Q->Wh} {n:Q} {f:W Y} (hw:∀i e,e∈E i->e.2<=1/\e.1<n) (hlen:f.length=n) (hs:Sat E n f) (hleast:∀g:W Y,g.length=n->Sat E n g->(∀j,0<=nth g j)->∀j,nth f j<=nth g j) (h0:∀j,0<=nth f j):
 ∀i,i<n->nth f i<(n:Y):=by
 intro i hi
 have hall:∀v:Q,(v:Y)<=nth f i->((v:Q):Y)∈f:=λv hv=>by
  refine zW λhno=> ?_
  have hne:∀j,j<n->nth f j≠v:=λj hj e=>hno (e▸PD (by omega))
  have hvi:(v:Y)<nth f i:=by have:=hne i hi;omega
  let g:=f.map λx=>if (v:Y)<x then x-1 else x
  have hg:∀j,j<n->nth g j=if (v:Y)<nth f j then nth f j-1 else nth f j:=λj hj=>Qmh (by omega)
  have hg0:∀j,¬j<n->nth g j=0:=λj hj=>WT (by simp only[g,zL];omega)
  have hf0:∀j,¬j<n->nth f j=0:=λj hj=>WT (by omega)
  have hpos:∀j,0<=nth g j:=λj=>by
   by_cases hj:j<n
   . rw[hg j hj];have:=h0 j;split<;>omega
   rw[hg0 j hj];omega
  have:=hleast g (by simp only[g,zL];exact hlen) (λk hk=>Dp.2 ⟨hpos k,λe he=> ?_⟩) hpos i
  . rw[hg i hi,uE hvi] at this;omega
  have h1:=(Dp.1 (hs k hk)).2 e he;obtain ⟨h2,hj⟩:=hw k e he;have h3:=hne k hk;rw[hg k hk];have h4:=hne e.1 hj;rw[hg e.1 hj];split<;>split<;>omega
 have hp:=Qko ((nth f i).toNat+1) f λv hv=>hall v (by have:=h0 i;omega)
 have:=h0 i;omega
theorem Qev:∀(L:W Y) (i:Q) (x:Y),i<L.length->(L.set i x).sum=L.sum+(x-nth L i)
 | [],i,x,h=>by simp at h
 | a::L,0,x,_=>by simp[nth];omega
 | a::L,i+1,x,h=>by
   have:=Qev L i x (by simpa using h);have e:nth (a::L) (i+1)=nth L i:=rfl;rw[e,List.set_cons_succ,xH,xH,this];omega
theorem TF:∀(L:W Y) (N:Y),(∀x,x∈L->x<=N)->L.sum<=(L.length:Y)*N
 | [],N,_=>by simp
 | a::L,N,h=>by
   have h1:=TF L N λx hx=>h x (zH _ hx)
   have h2:=h a zM;rw[xH,zK,xB,Int.add_mul];omega
theorem LB {E:Q->Wh} {L:W Y} {i:Q} (hi:i<L.length):L.sum<=(H4 E L i).sum/\(H4 E L i≠L->L.sum+1<=(H4 E L i).sum):=by
 unfold H4;split
 . rename_i h;have:=Qev L i (Ln (E i) L) hi;omega
 exact ⟨zS _,λh=>(h rfl).elim⟩
theorem Rj {E:Q->Wh}:∀(is:W Q) (L:W Y),(∀i,i∈is->i<L.length)->L.sum<=(rounds E is L).sum/\(rounds E is L≠L->L.sum+1<=(rounds E is L).sum)
 | [],L,_=>⟨zS _,λh=>(h rfl).elim⟩
 | i::is,L,h=>by
   obtain ⟨h1,h2⟩:=LB (E:=E) (h i zM);obtain ⟨h3,h4⟩:=Rj (E:=E) is (H4 E L i) λk hk=>by rw[Iw];exact h k (zH _ hk)
   show L.sum<=(rounds E is (H4 E L i)).sum/\(rounds E is (H4 E L i)≠L->L.sum+1<=(rounds E is (H4 E L i)).sum);refine ⟨by omega,λhn=> ?_⟩;by_cases e:H4 E L i=L
   . have:=h4 (by rw[e] at hn⊢;exact hn);omega
   have:=h2 e;omega
def Fj (E:Q->Wh) (N:Y):W Q->A×W Y->uI (A×W Y)
 | [],s=>J s
 | i::is,s=>if N<Ln (E i) s.2 then uD else Fj E N is (if nth s.2 i<Ln (E i) s.2 then (K,s.2.set i (Ln (E i) s.2)) else s)
theorem Gg {E:Q->Wh} {N:Y}:∀(is:W Q) (c:A) (L:W Y) (s:A×W Y),(∀i,i∈is->i<L.length)->Fj E N is (c,L)=J s->s.2=rounds E is L/\(s.1=K->c=K\/rounds E is L≠L)/\(s.1=H->c=H/\rounds E is L=L)/\((∀j,nth L j<=N)->∀j,nth s.2 j<=N)
 | [],c,L,s,_,h=>by
   obtain rfl:=yN h;exact ⟨rfl,λh=> .inl h,λh=>⟨h,rfl⟩,λh=>h⟩
 | i :: is,c,L,s,hi,h=>by
   have hil:=hi i zM;have hlen:∀k,k∈is->k<(H4 E L i).length:=λk hk=>by rw[Iw];exact hi k (zH _ hk)
   simp only[Fj] at h;split at h
   . cases h
   rename_i hN;split at h
   . rename_i hlt;have er:H4 E L i=L.set i (Ln (E i) L):=by unfold H4;rw[uE hlt]
     rw[←er] at h;obtain ⟨h1,h2,h3,h4⟩:=Gg is K (H4 E L i) s hlen h
     have hne:rounds E (i::is) L≠L:=λe=>by
      have:=(Rj (E:=E) is (H4 E L i) hlen).1
      have h5:=(LB (E:=E) hil).2 λe'=>by
       have:=(BZ hil).1 e';omega
      have h6:(rounds E is (H4 E L i)).sum=L.sum:=D List.sum e;omega
     refine ⟨h1,λ_=> .inr hne,λh=>(by have:=(h3 h).1;cases this),λhb j=>h4 (λj=> ?_) j⟩;rw[er,S5 _ _ hil];split
     . omega
     exact hb j
   rename_i hlt;have er:H4 E L i=L:=by unfold H4;rw[uF hlt]
   have e2:rounds E (i::is) L=rounds E is L:=by show rounds E is (H4 E L i)=_;rw[er]
   rw[e2];exact Gg is c L s (λk hk=>hi k (zH _ hk)) h
theorem JC {E:Q->Wh} {N:Y}:∀(is:W Q) (c:A) (L:W Y),Fj E N is (c,L)=uD->∃pre i,(∀k,k∈pre->k∈is)/\i∈is/\N<Ln (E i) (rounds E pre L)
 | [],c,L,h=>by cases h
 | i ::is,c,L,h=>by
   simp only[Fj] at h;split at h
   . rename_i hN;exact ⟨[],i,λk hk=>by simp at hk,zM,hN⟩
   have key:∀c' L',L'=H4 E L i->Fj E N is (c',L')=uD->∃pre k,(∀x,x∈pre->x∈i::is)/\k∈i::is/\N<Ln (E k) (rounds E pre L):=λc' L' e h=>by
    obtain ⟨pre,k,h1,h2,h3⟩:=JC is c' L' h;subst e;refine ⟨i::pre,k,λx hx=> ?_,zH _ h2,h3⟩;rcases zO.1 hx with rfl | hx
    . exact zM
    exact zH _ (h1 x hx)
   split at h
   . rename_i hlt;exact key K _ (by unfold H4;rw[uE hlt]) h
   rename_i hlt;exact key c _ (by unfold H4;rw[uF hlt]) h
def YJ (E:Q->Wh) (N:Y) (n:Q):Q->A×W Y->uI (uI (W Y))
 | 0,_=>uD
 | k +1,s=>match s.1 with
   | true=>(match Fj E N (zN n) (H,s.2) with
     | none=>J uD
     | some s'=>YJ E N n k s')
   | false=>J (J s.2)
theorem Dd {n i:Q} (h:i∈zN n):i<n:=yS.1 h
theorem CA {E:Q->Wh} {n:Q}:∀(k:Q) (c:A) (L:W Y),L.length=n->(∀j,nth L j<=(n:Y))->(n:Y)*(n:Y)-L.sum+2<=(k:Y)->(YJ E n n k (c,L)).isSome=K
 | 0,c,L,hl,hb,hk=>by
   have:=TF L n λx hx=>by obtain ⟨i,_,e⟩:=EB hx;exact e▸hb i
   rw[hl] at this;omega
 | k+1,H,L,hl,hb,hk=>rfl
 | k + 1, K,L,hl,hb,hk=>by
   simp only[YJ];cases hc:Fj E n (zN n) (H,L) with
   | none=>rfl
   | some s=>
     obtain ⟨h1,h2,h3,h4⟩:=Gg (zN n) H L s (λi hi=>by rw[hl];exact Dd hi) hc;obtain ⟨c',L'⟩:=s;simp only at h1 h2 h3 h4⊢;have hl':L'.length=n:=by rw[h1,Ri,hl]
     have hs:=Rj (E:=E) (zN n) L λi hi=>by rw[hl];exact Dd hi
     rw[←h1] at hs;cases c' with
     | false=>
       cases k with
       | zero=>
         have:=TF L n λx hx=>by obtain ⟨i,_,e⟩:=EB hx;exact e▸hb i
         rw[hl] at this;omega
       | succ k=>rfl
     | true=>
       have hne:L'≠L:=by
        rcases h2 rfl with h | h
        . cases h
        rw[h1];exact h
       have:=hs.2 hne;exact CA k K L' hl' (h4 hb) (by omega)
def after (E:Q->Wh) (n:Q):Q->W Y
 | 0=>zF n 0
 | k+1=>rounds E (zN n) (after E n k)
theorem Uc (E:Q->Wh) (n:Q):∀k,(after E n k).length=n
 | 0=>by simp[after]
 | k+1=>by rw[after,Ri,Uc E n k]
def Qcw (E:Q->Wh) (n:Q) (L:W Y):Prop:=rounds E (zN n) L=L
theorem KH (n j:Q):nth (zF n (0:Y)) j=0:=by
 by_cases h:j<n
 . simp[nth,yE,h]
 exact WT (by simp;omega)
theorem Bk (E:Q->Wh) (n j:Q):∀k,0<=nth (after E n k) j
 | 0=>by rw[after,KH];omega
 | k+1=>yK (Bk E n j k) (T5 E j _ _)
theorem T6 {E:Q->Wh} {n:Q} {L:W Y} (hl:L.length=n) (h:Qcw E n L):Sat E n L:=λi hi=>(BZ (by omega)).1 (BY E _ L h i (yS.2 hi))
theorem Nk {E:Q->Wh} {n:Q} {g:W Y} (hs:Sat E n g) (h0:∀j,0<=nth g j):∀k j,nth (after E n k) j<=nth g j
 | 0,j=>by rw[after,KH];exact h0 j
 | k+1,j=>Pi hs _ _ (λi hi=>Dd hi) (Uc E n k) (Nk hs h0 k) j
theorem Rk {E:Q->Wh} {n k:Q} (h:Qcw E n (after E n k)):∀d,after E n (k+d)=after E n k
 | 0=>rfl
 | d+1=>by
   show rounds E (zN n) (after E n (k+d))=_;rw[Rk h d];exact h
theorem Qew {E:Q->Wh} {n k m:Q} (hk:Qcw E n (after E n k)) (hm:Qcw E n (after E n m)):after E n k=after E n m:=by
 rcases Nat.le_total k m with h | h
 . have:=Rk hk (m-k);rw[show k+(m-k)=m by omega] at this;exact this.symm
 have:=Rk hm (k-m)
 rwa [show m+(k-m)=k by omega] at this
theorem WU {E:Q->Wh} {n:Q}:∀k,(∀j,j<k->¬Qcw E n (after E n j))->(k:Y)<=(after E n k).sum
 | 0,_=>by
   have:∀n:Q,(zF n (0:Y)).sum=0:=λn=>by simp
   rw[after,this];omega
 | k+1,h=>by
   have h1:=WU k λj hj=>h j (by omega)
   have h2:=(Rj (E:=E) (zN n) (after E n k) λi hi=>by rw[Uc];exact Dd hi).2 (h k (by omega));show ((k+1:Q):Y)<=(rounds E (zN n) (after E n k)).sum;omega
variable {E:Q->Wh} {n:Q} (hw:∀i e,e∈E i->e.2<=1/\e.1<n)
include hw in
theorem PE {k:Q} (h:Qcw E n (after E n k)):∀i,i<n->nth (after E n k) i<(n:Y):=
 Qbl hw (Uc E n k) (T6 (Uc E n k) h) (λ_ _ hs h0=>Nk hs h0 k) λj=>Bk E n j k
include hw in
theorem Qex {k:Q} (h:Qcw E n (after E n k)):Qcw E n (after E n (n*n+2)):=by
 have hex:∃j,j<=n*n+1/\Qcw E n (after E n j):=zW λhno=>by
  have h1:=WU (E:=E) (n:=n) (n*n+2) λj hj hr=>hno ⟨j,by omega,hr⟩
  have h2:=TF (after E n (n*n+2)) n λx hx=>by
   obtain ⟨i,hi,e⟩:=EB hx;rw[Uc] at hi;have h3:=Nk (T6 (Uc E n k) h) (λj=>Bk E n j k) (n*n+2) i;have:=PE hw h i hi;omega
  rw[Uc] at h2;have h3:((n*n+2:Q):Y)=(n:Y)*(n:Y)+2:=by rw[xB,Int.natCast_mul];rfl
  omega
 obtain ⟨j,hj,hr⟩:=hex;have:=Rk hr (n*n+2-j);rw[show j+(n*n+2-j)=n*n+2 by omega] at this;rw[this];exact hr
include hw in
theorem KI:∀(k m:Q) (c:A) (r:uI (W Y)),(c=H->Qcw E n (after E n m))->YJ E n n k (c,after E n m)=J r->
 (∀L,r=J L->Qcw E n (after E n (n*n+2))/\L=after E n (n*n+2))/\(r=uD->¬Qcw E n (after E n (n*n+2)))
 | 0,m,c,r,_,h=>by cases h
 | k+1,m,H,r,hc,h=>by
   obtain rfl:=yN h;have hr:=hc rfl;have hs:=Qex hw hr;refine ⟨λL e=>⟨hs, ?_⟩,λe=>by cases e⟩;obtain rfl:=yN e;exact Qew hr hs
 | k +1,m,K,r,_,h=>by
   simp only[YJ] at h;have hlt:∀i,i∈zN n->i<(after E n m).length:=λi hi=>by rw[Uc];exact Dd hi
   cases hcr:Fj E n (zN n) (H,after E n m) with
   | none=>
     rw[hcr] at h;obtain rfl:=yN h;refine ⟨λL e=>(by cases e),λ_ hr=> ?_⟩;obtain ⟨pre,i,h1,h2,h3⟩:=JC _ _ _ hcr;have hsat:=T6 (Uc E n _) hr;have h4:=Pi hsat pre (after E n m) (λi hi=>Dd (h1 i hi)) (Uc E n m) (Nk hsat (λj=>Bk E n j _) m);have h5:=LA (E:=E i) h4;have h6:=hsat i (Dd h2);have h7:=PE hw hr i (Dd h2);omega
   | some s=>
     rw[hcr] at h;obtain ⟨h1,_,h3,_⟩:=Gg _ _ _ s hlt hcr;obtain ⟨c',L'⟩:=s;simp only at h1 h3 h;have e:L'=after E n (m+1):=h1;subst e;refine KI k (m+1) c' r (λhc=> ?_) h;have h5:=(h3 hc).2;show rounds E (zN n) (after E n (m+1))=after E n (m+1);have e2:after E n (m+1)=after E n m:=h5;rw[e2];exact h5
omit hw
def XR (i:Q) (L:W Y) (e:Q×Y):W Y:=if nth L i<nth L e.1+e.2 then L.set i (nth L e.1+e.2) else L
def Dq (i:Q) (E:Wh) (L:W Y):W Y:=E.foldl (XR i) L
theorem Nl (i:Q) (L:W Y) (e:Q×Y):(XR i L e).length=L.length:=by unfold XR;split<;>simp
theorem Ix (i:Q):∀(E:Wh) (L:W Y),(Dq i E L).length=L.length
 | [],_=>rfl
 | e::E,L=>(Ix i E (XR i L e)).trans (Nl i L e)
theorem KJ {i:Q} {L:W Y} (e:Q×Y) (hi:i<L.length) (j:Q):nth (XR i L e) j=if j=i then max (nth L i) (nth L e.1+e.2) else nth L j:=by
 unfold XR;split
 . rw[S5 _ _ hi];split<;>omega
 split
 . rename_i h;subst h;omega
 rfl
theorem LC {i:Q}:∀(E:Wh) {L M:W Y},i<M.length->(∀j,j≠i->nth M j=nth L j)->nth L i<=nth M i->(∀e,e∈E->e.1=i->e.2<=0)->∀j,nth (Dq i E M) j=if j=i then E.foldl (λm e=>max m (nth L e.1+e.2)) (nth M i) else nth L j
 | [],L,M,hi,hj,h0,hs,j=>by
   show nth M j=_;split
   . rename_i e;subst e;rfl
   rename_i e;exact hj j e
 | e ::E,L,M,hi,hj,h0,hs,j=>by
   show nth (Dq i E (XR i M e)) j=_;have hb:=KJ e hi
   have hmax:nth (XR i M e) i=max (nth M i) (nth L e.1+e.2):=by
    rw[hb,uE rfl];by_cases he:e.1=i
    . have:=hs e zM he;rw[he];omega
    rw[hj e.1 he]
   rw[LC E (L:=L) (M:=XR i M e) (by rw[Nl];exact hi) (λk hk=>by rw[hb,uF hk];exact hj k hk) (by rw[hmax];omega) (λe' he'=>hs e' (zH _ he')) j,hmax,List.foldl_cons]
theorem Qin (L:W Y):∀(E:Wh) (m:Y),0<=m->E.foldl (λm e=>max m (nth L e.1+e.2)) m=max m (Ln E L):=λE m hm=>by
 have h1:=Nj L (E.foldl (λm e=>max m (nth L e.1+e.2)) m) E m;have h2:=h1.1 (zS _);have h3:Ln E L<=E.foldl (λm e=>max m (nth L e.1+e.2)) m:=Dp.2 ⟨by omega,h2.2⟩;have h4:=(Nj L (max m (Ln E L)) E m).2 ⟨by omega,λe he=>by have:=(Dp.1 (zS (Ln E L))).2 e he;omega⟩;omega
theorem Qio {E:Q->Wh} {L:W Y} {i:Q} (hi:i<L.length) (h0:0<=nth L i) (hs:∀e,e∈E i->e.1=i->e.2<=0):Dq i (E i) L=H4 E L i:=
 Qeu ((Ix i (E i) L).trans (Iw E L i).symm) λj=>by
  rw[LC (E i) hi (λ_ _=>rfl) (zS _) hs,Qin _ _ _ h0];unfold H4;by_cases hlt:nth L i<Ln (E i) L
  . rw[uE hlt,S5 _ _ hi];split<;>omega
  rw[uF hlt];split
  . rename_i e;subst e;omega
  rfl
theorem KK {i:Q}:∀(E:Wh) {L:W Y},i<L.length->∀j,nth L j<=nth (Dq i E L) j
 | [],_,_,_=>zS _
 | e::E,L,hi,j=>by
   have h1:=KK E (L:=XR i L e) (by rw[Nl];exact hi) j;have h2:=KJ e hi j;show _<=nth (Dq i E (XR i L e)) j;split at h2
   . rename_i h;subst h;omega
   omega
theorem CB {i:Q}:∀(E:Wh) {L:W Y},i<L.length->(∃e,e∈E/\e.1=i/\1<=e.2)->nth L i+1<=nth (Dq i E L) i
 | [],_,_,⟨e,he,_⟩=>by simp at he
 | e::E,L,hi,⟨e',he,h1,h2⟩=>by
   have h3:=KJ e hi i;rw[uE rfl] at h3;have hb:=KK E (L:=XR i L e) (by rw[Nl];exact hi) i;show _<=nth (Dq i E (XR i L e)) i;rcases zO.1 he with rfl | he
   . rw[h1] at h3;omega
   have:=CB E (L:=XR i L e) (by rw[Nl];exact hi) ⟨e',he,h1,h2⟩;omega
def Cv (E:Q->Wh) (is:W Q) (L:W Y):W Y:=is.foldl (λL i=>Dq i (E i) L) L
theorem S6 (E:Q->Wh):∀(is:W Q) (L:W Y),(Cv E is L).length=L.length
 | [],_=>rfl
 | i::is,L=>(S6 E is (Dq i (E i) L)).trans (Ix i _ L)
theorem YK {E:Q->Wh} (hs:∀i e,e∈E i->e.1=i->e.2<=0):∀(is:W Q) (L:W Y),(∀i,i∈is->i<L.length)->(∀j,0<=nth L j)->Cv E is L=rounds E is L
 | [],_,_,_=>rfl
 | i::is,L,hi,h0=>by
   have hil:=hi i zM;show Cv E is (Dq i (E i) L)=rounds E is (H4 E L i);rw[Qio hil (h0 i) (hs i)];exact YK hs is _ (λk hk=>by rw[Iw];exact hi k (zH _ hk)) λj=>yK (h0 j) (EA E L i j)
theorem CC {E:Q->Wh}:∀(is:W Q) (L:W Y),(∀i,i∈is->i<L.length)->∀j,nth L j<=nth (Cv E is L) j
 | [],_,_,_=>zS _
 | i::is,L,hi,j=>yK (KK (E i) (hi i zM) j) (CC is (Dq i (E i) L) (λk hk=>by rw[Ix];exact hi k (zH _ hk)) j)
theorem JD {E:Q->Wh} {i:Q} (he:∃e,e∈E i/\e.1=i/\1<=e.2):∀(is:W Q) (L:W Y),(∀i,i∈is->i<L.length)->i∈is->nth L i+1<=nth (Cv E is L) i
 | [],_,_,h=>by simp at h
 | k::is,L,hi,h=>by
   have hk:=hi k zM;have hl:∀x,x∈is->x<(Dq k (E k) L).length:=λx hx=>by rw[Ix];exact hi x (zH _ hx)
   show _<=nth (Cv E is (Dq k (E k) L)) i;have h1:=KK (E k) hk i;have h2:=CC (E:=E) is (Dq k (E k) L) hl i;rcases zO.1 h with rfl | h
   . have:=CB (E i) hk he;omega
   have:=JD he is (Dq k (E k) L) hl h;omega
def Bl (E:Q->Wh) (n:Q):Q->W Y
 | 0=>zF n 0
 | k+1=>Cv E (zN n) (Bl E n k)
theorem Rl (E:Q->Wh) (n:Q):∀k,(Bl E n k).length=n
 | 0=>by simp[Bl]
 | k+1=>by rw[Bl,S6,Rl E n k]
theorem LD {E:Q->Wh} {n:Q} (hs:∀i e,e∈E i->e.1=i->e.2<=0):∀k,Bl E n k=after E n k
 | 0=>rfl
 | k+1=>by
   rw[Bl,after,LD hs k];exact YK hs _ _ (λi hi=>by rw[Uc];exact Dd hi) λj=>Bk E n j k
theorem Qey {E:Q->Wh} {n:Q} (hw:∀i e,e∈E i->e.2<=1/\e.1<n/\i<n) {k:Q} {r:uI (W Y)} (h:YJ E n n k (K,zF n 0)=J r):
 (Cv E (zN n) (Bl E n (n*n+2))=Bl E n (n*n+2)->r=J (Bl E n (n*n+2)))/\(Cv E (zN n) (Bl E n (n*n+2))≠Bl E n (n*n+2)->r=uD):=by
 have hw':∀i e,e∈E i->e.2<=1/\e.1<n:=λi e he=>⟨(hw i e he).1,(hw i e he).2.1⟩
 obtain ⟨h1,h2⟩:=KI hw' k 0 K r (λe=>by cases e) h;by_cases hself:∃i,∃e,e∈E i/\e.1=i/\1<=e.2
 . obtain ⟨i,e,he,hei,h3⟩:=hself;have hi:i<n:=(hw i e he).2.2
   have hne:Cv E (zN n) (Bl E n (n*n+2))≠Bl E n (n*n+2):=λheq=>by
    have:=JD (E:=E) ⟨e,he,hei,h3⟩ (zN n) (Bl E n (n*n+2)) (λk hk=>by rw[Rl];exact Dd hk) (yS.2 hi);rw[heq] at this;omega
   refine ⟨λh=>(hne h).elim,λ_=> ?_⟩;cases r with
   | none=>rfl
   | some L=>
     obtain ⟨hr,_⟩:=h1 L rfl;have h4:=T6 (Uc E n _) hr i hi;have h5:=(Dp.1 h4).2 e he;rw[hei] at h5;omega
 have hs:∀i e,e∈E i->e.1=i->e.2<=0:=λi e he hei=>zW λhn=>hself ⟨i,e,he,hei,by omega⟩
 rw[LD hs,YK hs _ _ (λi hi=>by rw[Uc];exact Dd hi) λj=>Bk E n j _];refine ⟨λhr=> ?_,λhr=> ?_⟩
 . cases r with
   | none=>exact (h2 rfl hr).elim
   | some L=>rw[(h1 L rfl).2]
 cases r with
 | none=>rfl
 | some L=>exact (hr (h1 L rfl).1).elim
end
section
open Go.Shelf
def Sh.lays156_ren:Go.Shelf.Ren:=⟨λ| 156=>153 | 165=>203 | 166=>204 | 169=>205 | 240=>246 | 241=>247 | 276=>280 | 277=>281 | n=>n,λ| 31=>102 | 9=>9 | 3=>3 | 4=>4 | 0=>0 | 20=>20 | 72=>253 | 76=>257 | 70=>251 | 37=>195 | 75=>256 | 127=>285 | 164=>318 | 5=>5 | 80=>259 | n=>n,λ| n=>n⟩
theorem Sh.lays156:Go.Proofs.Lays.n156 Tryz.prog Sh.lays156_ren:={
 mixed:=by kernel_rfl
 f156:=Tryz.func153.trans (D J (by kernel_rfl))
 f165:=Tryz.func203.trans (D J (by kernel_rfl))
 f166:=Tryz.func204.trans (D J (by kernel_rfl))
 f169:=Tryz.func205.trans (D J (by kernel_rfl))
 f240:=Tryz.func246.trans (D J (by kernel_rfl))
 f241:=Tryz.func247.trans (D J (by kernel_rfl))
 f276:=Tryz.func280.trans (D J (by kernel_rfl))
 f277:=Tryz.func281.trans (D J (by kernel_rfl))
 t0:=Tryz.underlying0
 a0:=Tryz.isAgg0
 z0:=Tryz.sizeOf0
 v0:=Tryz.zeroValue0
 t3:=Tryz.underlying3
 a3:=Tryz.isAgg3
 z3:=Tryz.sizeOf3
 v3:=Tryz.zeroValue3
 t4:=Tryz.underlying4
 a4:=Tryz.isAgg4
 z4:=Tryz.sizeOf4
 v4:=Tryz.zeroValue4
 t9:=Tryz.underlying9
 a9:=Tryz.isAgg9
 z9:=Tryz.sizeOf9
 v9:=Tryz.zeroValue9
 t20:=Tryz.underlying20
 a20:=Tryz.isAgg20
 z20:=Tryz.sizeOf20
 v20:=Tryz.zeroValue20
 t31:=Tryz.underlying102
 a31:=Tryz.isAgg102
 z31:=Tryz.sizeOf102
 v31:=Tryz.zeroValue102
 t37:=Tryz.underlying195
 a37:=Tryz.isAgg195
 z37:=Tryz.sizeOf195
 v37:=Tryz.zeroValue195
 t70:=Tryz.underlying251
 a70:=Tryz.isAgg251
 z70:=Tryz.sizeOf251
 v70:=Tryz.zeroValue251
 t72:=Tryz.underlying253
 a72:=Tryz.isAgg253
 z72:=Tryz.sizeOf253
 v72:=Tryz.zeroValue253
 t75:=Tryz.underlying256
 a75:=Tryz.isAgg256
 z75:=Tryz.sizeOf256
 v75:=Tryz.zeroValue256
 t76:=Tryz.underlying257
 a76:=Tryz.isAgg257
 z76:=Tryz.sizeOf257
 v76:=Tryz.zeroValue257
 t127:=Tryz.underlying285
 a127:=Tryz.isAgg285
 z127:=Tryz.sizeOf285
 v127:=Tryz.zeroValue285
 t164:=Tryz.underlying318
 a164:=Tryz.isAgg318
 z164:=Tryz.sizeOf318
 v164:=Tryz.zeroValue318}
theorem Sh.Builder_Extra_156:Builder.Extra Tryz.prog Sh.lays156_ren:={
 sizeBuilder:=by kernel_rfl
 liesBuilder:=by kernel_rfl
 t5:=Tryz.underlying5
 a5:=Tryz.isAgg5
 z5:=Tryz.sizeOf5
 v5:=Tryz.zeroValue5
 infoByte:=by kernel_rfl
 cellsByte:=by kernel_rfl
 sizeByte:=by kernel_rfl
 neB5:=by decide}
open Go.RowKit in
theorem Sh.strings_Join_none (a:uI Addr) (c:Q) (sep:B) (w:uB):
 Calls Tryz.prog 153 #[.slice a 0 c,.string sep] w λe w'=>e= .returned (.string ⟨#[]⟩)/\w'=w:=Any.strings_Join_none Sh.lays156 Sh.Builder_Extra_156 a c sep w
open Go.RowKit in
theorem Sh.strings_Join (bk o c:Q) (xs:W B) (sep:B) (w:uB) (hcells:∀(j:Q) x,xs[j]? =J x->w.cell? ⟨bk,o+j,uD⟩=J (.string x)) (hbk:bk<w.heap.size) (hN:xs.length<=140737488355328) (hcap:xs.length<=c) (hlen:(Lib.join (xs.map (·.data.toList)) sep.data.toList).length<=140737488355328):
 Calls Tryz.prog 153 #[.slice (J ⟨bk,o,uD⟩) xs.length c,.string sep] w λe w'=>e= .returned (.string ⟨(Lib.join (xs.map (·.data.toList)) sep.data.toList).toArray⟩)/\Below w.heap.size w w':=Any.strings_Join Sh.lays156 Sh.Builder_Extra_156 bk o c xs sep w hcells hbk hN hcap hlen
def Sh.lays172_ren:Go.Shelf.Ren:=⟨λ| 172=>227 | 244=>264 | 245=>265 | 247=>291 | 279=>292 | 280=>293 | 281=>294 | 282=>295 | 287=>329 | 316=>330 | 171=>151 | 205=>331 | 321=>349 | 322=>350 | 243=>201 | 246=>244 | 283=>276 | 284=>277 | 285=>278 | 286=>279 | 129=>317 | 317=>318 | 318=>319 | 319=>320 | 320=>321 | 337=>345 | 338=>346 | n=>n,λ| 9=>9 | 3=>3 | 75=>256 | 76=>257 | 4=>4 | 5=>5 | 167=>329 | 37=>195 | 0=>0 | 85=>330 | 2=>2 | 168=>332 | 53=>313 | 175=>361 | 46=>309 | 210=>365 | 127=>285 | 145=>383 | 143=>381 | 21=>21 | 171=>312 | 173=>316 | 212=>358 | 51=>355 | 20=>20 | 213=>359 | 232=>390 | 233=>391 | 80=>259 | n=>n,λ| 15=>2 | 16=>3 | 17=>0 | 18=>7 | 19=>8 | n=>n⟩
theorem Sh.lays172:Go.Proofs.Lays.n172 Tryz.prog Sh.lays172_ren:={
 mixed:=by kernel_rfl
 f129:=Tryz.func317.trans (D J (by kernel_rfl))
 f171:=Tryz.func151.trans (D J (by kernel_rfl))
 f172:=Tryz.func227.trans (D J (by kernel_rfl))
 f205:=Tryz.func331.trans (D J (by kernel_rfl))
 f243:=Tryz.func201.trans (D J (by kernel_rfl))
 f244:=Tryz.func264.trans (D J (by kernel_rfl))
 f245:=Tryz.func265.trans (D J (by kernel_rfl))
 f246:=Tryz.func244.trans (D J (by kernel_rfl))
 f247:=Tryz.func291.trans (D J (by kernel_rfl))
 f279:=Tryz.func292.trans (D J (by kernel_rfl))
 f280:=Tryz.func293.trans (D J (by kernel_rfl))
 f281:=Tryz.func294.trans (D J (by kernel_rfl))
 f282:=Tryz.func295.trans (D J (by kernel_rfl))
 f283:=Tryz.func276.trans (D J (by kernel_rfl))
 f284:=Tryz.func277.trans (D J (by kernel_rfl))
 f285:=Tryz.func278.trans (D J (by kernel_rfl))
 f286:=Tryz.func279.trans (D J (by kernel_rfl))
 f287:=Tryz.func329.trans (D J (by kernel_rfl))
 f316:=Tryz.func330.trans (D J (by kernel_rfl))
 f317:=Tryz.func318.trans (D J (by kernel_rfl))
 f318:=Tryz.func319.trans (D J (by kernel_rfl))
 f319:=Tryz.func320.trans (D J (by kernel_rfl))
 f320:=Tryz.func321.trans (D J (by kernel_rfl))
 f321:=Tryz.func349.trans (D J (by kernel_rfl))
 f322:=Tryz.func350.trans (D J (by kernel_rfl))
 f337:=Tryz.func345.trans (D J (by kernel_rfl))
 f338:=Tryz.func346.trans (D J (by kernel_rfl))
 t0:=Tryz.underlying0
 a0:=Tryz.isAgg0
 z0:=Tryz.sizeOf0
 v0:=Tryz.zeroValue0
 t2:=Tryz.underlying2
 a2:=Tryz.isAgg2
 z2:=Tryz.sizeOf2
 v2:=Tryz.zeroValue2
 t3:=Tryz.underlying3
 a3:=Tryz.isAgg3
 z3:=Tryz.sizeOf3
 v3:=Tryz.zeroValue3
 t4:=Tryz.underlying4
 a4:=Tryz.isAgg4
 z4:=Tryz.sizeOf4
 v4:=Tryz.zeroValue4
 t5:=Tryz.underlying5
 a5:=Tryz.isAgg5
 z5:=Tryz.sizeOf5
 v5:=Tryz.zeroValue5
 t9:=Tryz.underlying9
 a9:=Tryz.isAgg9
 z9:=Tryz.sizeOf9
 v9:=Tryz.zeroValue9
 t20:=Tryz.underlying20
 a20:=Tryz.isAgg20
 z20:=Tryz.sizeOf20
 v20:=Tryz.zeroValue20
 t21:=Tryz.underlying21
 a21:=Tryz.isAgg21
 z21:=Tryz.sizeOf21
 v21:=Tryz.zeroValue21
 t37:=Tryz.underlying195
 a37:=Tryz.isAgg195
 z37:=Tryz.sizeOf195
 v37:=Tryz.zeroValue195
 t46:=Tryz.underlying309
 a46:=Tryz.isAgg309
 z46:=Tryz.sizeOf309
 v46:=Tryz.zeroValue309
 t51:=Tryz.underlying355
 a51:=Tryz.isAgg355
 z51:=Tryz.sizeOf355
 v51:=Tryz.zeroValue355
 t53:=Tryz.underlying313
 a53:=Tryz.isAgg313
 z53:=Tryz.sizeOf313
 v53:=Tryz.zeroValue313
 t75:=Tryz.underlying256
 a75:=Tryz.isAgg256
 z75:=Tryz.sizeOf256
 v75:=Tryz.zeroValue256
 t76:=Tryz.underlying257
 a76:=Tryz.isAgg257
 z76:=Tryz.sizeOf257
 v76:=Tryz.zeroValue257
 t85:=Tryz.underlying330
 a85:=Tryz.isAgg330
 z85:=Tryz.sizeOf330
 v85:=Tryz.zeroValue330
 t127:=Tryz.underlying285
 a127:=Tryz.isAgg285
 z127:=Tryz.sizeOf285
 v127:=Tryz.zeroValue285
 t143:=Tryz.underlying381
 a143:=Tryz.isAgg381
 z143:=Tryz.sizeOf381
 v143:=Tryz.zeroValue381
 t145:=Tryz.underlying383
 a145:=Tryz.isAgg383
 z145:=Tryz.sizeOf383
 v145:=Tryz.zeroValue383
 t167:=Tryz.underlying329
 a167:=Tryz.isAgg329
 z167:=Tryz.sizeOf329
 v167:=Tryz.zeroValue329
 t168:=Tryz.underlying332
 a168:=Tryz.isAgg332
 z168:=Tryz.sizeOf332
 v168:=Tryz.zeroValue332
 t171:=Tryz.underlying312
 a171:=Tryz.isAgg312
 z171:=Tryz.sizeOf312
 v171:=Tryz.zeroValue312
 t173:=Tryz.underlying316
 a173:=Tryz.isAgg316
 z173:=Tryz.sizeOf316
 v173:=Tryz.zeroValue316
 t175:=Tryz.underlying361
 a175:=Tryz.isAgg361
 z175:=Tryz.sizeOf361
 v175:=Tryz.zeroValue361
 t210:=Tryz.underlying365
 a210:=Tryz.isAgg365
 z210:=Tryz.sizeOf365
 v210:=Tryz.zeroValue365
 t212:=Tryz.underlying358
 a212:=Tryz.isAgg358
 z212:=Tryz.sizeOf358
 v212:=Tryz.zeroValue358
 t213:=Tryz.underlying359
 a213:=Tryz.isAgg359
 z213:=Tryz.sizeOf359
 t232:=Tryz.underlying390
 a232:=Tryz.isAgg390
 z232:=Tryz.sizeOf390
 v232:=Tryz.zeroValue390
 t233:=Tryz.underlying391
 a233:=Tryz.isAgg391
 z233:=Tryz.sizeOf391
 v233:=Tryz.zeroValue391
 g15:=by kernel_rfl
 g16:=by kernel_rfl
 g17:=by kernel_rfl
 g18:=by kernel_rfl
 g19:=by kernel_rfl}
open Go.RowKit in
theorem Sh.strconv_Atoi (s:B) (n:Y) (hl:s.size<=18) (h:Lib.atoi s.data.toList=J n) (w:uB):
 Calls Tryz.prog 227 #[.string s] w λe w'=>e= .returned (.tuple #[.int .i64 n,.nilIface])/\∃t,w'=Lib.bytesWorld w 5 t:=Any.strconv_Atoi Sh.lays172 s n hl h w
def Sh.laysM171_ren:Go.Shelf.Ren:=⟨λ| 171=>151 | 243=>201 | 246=>244 | 283=>276 | 284=>277 | 285=>278 | 286=>279 | 129=>317 | 317=>318 | 318=>319 | 319=>320 | 320=>321 | 337=>345 | 338=>346 | n=>n,λ| 3=>3 | 9=>9 | 2=>2 | 4=>4 | 171=>312 | 0=>0 | 53=>313 | 37=>195 | 5=>5 | 173=>316 | 212=>358 | 51=>355 | 20=>20 | 213=>359 | 46=>309 | 232=>390 | 233=>391 | n=>n,λ| 17=>0 | 18=>7 | 19=>8 | n=>n⟩
theorem Sh.laysM171:Go.Proofs.LaysM.n171 Tryz.prog Sh.laysM171_ren:={
 mixed:=by kernel_rfl
 f129:=Tryz.func317.trans (D J (by kernel_rfl))
 f171:=Tryz.func151.trans (D J (by kernel_rfl))
 f243:=Tryz.func201.trans (D J (by kernel_rfl))
 f246:=Tryz.func244.trans (D J (by kernel_rfl))
 f283:=Tryz.func276.trans (D J (by kernel_rfl))
 f284:=Tryz.func277.trans (D J (by kernel_rfl))
 f285:=Tryz.func278.trans (D J (by kernel_rfl))
 f286:=Tryz.func279.trans (D J (by kernel_rfl))
 f317:=Tryz.func318.trans (D J (by kernel_rfl))
 f318:=Tryz.func319.trans (D J (by kernel_rfl))
 f319:=Tryz.func320.trans (D J (by kernel_rfl))
 f320:=Tryz.func321.trans (D J (by kernel_rfl))
 f337:=Tryz.func345.trans (D J (by kernel_rfl))
 f338:=Tryz.func346.trans (D J (by kernel_rfl))
 t0:=Tryz.underlying0
 a0:=Tryz.isAgg0
 z0:=Tryz.sizeOf0
 v0:=Tryz.zeroValue0
 t2:=Tryz.underlying2
 a2:=Tryz.isAgg2
 z2:=Tryz.sizeOf2
 v2:=Tryz.zeroValue2
 t3:=Tryz.underlying3
 a3:=Tryz.isAgg3
 z3:=Tryz.sizeOf3
 v3:=Tryz.zeroValue3
 t4:=Tryz.underlying4
 a4:=Tryz.isAgg4
 z4:=Tryz.sizeOf4
 v4:=Tryz.zeroValue4
 t5:=Tryz.underlying5
 a5:=Tryz.isAgg5
 z5:=Tryz.sizeOf5
 v5:=Tryz.zeroValue5
 t9:=Tryz.underlying9
 a9:=Tryz.isAgg9
 z9:=Tryz.sizeOf9
 v9:=Tryz.zeroValue9
 t20:=Tryz.underlying20
 a20:=Tryz.isAgg20
 z20:=Tryz.sizeOf20
 v20:=Tryz.zeroValue20
 t37:=Tryz.underlying195
 a37:=Tryz.isAgg195
 z37:=Tryz.sizeOf195
 v37:=Tryz.zeroValue195
 t46:=Tryz.underlying309
 a46:=Tryz.isAgg309
 z46:=Tryz.sizeOf309
 v46:=Tryz.zeroValue309
 t51:=Tryz.underlying355
 a51:=Tryz.isAgg355
 z51:=Tryz.sizeOf355
 v51:=Tryz.zeroValue355
 t53:=Tryz.underlying313
 a53:=Tryz.isAgg313
 z53:=Tryz.sizeOf313
 v53:=Tryz.zeroValue313
 t171:=Tryz.underlying312
 a171:=Tryz.isAgg312
 z171:=Tryz.sizeOf312
 v171:=Tryz.zeroValue312
 t173:=Tryz.underlying316
 a173:=Tryz.isAgg316
 z173:=Tryz.sizeOf316
 v173:=Tryz.zeroValue316
 t212:=Tryz.underlying358
 a212:=Tryz.isAgg358
 z212:=Tryz.sizeOf358
 v212:=Tryz.zeroValue358
 t213:=Tryz.underlying359
 a213:=Tryz.isAgg359
 z213:=Tryz.sizeOf359
 t232:=Tryz.underlying390
 a232:=Tryz.isAgg390
 z232:=Tryz.sizeOf390
 v232:=Tryz.zeroValue390
 t233:=Tryz.underlying391
 a233:=Tryz.isAgg391
 z233:=Tryz.sizeOf391
 v233:=Tryz.zeroValue391
 g17:=by kernel_rfl
 g18:=by kernel_rfl
 g19:=by kernel_rfl
 i0:=by kernel_rfl
 i2:=by kernel_rfl
 i3:=by kernel_rfl
 i4:=by kernel_rfl
 i5:=by kernel_rfl
 i9:=by kernel_rfl
 i20:=by kernel_rfl
 i37:=by kernel_rfl
 i46:=by kernel_rfl
 i51:=by kernel_rfl
 i53:=by kernel_rfl
 i171:=by kernel_rfl
 i173:=by kernel_rfl
 i212:=by kernel_rfl
 i232:=by kernel_rfl
 i233:=by kernel_rfl
 m17:=by kernel_rfl
 m18:=by kernel_rfl
 m19:=by kernel_rfl}
open Go.RowKit Go.Sort Go.Lib in
theorem Sh.strconv_Itoa (n : Int) (h0 : -9223372036854775808 ≤ n) (h1 : n ≤ 9223372036854775807) (w : World) (htab : Lib.TabIs Tryz.prog w "internal/strconv.uint64pow10" .u64 Lib.pow10Tab) :
 Calls Tryz.prog 151 #[.int .i64 n] w λe w'=>e= .returned (.string ⟨(Lib.itoa n).toArray⟩)/\∃k os,w'=grow (w.drewN k) os:=Any.strconv_Itoa Sh.laysM171 n h0 h1 w htab
def Sh.laysC172_ren:Go.Shelf.Ren:=⟨λ| 172=>227 | 244=>264 | 245=>265 | 247=>291 | 279=>292 | 280=>293 | 281=>294 | 282=>295 | 287=>329 | 316=>330 | 171=>151 | 205=>331 | 321=>349 | 322=>350 | 243=>201 | 246=>244 | 283=>276 | 284=>277 | 285=>278 | 286=>279 | 129=>317 | 317=>318 | 318=>319 | 319=>320 | 320=>321 | 337=>345 | 338=>346 | n=>n,λ| 9=>9 | 3=>3 | 75=>256 | 76=>257 | 4=>4 | 5=>5 | 167=>329 | 37=>195 | 0=>0 | 85=>330 | 2=>2 | 168=>332 | 53=>313 | 175=>361 | 46=>309 | 210=>365 | 127=>285 | 145=>383 | 143=>381 | 21=>21 | 171=>312 | 173=>316 | 212=>358 | 51=>355 | 20=>20 | 213=>359 | 232=>390 | 233=>391 | 80=>259 | n=>n,λ| 15=>2 | 16=>3 | 17=>0 | 18=>7 | 19=>8 | n=>n⟩
theorem Sh.laysC172:Go.Proofs.LaysC.n172 Tryz.prog Sh.laysC172_ren:={
 mixed:=by kernel_rfl
 f129:=Tryz.func317.trans (D J (by kernel_rfl))
 f171:=Tryz.func151.trans (D J (by kernel_rfl))
 f172:=Tryz.func227.trans (D J (by kernel_rfl))
 f205:=Tryz.func331.trans (D J (by kernel_rfl))
 f243:=Tryz.func201.trans (D J (by kernel_rfl))
 f244:=Tryz.func264.trans (D J (by kernel_rfl))
 f245:=Tryz.func265.trans (D J (by kernel_rfl))
 f246:=Tryz.func244.trans (D J (by kernel_rfl))
 f247:=Tryz.func291.trans (D J (by kernel_rfl))
 f279:=Tryz.func292.trans (D J (by kernel_rfl))
 f280:=Tryz.func293.trans (D J (by kernel_rfl))
 f281:=Tryz.func294.trans (D J (by kernel_rfl))
 f282:=Tryz.func295.trans (D J (by kernel_rfl))
 f283:=Tryz.func276.trans (D J (by kernel_rfl))
 f284:=Tryz.func277.trans (D J (by kernel_rfl))
 f285:=Tryz.func278.trans (D J (by kernel_rfl))
 f286:=Tryz.func279.trans (D J (by kernel_rfl))
 f287:=Tryz.func329.trans (D J (by kernel_rfl))
 f316:=Tryz.func330.trans (D J (by kernel_rfl))
 f317:=Tryz.func318.trans (D J (by kernel_rfl))
 f318:=Tryz.func319.trans (D J (by kernel_rfl))
 f319:=Tryz.func320.trans (D J (by kernel_rfl))
 f320:=Tryz.func321.trans (D J (by kernel_rfl))
 f321:=Tryz.func349.trans (D J (by kernel_rfl))
 f322:=Tryz.func350.trans (D J (by kernel_rfl))
 f337:=Tryz.func345.trans (D J (by kernel_rfl))
 f338:=Tryz.func346.trans (D J (by kernel_rfl))
 t0:=Tryz.underlying0
 a0:=Tryz.isAgg0
 z0:=Tryz.sizeOf0
 v0:=Tryz.zeroValue0
 t2:=Tryz.underlying2
 a2:=Tryz.isAgg2
 z2:=Tryz.sizeOf2
 v2:=Tryz.zeroValue2
 t3:=Tryz.underlying3
 a3:=Tryz.isAgg3
 z3:=Tryz.sizeOf3
 v3:=Tryz.zeroValue3
 t4:=Tryz.underlying4
 a4:=Tryz.isAgg4
 z4:=Tryz.sizeOf4
 v4:=Tryz.zeroValue4
 t5:=Tryz.underlying5
 a5:=Tryz.isAgg5
 z5:=Tryz.sizeOf5
 v5:=Tryz.zeroValue5
 t9:=Tryz.underlying9
 a9:=Tryz.isAgg9
 z9:=Tryz.sizeOf9
 v9:=Tryz.zeroValue9
 t20:=Tryz.underlying20
 a20:=Tryz.isAgg20
 z20:=Tryz.sizeOf20
 v20:=Tryz.zeroValue20
 t21:=Tryz.underlying21
 a21:=Tryz.isAgg21
 z21:=Tryz.sizeOf21
 v21:=Tryz.zeroValue21
 t37:=Tryz.underlying195
 a37:=Tryz.isAgg195
 z37:=Tryz.sizeOf195
 v37:=Tryz.zeroValue195
 t46:=Tryz.underlying309
 a46:=Tryz.isAgg309
 z46:=Tryz.sizeOf309
 v46:=Tryz.zeroValue309
 t51:=Tryz.underlying355
 a51:=Tryz.isAgg355
 z51:=Tryz.sizeOf355
 v51:=Tryz.zeroValue355
 t53:=Tryz.underlying313
 a53:=Tryz.isAgg313
 z53:=Tryz.sizeOf313
 v53:=Tryz.zeroValue313
 t75:=Tryz.underlying256
 a75:=Tryz.isAgg256
 z75:=Tryz.sizeOf256
 v75:=Tryz.zeroValue256
 t76:=Tryz.underlying257
 a76:=Tryz.isAgg257
 z76:=Tryz.sizeOf257
 v76:=Tryz.zeroValue257
 t85:=Tryz.underlying330
 a85:=Tryz.isAgg330
 z85:=Tryz.sizeOf330
 v85:=Tryz.zeroValue330
 t127:=Tryz.underlying285
 a127:=Tryz.isAgg285
 z127:=Tryz.sizeOf285
 v127:=Tryz.zeroValue285
 t143:=Tryz.underlying381
 a143:=Tryz.isAgg381
 z143:=Tryz.sizeOf381
 v143:=Tryz.zeroValue381
 t145:=Tryz.underlying383
 a145:=Tryz.isAgg383
 z145:=Tryz.sizeOf383
 v145:=Tryz.zeroValue383
 t167:=Tryz.underlying329
 a167:=Tryz.isAgg329
 z167:=Tryz.sizeOf329
 v167:=Tryz.zeroValue329
 t168:=Tryz.underlying332
 a168:=Tryz.isAgg332
 z168:=Tryz.sizeOf332
 v168:=Tryz.zeroValue332
 t171:=Tryz.underlying312
 a171:=Tryz.isAgg312
 z171:=Tryz.sizeOf312
 v171:=Tryz.zeroValue312
 t173:=Tryz.underlying316
 a173:=Tryz.isAgg316
 z173:=Tryz.sizeOf316
 v173:=Tryz.zeroValue316
 t175:=Tryz.underlying361
 a175:=Tryz.isAgg361
 z175:=Tryz.sizeOf361
 v175:=Tryz.zeroValue361
 t210:=Tryz.underlying365
 a210:=Tryz.isAgg365
 z210:=Tryz.sizeOf365
 v210:=Tryz.zeroValue365
 t212:=Tryz.underlying358
 a212:=Tryz.isAgg358
 z212:=Tryz.sizeOf358
 v212:=Tryz.zeroValue358
 t213:=Tryz.underlying359
 a213:=Tryz.isAgg359
 z213:=Tryz.sizeOf359
 t232:=Tryz.underlying390
 a232:=Tryz.isAgg390
 z232:=Tryz.sizeOf390
 v232:=Tryz.zeroValue390
 t233:=Tryz.underlying391
 a233:=Tryz.isAgg391
 z233:=Tryz.sizeOf391
 v233:=Tryz.zeroValue391
 g15:=by kernel_rfl
 g16:=by kernel_rfl
 g17:=by kernel_rfl
 g18:=by kernel_rfl
 g19:=by kernel_rfl
 t80:=Tryz.underlying259
 a80:=Tryz.isAgg259
 z80:=Tryz.sizeOf259
 v80:=Tryz.zeroValue259
 i0:=by kernel_rfl
 i2:=by kernel_rfl
 i3:=by kernel_rfl
 i4:=by kernel_rfl
 i5:=by kernel_rfl
 i9:=by kernel_rfl
 i20:=by kernel_rfl
 i21:=by kernel_rfl
 i37:=by kernel_rfl
 i46:=by kernel_rfl
 i51:=by kernel_rfl
 i53:=by kernel_rfl
 i75:=by kernel_rfl
 i76:=by kernel_rfl
 i80:=by kernel_rfl
 i85:=by kernel_rfl
 i127:=by kernel_rfl
 i143:=by kernel_rfl
 i145:=by kernel_rfl
 i167:=by kernel_rfl
 i168:=by kernel_rfl
 i171:=by kernel_rfl
 i173:=by kernel_rfl
 i175:=by kernel_rfl
 i210:=by kernel_rfl
 i212:=by kernel_rfl
 i232:=by kernel_rfl
 i233:=by kernel_rfl
 m15:=by kernel_rfl
 m16:=by kernel_rfl
 m17:=by kernel_rfl
 m18:=by kernel_rfl
 m19:=by kernel_rfl
 c0:=by kernel_rfl
 c2:=by kernel_rfl
 c3:=by kernel_rfl
 c4:=by kernel_rfl
 c5:=by kernel_rfl
 c9:=by kernel_rfl
 c20:=by kernel_rfl
 c21:=by kernel_rfl
 c37:=by kernel_rfl
 c46:=by kernel_rfl
 c51:=by kernel_rfl
 c53:=by kernel_rfl
 c75:=by kernel_rfl
 c76:=by kernel_rfl
 c80:=by kernel_rfl
 c85:=by kernel_rfl
 c127:=by kernel_rfl
 c143:=by kernel_rfl
 c145:=by kernel_rfl
 c167:=by kernel_rfl
 c168:=by kernel_rfl
 c171:=by kernel_rfl
 c173:=by kernel_rfl
 c175:=by kernel_rfl
 c210:=by kernel_rfl
 c212:=by kernel_rfl
 c213:=by kernel_rfl
 c232:=by kernel_rfl
 c233:=by kernel_rfl}
open Go.RowKit in
theorem Sh.strconv_Atoi_err_var (s : ByteArray) (hl : s.size ≤ 18) (h : Lib.atoi s.data.toList = none) (tp : TypeId) (p : Value) (w : World) (hvar : w.var? Tryz.prog "strconv.ErrSyntax" = some #[.iface tp p]) :
 Calls Tryz.prog 227 #[.string s] w λe w'=>∃N,e= .returned (.tuple #[.int .i64 0,.iface 332 (.pointer (J ⟨N,0,uD⟩))])/\w.heap.size<=N/\w'.heap[N]? =J (.cells #[.string ⟨#[65,116,111,105]⟩,.string s,.iface tp p] 365 (0,0))/\Below w.heap.size w w':=Any.strconv_Atoi_err_var Sh.laysC172 s hl h tp p w hvar
def Sh.lays189_ren:Go.Shelf.Ren:=⟨λ| 189=>239 | 125=>272 | 257=>271 | 128=>316 | 129=>317 | 294=>307 | 295=>308 | 296=>309 | 297=>310 | 298=>311 | 299=>312 | 216=>313 | 300=>314 | 301=>315 | 328=>339 | 329=>340 | 330=>341 | 331=>342 | 332=>343 | 215=>344 | 343=>354 | n=>n,λ| 28=>34 | 3=>3 | 46=>309 | 0=>0 | 51=>355 | 53=>313 | 4=>4 | 183=>348 | 182=>347 | 131=>225 | 5=>5 | 9=>9 | 218=>368 | 222=>372 | 228=>387 | 229=>388 | n=>n,λ| n=>n⟩
theorem Sh.lays189:Go.Proofs.Lays.n189 Tryz.prog Sh.lays189_ren:={
 mixed:=by kernel_rfl
 f125:=Tryz.func272.trans (D J (by kernel_rfl))
 f128:=Tryz.func316.trans (D J (by kernel_rfl))
 f129:=Tryz.func317.trans (D J (by kernel_rfl))
 f189:=Tryz.func239.trans (D J (by kernel_rfl))
 f215:=Tryz.func344.trans (D J (by kernel_rfl))
 f216:=Tryz.func313.trans (D J (by kernel_rfl))
 f257:=Tryz.func271.trans (D J (by kernel_rfl))
 f294:=Tryz.func307.trans (D J (by kernel_rfl))
 f295:=Tryz.func308.trans (D J (by kernel_rfl))
 f296:=Tryz.func309.trans (D J (by kernel_rfl))
 f297:=Tryz.func310.trans (D J (by kernel_rfl))
 f298:=Tryz.func311.trans (D J (by kernel_rfl))
 f299:=Tryz.func312.trans (D J (by kernel_rfl))
 f300:=Tryz.func314.trans (D J (by kernel_rfl))
 f301:=Tryz.func315.trans (D J (by kernel_rfl))
 f328:=Tryz.func339.trans (D J (by kernel_rfl))
 f329:=Tryz.func340.trans (D J (by kernel_rfl))
 f330:=Tryz.func341.trans (D J (by kernel_rfl))
 f331:=Tryz.func342.trans (D J (by kernel_rfl))
 f332:=Tryz.func343.trans (D J (by kernel_rfl))
 f343:=Tryz.func354.trans (D J (by kernel_rfl))
 t0:=Tryz.underlying0
 a0:=Tryz.isAgg0
 z0:=Tryz.sizeOf0
 v0:=Tryz.zeroValue0
 t3:=Tryz.underlying3
 a3:=Tryz.isAgg3
 z3:=Tryz.sizeOf3
 v3:=Tryz.zeroValue3
 t4:=Tryz.underlying4
 a4:=Tryz.isAgg4
 z4:=Tryz.sizeOf4
 v4:=Tryz.zeroValue4
 t5:=Tryz.underlying5
 a5:=Tryz.isAgg5
 z5:=Tryz.sizeOf5
 v5:=Tryz.zeroValue5
 t9:=Tryz.underlying9
 a9:=Tryz.isAgg9
 z9:=Tryz.sizeOf9
 v9:=Tryz.zeroValue9
 t28:=Tryz.underlying34
 a28:=Tryz.isAgg34
 z28:=Tryz.sizeOf34
 v28:=Tryz.zeroValue34
 t46:=Tryz.underlying309
 a46:=Tryz.isAgg309
 z46:=Tryz.sizeOf309
 v46:=Tryz.zeroValue309
 t51:=Tryz.underlying355
 a51:=Tryz.isAgg355
 z51:=Tryz.sizeOf355
 v51:=Tryz.zeroValue355
 t53:=Tryz.underlying313
 a53:=Tryz.isAgg313
 z53:=Tryz.sizeOf313
 v53:=Tryz.zeroValue313
 t131:=Tryz.underlying225
 a131:=Tryz.isAgg225
 z131:=Tryz.sizeOf225
 v131:=Tryz.zeroValue225
 t182:=Tryz.underlying347
 a182:=Tryz.isAgg347
 z182:=Tryz.sizeOf347
 v182:=Tryz.zeroValue347
 t183:=Tryz.underlying348
 a183:=Tryz.isAgg348
 z183:=Tryz.sizeOf348
 v183:=Tryz.zeroValue348
 t218:=Tryz.underlying368
 a218:=Tryz.isAgg368
 z218:=Tryz.sizeOf368
 v218:=Tryz.zeroValue368
 t222:=Tryz.underlying372
 a222:=Tryz.isAgg372
 z222:=Tryz.sizeOf372
 v222:=Tryz.zeroValue372
 t228:=Tryz.underlying387
 a228:=Tryz.isAgg387
 z228:=Tryz.sizeOf387
 v228:=Tryz.zeroValue387
 t229:=Tryz.underlying388
 a229:=Tryz.isAgg388
 z229:=Tryz.sizeOf388
 v229:=Tryz.zeroValue388}
open Go.Sort Go.RowKit in
theorem Sh.slices_Sort_int (blk off cap:Q) (zs:W Y) (w:uB) (hH:Holds (Value.int .i64) w blk off zs.toArray) (hblk:blk<w.heap.size) (hsz:zs.length<4611686018427387904):
 Calls Tryz.prog 239 #[.slice (J ⟨blk,off,uD⟩) zs.length cap] w λe w'=>
  e= .returned (.tuple #[])/\∃n os,w'=grow (putRow (Value.int .i64) (Sort.ahead w n) blk off (zs.mergeSort λx y=>decide (x<=y)).toArray) os:=Any.slices_Sort_int Sh.lays189 blk off cap zs w hH hblk hsz
def Sh.lays190_ren:Go.Shelf.Ren:=⟨λ| 190=>337 | 125=>272 | 258=>353 | 128=>316 | 129=>317 | 302=>356 | 303=>357 | 304=>358 | 305=>359 | 306=>360 | 307=>361 | 308=>362 | 309=>363 | 310=>364 | 333=>367 | 329=>340 | 330=>341 | 334=>368 | 335=>369 | 336=>370 | 344=>371 | n=>n,λ| 31=>102 | 9=>9 | 3=>3 | 46=>309 | 0=>0 | 51=>355 | 53=>313 | 4=>4 | 183=>348 | 182=>347 | 131=>225 | 5=>5 | 218=>368 | 222=>372 | 228=>387 | 229=>388 | n=>n,λ| n=>n⟩
theorem Sh.lays190:Go.Proofs.Lays.n190 Tryz.prog Sh.lays190_ren:={
 mixed:=by kernel_rfl
 f125:=Tryz.func272.trans (D J (by kernel_rfl))
 f128:=Tryz.func316.trans (D J (by kernel_rfl))
 f129:=Tryz.func317.trans (D J (by kernel_rfl))
 f190:=Tryz.func337.trans (D J (by kernel_rfl))
 f258:=Tryz.func353.trans (D J (by kernel_rfl))
 f302:=Tryz.func356.trans (D J (by kernel_rfl))
 f303:=Tryz.func357.trans (D J (by kernel_rfl))
 f304:=Tryz.func358.trans (D J (by kernel_rfl))
 f305:=Tryz.func359.trans (D J (by kernel_rfl))
 f306:=Tryz.func360.trans (D J (by kernel_rfl))
 f307:=Tryz.func361.trans (D J (by kernel_rfl))
 f308:=Tryz.func362.trans (D J (by kernel_rfl))
 f309:=Tryz.func363.trans (D J (by kernel_rfl))
 f310:=Tryz.func364.trans (D J (by kernel_rfl))
 f329:=Tryz.func340.trans (D J (by kernel_rfl))
 f330:=Tryz.func341.trans (D J (by kernel_rfl))
 f333:=Tryz.func367.trans (D J (by kernel_rfl))
 f334:=Tryz.func368.trans (D J (by kernel_rfl))
 f335:=Tryz.func369.trans (D J (by kernel_rfl))
 f336:=Tryz.func370.trans (D J (by kernel_rfl))
 f344:=Tryz.func371.trans (D J (by kernel_rfl))
 t0:=Tryz.underlying0
 a0:=Tryz.isAgg0
 z0:=Tryz.sizeOf0
 v0:=Tryz.zeroValue0
 t3:=Tryz.underlying3
 a3:=Tryz.isAgg3
 z3:=Tryz.sizeOf3
 v3:=Tryz.zeroValue3
 t4:=Tryz.underlying4
 a4:=Tryz.isAgg4
 z4:=Tryz.sizeOf4
 v4:=Tryz.zeroValue4
 t5:=Tryz.underlying5
 a5:=Tryz.isAgg5
 z5:=Tryz.sizeOf5
 v5:=Tryz.zeroValue5
 t9:=Tryz.underlying9
 a9:=Tryz.isAgg9
 z9:=Tryz.sizeOf9
 v9:=Tryz.zeroValue9
 t31:=Tryz.underlying102
 a31:=Tryz.isAgg102
 z31:=Tryz.sizeOf102
 v31:=Tryz.zeroValue102
 t46:=Tryz.underlying309
 a46:=Tryz.isAgg309
 z46:=Tryz.sizeOf309
 v46:=Tryz.zeroValue309
 t51:=Tryz.underlying355
 a51:=Tryz.isAgg355
 z51:=Tryz.sizeOf355
 v51:=Tryz.zeroValue355
 t53:=Tryz.underlying313
 a53:=Tryz.isAgg313
 z53:=Tryz.sizeOf313
 v53:=Tryz.zeroValue313
 t131:=Tryz.underlying225
 a131:=Tryz.isAgg225
 z131:=Tryz.sizeOf225
 v131:=Tryz.zeroValue225
 t182:=Tryz.underlying347
 a182:=Tryz.isAgg347
 z182:=Tryz.sizeOf347
 v182:=Tryz.zeroValue347
 t183:=Tryz.underlying348
 a183:=Tryz.isAgg348
 z183:=Tryz.sizeOf348
 v183:=Tryz.zeroValue348
 t218:=Tryz.underlying368
 a218:=Tryz.isAgg368
 z218:=Tryz.sizeOf368
 v218:=Tryz.zeroValue368
 t222:=Tryz.underlying372
 a222:=Tryz.isAgg372
 z222:=Tryz.sizeOf372
 v222:=Tryz.zeroValue372
 t228:=Tryz.underlying387
 a228:=Tryz.isAgg387
 z228:=Tryz.sizeOf387
 v228:=Tryz.zeroValue387
 t229:=Tryz.underlying388
 a229:=Tryz.isAgg388
 z229:=Tryz.sizeOf388
 v229:=Tryz.zeroValue388}
open Go.Sort Go.RowKit in
theorem Sh.slices_Sort_string (blk off cap:Q) (ss:W (W uC)) (w:uB) (hH:Holds encStr w blk off ss.toArray) (hblk:blk<w.heap.size) (hsz:ss.length<4611686018427387904):
 Calls Tryz.prog 337 #[.slice (J ⟨blk,off,uD⟩) ss.length cap] w λe w'=>
  e= .returned (.tuple #[])/\∃n os,w'=grow (putRow encStr (Sort.ahead w n) blk off (ss.mergeSort λx y=>decide (x<=y)).toArray) os:=Any.slices_Sort_string Sh.lays190 blk off cap ss w hH hblk hsz
def Sh.lays146_ren:Go.Shelf.Ren:=⟨λ| 146=>183 | 221=>226 | 268=>261 | 138=>262 | 143=>263 | 195=>287 | 197=>288 | 218=>289 | 219=>290 | 260=>324 | 217=>325 | 225=>326 | 224=>327 | 267=>328 | 266=>347 | 314=>348 | n=>n,λ| 9=>9 | 31=>102 | 3=>3 | 4=>4 | 0=>0 | 105=>326 | 21=>21 | 5=>5 | 46=>309 | 119=>374 | 139=>377 | 138=>376 | 146=>378 | 51=>355 | n=>n,λ| 1=>1 | 3=>4 | 4=>5 | n=>n⟩
theorem Sh.lays146:Go.Proofs.Lays.n146 Tryz.prog Sh.lays146_ren:={
 mixed:=by kernel_rfl
 f138:=Tryz.func262.trans (D J (by kernel_rfl))
 f143:=Tryz.func263.trans (D J (by kernel_rfl))
 f146:=Tryz.func183.trans (D J (by kernel_rfl))
 f195:=Tryz.func287.trans (D J (by kernel_rfl))
 f197:=Tryz.func288.trans (D J (by kernel_rfl))
 f217:=Tryz.func325.trans (D J (by kernel_rfl))
 f218:=Tryz.func289.trans (D J (by kernel_rfl))
 f219:=Tryz.func290.trans (D J (by kernel_rfl))
 f221:=Tryz.func226.trans (D J (by kernel_rfl))
 f224:=Tryz.func327.trans (D J (by kernel_rfl))
 f225:=Tryz.func326.trans (D J (by kernel_rfl))
 f260:=Tryz.func324.trans (D J (by kernel_rfl))
 f266:=Tryz.func347.trans (D J (by kernel_rfl))
 f267:=Tryz.func328.trans (D J (by kernel_rfl))
 f268:=Tryz.func261.trans (D J (by kernel_rfl))
 f314:=Tryz.func348.trans (D J (by kernel_rfl))
 t0:=Tryz.underlying0
 a0:=Tryz.isAgg0
 z0:=Tryz.sizeOf0
 v0:=Tryz.zeroValue0
 t3:=Tryz.underlying3
 a3:=Tryz.isAgg3
 z3:=Tryz.sizeOf3
 v3:=Tryz.zeroValue3
 t4:=Tryz.underlying4
 a4:=Tryz.isAgg4
 z4:=Tryz.sizeOf4
 v4:=Tryz.zeroValue4
 t5:=Tryz.underlying5
 a5:=Tryz.isAgg5
 z5:=Tryz.sizeOf5
 v5:=Tryz.zeroValue5
 t9:=Tryz.underlying9
 a9:=Tryz.isAgg9
 z9:=Tryz.sizeOf9
 v9:=Tryz.zeroValue9
 t21:=Tryz.underlying21
 a21:=Tryz.isAgg21
 z21:=Tryz.sizeOf21
 v21:=Tryz.zeroValue21
 t31:=Tryz.underlying102
 a31:=Tryz.isAgg102
 z31:=Tryz.sizeOf102
 v31:=Tryz.zeroValue102
 t46:=Tryz.underlying309
 a46:=Tryz.isAgg309
 z46:=Tryz.sizeOf309
 v46:=Tryz.zeroValue309
 t51:=Tryz.underlying355
 a51:=Tryz.isAgg355
 z51:=Tryz.sizeOf355
 v51:=Tryz.zeroValue355
 t105:=Tryz.underlying326
 a105:=Tryz.isAgg326
 z105:=Tryz.sizeOf326
 v105:=Tryz.zeroValue326
 t119:=Tryz.underlying374
 a119:=Tryz.isAgg374
 z119:=Tryz.sizeOf374
 t138:=Tryz.underlying376
 a138:=Tryz.isAgg376
 z138:=Tryz.sizeOf376
 v138:=Tryz.zeroValue376
 t139:=Tryz.underlying377
 a139:=Tryz.isAgg377
 z139:=Tryz.sizeOf377
 v139:=Tryz.zeroValue377
 t146:=Tryz.underlying378
 a146:=Tryz.isAgg378
 z146:=Tryz.sizeOf378
 v146:=Tryz.zeroValue378
 g1:=by kernel_rfl
 g3:=by kernel_rfl
 g4:=by kernel_rfl}
open Go.RowKit Go.Lib in
theorem Sh.strings_Split (s sep:B) (m:Y) (w:uB) (hs:s.size<4294967281) (hm:w.cell? ⟨1,0,uD⟩=J (.int .i64 m)) (h1:1<=sep.size):
 Calls Tryz.prog 183 #[.string s,.string sep] w λe w'=>
  e= .returned (.slice (J ⟨w.heap.size,0,uD⟩) (Lib.countB s sep+1) (Lib.countB s sep+1))/\w'=w.alloc (.cells ((Lib.splitB sep 0 (Lib.countB s sep) s).map Value.string).toArray 9):=Any.strings_Split Sh.lays146 (by kernel_rfl) s sep m w hs hm h1
def Sh.lays157_ren:Go.Shelf.Ren:=⟨λ| 157=>334 | 229=>351 | 199=>352 | 261=>355 | 311=>365 | 312=>366 | n=>n,λ| 9=>9 | 31=>102 | 3=>3 | 5=>5 | 4=>4 | 119=>374 | 0=>0 | 40=>385 | 152=>392 | 21=>21 | 154=>394 | 51=>355 | 141=>396 | 196=>406 | 193=>403 | 198=>409 | 49=>407 | 194=>404 | 201=>412 | 226=>416 | 46=>309 | 227=>417 | n=>n,λ| 0=>6 | 6=>9 | n=>n⟩
theorem Sh.lays157:Go.Proofs.Lays.n157 Tryz.prog Sh.lays157_ren:={
 mixed:=by kernel_rfl
 f157:=Tryz.func334.trans (D J (by kernel_rfl))
 f199:=Tryz.func352.trans (D J (by kernel_rfl))
 f229:=Tryz.func351.trans (D J (by kernel_rfl))
 f261:=Tryz.func355.trans (D J (by kernel_rfl))
 f311:=Tryz.func365.trans (D J (by kernel_rfl))
 f312:=Tryz.func366.trans (D J (by kernel_rfl))
 t0:=Tryz.underlying0
 a0:=Tryz.isAgg0
 z0:=Tryz.sizeOf0
 v0:=Tryz.zeroValue0
 t3:=Tryz.underlying3
 a3:=Tryz.isAgg3
 z3:=Tryz.sizeOf3
 v3:=Tryz.zeroValue3
 t4:=Tryz.underlying4
 a4:=Tryz.isAgg4
 z4:=Tryz.sizeOf4
 v4:=Tryz.zeroValue4
 t5:=Tryz.underlying5
 a5:=Tryz.isAgg5
 z5:=Tryz.sizeOf5
 v5:=Tryz.zeroValue5
 t9:=Tryz.underlying9
 a9:=Tryz.isAgg9
 z9:=Tryz.sizeOf9
 v9:=Tryz.zeroValue9
 t21:=Tryz.underlying21
 a21:=Tryz.isAgg21
 z21:=Tryz.sizeOf21
 v21:=Tryz.zeroValue21
 t31:=Tryz.underlying102
 a31:=Tryz.isAgg102
 z31:=Tryz.sizeOf102
 v31:=Tryz.zeroValue102
 t40:=Tryz.underlying385
 a40:=Tryz.isAgg385
 z40:=Tryz.sizeOf385
 v40:=Tryz.zeroValue385
 t46:=Tryz.underlying309
 a46:=Tryz.isAgg309
 z46:=Tryz.sizeOf309
 v46:=Tryz.zeroValue309
 t49:=Tryz.underlying407
 a49:=Tryz.isAgg407
 z49:=Tryz.sizeOf407
 v49:=Tryz.zeroValue407
 t51:=Tryz.underlying355
 a51:=Tryz.isAgg355
 z51:=Tryz.sizeOf355
 v51:=Tryz.zeroValue355
 t119:=Tryz.underlying374
 a119:=Tryz.isAgg374
 z119:=Tryz.sizeOf374
 t141:=Tryz.underlying396
 a141:=Tryz.isAgg396
 z141:=Tryz.sizeOf396
 v141:=Tryz.zeroValue396
 t152:=Tryz.underlying392
 a152:=Tryz.isAgg392
 z152:=Tryz.sizeOf392
 v152:=Tryz.zeroValue392
 t154:=Tryz.underlying394
 a154:=Tryz.isAgg394
 z154:=Tryz.sizeOf394
 v154:=Tryz.zeroValue394
 t193:=Tryz.underlying403
 a193:=Tryz.isAgg403
 z193:=Tryz.sizeOf403
 v193:=Tryz.zeroValue403
 t194:=Tryz.underlying404
 a194:=Tryz.isAgg404
 z194:=Tryz.sizeOf404
 v194:=Tryz.zeroValue404
 t196:=Tryz.underlying406
 a196:=Tryz.isAgg406
 z196:=Tryz.sizeOf406
 v196:=Tryz.zeroValue406
 t198:=Tryz.underlying409
 a198:=Tryz.isAgg409
 z198:=Tryz.sizeOf409
 v198:=Tryz.zeroValue409
 t201:=Tryz.underlying412
 a201:=Tryz.isAgg412
 z201:=Tryz.sizeOf412
 v201:=Tryz.zeroValue412
 t226:=Tryz.underlying416
 a226:=Tryz.isAgg416
 z226:=Tryz.sizeOf416
 v226:=Tryz.zeroValue416
 t227:=Tryz.underlying417
 a227:=Tryz.isAgg417
 z227:=Tryz.sizeOf417
 v227:=Tryz.zeroValue417
 g0:=by kernel_rfl
 g6:=by kernel_rfl}
open Go.RowKit Go.Lib in
theorem Sh.strings_Fields (s : ByteArray) (w : World) (hs : s.size < 4294967281) (hascii : ∀ (j : Nat) b, s.data.toList[j]? = some b → b.toNat < 128) (htab : Lib.TabIs Tryz.prog w "strings.asciiSpace" .u8 Lib.asciiSpaceTab) :
 Calls Tryz.prog 334 #[.string s] w λe w'=>
  e= .returned (.slice (J ⟨w.heap.size,0,uD⟩) (Lib.fields s.data.toList).length (Lib.fields s.data.toList).length)/\w'=w.alloc (.cells ((Lib.fields s.data.toList).map λl=>Value.string ⟨l.toArray⟩).toArray 9):=Any.strings_Fields Sh.lays157 (by kernel_rfl) (by kernel_rfl) s w hs hascii htab
def Sh.laysNm220_ren:Go.Shelf.Ren:=⟨λ| 20=>240 | n=>n,λ| 22=>34 | 3=>3 | 4=>4 | 0=>0 | n=>n,λ| n=>n⟩
theorem Sh.laysNm220:Go.Proofs.Lays2.n20 Tryz.prog Sh.laysNm220_ren:={
 mixed:=by kernel_rfl
 f20:=Tryz.func240.trans (D J (by kernel_rfl))
 t0:=Tryz.underlying0
 a0:=Tryz.isAgg0
 z0:=Tryz.sizeOf0
 v0:=Tryz.zeroValue0
 t3:=Tryz.underlying3
 a3:=Tryz.isAgg3
 z3:=Tryz.sizeOf3
 v3:=Tryz.zeroValue3
 t4:=Tryz.underlying4
 a4:=Tryz.isAgg4
 z4:=Tryz.sizeOf4
 v4:=Tryz.zeroValue4
 t22:=Tryz.underlying34
 a22:=Tryz.isAgg34
 z22:=Tryz.sizeOf34
 v22:=Tryz.zeroValue34
 i3:=by kernel_rfl}
open Go.RowKit Go.Lib Go.Sort in
theorem Sh.slices_Compact_int (blk off cap:Q) (zs:W Y) (w:uB) (hH:Holds (Value.int .i64) w blk off zs.toArray) (hsz:zs.length<=9223372036854775807) (hcap:zs.length<=cap):
 Calls Tryz.prog 240 #[.slice (J ⟨blk,off,uD⟩) zs.length cap] w λe w'=>e= .returned (.slice (J ⟨blk,off,uD⟩) (Lib.compact zs).length cap)/\∃q,w'=putRow (Value.int .i64) (Sort.ahead w q) blk off (Lib.compact zs++zF (zs.length-(Lib.compact zs).length) 0).toArray:=Any.slices_Compact_int Sh.laysNm220 blk off cap zs w hH hsz hcap
open Go.RowKit Go.Lib Go.Sort in
theorem Sh.slices_Compact_int_empty (a:uI Addr) (cap:Q) (w:uB):
 Calls Tryz.prog 240 #[.slice a 0 cap] w λe w'=>e= .returned (.slice a 0 cap)/\w'=w:=Any.slices_Compact_int_empty Sh.laysNm220 a cap w
def Sh.lays194_ren:Go.Shelf.Ren:=⟨λ| 194=>338 | n=>n,λ| 31=>102 | 9=>9 | 3=>3 | 4=>4 | 0=>0 | n=>n,λ| n=>n⟩
theorem Sh.lays194:Go.Proofs.Lays.n194 Tryz.prog Sh.lays194_ren:={
 mixed:=by kernel_rfl
 f194:=Tryz.func338.trans (D J (by kernel_rfl))
 t0:=Tryz.underlying0
 a0:=Tryz.isAgg0
 z0:=Tryz.sizeOf0
 v0:=Tryz.zeroValue0
 t3:=Tryz.underlying3
 a3:=Tryz.isAgg3
 z3:=Tryz.sizeOf3
 v3:=Tryz.zeroValue3
 t4:=Tryz.underlying4
 a4:=Tryz.isAgg4
 z4:=Tryz.sizeOf4
 v4:=Tryz.zeroValue4
 t9:=Tryz.underlying9
 a9:=Tryz.isAgg9
 z9:=Tryz.sizeOf9
 v9:=Tryz.zeroValue9
 t31:=Tryz.underlying102
 a31:=Tryz.isAgg102
 z31:=Tryz.sizeOf102
 v31:=Tryz.zeroValue102}
open Go.RowKit Go.Lib Go.Sort in
theorem Sh.slices_Compact_string (blk off cap:Q) (zs:W (W uC)) (w:uB) (hH:Holds encStr w blk off zs.toArray) (hsz:zs.length<=9223372036854775807) (hcap:zs.length<=cap):
 Calls Tryz.prog 338 #[.slice (J ⟨blk,off,uD⟩) zs.length cap] w λe w'=>e= .returned (.slice (J ⟨blk,off,uD⟩) (Lib.compact zs).length cap)/\∃q,w'=putRow encStr (Sort.ahead w q) blk off (Lib.compact zs++zF (zs.length-(Lib.compact zs).length) []).toArray:=Any.slices_Compact_string Sh.lays194 blk off cap zs w hH hsz hcap
open Go.RowKit Go.Lib Go.Sort in
theorem Sh.slices_Compact_string_empty (a:uI Addr) (cap:Q) (w:uB):
 Calls Tryz.prog 338 #[.slice a 0 cap] w λe w'=>e= .returned (.slice a 0 cap)/\w'=w:=Any.slices_Compact_string_empty Sh.lays194 a cap w
open Go.RowKit Go.Sort in
theorem Sh.slices_Sort_string_none (p:uI Addr) (cap:Q) (w:uB):
 Calls Tryz.prog 337 #[.slice p 0 cap] w λe w'=>e= .returned (.tuple #[])/\w'=w:=Any.slices_Sort_string_none Sh.lays190 p cap w
open Go.RowKit Go.Sort in
theorem Sh.slices_Sort_int_none (p:uI Addr) (cap:Q) (w:uB):
 Calls Tryz.prog 239 #[.slice p 0 cap] w λe w'=>e= .returned (.tuple #[])/\w'=w:=Any.slices_Sort_int_none Sh.lays189 p cap w
end
section
open Go.RowKit
theorem Qmi (l:W Y):ATake Tryz.prog 239 1 (eL l) [] H K (eL (YI l)):=by
 have h:=BW Qp0 (P:=Tryz.prog) (f:=239) (by unfold F9;kernel_rfl) (λl=>l.mergeSort λx y=>decide (x<=y)) (λl=>yC _) (λl x h=>(yP l _).mem_iff.1 h) (λoa cap w=>Sh.slices_Sort_int_none oa cap w) (λg cap l w h h2 h3=>Sh.slices_Sort_int g 0 cap l w h h2 h3) l;simpa [Qp0,YI,IV] using h
theorem Qmj (l:W Y):ATake Tryz.prog 240 1 (eL l) [] H H (eL (IV l)):=by
 have h:=BX Qp0 (P:=Tryz.prog) (f:=240) (by unfold F9;kernel_rfl) Lib.compact Rh SZ (λoa cap w=>Sh.slices_Compact_int_empty oa cap w) (λg cap l w h h2 h3=>(Sh.slices_Compact_int g 0 cap l w h h2 h3).mono (by rintro e w' ⟨h4,q,h5⟩;exact ⟨h4,q,_,by have:=Rh l;simp;omega,h5⟩)) l;simpa [Qp0,YI,IV] using h
theorem Qmk (l:W B):ATake Tryz.prog 337 1 (eL l) [] H K (eL (Ph l)):=by
 have h:=BW oneS (P:=Tryz.prog) (f:=337) (by unfold F9;kernel_rfl) (λl=>l.mergeSort λx y=>decide (x<=y)) (λl=>yC _) (λl x h=>(yP l _).mem_iff.1 h) (λoa cap w=>Sh.slices_Sort_string_none oa cap w) (λg cap l w h h2 h3=>Sh.slices_Sort_string g 0 cap l w h h2 h3) l;exact h
theorem Qml (l:W B):ATake Tryz.prog 338 1 (eL l) [] H H (eL (WO l)):=by
 have h:=BX oneS (P:=Tryz.prog) (f:=338) (by unfold F9;kernel_rfl) Lib.compact Rh SZ (λoa cap w=>Sh.slices_Compact_string_empty oa cap w) (λg cap l w h h2 h3=>(Sh.slices_Compact_string g 0 cap l w h h2 h3).mono (by rintro e w' ⟨h4,q,h5⟩;exact ⟨h4,q,_,by have:=Rh l;simp;omega,h5⟩)) l;exact h
open GoE (enc wide)
def Ib (s_:B) (k0:Q) (a0:B) (_:uA):Rd Z (uA) (Y):=(bif (Op.bytesLess a0.toList s_.toList) then (.next ()) else (.brk (k0:Y)))
def Ic (k0:Q) (_:uA):Y:=(k0:Y)
def Ip (list:Z) (s_:B):Z:=(Out.on (X4 (Ib s_) Ic list 0 ()) (λy0=>(bif (decide (y0<(list.length:Y))&&((nth list y0.toNat).toList==s_.toList)) then list else zR y0.toNat list++ [s_]++(yF y0.toNat list))))
theorem LE (list:Z) (s_:B) (hp:list.length<1073741824):ACalls Tryz.prog 323 [.h list,.s s_] (.h (Ip list s_)):=by
 refine en Qa Tryz.func323 λw0 F0 hG=> ?_
 refine sn Qa [0,1,4] [] p0 <| tn Qa [0,1,4,5] [] p0 <| Qb <| mz [(4,.e 0),(5,.i 0)] [] [] [] <| wT 0 0 .sh list (λhw1 hl2=> ?_)
 refine Qqz (Ib s_) Ic list () (λk0 _=> [(5,.i (k0:Y))]) [5] (λy0=> [(5,.i y0)]) [5] (λy0=>0<=y0/\y0<=(list.length:Y)) wf0 (λk0 s0 O U=> ?_) (λk0 s0 O U=> ?_) (λy0 hD0=> ?_)
 ·obtain ⟨a0,V⟩:=Xh (l:=list) (i:=k0) O;refine Qb <| sn Qa [0,1,4,5,18] [] (pl 2 list (pe 3 (zB ((k0:Y)<(list.length:Y))) (pn 7 V p0))) <| ck (Op.bytesLess a0.toList s_.toList) (λh3=> ?_) (λh3=> ?_)
  ·refine Qf <| Qo <| qn Qa [0,1,4,5] [] (pe 1 (Jl (Qn k0 (by omega))) p0) ?_
   exact xw _ (Qs V (Q9 h3 (rfl)) U)
  exact Q4 <| xw (k0:Y) ⟨SU V (Qj h3 (rfl)) U,by first|omega|(simp only[zG];omega)⟩
 ·exact Qb <| sn Qa [0,1,4,5,18] [] (pl 2 list (pe 3 (zC ((k0:Y)<(list.length:Y))) p0)) <| ckF <| Q4 <| xw (k0:Y) ⟨Xj O (rfl) U,by first|omega|(simp only[zG];omega)⟩
 have hD0_0:=hD0.2;refine Qb <| Qb <| jn [(32,.b (decide (y0<(list.length:Y))&&((nth list y0.toNat).toList==s_.toList)))] [] [] [] (decide (y0<(list.length:Y))) (λh4=> ?_) (λh4=> ?_) ?_
 ·have h4d:=uG h4;have hx5:=ng list y0.toNat;refine rn Qa [0,1,4,5,32] [] (pl 2 list (pt 3 h4 (pg 7 y0 hx5 p0))) ?_;exact zA (by rw[h4]<;>kernel_rfl)
 ·refine rn Qa [0,1,4,5,32] [] (pl 2 list (pf 3 h4 p0)) ?_;exact zA (by rw[h4]<;>kernel_rfl)
 refine ck (decide (y0<(list.length:Y))&&((nth list y0.toNat).toList==s_.toList)) (λh6=> ?_) (λh6=> ?_)
 ·exact sn Qa [0,1,4,5] [] p0 <| Qd <| ph0 [] (Vp hD0.1 (Q9 h6 (rfl)))
 refine Qf ?_;have hl7:zD (zR y0.toNat list)<=1073741824:=Dc (IM y0.toNat (hw1));refine su Qa [(6,.one (.slc (.own K 2624) 1 (([]++(eL (zR y0.toNat list)))++ [[.s s_]])))] [1,32] [] [] (pe 3 (OU .sh 1 y0.toNat y0 list rfl) (px (Gc (lo:=0) (hi:=y0) (n:=(zD (eL list))) (Qeb (by omega) (by omega) (by omega))) (po 4 (.flat) (px (Ct (n:=(([]:W (W PV)).length+((eL (zR y0.toNat list)):W (W PV)).length)) (Eb (rfl) (Yr (zR y0.toNat list)) (by first|omega|(simp only[zK,yA];omega) | (simp;omega) | simp))) (px (Hx (Uh (zR y0.toNat list))) (px (Ct (n:=((([]++(eL (zR y0.toNat list))):W (W PV)).length+([[.s s_]]:W (W PV)).length)) (by simp[Yr];omega)) p0)))))) <| eqn [(6,.o 2624 (zR y0.toNat list++ [s_]))] [6] [] [] (by rw[show (([]++(eL (zR y0.toNat list)))++ [[.s s_]])=(eL (zR y0.toNat list++ [s_])) from Jc (rfl) (rfl)];first | done | kernel_rfl) ?_
 refine wT 6 0 (.own K 2624) (zR y0.toNat list++ [s_]) (λhw8 hl9=> ?_);have hl10:zD (yF y0.toNat list)<=1073741824:=Dc (IN y0.toNat (hw1));refine su Qa [(4,.one (.slc (.own K 2944) 1 ((eL (zR y0.toNat list++ [s_]))++(eL (yF y0.toNat list)))))] [0,4,5,6] [] [] (pe 3 (Sy .sh 1 y0.toNat y0 list rfl) (px (Gc (lo:=y0) (hi:=(((eL list):W (W PV)).length:Y)) (n:=(zD (eL list))) (Sz (by omega) (by omega))) (po 4 (.flat) (pa (zR y0.toNat list++ [s_]) (yF y0.toNat list) (px (Hx (Uh (yF y0.toNat list))) p0))))) <| eqn [(4,.o 2944 (zR y0.toNat list++ [s_]++(yF y0.toNat list)))] [4] [] [] (by rw[show ((eL (zR y0.toNat list++ [s_]))++(eL (yF y0.toNat list)))=(eL (zR y0.toNat list++ [s_]++(yF y0.toNat list))) from Jc (rfl) (rfl)];first | done | kernel_rfl) ?_
 exact Qd <| ph0 [2944] (Vp hD0.1 (Qj h6 (rfl)))
theorem toList_inj {a b:B}:(a.toList==b.toList)=decide (a=b):=by
 rw[ByteArray.toList_eq,ByteArray.toList_eq,yO];simp only[uT,uO];exact ⟨λh=>ByteArray.ext (Array.ext' h),λh=>h▸rfl⟩
def Fd (l:W B) (s:B):Q:=(l.takeWhile λx=>bl x s).length
theorem WV (a:B) (l:W B) (s:B):Fd (a::l) s=if bl a s=K then Fd l s+1 else 0:=by
 unfold Fd;rw[List.takeWhile_cons];cases bl a s<;>simp
theorem CE (s:B):∀(l:W B) (k:Q),X4 (Ib s) Ic l k ()= .brk (((k+Fd l s:Q)):Y)
 | [],k=>by simp[X4,Ic,Fd]
 | a ::l,k=>by
   rw[WV];simp only[X4,Ib];cases h:Op.bytesLess a.toList s.toList with
   | true=>
     have h':bl a s=K:=h;simp only[uM,h',if_true];rw[CE s l (k+1),show k+1+Fd l s=k+(Fd l s+1) by omega]
   | false=>
     have h':bl a s=H:=h;simp[h']
theorem Qez (s:B):∀l:W B,IZ l s=bif (decide (((Fd l s:Q):Y)<(l.length:Y))&&((nth l (Fd l s)).toList==s.toList)) then l else zR (Fd l s) l++ [s]++yF (Fd l s) l
 | []=>by simp[IZ,Fd]
 | a ::l=>by
   rw[WV,IZ];cases h:bl a s with
   | true=>
     simp only[if_true];rw[Qez s l];have e:nth (a::l) (Fd l s+1)=nth l (Fd l s):=rfl
     rw[e,show decide ((((Fd l s+1:Q)):Y)<((a::l).length:Y))=decide (((Fd l s:Q):Y)<(l.length:Y)) by
      rw[yO];simp only[uO,zK];omega]
     generalize (decide (((Fd l s:Q):Y)<(l.length:Y))&&((nth l (Fd l s)).toList==s.toList))=c;cases c<;>simp
   | false=>
     have e:nth (a::l) 0=a:=rfl;simp only[Bool.false_eq_true,if_false];rw[e,toList_inj];by_cases hs:a=s
     . simp[hs]
     simp[hs]
theorem LF (l:W B) (s:B):Ip l s=IZ l s:=by
 unfold Ip;rw[CE,Qez];simp only[Out.on,yI,zU]
theorem Qe0 (l:W B) (s:B):zD (Ip l s)<=zD l+1:=by rw[LF];exact TE s l
open GoE (enc wide)
def Kv (n:Q2):A:=((n.1==(8:Y))|| (n.1==(9:Y)))
theorem R3 (n:Q2):ACalls Tryz.prog 302 [.a [.i n.1,.i n.2.1,.i n.2.2.1,.s n.2.2.2.1,.i n.2.2.2.2.1,.i n.2.2.2.2.2.1,.s n.2.2.2.2.2.2]] (.b (Kv n)):=by
 refine en Qa Tryz.func302 λw0 F0 hG=> ?_
 refine sn Qa [1,2] [1] p0 <| Qb <| mz [(1,.p 1 0),(2,.b H)] [0] [(1, [.i n.1,.i n.2.1,.i n.2.2.1,.s n.2.2.2.1,.i n.2.2.2.2.1,.i n.2.2.2.2.2.1,.s n.2.2.2.2.2.2])] [] <| jn [(2,.b ((n.1==(8:Y))|| (n.1==(9:Y))))] [1,2] [] [1] (n.1==(8:Y)) (λh1=> ?_) (λh1=> ?_) ?_
 ·refine rn Qa [2] [] (pt 2 h1 p0) ?_;exact zA (by rw[h1]<;>kernel_rfl)
 ·refine rn Qa [2] [] (pf 2 h1 p0) ?_;exact zA (by rw[h1]<;>kernel_rfl)
 exact Qd <| pb [] (show Kv n=((n.1==(8:Y))|| (n.1==(9:Y))) from rfl)
def L6 (l:Z):Z:=WO (Ph l)
theorem JN (l:Z):ACalls Tryz.prog 303 [.h l] (.h (L6 l)):=by
 refine en Qa Tryz.func303 λw0 F0 hG=> ?_
 refine sn Qa [0,2] [] p0 <| tn Qa [2,3] [] (pc 1 (DX l) p0) <| mz [(2,.e 0),(3,.o 320 l)] [0] [] [] <| WD [320] rfl ?_
 refine su Qa [(3,.one (.slc (.own H 320) 1 (Qj7 (eL l) 0 4294967296 (List.flatten (eL (Ph l))))))] [3] [] [] (po 1 (.take H K (eL (Ph l))) (px (WB (Qmk l)) p0)) <| eqn [(3,.q 320 (Ph l))] [3] [] [] (by rw[TA (λ_=>rfl) (IX _)]<;>kernel_rfl) ?_
 exact sn Qa [2] [] (po 1 (.take H H (eL (WO (Ph l)))) (px (WB (Qml (Ph l))) p0)) <| Qd <| ph0 [576] (show L6 l=WO (Ph l) from rfl)
def V6 (q:W Q2) (negated:A) (k0:Q) (a0:A) (s0:Z):Rd Z Z Z:=(bif ((Kv (nth q k0))&&(a0==negated)) then (.next (s0++ [(nth q k0).2.2.2.1])) else (.next s0))
def Ha (_:Q) (s0:Z):Z:=s0
def Wi (q:W Q2) (negated:A):Z:=(Out.on (X4 (V6 q negated) Ha (X9 q) 0 []) (λy0=>(L6 y0)))
theorem Pj (q:W Q2) (negated:A):ACalls Tryz.prog 269 [.h q,.b negated] (.h (Wi q negated)):=by
 refine en Qa Tryz.func269 λw0 F0 hG=> ?_
 have hnl:=S0 q;refine sn Qa [0,1,4] [] p0 <| tn Qa [0,1,4,5] [] p0 <| Qb <| tu Qa [(4,.e 0),(5,.one (.slc (.own K 512) 1 [])),(10,.o 640 (X9 q)),(11,.i ((X9 q).length:Y)),(12,.i 0)] [] [] [] (pc 1 (T3 q) (pl 2 (X9 q) p0)) <| wT 10 0 (.own K 640) (X9 q) (λhw1 hl2=> ?_)
 refine AB (V6 q negated) Ha (X9 q) [] (λk0 s0=> [(5,.o 147203 s0),(12,.i (k0:Y))]) [5,12] (λy0=> [(5,.o 147353 y0)]) [0,1,5,10,11,12] (λk0 s0=>zD s0<=k0) (Xg [(512,147203)] (by kernel_rfl)) (by simp) (λk0 s0 O U=> ?_) (λk0 s0 O U=> ?_) (λy0 hD0=> ?_)
 ·have hA0_0:=U.2;obtain ⟨a0,V⟩:=Xh (l:=X9 q) (i:=k0) O;refine su Qa [(13,.b K)] [] [] [] (pe 0 (zB ((k0:Y)<((X9 q).length:Y))) p0) <| Qb <| ckT <| Qf <| Qb <| Qo <| sn Qa [0,1,4,5,6,7,10,11,12] [] (pN 1 V p0) <| Qb <| mz [(6,.i (k0:Y)),(7,.b a0)] [13] [] [] <| jn [(26,.b ((Kv (nth q k0))&&(a0==negated)))] [7] [] [] (Kv (nth q k0)) (λh3=> ?_) (λh3=> ?_) ?_
  ·refine wT 0 0 .sh q (λhw5 hl6=> ?_);have hx4:=ng q k0;refine rn Qa [0,1,4,5,6,10,11,12,26] [] (pn 2 hx4 (pc 4 (cb h3 (R3 (nth q k0))) p0)) ?_;exact zA (by rw[h3]<;>kernel_rfl)
  ·refine wT 0 0 .sh q (λhw8 hl9=> ?_);have hx7:=ng q k0;refine ru Qa [(26,.b H)] [7] [] [] (pn 2 hx7 (pc 4 (cb h3 (R3 (nth q k0))) p0)) ?_;exact zA (by rw[h3]<;>kernel_rfl)
  refine ck ((Kv (nth q k0))&&(a0==negated)) (λh10=> ?_) (λh10=> ?_)
  ·have h10r:((a0==negated))=K:=JK h10;have h10rd:=eq_of_beq h10r;refine wT 0 0 .sh q (λhw12 hl13=> ?_);have hx11:=ng q k0;refine wT 5 0 (.own K 147203) s0 (λhw14 hl15=> ?_);refine ru Qa [(5,.one (.slc (.own K 2176) 1 ((eL s0)++ [[.s ((nth q k0).2.2.2.1)]])))] [5,6,26] [] [] (pn 3 hx11 (pa s0 [(nth q k0).2.2.2.1] p0)) ?_;refine eqn [(5,.o 2176 (s0++ [(nth q k0).2.2.2.1]))] [5] [] [] (by rw[show ((eL s0)++ [[.s ((nth q k0).2.2.2.1)]])=(eL (s0++ [(nth q k0).2.2.2.1])) from Jc (rfl) (rfl)];first | done | kernel_rfl) ?_;refine rn Qa [0,1,4,5,10,11,12] [] (pe 0 (Jl (Qn k0 (by omega))) p0) ?_;exact yZ (s0++ [(nth q k0).2.2.2.1]) (xJ (Xg [(2176,147203)] (by kernel_rfl)) ⟨Qs V (Q9 h10 (rfl)) U.1,by first|omega|(simp;omega) | simp⟩)
  refine Qf <| rn Qa [0,1,4,5,10,11,12] [] (pe 0 (Jl (Qn k0 (by omega))) p0) ?_
  exact xw s0 ⟨Qs V (Qj h10 (rfl)) U.1,by first|omega|(simp;omega) | simp⟩
 ·have hA0_0:=U.2;exact su Qa [(13,.b H)] [] [] [] (pe 0 (zC ((k0:Y)<((X9 q).length:Y))) p0) <| Qb <| ckF <| Q4 <| yZ _ (xJ (Xg [(147203,147353)] (by kernel_rfl)) (Xj O (rfl) U.1))
 exact sn Qa [4] [] (pc 1 (JN y0) p0) <| Qd <| ph0 [] (Vp hD0 (rfl))
def Yu (q:W Q2):Z:=(Wi q H)
theorem T7 (q:W Q2):ACalls Tryz.prog 232 [.h q] (.h (Yu q)):=by
 refine en Qa Tryz.func232 λw0 F0 hG=> ?_
 exact sn Qa [0,2] [] p0 <| tn Qa [2] [] (pc 1 (Pj q H) p0) <| Qd <| ph0 [] (show Yu q=(Wi q H) from rfl)
def Ya (q:W Q2):Z:=(Wi q K)
theorem T8 (q:W Q2):ACalls Tryz.prog 233 [.h q] (.h (Ya q)):=by
 refine en Qa Tryz.func233 λw0 F0 hG=> ?_
 exact sn Qa [0,2] [] p0 <| tn Qa [2] [] (pc 1 (Pj q K) p0) <| Qd <| ph0 [] (show Ya q=(Wi q K) from rfl)
def Em (q:W Q2) (under:A) (k0:Q) (a0:A) (s0:Z):Rd Z Z Z:=(bif ((Q0 ((nth q k0).1) 8 9)&&(a0==under)) then (.next (Ip s0 ((nth q k0).2.2.2.1))) else (.next s0))
def En (_:Q) (s0:Z):Z:=s0
def Bm (q:W Q2) (under:A):Z:=(Out.on (X4 (Em q under) En (Jo q) 0 []) (λy0=>y0))
theorem R4 (q:W Q2) (under:A):ACalls Tryz.prog 285 [.h q,.b under] (.o 0 (Bm q under)):=by
 refine en Qa Tryz.func285 λw0 F0 hG=> ?_
 have hnl:=IU q;refine sn Qa [0,1,4] [] p0 <| tn Qa [0,1,4,5] [] p0 <| tu Qa [(4,.e 0),(5,.one (.slc (.own K 512) 1 [])),(6,.o 640 (Jo q))] [] [] [] (pc 1 (T4 q) p0) <| Qb <| su Qa [(7,.i 0)] [] [] [] p0 <| wT 6 0 (.own K 640) (Jo q) (λhw1 hl2=> ?_)
 refine AB (Em q under) En (Jo q) [] (λk0 s0=> [(5,.h s0),(7,.i (k0:Y))]) [5,7] (λy0=> [(5,.h y0)]) [0,1,5,6,7] (λk0 s0=>zD s0<=k0) (L5 [] [512] [] [] (by kernel_rfl)) (by simp) (λk0 s0 O U=> ?_) (λk0 s0 O U=> ?_) (λy0 hD0=> ?_)
 ·have hA0_0:=U.2;obtain ⟨a0,V⟩:=Xh (l:=Jo q) (i:=k0) O;refine Qb <| su Qa [(14,.b K)] [] [] [] (pl 2 (Jo q) (pe 3 (zB ((k0:Y)<((Jo q).length:Y))) p0)) <| ckT <| Qf <| Qb <| Qo <| Qb <| jn [(30,.b ((Q0 ((nth q k0).1) 8 9)&&(a0==under)))] [14] [] [] (Q0 ((nth q k0).1) 8 9) (λh3=> ?_) (λh3=> ?_) ?_
  ·refine wT 0 0 .sh q (λhw5 hl6=> ?_);have hx4:=ng q k0;refine rn Qa [0,1,4,5,6,7,30] [] (pn 2 hx4 (pc 5 (cb h3 (Ys ((nth q k0).1) 8 9)) (pN 9 V p0))) ?_;exact zA (by rw[h3]<;>kernel_rfl)
  ·refine wT 0 0 .sh q (λhw8 hl9=> ?_);have hx7:=ng q k0;refine rn Qa [0,1,4,5,6,7,30] [] (pn 2 hx7 (pc 5 (cb h3 (Ys ((nth q k0).1) 8 9)) p0)) ?_;exact zA (by rw[h3]<;>kernel_rfl)
  refine ck ((Q0 ((nth q k0).1) 8 9)&&(a0==under)) (λh10=> ?_) (λh10=> ?_)
  ·have h10r:((a0==under))=K:=JK h10;have h10rd:=eq_of_beq h10r;refine wT 0 0 .sh q (λhw12 hl13=> ?_);have hx11:=ng q k0;refine rn Qa [0,1,4,5,6,7] [] (pn 3 hx11 (pc 6 (LE s0 ((nth q k0).2.2.2.1) (by omega)) p0)) ?_;refine qn Qa [0,1,4,5,6,7] [] (pe 1 (Jl (Qn k0 (by omega))) p0) ?_;exact xw (Ip s0 ((nth q k0).2.2.2.1)) ⟨Qs V (Q9 h10 (rfl)) U.1,(by first|omega|(have hz:=Qe0 s0 (nth q k0).2.2.2.1;omega))⟩
  refine Qf <| rn Qa [0,1,4,5,6,7] [] (pe 1 (Jl (Qn k0 (by omega))) p0) ?_
  exact xw s0 ⟨Qs V (Qj h10 (rfl)) U.1,(by first|omega|(have hz:=Qe0 s0 (nth q k0).2.2.2.1;omega))⟩
 ·have hA0_0:=U.2;exact Qb <| su Qa [(14,.b H)] [] [] [] (pl 2 (Jo q) (pe 3 (zC ((k0:Y)<((Jo q).length:Y))) p0)) <| ckF <| Q4 <| xw _ (Xj O (rfl) U.1)
 refine wT 5 0 .sh y0 (λhw14 hl15=> ?_);exact sn Qa [4] [] (po 2 (.flat) (px (Ct (n:=(([]:W (W PV)).length+((eL y0):W (W PV)).length)) (Eb (rfl) (Yr y0) (by first|omega|(simp only[zK,yA];omega) | (simp;omega) | simp))) (px (Hx (Uh y0)) p0))) <| Qd <| po0 [] (Vp hD0 (rfl))
def Jp (q:W Q2):Z:=(Bm q H)
theorem T9 (q:W Q2):ACalls Tryz.prog 256 [.h q] (.o 0 (Jp q)):=by
 refine en Qa Tryz.func256 λw0 F0 hG=> ?_
 exact sn Qa [0,2] [] p0 <| tn Qa [2] [] (pc 1 (R4 q H) p0) <| Qd <| po0 [] (show Jp q=(Bm q H) from rfl)
def Jq (q:W Q2):Z:=(Bm q K)
theorem QA (q:W Q2):ACalls Tryz.prog 258 [.h q] (.o 0 (Jq q)):=by
 refine en Qa Tryz.func258 λw0 F0 hG=> ?_
 exact sn Qa [0,2] [] p0 <| tn Qa [2] [] (pc 1 (R4 q K) p0) <| Qd <| po0 [] (show Jq q=(Bm q K) from rfl)
theorem PF (n:Q2):Q0 n.1 8 9=Kv n:=by
 unfold Q0 Kv;rw[yO];simp;omega
theorem WW (q:W Q2) (b:A):∀(l:W A) (k:Q) (s:W B),∃m,X4 (V6 q b) Ha l k s= .brk (s++m)/\∀t,X4 (Em q b) En l k t= .brk (S3 t m)
 | [],k,s=>⟨[],by simp[X4,Ha],λt=>by simp[X4,En,S3]⟩
 | a ::l,k,s=>by
   simp only[X4,V6,Em,PF];cases h:(Kv (nth q k)&&(a==b)) with
   | true=>
     obtain ⟨m,h1,h2⟩:=WW q b l (k+1) (s++ [(nth q k).2.2.2.1]);refine ⟨(nth q k).2.2.2.1::m, ?_,λt=> ?_⟩
     . simp only[uM];rw[h1,List.append_assoc];rfl
     simp only[uM];rw[h2,LF];rfl
   | false=>
     obtain ⟨m,h1,h2⟩:=WW q b l (k+1) s;exact ⟨m,by simp only[uH];exact h1,λt=>by simp only[uH];exact h2 t⟩
theorem Qe1 (q:W Q2) (b:A):Bm q b=Wi q b:=by
 unfold Bm Wi;obtain ⟨m,h1,h2⟩:=WW q b (X9 q) 0 [];rw[BV,h1,h2];simp only[Out.on,List.nil_append];exact (Qim m).symm
theorem Qbm (q:W Q2):Jp q=Yu q:=Qe1 q H
theorem Qbn (q:W Q2):Jq q=Ya q:=Qe1 q K
open GoE (enc wide)
def K6 (d:W Zj) (k0:Q) (a0:Zj) (_:uA):Rd (A) (uA) (uA):=(bif ((!(Xc a0.1))|| (bif decide ((k0:Y)>(0:Y)) then ((!(Op.bytesLess ((nth d ((k0:Y)-1).toNat).1).toList a0.1.toList))|| (!(Qk a0.2))) else (!(Qk a0.2)))) then (.ret H) else (.next ()))
def Ww (_:Q) (_:uA):uA:=()
def Je (d:W Zj):A:=(Out.on (X4 (K6 d) Ww d 0 ()) (λ_=>decide ((d.length:Y)<=(5:Y))))
theorem YL (d:W Zj):ACalls Tryz.prog 230 [.h d] (.b (Je d)):=by
 refine en Qa Tryz.func230 λw0 F0 hG=> ?_
 refine sn Qa [0,2] [] p0 <| Qb <| tn Qa [0,2,5,6,7] [] (pl 1 d p0) <| mz [(2,.b H),(5,.h d),(6,.i (d.length:Y)),(7,.i 0)] [] [] [] <| wT 0 0 .sh d (λhw1 hl2=> ?_)
 refine R2 (K6 d) Ww d () (λk0 _=> [(7,.i (k0:Y))]) [7] (λ_=> []) [5,6,7] wf0 (λk0 s0 O U=> ?_) (λk0 s0 O U=> ?_) (λy0 hD0=> ?_)
 ·obtain ⟨a0,V⟩:=Xh (l:=d) (i:=k0) O;refine sn Qa [0,2,5,6,7,8] [] (pe 0 (zB ((k0:Y)<(d.length:Y))) p0) <| Qb <| ckT <| Qf <| Qb <| Qo <| tn Qa [0,2,3,4,5,6,7] [4] (pn 1 V p0) <| Qb <| mz [(3,.i (k0:Y)),(4,.p 4 0)] [] [(4, [.s a0.1,.h a0.2])] [] <| jn [(36,.b ((!(Xc a0.1))|| (bif decide ((k0:Y)>(0:Y)) then ((!(Op.bytesLess ((nth d ((k0:Y)-1).toNat).1).toList a0.1.toList))|| (!(Qk a0.2))) else (!(Qk a0.2)))))] [3,4] [] [4] (!(Xc a0.1)) (λh3=> ?_) (λh3=> ?_) ?_
  ·have h3n:(Xc a0.1)=H:=Vt h3;refine rN Qa Yo [0,2,5,6,7,36] [] (pc 2 (cb h3n (Ku a0.1)) (pe 3 (show .b (!H)= .b K from rfl) p0)) ?_;exact zA (by rw[h3]<;>kernel_rfl)
  ·have h3n:(Xc a0.1)=K:=Zz h3;refine Xx (decide ((k0:Y)>(0:Y))) (λh4=> ?_) (λh4=> ?_)
   ·have h4d:=uG h4;refine Xx (!(Op.bytesLess ((nth d ((k0:Y)-1).toNat).1).toList a0.1.toList)) (λh5=> ?_) (λh5=> ?_)
    ·have hx6:=ng d ((k0:Y)-1).toNat;refine rN Qa Yo [0,2,5,6,7,36] [] (pc 2 (cb h3n (Ku a0.1)) (pe 3 (show .b (!K)= .b H from rfl) (pt 6 h4 (pe 10 (Jl (IntWalk.i64_in ((k0:Y)-1) (by omega))) (pg 11 ((k0:Y)-1) hx6 (pt 16 h5 p0)))))) ?_;exact zA (by rw[h3,h4,h5]<;>kernel_rfl)
    have hx7:=ng d ((k0:Y)-1).toNat;refine rN Qa Yo [0,2,5,6,7,36] [] (pc 2 (cb h3n (Ku a0.1)) (pe 3 (show .b (!K)= .b H from rfl) (pt 6 h4 (pe 10 (Jl (IntWalk.i64_in ((k0:Y)-1) (by omega))) (pg 11 ((k0:Y)-1) hx7 (pf 16 h5 (pc 22 (Vv a0.2) p0))))))) ?_;exact zA (by rw[h3,h4,h5]<;>kernel_rfl)
   refine rN Qa Yo [0,2,5,6,7,36] [] (pc 2 (cb h3n (Ku a0.1)) (pe 3 (show .b (!K)= .b H from rfl) (pf 6 h4 (pc 22 (Vv a0.2) p0)))) ?_;exact zA (by rw[h3,h4]<;>kernel_rfl)
  refine ck ((!(Xc a0.1))|| (bif decide ((k0:Y)>(0:Y)) then ((!(Op.bytesLess ((nth d ((k0:Y)-1).toNat).1).toList a0.1.toList))|| (!(Qk a0.2))) else (!(Qk a0.2)))) (λh8=> ?_) (λh8=> ?_)
  ·refine su Qa [] [36] [] [] p0 <| Qd ?_
   have hr9:(X4 (K6 d) Ww d 0 ())= .ret H:=Ka V (Q9 h8 (rfl)) U;exact pb [] (On hr9)
  refine Qf <| rn Qa [0,2,5,6,7] [] (pe 0 (Jl (Qn k0 (by omega))) p0) ?_
  exact xw _ (Qs V (Qj h8 (rfl)) U)
 ·exact sn Qa [0,2,5,6,7,8] [] (pe 0 (zC ((k0:Y)<(d.length:Y))) p0) <| Qb <| ckF <| Q4 <| xw _ (Xj O (rfl) U)
 exact sn Qa [2] [] (pl 1 d p0) <| Qd <| pb [] (Vp hD0 (rfl))
def Hg (d:W Zj) (k0:Q) (a0:Zj) (_:uA):Rd (A) (uA) (uA):=(bif ((!(Yv a0.1))|| ((!(Yt a0.2))|| (decide ((k0:Y)>(0:Y))&&(!(Op.bytesLess ((nth d ((k0:Y)-1).toNat).1).toList a0.1.toList))))) then (.ret H) else (.next ()))
def A8 (_:Q) (_:uA):uA:=()
def U0 (d:W Zj):A:=(Out.on (X4 (Hg d) A8 d 0 ()) (λ_=>decide ((d.length:Y)<=(5:Y))))
theorem YM (d:W Zj):ACalls Tryz.prog 216 [.h d] (.b (U0 d)):=by
 refine en Qa Tryz.func216 λw0 F0 hG=> ?_
 refine sn Qa [0,2] [] p0 <| Qb <| tn Qa [0,2,3] [] p0 <| mz [(2,.b H),(3,.i 0)] [] [] [] <| wT 0 0 .sh d (λhw1 hl2=> ?_)
 refine R2 (Hg d) A8 d () (λk0 _=> [(3,.i (k0:Y))]) [3] (λ_=> []) [3] wf0 (λk0 s0 O U=> ?_) (λk0 s0 O U=> ?_) (λy0 hD0=> ?_)
 ·obtain ⟨a0,V⟩:=Xh (l:=d) (i:=k0) O;refine Qb <| sn Qa [0,2,3,7] [] (pl 2 d (pe 3 (zB ((k0:Y)<(d.length:Y))) p0)) <| ckT <| Qf <| Qb <| Qo <| Qb <| mz [(7,.b K)] [] [] [] <| jn [(43,.b ((!(Yv a0.1))|| ((!(Yt a0.2))|| (decide ((k0:Y)>(0:Y))&&(!(Op.bytesLess ((nth d ((k0:Y)-1).toNat).1).toList a0.1.toList))))))] [7] [] [] (!(Yv a0.1)) (λh3=> ?_) (λh3=> ?_) ?_
  ·have h3n:(Yv a0.1)=H:=Vt h3;refine rN Qa Yo [0,2,3,43] [] (pn 2 V (pc 5 (cb h3n (Jx a0.1)) (pe 6 (show .b (!H)= .b K from rfl) p0))) ?_;exact zA (by rw[h3]<;>kernel_rfl)
  ·have h3n:(Yv a0.1)=K:=Zz h3;refine Xx (!(Yt a0.2)) (λh4=> ?_) (λh4=> ?_)
   ·have h4n:(Yt a0.2)=H:=Vt h4;refine rN Qa Yo [0,2,3,43] [] (pn 2 V (pc 5 (cb h3n (Jx a0.1)) (pe 6 (show .b (!K)= .b H from rfl) (pn 10 V (pc 13 (cb h4n (Vx a0.2)) (pe 14 (show .b (!H)= .b K from rfl) p0)))))) ?_;exact zA (by rw[h3,h4]<;>kernel_rfl)
   have h4n:(Yt a0.2)=K:=Zz h4;refine Xx (decide ((k0:Y)>(0:Y))) (λh5=> ?_) (λh5=> ?_)
   ·have h5d:=uG h5;have hx6:=ng d ((k0:Y)-1).toNat;refine rN Qa Yo [0,2,3,43] [] (pn 2 V (pc 5 (cb h3n (Jx a0.1)) (pe 6 (show .b (!K)= .b H from rfl) (pn 10 V (pc 13 (cb h4n (Vx a0.2)) (pe 14 (show .b (!K)= .b H from rfl) (pt 18 h5 (pe 22 (Jl (IntWalk.i64_in ((k0:Y)-1) (by omega))) (pg 23 ((k0:Y)-1) hx6 (pn 28 V p0)))))))))) ?_;exact zA (by rw[h3,h4,h5]<;>kernel_rfl)
   refine rN Qa Yo [0,2,3,43] [] (pn 2 V (pc 5 (cb h3n (Jx a0.1)) (pe 6 (show .b (!K)= .b H from rfl) (pn 10 V (pc 13 (cb h4n (Vx a0.2)) (pe 14 (show .b (!K)= .b H from rfl) (pf 18 h5 p0))))))) ?_;exact zA (by rw[h3,h4,h5]<;>kernel_rfl)
  refine ck ((!(Yv a0.1))|| ((!(Yt a0.2))|| (decide ((k0:Y)>(0:Y))&&(!(Op.bytesLess ((nth d ((k0:Y)-1).toNat).1).toList a0.1.toList))))) (λh7=> ?_) (λh7=> ?_)
  ·refine sn Qa [0,2,3] [] p0 <| Qd ?_
   have hr8:(X4 (Hg d) A8 d 0 ())= .ret H:=Ka V (Q9 h7 (rfl)) U;exact pb [] (On hr8)
  refine Qf <| rn Qa [0,2,3] [] (pe 1 (Jl (Qn k0 (by omega))) p0) ?_
  exact xw _ (Qs V (Qj h7 (rfl)) U)
 ·exact Qb <| sn Qa [0,2,3,7] [] (pl 2 d (pe 3 (zC ((k0:Y)<(d.length:Y))) p0)) <| ckF <| Q4 <| xw _ (Xj O (rfl) U)
 exact sn Qa [2] [] (pl 1 d p0) <| Qd <| pb [] (Vp hD0 (rfl))
def Dr (x:Zj) (q0:B):A:=(x.1.toList==q0.toList)
theorem EC (x:Zj) (q0:B):ACalls Tryz.prog 300 [.a [.s x.1,.h x.2],.one (.rptr .sh [.s q0])] (.b (Dr x q0)):=by
 refine en Qa Tryz.func300 λw0 F0 hG=> ?_
 exact sn Qa [1,2,3] [2] p0 <| tn Qa [3] [] p0 <| Qd <| pb [] (show Dr x q0=(x.1.toList==q0.toList) from rfl)
def Ym (c0:B) (k0:Q) (a0:Zj) (_:uA):Rd (Y) (uA) (uA):=(bif (Dr a0 c0) then (.ret (k0:Y)) else (.next ()))
def Zh (_:Q) (_:uA):uA:=()
def J6 (s_:W Zj) (c0:B):Y:=(Out.on (X4 (Ym c0) Zh s_ 0 ()) (λ_=> -1))
theorem Eo (s_:W Zj) (c0:B):ACalls Tryz.prog 299 [.h s_,.one (.fnr 300 [[.s c0]])] (.i (J6 s_ c0)):=by
 refine en Qa Tryz.func299 λw0 F0 hG=> ?_
 refine sn Qa [0,1,4] [] p0 <| Qb <| tn Qa [0,1,4,7,8] [] (pl 1 s_ p0) <| mz [(4,.i 0),(7,.i (s_.length:Y)),(8,.i 0)] [] [] [] <| wT 0 0 .sh s_ (λhw1 hl2=> ?_)
 refine R2 (Ym c0) Zh s_ () (λk0 _=> [(8,.i (k0:Y))]) [8] (λ_=> []) [0,1,7,8] wf0 (λk0 s0 O U=> ?_) (λk0 s0 O U=> ?_) (λy0 hD0=> ?_)
 ·obtain ⟨a0,V⟩:=Xh (l:=s_) (i:=k0) O;refine sn Qa [0,1,4,7,8,9] [] (pe 0 (zB ((k0:Y)<(s_.length:Y))) p0) <| Qb <| ckT <| Qf <| Qb <| Qo <| tn Qa [0,1,4,5,7,8] [] p0 <| tu Qa [(5,.i (k0:Y)),(16,.b (Dr a0 c0))] [] [] [] (pn 3 V (pc 5 (EC a0 c0) p0)) <| ck (Dr a0 c0) (λh3=> ?_) (λh3=> ?_)
  ·refine sn Qa [0,1,4,7,8] [] p0 <| Qd ?_
   have hr4:(X4 (Ym c0) Zh s_ 0 ())= .ret (k0:Y):=Ka V (Q9 h3 (rfl)) U;exact pi [] (On hr4)
  refine Qf <| rn Qa [0,1,4,7,8] [] (pe 0 (Jl (Qn k0 (by omega))) p0) ?_
  exact xw _ (Qs V (Qj h3 (rfl)) U)
 ·exact sn Qa [0,1,4,7,8,9] [] (pe 0 (zC ((k0:Y)<(s_.length:Y))) p0) <| Qb <| ckF <| Q4 <| xw _ (Xj O (rfl) U)
 exact sn Qa [4] [] p0 <| Qd <| pi [] (Vp hD0 (rfl))
def Yb (d:W Zj) (name:B):Y:=(J6 d name)
theorem PG (d:W Zj) (name:B):ACalls Tryz.prog 268 [.h d,.s name] (.i (Yb d name)):=by
 refine en Qa Tryz.func268 λw0 F0 hG=> ?_
 exact sn Qa [0,3,4] [3] p0 <| tn Qa [4] [] (pc 2 (Eo d name) p0) <| Qd <| pi [] (show Yb d name=(J6 d name) from rfl)
def Iy (name:B) (k0:Q) (a0:Zj) (_:uA):Rd (Y) (uA) (uA):=(bif (a0.1.toList==name.toList) then (.ret (k0:Y)) else (.next ()))
def Iz (_:Q) (_:uA):uA:=()
def Xm (d:W Zj) (name:B):Y:=(Out.on (X4 (Iy name) Iz d 0 ()) (λ_=> -1))
theorem R5 (d:W Zj) (name:B):ACalls Tryz.prog 257 [.h d,.s name] (.i (Xm d name)):=by
 refine en Qa Tryz.func257 λw0 F0 hG=> ?_
 refine sn Qa [0,1,4] [] p0 <| Qb <| tn Qa [0,1,4,5] [] p0 <| mz [(4,.i 0),(5,.i 0)] [] [] [] <| wT 0 0 .sh d (λhw1 hl2=> ?_)
 refine R2 (Iy name) Iz d () (λk0 _=> [(5,.i (k0:Y))]) [5] (λ_=> []) [0,1,5] wf0 (λk0 s0 O U=> ?_) (λk0 s0 O U=> ?_) (λy0 hD0=> ?_)
 ·obtain ⟨a0,V⟩:=Xh (l:=d) (i:=k0) O;refine Qb <| sn Qa [0,1,4,5,9] [] (pl 2 d (pe 3 (zB ((k0:Y)<(d.length:Y))) p0)) <| ckT <| Qf <| Qb <| Qo <| tn Qa [0,1,4,5,18] [] (pn 2 V p0) <| ck (a0.1.toList==name.toList) (λh3=> ?_) (λh3=> ?_)
  ·refine tu Qa [(4,.i (k0:Y))] [4] [] [] p0 <| Qd ?_
   have hr4:(X4 (Iy name) Iz d 0 ())= .ret (k0:Y):=Ka V (Q9 h3 (rfl)) U;exact pi [] (On hr4)
  refine Qf <| qu Qa [(5,.i ((k0+1:Q):Y))] [5] [] [] (pe 1 (Jl (Qn k0 (by omega))) p0) ?_
  exact xw _ (Qs V (Qj h3 (rfl)) U)
 ·exact Qb <| sn Qa [0,1,4,5,9] [] (pl 2 d (pe 3 (zC ((k0:Y)<(d.length:Y))) p0)) <| ckF <| Q4 <| xw _ (Xj O (rfl) U)
 exact sn Qa [4] [] p0 <| Qd <| pi [] (Vp hD0 (rfl))
theorem ED (d:W Zj):Je d=U0 d:=by
 unfold Je U0
 rw[Nf (f:=K6 d) (g:=Hg d) (e:=Ww) (e':=A8) (λk a s=>by
  unfold K6 Hg;rw[Qel,Qej];cases Yv a.1<;>cases Yt a.2<;>cases decide (((k:Q):Y)>(0:Y))<;>simp) (λ_ _=>rfl)]
theorem TG (s:B):∀(l:W Zj) (k:Q),X4 (Ym s) Zh l k ()= .brk ()\/∃i:Q,i<l.length/\X4 (Ym s) Zh l k ()= .ret (((k+i:Q)):Y)
 | [],_=> .inl rfl
 | a ::l,k=>by
   simp only[X4,Ym];unfold Dr;cases (a.1.toList==s.toList) with
   | true=>exact .inr ⟨0,by simp,rfl⟩
   | false=>
     simp only[uH];rcases TG s l (k+1) with h | ⟨i,hi,h⟩
     . exact .inl h
     exact .inr ⟨i+1,by simpa using hi,by rw[h,show k+1+i=k+(i+1) by omega]⟩
theorem EE (d:W Zj) (s:B): -1<=Yb d s/\Yb d s<(zD d:Y):=by
 unfold Yb J6;rcases TG s d 0 with h | ⟨i,hi,h⟩
 . rw[h];simp only[Out.on];omega
 rw[h];simp only[Out.on];omega
theorem QB (d:W Zj) (s:B): -1<=Xm d s/\Xm d s<(zD d:Y):=EE d s
open GoE (enc wide)
def A9 (d:W Zj) (strata:W Y) (more:Y) (_:Q) (a0:B) (s0:Y):Rd (Y) (Y) (Y):=(bif decide ((Yb d a0)>=(0:Y)) then (.next (max s0 (IntKind.i64.wrap ((nth strata (Yb d a0).toNat)+more)))) else (.next s0))
def Ep (_:Q) (s0:Y):Y:=s0
def X1 (d:W Zj) (strata:W Y) (names:Z) (more:Y):Y:=(Out.on (X4 (A9 d strata more) Ep names 0 0) (λy0=>y0))
theorem Mt (d:W Zj) (strata:W Y) (names:Z) (more:Y) (hp:zD d<=zD strata):ACalls Tryz.prog 231 [.h d,.h strata,.h names,.i more] (.i (X1 d strata names more)):=by
 refine en Qa Tryz.func231 λw0 F0 hG=> ?_
 refine sn Qa [0,1,2,3,8] [] p0 <| tn Qa [0,1,2,3,8,9] [] p0 <| Qb <| tu Qa [(8,.i 0),(9,.i 0),(13,.h names),(14,.i (names.length:Y)),(15,.i 0)] [2] [] [] (pl 1 names p0) <| wT 13 0 .sh names (λhw1 hl2=> ?_)
 refine R2 (A9 d strata more) Ep names 0 (λk0 s0=> [(9,.i s0),(15,.i (k0:Y))]) [9,15] (λy0=> [(9,.i y0)]) [0,1,3,9,13,14,15] wf0 (λk0 s0 O U=> ?_) (λk0 s0 O U=> ?_) (λy0 hD0=> ?_)
 ·obtain ⟨a0,V⟩:=Xh (l:=names) (i:=k0) O;refine su Qa [(16,.b K)] [] [] [] (pe 0 (zB ((k0:Y)<(names.length:Y))) p0) <| Qb <| ckT <| Qf <| Qb <| Qo <| su Qa [(11,.s a0)] [16] [] [] (pn 0 V p0) <| sn Qa [0,1,3,8,9,12,13,14,15] [] (pc 2 (PG d a0) p0) <| tn Qa [0,1,3,8,9,12,13,14,15,23] [] p0 <| ck (decide ((Yb d a0)>=(0:Y))) (λh3=> ?_) (λh3=> ?_)
  ·have h3p:=EE d a0;have h3d:=uG h3;refine wT 1 0 .sh strata (λhw5 hl6=> ?_);have hx4:=ng strata (Yb d a0).toNat;refine qu Qa [(9,.i (max s0 (IntKind.i64.wrap ((nth strata (Yb d a0).toNat)+more))))] [9,11] [] [] (pg 3 (Yb d a0) hx4 p0) ?_;refine rn Qa [0,1,3,8,9,13,14,15] [] (pe 0 (Jl (Qn k0 (by omega))) p0) ?_;exact xw _ (Qs V (Q9 h3 (rfl)) U)
  have h3d:=uR h3;refine Qf <| qu Qa [(15,.i ((k0+1:Q):Y))] [11,15] [] [] (pe 0 (Jl (Qn k0 (by omega))) p0) ?_
  exact xw _ (Qs V (Qj h3 (rfl)) U)
 ·exact su Qa [(16,.b H)] [] [] [] (pe 0 (zC ((k0:Y)<(names.length:Y))) p0) <| Qb <| ckF <| Q4 <| xw _ (Xj O (rfl) U)
 exact sn Qa [8] [] p0 <| Qd <| pi [] (Vp hD0 (rfl))
def Aa (d:W Zj) (k0:Q) (_:Q) (a1:B) (s1:W Y):Rd (Rd (W Y) (W Y) (W Y)) (W Y) (W Y):=(bif (decide ((Xm d a1)>=(0:Y))&&decide ((nth s1 (Xm d a1).toNat)>(nth s1 k0))) then (.next (zE s1 k0 (nth s1 (Xm d a1).toNat))) else (.next s1))
def Bn (_:Q) (s1:W Y):(W Y):=s1
def Ab (d:W Zj) (k0:Q) (_:Q) (a2:B) (s2:W Y):Rd (Rd (W Y) (W Y) (W Y)) (W Y) (W Y):=(bif (decide ((Xm d a2)>=(0:Y))&&decide (IntKind.i64.wrap ((nth s2 (Xm d a2).toNat)+1)>(nth s2 k0))) then (.next (zE s2 k0 (IntKind.i64.wrap ((nth s2 (Xm d a2).toNat)+1)))) else (.next s2))
def Er (_:Q) (s2:W Y):(W Y):=s2
def U1 (d:W Zj) (k0:Q) (a0:Zj) (s0:W Y):Rd (W Y) (W Y) (W Y):=(Out.on (X4 (Aa d k0) Bn (Jp a0.2) 0 s0) (λy1=>(Out.on (X4 (Ab d k0) Er (Jq a0.2) 0 y1) (λy2=>(.next y2)))))
def Es (_:Q) (s0:W Y):(W Y):=s0
def Wo (d:W Zj) (lev:W Y):(W Y):=(Out.on (X4 (U1 d) Es d 0 lev) (λy0=>y0))
theorem R6 (d:W Zj) (lev:W Y) (hp:zD d<=zD lev):ACalls Tryz.prog 217 [.h d,.h lev] (.o 0 (Wo d lev)):=by
 refine en Qa Tryz.func217 λw0 F0 hG=> ?_
 refine sn Qa [0,1,4] [] p0 <| wT 1 0 .sh lev (λhw1 hl2=> ?_)
 refine tn Qa [0,4,5] [] (po 2 (.flat) (px (Ct (n:=(([]:W (W PV)).length+((eL lev):W (W PV)).length)) (Eb (rfl) (Yr lev) (by first|omega|(simp only[zK,yA];omega) | (simp;omega) | simp))) (px (Hx (Uh lev)) p0))) <| Qb <| tu Qa [(4,.e 0),(5,.o 960 lev),(6,.i 0)] [1] [] [] p0 <| wT 0 0 .sh d (λhw3 hl4=> ?_)
 refine SV (U1 d) Es d lev (λk0 s0=> [(5,.o 960 s0),(6,.i (k0:Y))]) [5,6] (λy0=> [(5,.o 960 y0)]) [0,5,6] (λ_ s0=>zD s0=zD lev) (λy0=>zD y0=zD lev) wf0 (by simp) (λk0 s0 O U=> ?_) (λk0 s0 O U=> ?_) (λy0 hD0=> ?_)
 ·have hA0_0:=U.2;obtain ⟨a0,V⟩:=Xh (l:=d) (i:=k0) O;refine Qb <| sn Qa [0,4,5,6,19] [] (pl 2 d (pe 3 (zB ((k0:Y)<(d.length:Y))) p0)) <| ckT <| Qf <| Qb <| Qo <| tn Qa [0,4,5,6,7] [] (pn 2 V (pc 5 (T9 a0.2) p0)) <| Qb <| tu Qa [(7,.o 1728 (Jp a0.2)),(8,.i 0)] [] [] [] p0 <| wT 7 0 (.own K 1728) (Jp a0.2) (λhw5 hl6=> ?_)
  refine SV (Aa d k0) Bn (Jp a0.2) s0 (λk1 s1=> [(5,.o 960 s1),(8,.i (k1:Y))]) [5,8] (λy1=> [(5,.o 960 y1)]) [5,7,8] (λ_ s1=>zD s1=zD s0) (λy1=>zD y1=zD s0) wf0 (by simp) (λk1 s1 hk1 hI1=> ?_) (λk1 s1 hk1 hI1=> ?_) (λy1 hD1=> ?_)
  ·have hA1_0:=hI1.2;obtain ⟨a1,hx1⟩:=Xh (l:=Jp a0.2) (i:=k1) hk1;refine Qb <| su Qa [(31,.b K)] [] [] [] (pl 2 (Jp a0.2) (pe 3 (zB ((k1:Y)<((Jp a0.2).length:Y))) p0)) <| ckT <| Qf <| Qb <| Qo <| sn Qa [0,4,5,6,7,8,9] [] (pN 3 hx1 (pc 5 (R5 d a1) p0)) <| Qb <| mz [(9,.i (Xm d a1))] [31] [] [] <| jn [(52,.b (decide ((Xm d a1)>=(0:Y))&&decide ((nth s1 (Xm d a1).toNat)>(nth s1 k0))))] [] [] [] (decide ((Xm d a1)>=(0:Y))) (λh7=> ?_) (λh7=> ?_) ?_
   ·have h7p:=QB d a1;have h7d:=uG h7;refine wT 5 0 (.own K 960) s1 (λhw9 hl10=> ?_);have hx8:=ng s1 (Xm d a1).toNat;have hx11:=ng s1 k0;refine rN Qa Yo [0,4,5,6,7,8,9,52] [] (pt 1 h7 (pG 5 (Xm d a1) hx8 (pN 9 hx11 p0))) ?_;exact zA (by rw[h7]<;>kernel_rfl)
   ·refine rU Qa Yo [(52,.b H)] [] [] [] (pf 1 h7 p0) ?_;exact zA (by rw[h7]<;>kernel_rfl)
   refine ck (decide ((Xm d a1)>=(0:Y))&&decide ((nth s1 (Xm d a1).toNat)>(nth s1 k0))) (λh12=> ?_) (λh12=> ?_)
   ·have h12l:(decide ((Xm d a1)>=(0:Y)))=K:=WK h12;have h12lp:=QB d a1;have h12ld:=uG h12l;have h12r:(decide ((nth s1 (Xm d a1).toNat)>(nth s1 k0)))=K:=JK h12;have h12rd:=uG h12r;refine wT 5 0 (.own K 960) s1 (λhw14 hl15=> ?_);have hx13:=ng s1 (Xm d a1).toNat;have hx16:=ng s1 k0;refine ru Qa [(5,.one (.slc (.own K 960) 1 (setRow (eL s1) k0 0 [.i (nth s1 (Xm d a1).toNat)])))] [5,9,52] [] [] (pG 4 (Xm d a1) hx13 (pN 6 hx16 p0)) ?_;refine eqn [(5,.o 960 (zE s1 k0 (nth s1 (Xm d a1).toNat)))] [5] [] [] (by rw[Ke (y:=(nth s1 (Xm d a1).toNat)) hx16 rfl]<;>kernel_rfl) ?_;refine rn Qa [0,4,5,6,7,8] [] (pe 1 (Jl (Qn k1 (by omega))) p0) ?_;exact xw (zE s1 k0 (nth s1 (Xm d a1).toNat)) ⟨Qs hx1 (Q9 h12 (rfl)) hI1.1,(by first|omega|(simp only[zG];omega))⟩
   refine Qf <| rn Qa [0,4,5,6,7,8] [] (pe 1 (Jl (Qn k1 (by omega))) p0) ?_
   exact xw s1 ⟨Qs hx1 (Qj h12 (rfl)) hI1.1,(by first|omega|(simp only[zG];omega))⟩
  ·have hA1_0:=hI1.2;exact Qb <| su Qa [(31,.b H)] [] [] [] (pl 2 (Jp a0.2) (pe 3 (zC ((k1:Y)<((Jp a0.2).length:Y))) p0)) <| ckF <| Q4 <| xw s1 ⟨Xj hk1 (rfl) hI1.1,by first|omega|(simp only[zG];omega)⟩
  have hD1_0:=hD1.2;refine sn Qa [0,4,5,6,10] [] (pn 2 V (pc 5 (QA a0.2) p0)) <| tn Qa [0,4,5,6,10,11] [] p0 <| mz [(10,.o 4160 (Jq a0.2)),(11,.i 0)] [] [] [] <| wT 10 0 (.own K 4160) (Jq a0.2) (λhw17 hl18=> ?_)
  refine SV (Ab d k0) Er (Jq a0.2) y1 (λk2 s2=> [(5,.o 960 s2),(11,.i (k2:Y))]) [5,11] (λy2=> [(5,.o 960 y2)]) [5,10,11] (λ_ s2=>zD s2=zD y1) (λy2=>zD y2=zD y1) wf0 (by simp) (λk2 s2 hk2 hI2=> ?_) (λk2 s2 hk2 hI2=> ?_) (λy2 hD2=> ?_)
  ·have hA2_0:=hI2.2;obtain ⟨a2,hx2⟩:=Xh (l:=Jq a0.2) (i:=k2) hk2;refine Qb <| su Qa [(69,.b K)] [] [] [] (pl 2 (Jq a0.2) (pe 3 (zB ((k2:Y)<((Jq a0.2).length:Y))) p0)) <| ckT <| Qf <| Qb <| Qo <| sn Qa [0,4,5,6,10,11,12] [] (pN 3 hx2 (pc 5 (R5 d a2) p0)) <| Qb <| mz [(12,.i (Xm d a2))] [69] [] [] <| jn [(91,.b (decide ((Xm d a2)>=(0:Y))&&decide (IntKind.i64.wrap ((nth s2 (Xm d a2).toNat)+1)>(nth s2 k0))))] [] [] [] (decide ((Xm d a2)>=(0:Y))) (λh19=> ?_) (λh19=> ?_) ?_
   ·have h19p:=QB d a2;have h19d:=uG h19;refine wT 5 0 (.own K 960) s2 (λhw21 hl22=> ?_);have hx20:=ng s2 (Xm d a2).toNat;have hx23:=ng s2 k0;refine rN Qa Yo [0,4,5,6,10,11,12,91] [] (pt 1 h19 (pG 5 (Xm d a2) hx20 (pN 10 hx23 p0))) ?_;exact zA (by rw[h19]<;>kernel_rfl)
   ·refine rU Qa Yo [(91,.b H)] [] [] [] (pf 1 h19 p0) ?_;exact zA (by rw[h19]<;>kernel_rfl)
   refine ck (decide ((Xm d a2)>=(0:Y))&&decide (IntKind.i64.wrap ((nth s2 (Xm d a2).toNat)+1)>(nth s2 k0))) (λh24=> ?_) (λh24=> ?_)
   ·have h24l:(decide ((Xm d a2)>=(0:Y)))=K:=WK h24;have h24lp:=QB d a2;have h24ld:=uG h24l;have h24r:(decide (IntKind.i64.wrap ((nth s2 (Xm d a2).toNat)+1)>(nth s2 k0)))=K:=JK h24;have h24rd:=uG h24r;refine wT 5 0 (.own K 960) s2 (λhw26 hl27=> ?_);have hx25:=ng s2 (Xm d a2).toNat;have hx28:=ng s2 k0;refine ru Qa [(5,.one (.slc (.own K 960) 1 (setRow (eL s2) k0 0 [.i (IntKind.i64.wrap ((nth s2 (Xm d a2).toNat)+1))])))] [5,12,91] [] [] (pG 4 (Xm d a2) hx25 (pN 7 hx28 p0)) ?_;refine eqn [(5,.o 960 (zE s2 k0 (IntKind.i64.wrap ((nth s2 (Xm d a2).toNat)+1))))] [5] [] [] (by rw[Ke (y:=IntKind.i64.wrap ((nth s2 (Xm d a2).toNat)+1)) hx28 rfl]<;>kernel_rfl) ?_;refine rn Qa [0,4,5,6,10,11] [] (pe 1 (Jl (Qn k2 (by omega))) p0) ?_;exact xw (zE s2 k0 (IntKind.i64.wrap ((nth s2 (Xm d a2).toNat)+1))) ⟨Qs hx2 (Q9 h24 (rfl)) hI2.1,(by first|omega|(simp only[zG];omega))⟩
   refine Qf <| rn Qa [0,4,5,6,10,11] [] (pe 1 (Jl (Qn k2 (by omega))) p0) ?_
   exact xw s2 ⟨Qs hx2 (Qj h24 (rfl)) hI2.1,(by first|omega|(simp only[zG];omega))⟩
  ·have hA2_0:=hI2.2;exact Qb <| su Qa [(69,.b H)] [] [] [] (pl 2 (Jq a0.2) (pe 3 (zC ((k2:Y)<((Jq a0.2).length:Y))) p0)) <| ckF <| Q4 <| xw s2 ⟨Xj hk2 (rfl) hI2.1,by first|omega|(simp only[zG];omega)⟩
  have hD2_0:=hD2.2;refine rn Qa [0,4,5,6] [] (pe 1 (Jl (Qn k0 (by omega))) p0) ?_;exact xw y2 ⟨Qs V (Vp hD1.1 (Vp hD2.1 (rfl))) U.1,(by first|omega|(simp only[zG];omega))⟩
 ·have hA0_0:=U.2;exact Qb <| sn Qa [0,4,5,6,19] [] (pl 2 d (pe 3 (zC ((k0:Y)<(d.length:Y))) p0)) <| ckF <| Q4 <| xw s0 ⟨Xj O (rfl) U.1,by first|omega|(simp only[zG];omega)⟩
 have hD0_0:=hD0.2;exact sn Qa [4] [] p0 <| Qd <| po0 [] (Vp hD0.1 (rfl))
theorem KL {α R S T:Type} {f:Q->α->S->Rd R S T} {e:Q->S->T} (I:S->Prop) (h:∀k a s,I s->∃s',f k a s= .next s'/\I s'):∀(l:W α) (k:Q) (s:S),I s->∃s',X4 f e l k s= .brk (e (k+l.length) s')/\I s'
 | [],k,s,hs=>⟨s,by simp[X4],hs⟩
 | a::l,k,s,hs=>by
   obtain ⟨s1,h1,h2⟩:=h k a s hs;obtain ⟨s2,h3,h4⟩:=KL I h l (k+1) s1 h2;refine ⟨s2, ?_,h4⟩;simp only[X4,h1];rw[h3,zK,show k+1+l.length=k+(l.length+1) by omega]
theorem Qoq (d:W Zj) (k0 n:Q) (k:Q) (a:B) (s:W Y) (hs:s.length=n):∃s',Aa d k0 k a s= .next s'/\s'.length=n:=by
 unfold Aa;generalize (decide ((Xm d a)>=(0:Y))&&decide ((nth s (zJ (Xm d a)))>(nth s k0)))=c;cases c<;>exact ⟨_,rfl,by simpa using hs⟩
theorem Qor (d:W Zj) (k0 n:Q) (k:Q) (a:B) (s:W Y) (hs:s.length=n):∃s',Ab d k0 k a s= .next s'/\s'.length=n:=by
 unfold Ab;generalize (decide ((Xm d a)>=(0:Y))&&decide (IntKind.i64.wrap ((nth s (zJ (Xm d a)))+1)>(nth s k0)))=c;cases c<;>exact ⟨_,rfl,by simpa using hs⟩
theorem Qos (d:W Zj) (n:Q) (k:Q) (a:Zj) (s:W Y) (hs:s.length=n):∃s',U1 d k a s= .next s'/\s'.length=n:=by
 unfold U1;obtain ⟨s1,h1,h2⟩:=KL (e:=Bn) (λs:W Y=>s.length=n) (Qoq d k n) (Jp a.2) 0 s hs;obtain ⟨s2,h3,h4⟩:=KL (e:=Er) (λs:W Y=>s.length=n) (Qor d k n) (Jq a.2) 0 s1 h2;refine ⟨s2, ?_,h4⟩;rw[h1];simp only[Out.on,Bn];rw[h3];rfl
theorem LG (d:W Zj) (lev:W Y):zD (Wo d lev)=zD lev:=by
 unfold Wo;obtain ⟨s1,h1,h2⟩:=KL (e:=Es) (λs:W Y=>s.length=lev.length) (Qos d lev.length) d 0 lev rfl;rw[h1];exact h2
theorem Gh {d:W Zj} (h:Je d=K):zD d<=5:=by
 unfold Je at h;cases hf:X4 (K6 d) Ww d 0 () with
 | brk t=>rw[hf] at h;simp only[Out.on,uO] at h;omega
 | ret r=>
   rw[hf] at h;obtain rfl:r=K:=h;exfalso
   have key:∀(l:W Zj) k,X4 (K6 d) Ww l k ()≠ .ret K:=by
    intro l
    induction l with
    | nil=>intro k h;simp[X4] at h
    | cons a l ih=>
      intro k h;simp only[X4] at h;unfold K6 at h;split at h
      . rename_i hf;exact ih _ h
      . cases h
      rename_i r hf;cases h;revert hf;generalize (_|| _:A)=c;cases c<;>simp
   exact key _ _ hf
theorem Qot {d:W Zj} (h:U0 d=K):IntKind.i64.wrap (IntKind.i64.wrap ((d.length:Y)*(d.length:Y))+1)=((zD d*zD d+1:Q):Y)/\((zD d*zD d+1:Q):Y)<=26:=by
 have h5:=Gh ((ED d).trans h);generalize zD d=n at h5⊢;have:n=0\/n=1\/n=2\/n=3\/n=4\/n=5:=by omega
 rcases this with rfl | rfl | rfl | rfl | rfl | rfl<;>decide
def Vj (d:W Zj) (w:Y):W B->Wh
 | []=> []
 | s::r=>if 0<=Yb d s then (zJ (Yb d s),w)::Vj d w r else Vj d w r
theorem S7 (d:W Zj) (w:Y):∀(l:W B) (e:Q×Y),e∈Vj d w l->e.2=w/\e.1<d.length
 | [],e,h=>by simp[Vj] at h
 | s ::r,e,h=>by
   simp only[Vj] at h;split at h
   . rename_i h0;rcases zO.1 h with rfl | h
     . have:=(EE d s).2;exact ⟨rfl,by show zJ _<_;omega⟩
     exact S7 d w r e h
   exact S7 d w r e h
def Kt (d:W Zj) (i:Q):Wh:=if i<d.length then Vj d 0 (Yu (nth d i).2)++Vj d 1 (Ya (nth d i).2) else []
theorem Pk (d:W Zj) (i:Q) (e:Q×Y) (h:e∈Kt d i):e.2<=1/\e.1<d.length/\i<d.length:=by
 unfold Kt at h;split at h
 . rename_i hi;rcases xA.1 h with h | h<;>(have:=S7 d _ _ e h;omega)
 simp at h
theorem Qip (E1 E2:Wh) (L:W Y):Ln (E1++E2) L=max (Ln E1 L) (Ln E2 L):=by
 have h1:Ln (E1++E2) L<=max (Ln E1 L) (Ln E2 L):=Dp.2 ⟨by have:=S4 E1 L;omega,λe he=>by
  rcases xA.1 he with he | he
  . have:=(Dp.1 (zS (Ln E1 L))).2 e he;omega
  have:=(Dp.1 (zS (Ln E2 L))).2 e he;omega⟩
 have h2:=Dp.1 (zS (Ln (E1++E2) L));have h3:Ln E1 L<=Ln (E1++E2) L:=Dp.2 ⟨h2.1,λe he=>h2.2 e (List.mem_append_left _ he)⟩;have h4:Ln E2 L<=Ln (E1++E2) L:=Dp.2 ⟨h2.1,λe he=>h2.2 e (List.mem_append_right _ he)⟩;omega
theorem YN (d:W Zj) (L:W Y) (w:Y) (hw:0<=w/\w<=1) (hL:∀j,0<=nth L j/\nth L j<=1000000):∀(l:W B) (k:Q) (m:Y),X4 (A9 d L w) Ep l k m= .brk ((Vj d w l).foldl (λm e=>max m (nth L e.1+e.2)) m)
 | [],k,m=>rfl
 | s::r,k,m=>by
   simp only[X4,A9,Vj];have hwr:∀j,IntKind.i64.wrap (nth L j+w)=nth L j+w:=λj=>IntWalk.i64_in _ (by have:=hL j;omega)
   by_cases h:0<=Yb d s
   . have h':decide (Yb d s>=(0:Y))=K:=uQ h;rw[h',uM,uE h,hwr];exact YN d L w hw hL r (k+1) _
   have h':decide (Yb d s>=(0:Y))=H:=uP h;rw[h',uH,uF h];exact YN d L w hw hL r (k+1) _
theorem TH {d:W Zj} {L:W Y} {w:Y} (hw:0<=w/\w<=1) (hL:∀j,0<=nth L j/\nth L j<=1000000) (l:W B):X1 d L l w=Ln (Vj d w l) L:=by
 unfold X1;rw[YN d L w hw hL];rfl
theorem Qiq {d:W Zj} {L:W Y} (hL:∀j,0<=nth L j/\nth L j<=1000000) {i:Q} (hi:i<d.length):max (X1 d L (Yu (nth d i).2) 0) (X1 d L (Ya (nth d i).2) 1)=Ln (Kt d i) L:=by
 rw[TH (by omega) hL,TH (by omega) hL];unfold Kt;rw[uE hi,Qip]
abbrev TJ (d:W Zj) (a:Zj) (L:W Y):Y:=max (X1 d L (Yu a.2) 0) (X1 d L (Ya a.2) 1)
abbrev Qe2:=Q->Zj->W Y×A->Rd (Rd (W Y×A) (W Y×A) (W Y)) (W Y×A) (W Y×A)
def Qe3 (d:W Zj) (f:Qe2):Prop:=∀k a s,f k a s=bif decide (TJ d a s.1>(d.length:Y)) then .ret (.ret ([],H)) else (bif decide (TJ d a s.1>nth s.1 k) then .next (zE s.1 k (TJ d a s.1),K) else .next (s.1,s.2))
theorem S8 {d:W Zj} {f:Qe2} {e:Q->W Y×A->W Y×A} (hf:Qe3 d f) (he:∀k s,e k s=s) (hd:d.length<=1000000):
 ∀ (l:W Zj) (k:Q) (L:W Y) (c:A),d.drop k=l->L.length=d.length->(∀j,0<=nth L j/\nth L j<=(d.length:Y))->
   X4 f e l k (L,c)=(match Fj (Kt d) d.length (yW k l.length) (c,L) with
    | none=> .ret (.ret ([],H))
    | some s=> .brk (s.2,s.1))
 | [],k,L,c,_,_,_=>by simp[X4,Fj,he]
 | a ::l,k,L,c,hl,hlen,hL=>by
   have hk:d[k]? =J a:=by
    have:=D (·[0]?) hl;simpa using this
   have hkl:k<d.length:=(yG.1 hk).1;have ha:nth d k=a:=BS hk;have hrest:d.drop (k+1)=l:=by rw[←List.drop_drop,hl];rfl
   have hb:∀j,0<=nth L j/\nth L j<=1000000:=λj=>by have:=hL j;omega
   have hM:TJ d a L=Ln (Kt d k) L:=by rw[←ha];exact Qiq hb hkl
   simp only[X4,hf k a (L,c),zK,List.range'_succ,Fj,hM];by_cases h1:(d.length:Y)<Ln (Kt d k) L
   . rw[uQ (show Ln (Kt d k) L>(d.length:Y) from h1),uM,uE h1]
   rw[uP (show¬Ln (Kt d k) L>(d.length:Y) from h1),uH,uF h1];by_cases h2:nth L k<Ln (Kt d k) L
   . rw[uQ (show Ln (Kt d k) L>nth L k from h2),uM,uE h2];refine S8 hf he hd l (k+1) _ K hrest (by rw[zG];exact hlen) λj=> ?_
     have h0:=S4 (Kt d k) L;rw[S5 _ _ (by omega)];split
     . omega
     exact hL j
   rw[uP (show¬Ln (Kt d k) L>nth L k from h2),uH,uF h2];exact S8 hf he hd l (k+1) L c hrest hlen hL
def Qn1:uI (W Y)->Out (W Y×A) (W Y)
 | none=> .ret ([],H)
 | some L=> .brk L
def Qkp (d:W Zj) (f:Qe2) (e:Q->W Y×A->W Y×A) (F:W Y×A->Rd (W Y×A) (W Y×A) (W Y)):Prop:=∀s,F s=bif s.2 then (Out.on (X4 f e d 0 (s.1,H)) λy1=> .next (y1.1,y1.2)) else .brk s.1
theorem Mu {d:W Zj} {f:Qe2} {e:Q->W Y×A->W Y×A} {F:W Y×A->Rd (W Y×A) (W Y×A) (W Y)} (hf:Qe3 d f) (he:∀k s,e k s=s) (hF:Qkp d f e F) (hd:d.length<=1000000):
 ∀(n:Q) (L:W Y) (c:A),L.length=d.length->(∀j,0<=nth L j/\nth L j<=(d.length:Y))->whl F n (L,c)=(YJ (Kt d) d.length d.length n (c,L)).map Qn1
 | 0,L,c,_,_=>rfl
 | n+1,L,H,_,_=>by
   simp only[whl,hF (L,H),uH,YJ];rfl
 | n +1,L,K,hlen,hL=>by
   have hr:=S8 hf he hd d 0 L H rfl hlen hL;have e1:yW 0 d.length=zN d.length:=(xE ..).symm;rw[e1] at hr;simp only[whl,hF (L,K),uM,hr,YJ];cases hc:Fj (Kt d) d.length (zN d.length) (H,L) with
   | none=>rfl
   | some s=>
     obtain ⟨h1,_,_,h4⟩:=Gg (zN d.length) H L s (λi hi=>by rw[hlen];exact Dd hi) hc;have:=Mu hf he hF hd n s.2 s.1 (by rw[h1,Ri,hlen]) λj=>⟨by rw[h1];exact yK (hL j).1 (T5 (Kt d) j _ L),h4 (λj=>(hL j).2) j⟩
     exact this
theorem De (n:Q):(zF n (0:Y)).length=n/\∀j,0<=nth (zF n (0:Y)) j/\nth (zF n (0:Y)) j<=(n:Y):=
 ⟨by simp,λj=>by rw[KH];omega⟩
theorem PH {d:W Zj} {f:Qe2} {e:Q->W Y×A->W Y×A} {F:W Y×A->Rd (W Y×A) (W Y×A) (W Y)} (hf:Qe3 d f) (he:∀k s,e k s=s) (hF:Qkp d f e F) (hd:d.length<=1000000):
 (whl F (zD d*zD d+3) (zF (zJ (d.length:Y)) (0:Y),K)).isSome=K:=by
 rw[zU,Mu hf he hF hd _ _ _ (De _).1 (De _).2,Option.isSome_map];refine CA _ _ _ (De _).1 (λj=>((De _).2 j).2) ?_;have:((zD d*zD d+3:Q):Y)=(d.length:Y)*(d.length:Y)+3:=by rw[xB,Int.natCast_mul];rfl
 have h0:(zF d.length (0:Y)).sum=0:=by simp
 rw[this,h0];omega
open GoE (enc wide)
def Cy (b:W Y) (k0:Q) (a0:Y) (_:uA):Rd (A) (uA) (uA):=(bif (a0 !=(nth b k0)) then (.ret H) else (.next ()))
def Fw (_:Q) (_:uA):uA:=()
def W4 (a_:W Y) (b:W Y):A:=(bif ((a_.length:Y) !=(b.length:Y)) then H else (Out.on (X4 (Cy b) Fw a_ 0 ()) (λ_=>K)))
theorem QC (a_:W Y) (b:W Y):ACalls Tryz.prog 171 [.h a_,.h b] (.b (W4 a_ b)):=by
 refine en Qa Tryz.func171 λw0 F0 hG=> ?_
 refine sn Qa [0,1,4] [] p0 <| Qb <| tn Qa [0,1,4,10] [] (pl 1 a_ (pl 3 b p0)) <| ck ((a_.length:Y) !=(b.length:Y)) (λh1=> ?_) (λh1=> ?_)
 ·exact tu Qa [(4,.b H)] [] [] [] p0 <| Qd <| pb [] (Q9 h1 (rfl))
 have h1d:=Uw h1;refine Qf <| Qb <| tu Qa [(4,.b H),(5,.i 0)] [] [] [] p0 <| wT 0 0 .sh a_ (λhw2 hl3=> ?_)
 refine R2 (Cy b) Fw a_ () (λk0 _=> [(5,.i (k0:Y))]) [5] (λ_=> []) [0,1,5] wf0 (λk0 s0 O U=> ?_) (λk0 s0 O U=> ?_) (λy0 hD0=> ?_)
 ·obtain ⟨a0,V⟩:=Xh (l:=a_) (i:=k0) O;refine Qb <| sn Qa [0,1,4,5,14] [] (pl 2 a_ (pe 3 (zB ((k0:Y)<(a_.length:Y))) p0)) <| ckT <| Qf <| Qb <| Qo <| wT 1 0 .sh b (λhw5 hl6=> ?_)
  have hx4:=ng b k0;refine tN Qa Yo [0,1,4,5,25] [] (pn 2 V (pn 6 hx4 p0)) <| ck (a0 !=(nth b k0)) (λh7=> ?_) (λh7=> ?_)
  ·refine tu Qa [] [] [] [] p0 <| Qd ?_
   have hr8:(X4 (Cy b) Fw a_ 0 ())= .ret H:=Ka V (Q9 h7 (rfl)) U;exact pb [] (Qj h1 (On hr8))
  have h7d:=Uw h7;refine Qf <| qu Qa [(5,.i ((k0+1:Q):Y))] [5] [] [] (pe 1 (Jl (Qn k0 (by omega))) p0) ?_
  exact xw _ (Qs V (Qj h7 (rfl)) U)
 ·exact Qb <| sn Qa [0,1,4,5,14] [] (pl 2 a_ (pe 3 (zC ((k0:Y)<(a_.length:Y))) p0)) <| ckF <| Q4 <| xw _ (Xj O (rfl) U)
 exact sn Qa [4] [] p0 <| Qd <| pb [] (Qj h1 (Vp hD0 (rfl)))
def Ie (d:W Zj) (_:Q) (s0:W Y):Rd ((W Y)×A) (W Y) (W Y):=(.next (Wo d s0))
def Nm (_:Q) (s0:W Y):(W Y):=s0
def Yf (d:W Zj):(W Y)×A:=(bif (!(U0 d)) then ([],H) else (Out.on (Ks (Ie d) Nm (IntKind.i64.wrap (IntKind.i64.wrap ((d.length:Y)*(d.length:Y))+1)+1).toNat 0 (zF (d.length:Y).toNat (0:Y))) (λy0=>(bif (!(W4 (Wo d y0) y0)) then ([],H) else (y0,K)))))
theorem Pm (d:W Zj):ACalls Tryz.prog 168 [.h d] (.tup [(H, [.o 0 (((Yf d)).1)]),(H, [.b (((Yf d)).2)])]):=by
 refine en Qa Tryz.func168 λw0 F0 hG=> ?_
 refine sn Qa [0,2,3] [] p0 <| Qb <| tn Qa [0,2,3,8] [] (pc 1 (YM d) p0) <| ck (!(U0 d)) (λh1=> ?_) (λh1=> ?_)
 ·exact tu Qa [(2,.one (.slc (.own K 576) 1 [])),(3,.b H)] [] [] [] p0 <| Qd <| pz [] (show Yf d=_ from Q9 h1 (rfl)) (λz=> .tup [(H, [.o 0 z.1]),(H, [.b z.2])])
 have h1n:(U0 d)=K:=Zz h1;have h1nv:=Qot h1n;refine Qf <| wT 0 0 .sh d (λhw2 hl3=> ?_)
 refine tu Qa [(2,.e 0),(3,.b H),(4,.one (.slc (.own K 768) 1 (zF (d.length:Y).toNat [.i 0])))] [] [] [] (pl 1 d (px (Gc (lo:=0) (hi:=(d.length:Y)) (n:=1073741824) (⟨by omega,by omega,by omega⟩)) p0)) <| eqn [(4,.o 768 (zF (d.length:Y).toNat (0:Y)))] [4] [] [] (by rw[show (zF (d.length:Y).toNat [.i 0])=(eL (zF (d.length:Y).toNat (0:Y))) from Qig _ (0:Y)];first | done | kernel_rfl) ?_
 refine Qb <| sn Qa [0,2,3,4,5] [] p0 <| mz [(5,.i 0)] [] [] [] <| Ql9 (Ie d) Nm (IntKind.i64.wrap (IntKind.i64.wrap ((d.length:Y)*(d.length:Y))+1)+1).toNat (zF (d.length:Y).toNat (0:Y)) (λk0 s0=> [(4,.o 147203 s0),(5,.i (k0:Y))]) [4,5] (λy0=> [(4,.o 147353 y0)]) [4,5] (λ_ s0=>zD s0=zD d) (λy0=>zD y0=zD d) (Xg [(768,147203)] (by kernel_rfl)) (by simp) (λk0 s0 O U=> ?_) (λk0 s0 O U=> ?_) (λy0 hD0=> ?_)
 ·have hA0_0:=U.2;refine Qb <| sn Qa [0,2,3,4,5,20] [] (pl 2 d (pl 4 d (pe 7 (zB ((k0:Y)<=IntKind.i64.wrap (IntKind.i64.wrap ((d.length:Y)*(d.length:Y))+1))) p0))) <| ckT <| Qf <| Qb <| Qo <| qn Qa [0,2,3,4,5] [] (pc 2 (R6 d s0 (by omega)) p0) ?_
  refine qu Qa [(4,.o 1600 (Wo d s0)),(5,.i ((k0+1:Q):Y))] [4,5] [] [] (pe 1 (Jl (Qn k0 (by omega))) p0) ?_;exact yZ (Wo d s0) (xJ (Xg [(1600,147203)] (by kernel_rfl)) ⟨Z6 O (rfl) U.1,(by have hz:=LG d s0;omega)⟩)
 ·have hA0_0:=U.2;exact Qb <| sn Qa [0,2,3,4,5,20] [] (pl 2 d (pl 4 d (pe 7 (zC ((k0:Y)<=IntKind.i64.wrap (IntKind.i64.wrap ((d.length:Y)*(d.length:Y))+1))) p0))) <| ckF <| Q4 <| yZ s0 (xJ (Xg [(147203,147353)] (by kernel_rfl)) ⟨U6 O (rfl) U.1,by first|omega|(simp only[zG];omega)⟩)
 have hD0_0:=hD0.2;refine Qb <| sn Qa [2,3,4,31] [] (pc 2 (R6 d y0 (by omega)) (pc 4 (QC (Wo d y0) y0) p0)) <| ck (!(W4 (Wo d y0) y0)) (λh4=> ?_) (λh4=> ?_)
 ·exact tn Qa [2,3,4] [] p0 <| Qd <| pz [] (show Yf d=_ from Qj h1 (Vp hD0.1 (Q9 h4 (rfl)))) (λz=> .tup [(H, [.o 0 z.1]),(H, [.b z.2])])
 exact Qf <| tn Qa [2,3] [] p0 <| Qd <| pz [] (show Yf d=_ from Qj h1 (Vp hD0.1 (Qj h4 (rfl)))) (λz=> .tup [(H, [.o 0 z.1]),(H, [.b z.2])])
def Hh (d:W Zj) (k1:Q) (a1:Zj) (s1:(W Y)×A):Rd (Rd ((W Y)×A) ((W Y)×A) (W Y)) ((W Y)×A) ((W Y)×A):=(bif decide ((max (X1 d s1.1 (Yu a1.2) 0) (X1 d s1.1 (Ya a1.2) 1))>(d.length:Y)) then (.ret (.ret ([],H))) else (bif decide ((max (X1 d s1.1 (Yu a1.2) 0) (X1 d s1.1 (Ya a1.2) 1))>(nth s1.1 k1)) then (.next (zE s1.1 k1 (max (X1 d s1.1 (Yu a1.2) 0) (X1 d s1.1 (Ya a1.2) 1)),K)) else (.next (s1.1,s1.2))))
def Hi (_:Q) (s1:(W Y)×A):(W Y)×A:=(s1.1,s1.2)
def Wj (d:W Zj) (s0:(W Y)×A):Rd ((W Y)×A) ((W Y)×A) (W Y):=(bif s0.2 then (Out.on (X4 (Hh d) Hi d 0 (s0.1,H)) (λy1=>(.next (y1.1,y1.2)))) else (.brk s0.1))
def Qu (d:W Zj):(W Y)×A:=(bif (!(Je d)) then ([],H) else (Out.on (Oo (Wj d) (zD d*zD d+3) ((zF (d.length:Y).toNat (0:Y)),K)) (λy0=>(y0,K))))
theorem Gi (d:W Zj) (hd:d.length<=5):(whl (Wj d) (zD d*zD d+3) (zF (d.length:Y).toNat (0:Y),K)).isSome=K:=PH (f:=Hh d) (e:=Hi) (λ_ _ _=>rfl) (λ_ _=>rfl) (λ_=>rfl) (by omega)
theorem Pn (d:W Zj):ACalls Tryz.prog 187 [.h d] (.tup [(H, [.o 0 (((Qu d)).1)]),(H, [.b (((Qu d)).2)])]):=by
 refine en Qa Tryz.func187 λw0 F0 hG=> ?_
 refine sn Qa [0,2,3] [] p0 <| Qb <| tn Qa [0,2,3,11] [] (pc 1 (YL d) p0) <| ck (!(Je d)) (λh1=> ?_) (λh1=> ?_)
 ·refine tu Qa [(2,.e 0),(3,.b H)] [] [] [] p0 <| opn [(H,2,0,K,384000,1)] ?_
  exact Qd <| pz [] (show Qu d=_ from Q9 h1 (rfl)) (λz=> .tup [(H, [.o 0 z.1]),(H, [.b z.2])])
 have h1n:(Je d)=K:=Zz h1;refine Qf <| wT 0 0 .sh d (λhw2 hl3=> ?_)
 refine tu Qa [(2,.e 0),(3,.b H),(4,.one (.slc (.own K 896) 1 (zF (d.length:Y).toNat [.i 0])))] [] [] [] (pl 1 d (px (Gc (lo:=0) (hi:=(d.length:Y)) (n:=1073741824) (⟨by omega,by omega,by omega⟩)) p0)) <| eqn [(4,.o 896 (zF (d.length:Y).toNat (0:Y)))] [4] [] [] (by rw[show (zF (d.length:Y).toNat [.i 0])=(eL (zF (d.length:Y).toNat (0:Y))) from Qig _ (0:Y)];first | done | kernel_rfl) ?_
 refine Qb <| sn Qa [0,2,3,4,5] [] p0 <| mz [(5,.b K)] [] [] [] <| blw (λ(s0:(W Y)×A)=> [(4,.o 896 s0.1),(5,.b s0.2)]) [4,5] (λs0=> []) [] (λ(y0:W Y)=> [(4,.o 896 y0)]) [0,4,5] (λy0=> []) [] (λ(k0:Q) (s0:(W Y)×A)=>whl (Wj d) k0 s0=J (Oo (Wj d) (zD d*zD d+3) ((zF (d.length:Y).toNat (0:Y)),K))/\zD s0.1=zD d) (λ(y0:W Y)=>(Oo (Wj d) (zD d*zD d+3) ((zF (d.length:Y).toNat (0:Y)),K))= .brk y0) (zD d*zD d+3) ((zF (d.length:Y).toNat (0:Y)),K) wf0 ⟨Nc (Gi d (Gh (h1n))),(by simp)⟩ (λ_ h=>Rg h.1) (λk0 s0 U=> ?_) (λy0 hD0=> ?_)
 ·have hA0_0:=U.2;refine Qb <| sn Qa [0,2,3,4,5,15] [] p0 <| ck s0.2 (λh4=> ?_) (λh4=> ?_)
  ·refine Qf <| Qo <| tn Qa [0,2,3,4,5] [] p0 <| tu Qa [(5,.b H),(16,.h d),(17,.i (d.length:Y)),(18,.i 0)] [5] [] [] (pl 1 d p0) <| SV (Hh d) Hi d (s0.1,H) (λk1 s1=> [(4,.o 896 s1.1),(5,.b s1.2),(18,.i (k1:Y))]) [4,5,18] (λy1=> [(4,.o 896 y1.1),(5,.b y1.2)]) [4,5,16,17,18] (λ_ s1=>zD s1.1=zD s0.1) (λy1=>zD y1.1=zD s0.1) wf0 (by simp) (λk1 s1 hk1 hI1=> ?_) (λk1 s1 hk1 hI1=> ?_) (λy1 hD1=> ?_)
   ·have hA1_0:=hI1.2;obtain ⟨a1,hx1⟩:=Xh (l:=d) (i:=k1) hk1;refine su Qa [(19,.b K)] [] [] [] (pe 0 (zB ((k1:Y)<(d.length:Y))) p0) <| Qb <| ckT <| Qf <| Qb <| Qo <| sn Qa [0,2,3,4,5,6,7,16,17,18] [7] (pn 1 hx1 p0) <| tN Qa Yo [0,2,3,4,5,6,8,16,17,18] [] (pc 4 (T7 a1.2) (pc 5 (Mt d s1.1 (Yu a1.2) 0 (by omega)) (pc 10 (T8 a1.2) (pc 11 (Mt d s1.1 (Ya a1.2) 1 (by omega)) p0)))) <| Qb <| tu Qa [(6,.i (k1:Y)),(8,.i (max (X1 d s1.1 (Yu a1.2) 0) (X1 d s1.1 (Ya a1.2) 1))),(39,.b (decide ((max (X1 d s1.1 (Yu a1.2) 0) (X1 d s1.1 (Ya a1.2) 1))>(d.length:Y))))] [19] [] [] (pl 2 d p0) <| ck (decide ((max (X1 d s1.1 (Yu a1.2) 0) (X1 d s1.1 (Ya a1.2) 1))>(d.length:Y))) (λh5=> ?_) (λh5=> ?_)
    ·refine su Qa [] [39] [] [] p0 <| opn [(H,2,0,K,384000,1)] ?_
     refine Qd ?_;have hr6:(X4 (Hh d) Hi d 0 (s0.1,H))= .ret (.ret ([],H)):=Ka hx1 (Q9 h5 (rfl)) hI1.1;have hr7:(Oo (Wj d) (zD d*zD d+3) ((zF (d.length:Y).toNat (0:Y)),K))= .ret ([],H):=Ql6 (Q9 h4 (On hr6)) U.1;exact pz [] (show Qu d=_ from Qj h1 (On hr7)) (λz=> .tup [(H, [.o 0 z.1]),(H, [.b z.2])])
    have h5d:=uR h5;refine Qf <| wT 4 0 (.own K 896) s1.1 (λhw9 hl10=> ?_)
    have hx8:=ng s1.1 k1;refine sn Qa [0,2,3,4,5,6,8,16,17,18,45] [] (pN 3 hx8 p0) <| ck (decide ((max (X1 d s1.1 (Yu a1.2) 0) (X1 d s1.1 (Ya a1.2) 1))>(nth s1.1 k1))) (λh11=> ?_) (λh11=> ?_)
    ·have h11d:=uG h11;refine tu Qa [(4,.one (.slc (.own K 896) 1 (setRow (eL s1.1) k1 0 [.i (max (X1 d s1.1 (Yu a1.2) 0) (X1 d s1.1 (Ya a1.2) 1))])))] [4,6,8,39] [] [] (pN 3 hx8 p0) <| eqn [(4,.o 896 (zE s1.1 k1 (max (X1 d s1.1 (Yu a1.2) 0) (X1 d s1.1 (Ya a1.2) 1))))] [4] [] [] (by rw[Ke (y:=(max (X1 d s1.1 (Yu a1.2) 0) (X1 d s1.1 (Ya a1.2) 1))) hx8 rfl]<;>kernel_rfl) ?_
     refine ru Qa [(5,.b K)] [5] [] [] p0 ?_;refine rn Qa [0,2,3,4,5,16,17,18] [] (pe 0 (Jl (Qn k1 (by omega))) p0) ?_;exact xw (zE s1.1 k1 (max (X1 d s1.1 (Yu a1.2) 0) (X1 d s1.1 (Ya a1.2) 1)),K) ⟨Qs hx1 (Qj h5 (Q9 h11 (rfl))) hI1.1,(by first|omega|(simp only[zG];omega))⟩
    have h11d:=uR h11;refine Qf <| qn Qa [0,2,3,4,5,16,17,18] [] (pe 0 (Jl (Qn k1 (by omega))) p0) ?_
    exact xw (s1.1,s1.2) ⟨Qs hx1 (Qj h5 (Qj h11 (rfl))) hI1.1,(by first|omega|(simp only[zG];omega))⟩
   ·have hA1_0:=hI1.2;exact su Qa [(19,.b H)] [] [] [] (pe 0 (zC ((k1:Y)<(d.length:Y))) p0) <| Qb <| ckF <| Q4 <| xw (s1.1,s1.2) ⟨Xj hk1 (rfl) hI1.1,by first|omega|(simp only[zG];omega)⟩
   have hD1_0:=hD1.2;exact xw (y1.1,y1.2) ⟨wn U.1 (Q9 h4 (Vp hD1.1 (rfl))),(by first|omega|(simp only[zG];omega))⟩
  exact Q4 <| xw _ (wb U.1 (Qj h4 (rfl)))
 exact sn Qa [2,3] [] p0 <| Qd <| pz [] (show Qu d=_ from Qj h1 (Vp hD0 (rfl))) (λz=> .tup [(H, [.o 0 z.1]),(H, [.b z.2])])
def Low (b:Y) (L:W Y):Prop:=∀j,0<=nth L j/\nth L j<=b
theorem TL {b w:Y} {i:Q} {L:W Y} {p:Q} (hi:i<L.length) (hw:0<=w/\w<=1) (h:Low b L):Low (b+w) (XR i L (p,w)):=λj=>by
 rw[KJ _ hi];have h1:=h j;have h2:=h p;have h3:=h i;split
 . show 0<=max (nth L i) (nth L p+w)/\max (nth L i) (nth L p+w)<=b+w;omega
 omega
theorem PI (d:W Zj) (k0:Q):∀(l:W B) (k:Q) (s:W Y) (b:Y),k0<s.length->Low b s->X4 (Aa d k0) Bn l k s= .brk (Dq k0 (Vj d 0 l) s)/\Low b (Dq k0 (Vj d 0 l) s)
 | [],k,s,b,_,h=>⟨rfl,h⟩
 | a :: l,k,s,b,hk,h=>by
   have hf:Aa d k0 k a s=(bif (decide (0<=Yb d a)&&decide (nth s k0<nth s (zJ (Yb d a)))) then .next (zE s k0 (nth s (zJ (Yb d a)))) else .next s):=rfl;simp only[X4,hf,Vj];by_cases h0:0<=Yb d a
   . rw [uE h0,uQ h0,Bool.true_and];have hb:Low b (XR k0 s (zJ (Yb d a),0)):=by have:=TL (w:=0) (p:=zJ (Yb d a)) hk (by omega) h;simpa using this
     have hbk:Dq k0 ((zJ (Yb d a),0)::Vj d 0 l) s=Dq k0 (Vj d 0 l) (XR k0 s (zJ (Yb d a),0)):=rfl;rw[hbk];have ih:=PI d k0 l (k+1) (XR k0 s (zJ (Yb d a),0)) b (by rw[Nl];exact hk) hb;by_cases h1:nth s k0<nth s (zJ (Yb d a))
     . have e:XR k0 s (zJ (Yb d a),0)=zE s k0 (nth s (zJ (Yb d a))):=by unfold XR;simp[h1]
       rw[uQ h1,uM];rw[e] at ih⊢;exact ih
     have e:XR k0 s (zJ (Yb d a),0)=s:=by unfold XR;simp[h1]
     rw[uP h1,uH];rw[e] at ih⊢;exact ih
   rw[uF h0,uP h0,Bool.false_and,uH];exact PI d k0 l (k+1) s b hk h
theorem PJ (d:W Zj) (k0:Q):∀(l:W B) (k:Q) (s:W Y) (b:Y),k0<s.length->Low b s->b+l.length<=1000000->X4 (Ab d k0) Er l k s= .brk (Dq k0 (Vj d 1 l) s)/\Low (b+l.length) (Dq k0 (Vj d 1 l) s)
 | [],k,s,b,_,h,_=>⟨rfl,by show Low (b+((0:Q):Y)) s;simpa using h⟩
 | a :: l,k,s,b,hk,h,hb=>by
   rw[zK] at hb⊢;have hf:Ab d k0 k a s=(bif (decide (0<=Yb d a)&&decide (nth s k0<IntKind.i64.wrap (nth s (zJ (Yb d a))+1))) then .next (zE s k0 (IntKind.i64.wrap (nth s (zJ (Yb d a))+1))) else .next s):=rfl;simp only[X4,hf,Vj];have hl:b+((l.length+1:Q):Y)=b+1+(l.length:Y):=by omega
   have hw:IntKind.i64.wrap (nth s (zJ (Yb d a))+1)=nth s (zJ (Yb d a))+1:=IntWalk.i64_in _ (by have:=h (zJ (Yb d a));omega);rw[hl] at hb⊢;by_cases h0:0<=Yb d a
   . rw [uE h0,uQ h0,Bool.true_and,hw];have hlow:=TL (w:=1) (p:=zJ (Yb d a)) hk (by omega) h;have hbk:Dq k0 ((zJ (Yb d a),1)::Vj d 1 l) s=Dq k0 (Vj d 1 l) (XR k0 s (zJ (Yb d a),1)):=rfl;rw[hbk];have ih:=PJ d k0 l (k+1) (XR k0 s (zJ (Yb d a),1)) (b+1) (by rw[Nl];exact hk) hlow hb;by_cases h1:nth s k0<nth s (zJ (Yb d a))+1
     . have e:XR k0 s (zJ (Yb d a),1)=zE s k0 (nth s (zJ (Yb d a))+1):=by unfold XR;rw[uE h1]
       rw[uQ h1,uM];rw[e] at ih⊢;exact ih
     have e:XR k0 s (zJ (Yb d a),1)=s:=by unfold XR;rw[uF h1]
     rw[uP h1,uH];rw[e] at ih⊢;exact ih
   rw[uF h0,uP h0,Bool.false_and,uH];exact PJ d k0 l (k+1) s (b+1) hk (λj=>by have:=h j;omega) hb
theorem WX (q:W Q2) (b:A):∀(l:W A) (k:Q) (s:W B),∃t,X4 (V6 q b) Ha l k s= .brk t/\t.length<=s.length+l.length
 | [],k,s=>⟨s,rfl,by simp⟩
 | a ::l,k,s=>by
   simp only[X4,V6];cases (Kv (nth q k)&&(a==b)) with
   | true=>
     obtain ⟨t,h1,h2⟩:=WX q b l (k+1) (s++ [(nth q k).2.2.2.1]);exact ⟨t,h1,by simp at h2⊢;omega⟩
   | false=>
     obtain ⟨t,h1,h2⟩:=WX q b l (k+1) s;exact ⟨t,h1,by simp at h2⊢;omega⟩
theorem Qir (q:W Q2):zD (X9 q)<=9:=by
 cases hv:Qk q with
 | true=>have:=S0 q;have:=(Gf hv).2;omega
 | false=>unfold X9;rw[hv];simp
theorem Qqk (q:W Q2) (b:A):zD (Wi q b)<=9:=by
 unfold Wi;obtain ⟨t,h1,h2⟩:=WX q b (X9 q) 0 [];rw[h1];have h3:=Qir q;have h4:=Qes (Ph t);rw[IX] at h4;show (WO (Ph t)).length<=9;simp at h2;omega
theorem Qe4 (i:Q) (E1 E2:Wh) (L:W Y):Dq i (E1++E2) L=Dq i E2 (Dq i E1 L):=List.foldl_append
theorem Qmm {d:W Zj} {k:Q} {a:Zj} {s:W Y} {b:Y} (hk:d[k]? =J a) (hs:s.length=d.length) (h:Low b s) (hb:b+9<=1000000):U1 d k a s= .next (Dq k (Kt d k) s)/\Low (b+9) (Dq k (Kt d k) s):=by
 have hkl:k<d.length:=(yG.1 hk).1;have ha:nth d k=a:=BS hk;obtain ⟨h1,h2⟩:=PI d k (Yu a.2) 0 s b (by omega) h;have h9:(Ya a.2).length<=9:=Qqk a.2 K;obtain ⟨h3,h4⟩:=PJ d k (Ya a.2) 0 (Dq k (Vj d 0 (Yu a.2)) s) b (by rw[Ix];omega) h2 (by omega);have he:Kt d k=Vj d 0 (Yu a.2)++Vj d 1 (Ya a.2):=by unfold Kt;rw[uE hkl,ha]
 rw[he,Qe4];refine ⟨?_,λj=>by have:=h4 j;omega⟩;unfold U1;rw[Qbm,Qbn,h1];simp only[Out.on];rw[h3]
theorem CF {d:W Zj}:∀(l:W Zj) (k:Q) (s:W Y) (b:Y),d.drop k=l->s.length=d.length->Low b s->b+9*l.length<=1000000->X4 (U1 d) Es l k s= .brk (Cv (Kt d) (yW k l.length) s)/\Low (b+9*l.length) (Cv (Kt d) (yW k l.length) s)
 | [],k,s,b,_,_,h,_=>⟨rfl,by show Low (b+9*((0:Q):Y)) s;simpa using h⟩
 | a ::l,k,s,b,hl,hs,h,hb=>by
   have hk:d[k]? =J a:=by
    have:=D (·[0]?) hl;simpa using this
   have hrest:d.drop (k+1)=l:=by rw[←List.drop_drop,hl];rfl
   rw[zK] at hb⊢;obtain ⟨h1,h2⟩:=Qmm hk hs h (by omega);have e:b+9*((l.length+1:Q):Y)=b+9+9*(l.length:Y):=by omega
   rw[e] at hb⊢;obtain ⟨h3,h4⟩:=CF l (k+1) (Dq k (Kt d k) s) (b+9) hrest (by rw[Ix];exact hs) h2 hb;simp only[X4,h1,List.range'_succ];exact ⟨h3,h4⟩
theorem CG {d:W Zj} {s:W Y} {b:Y} (hs:s.length=d.length) (h:Low b s) (hb:b+9*d.length<=1000000):Wo d s=Cv (Kt d) (zN d.length) s/\Low (b+9*d.length) (Cv (Kt d) (zN d.length) s):=by
 obtain ⟨h1,h2⟩:=CF d 0 s b rfl hs h hb;have e1:yW 0 d.length=zN d.length:=(xE ..).symm;rw[e1] at h1 h2;refine ⟨?_,h2⟩;unfold Wo;rw[h1];rfl
theorem WY {d:W Zj} (hd:d.length<=5):∀(n k m:Q),m+n<=1000->Low (45*m) (Bl (Kt d) d.length m)->Ks (Ie d) Nm n k (Bl (Kt d) d.length m)= .brk (Bl (Kt d) d.length (m+n))/\Low (45*(m+n)) (Bl (Kt d) d.length (m+n))
 | 0,k,m,_,h=>⟨rfl,by simpa using h⟩
 | n+1,k,m,hm,h=>by
   obtain ⟨h1,h2⟩:=CG (Rl (Kt d) d.length m) h (by omega);have e:Bl (Kt d) d.length (m+1)=Cv (Kt d) (zN d.length) (Bl (Kt d) d.length m):=rfl;simp only[Ks,Ie,h1];rw[←e] at h2⊢;have:=WY hd n (k+1) (m+1) (by omega) (λj=>by have:=h2 j;omega);rw[show m+(n+1)=m+1+n by omega];refine ⟨this.1,λj=>by have:=this.2 j;omega⟩
theorem Qe5 (b:W Y):∀(l:W Y) (k:Q),l.length=(b.drop k).length->Out.on (X4 (Cy b) Fw l k ()) (λ_=>K)=decide (l=b.drop k)
 | [],k,h=>by
   have:b.drop k= []:=zP (by rw[←h];rfl);rw[this];rfl
 | a ::l,k,h=>by
   have hk:k<b.length:=by simp only[zK,List.length_drop] at h;omega
   have hd:b.drop k=nth b k::b.drop (k+1):=by
    rw[List.drop_eq_getElem_cons hk,show nth b k=b[k] by simp[nth,yE,hk]]
   rw[hd] at h⊢;simp only[X4,Cy];by_cases e:a=nth b k
   . rw[show (a !=nth b k)=H by simp[e],uH,Qe5 b l (k+1) (by simpa using h)];simp[e]
   rw[show (a !=nth b k)=K by simp[e],uM];simp[e,Out.on]
theorem Qe6 (a b:W Y) (h:a.length=b.length):W4 a b=decide (a=b):=by
 unfold W4;rw[show ((a.length:Y) !=(b.length:Y))=H by simp[h],uH,Qe5 b a 0 (by simpa using h),List.drop_zero]
theorem Af (d:W Zj):Yf d=Qu d:=by
 unfold Yf Qu;rw[←ED];cases hv:Je d with
 | false=>rfl
 | true=>
   have h5:=Gh hv;obtain ⟨hn,_⟩:=Qot ((ED d).symm.trans hv);simp only[xG,uH];have hz:Bl (Kt d) d.length 0=zF (zJ (d.length:Y)) (0:Y):=by rw[zU];rfl
   have hnn:d.length*d.length<=25:=Nat.le_trans (Nat.mul_le_mul h5 h5) (by decide);obtain ⟨h1,h2⟩:=WY (d:=d) h5 (d.length*d.length+2) 0 0 (by omega) (λj=>by rw[hz,zU,KH];omega);rw[hz,yI] at h1;rw[yI] at h2;rw[hn,show zJ (((d.length*d.length+1:Q):Y)+1)=d.length*d.length+2 by omega,h1];simp only[Out.on];have hlen:=Rl (Kt d) d.length (d.length*d.length+2);obtain ⟨h3,_⟩:=CG (d:=d) hlen h2 (by omega);rw[h3,Qe6 _ _ (by rw[S6])];have hw:=Mu (d:=d) (f:=Hh d) (e:=Hi) (F:=Wj d) (λ_ _ _=>rfl) (λ_ _=>rfl) (λ_=>rfl) (by omega) (d.length*d.length+3) (zF d.length 0) K (De _).1 (De _).2
   have hsome:(YJ (Kt d) d.length d.length (d.length*d.length+3) (K,zF d.length 0)).isSome=K:=by
    have:=Gi d h5;rw[zU,hw,Option.isSome_map] at this;exact this
   obtain ⟨r,hr⟩:=Option.isSome_iff_exists.1 hsome;unfold Oo;rw[zU,hw,hr];obtain ⟨h6,h7⟩:=Qey (E:=Kt d) (n:=d.length) (λi e he=>Pk d i e he) hr;by_cases hfix:Cv (Kt d) (zN d.length) (Bl (Kt d) d.length (d.length*d.length+2))=Bl (Kt d) d.length (d.length*d.length+2)
   . rw[h6 hfix,uQ hfix];rfl
   rw[h7 hfix,uP hfix];rfl
open GoE (enc wide)
def Av (name:B) (_:Q) (a0:Y7) (_:uA):Rd (Y) (uA) (uA):=(bif (a0.1.toList==name.toList) then (.ret a0.2) else (.next ()))
def Df (_:Q) (_:uA):uA:=()
def Ak (s_:W Y7) (name:B):Y:=(Out.on (X4 (Av name) Df s_ 0 ()) (λ_=>0))
theorem WZ (s_:W Y7) (name:B):ACalls Tryz.prog 275 [.h s_,.s name] (.i (Ak s_ name)):=by
 refine en Qa Tryz.func275 λw0 F0 hG=> ?_
 refine sn Qa [0,1,4] [] p0 <| Qb <| tn Qa [1,4,7,8,9] [] (pl 1 s_ p0) <| mz [(4,.i 0),(7,.h s_),(8,.i (s_.length:Y)),(9,.i 0)] [0] [] [] <| wT 7 0 .sh s_ (λhw1 hl2=> ?_)
 refine R2 (Av name) Df s_ () (λk0 _=> [(9,.i (k0:Y))]) [9] (λ_=> []) [1,7,8,9] wf0 (λk0 s0 O U=> ?_) (λk0 s0 O U=> ?_) (λy0 hD0=> ?_)
 ·obtain ⟨a0,V⟩:=Xh (l:=s_) (i:=k0) O;refine sn Qa [1,4,7,8,9,10] [] (pe 0 (zB ((k0:Y)<(s_.length:Y))) p0) <| Qb <| ckT <| Qf <| Qb <| Qo <| tn Qa [1,4,6,7,8,9] [6] (pn 0 V p0) <| tu Qa [(6,.p 6 0),(16,.b (a0.1.toList==name.toList))] [] [(6, [.s a0.1,.i a0.2])] [] p0 <| ck (a0.1.toList==name.toList) (λh3=> ?_) (λh3=> ?_)
  ·refine sn Qa [1,4,7,8,9] [] p0 <| Qd ?_
   have hr4:(X4 (Av name) Df s_ 0 ())= .ret a0.2:=Ka V (Q9 h3 (rfl)) U;exact pi [] (On hr4)
  refine Qf <| rn Qa [1,4,7,8,9] [] (pe 0 (Jl (Qn k0 (by omega))) p0) ?_
  exact xw _ (Qs V (Qj h3 (rfl)) U)
 ·exact sn Qa [1,4,7,8,9,10] [] (pe 0 (zC ((k0:Y)<(s_.length:Y))) p0) <| Qb <| ckF <| Q4 <| xw _ (Xj O (rfl) U)
 exact sn Qa [4] [] p0 <| Qd <| pi [] (Vp hD0 (rfl))
def Ja (s_:W Y7) (name:B) (v:K4):A:=((Q6 v)&&((v.1 !=(0:Y))&&(v.1==(Ak s_ name))))
theorem I0 (s_:W Y7) (name:B) (v:K4):ACalls Tryz.prog 243 [.h s_,.s name,.a [.i v.1,.i v.2.1,.s v.2.2]] (.b (Ja s_ name v)):=by
 refine en Qa Tryz.func243 λw0 F0 hG=> ?_
 refine sn Qa [0,1,5,6] [5] p0 <| Qb <| mz [(5,.p 5 0),(6,.b H)] [2] [(5, [.i v.1,.i v.2.1,.s v.2.2])] [] <| jn [(6,.b ((Q6 v)&&((v.1 !=(0:Y))&&(v.1==(Ak s_ name)))))] [0,1,5,6] [] [5] (Q6 v) (λh1=> ?_) (λh1=> ?_) ?_
 ·refine Xx (v.1 !=(0:Y)) (λh2=> ?_) (λh2=> ?_)
  ·refine rN Qa Yo [6] [] (pc 1 (cb h1 (Jt v)) (pt 5 h2 (pc 12 (WZ s_ name) p0))) ?_;exact zA (by rw[h1,h2]<;>kernel_rfl)
  refine rN Qa Yo [6] [] (pc 1 (cb h1 (Jt v)) (pf 5 h2 p0)) ?_;exact zA (by rw[h1,h2]<;>kernel_rfl)
 ·refine rN Qa Yo [6] [] (pc 1 (cb h1 (Jt v)) p0) ?_;exact zA (by rw[h1]<;>kernel_rfl)
 exact Qd <| pb [] (show Ja s_ name v=((Q6 v)&&((v.1 !=(0:Y))&&(v.1==(Ak s_ name)))) from rfl)
def V5 (n:Y):A:=(Xo n 0 2)
theorem Bo (n:Y):ACalls Tryz.prog 196 [.i n] (.b (V5 n)):=by
 refine en Qa Tryz.func196 λw0 F0 hG=> ?_
 exact sn Qa [0,2] [] p0 <| tn Qa [2] [] (pc 1 (Js n 0 2) p0) <| Qd <| pb [] (show V5 n=(Xo n 0 2) from rfl)
def Ud (s_:W Y7) (k0:Q) (a0:Y7) (_:uA):Rd (A) (uA) (uA):=(bif ((!(Q1 a0.1))|| (bif (a0.2 !=(1:Y)) then ((a0.2 !=(2:Y))|| (decide ((k0:Y)>(0:Y))&&(!(Op.bytesLess ((nth s_ ((k0:Y)-1).toNat).1).toList a0.1.toList)))) else (decide ((k0:Y)>(0:Y))&&(!(Op.bytesLess ((nth s_ ((k0:Y)-1).toNat).1).toList a0.1.toList))))) then (.ret H) else (.next ()))
def H5 (_:Q) (_:uA):uA:=()
def Jr (s_:W Y7):A:=(Out.on (X4 (Ud s_) H5 s_ 0 ()) (λ_=>decide ((s_.length:Y)<=(5:Y))))
theorem Al (s_:W Y7):ACalls Tryz.prog 199 [.h s_] (.b (Jr s_)):=by
 refine en Qa Tryz.func199 λw0 F0 hG=> ?_
 refine sn Qa [0,2] [] p0 <| Qb <| tn Qa [0,2,5,6,7] [] (pl 1 s_ p0) <| mz [(2,.b H),(5,.h s_),(6,.i (s_.length:Y)),(7,.i 0)] [] [] [] <| wT 0 0 .sh s_ (λhw1 hl2=> ?_)
 refine R2 (Ud s_) H5 s_ () (λk0 _=> [(7,.i (k0:Y))]) [7] (λ_=> []) [5,6,7] wf0 (λk0 s0 O U=> ?_) (λk0 s0 O U=> ?_) (λy0 hD0=> ?_)
 ·obtain ⟨a0,V⟩:=Xh (l:=s_) (i:=k0) O;refine sn Qa [0,2,5,6,7,8] [] (pe 0 (zB ((k0:Y)<(s_.length:Y))) p0) <| Qb <| ckT <| Qf <| Qb <| Qo <| tn Qa [0,2,3,4,5,6,7] [4] (pn 1 V p0) <| Qb <| mz [(3,.i (k0:Y)),(4,.p 4 0)] [] [(4, [.s a0.1,.i a0.2])] [] <| jn [(40,.b ((!(Q1 a0.1))|| (bif (a0.2 !=(1:Y)) then ((a0.2 !=(2:Y))|| (decide ((k0:Y)>(0:Y))&&(!(Op.bytesLess ((nth s_ ((k0:Y)-1).toNat).1).toList a0.1.toList)))) else (decide ((k0:Y)>(0:Y))&&(!(Op.bytesLess ((nth s_ ((k0:Y)-1).toNat).1).toList a0.1.toList))))))] [3,4] [] [4] (!(Q1 a0.1)) (λh3=> ?_) (λh3=> ?_) ?_
  ·have h3n:(Q1 a0.1)=H:=Vt h3;refine rN Qa Yo [0,2,5,6,7,40] [] (pc 2 (cb h3n (Zc a0.1)) (pe 3 (show .b (!H)= .b K from rfl) p0)) ?_;exact zA (by rw[h3]<;>kernel_rfl)
  ·have h3n:(Q1 a0.1)=K:=Zz h3;refine Xx (a0.2 !=(1:Y)) (λh4=> ?_) (λh4=> ?_)
   ·have h4d:=Pe h4;refine Xx (a0.2 !=(2:Y)) (λh5=> ?_) (λh5=> ?_)
    ·refine rN Qa Yo [0,2,5,6,7,40] [] (pc 2 (cb h3n (Zc a0.1)) (pe 3 (show .b (!K)= .b H from rfl) (pt 7 h4 (pt 11 h5 p0)))) ?_;exact zA (by rw[h3,h4,h5]<;>kernel_rfl)
    have h5d:=Uw h5;refine Xx (decide ((k0:Y)>(0:Y))) (λh6=> ?_) (λh6=> ?_)
    ·have h6d:=uG h6;have hx7:=ng s_ ((k0:Y)-1).toNat;refine rN Qa Yo [0,2,5,6,7,40] [] (pc 2 (cb h3n (Zc a0.1)) (pe 3 (show .b (!K)= .b H from rfl) (pt 7 h4 (pf 11 h5 (pt 16 h6 (pe 20 (Jl (IntWalk.i64_in ((k0:Y)-1) (by omega))) (pg 21 ((k0:Y)-1) hx7 p0))))))) ?_;exact zA (by rw[h3,h4,h5,h6]<;>kernel_rfl)
    refine rN Qa Yo [0,2,5,6,7,40] [] (pc 2 (cb h3n (Zc a0.1)) (pe 3 (show .b (!K)= .b H from rfl) (pt 7 h4 (pf 11 h5 (pf 16 h6 p0))))) ?_;exact zA (by rw[h3,h4,h5,h6]<;>kernel_rfl)
   have h4d:=Uw h4;refine Xx (decide ((k0:Y)>(0:Y))) (λh8=> ?_) (λh8=> ?_)
   ·have h8d:=uG h8;have hx9:=ng s_ ((k0:Y)-1).toNat;refine rN Qa Yo [0,2,5,6,7,40] [] (pc 2 (cb h3n (Zc a0.1)) (pe 3 (show .b (!K)= .b H from rfl) (pf 7 h4 (pt 16 h8 (pe 20 (Jl (IntWalk.i64_in ((k0:Y)-1) (by omega))) (pg 21 ((k0:Y)-1) hx9 p0)))))) ?_;exact zA (by rw[h3,h4,h8]<;>kernel_rfl)
   refine rN Qa Yo [0,2,5,6,7,40] [] (pc 2 (cb h3n (Zc a0.1)) (pe 3 (show .b (!K)= .b H from rfl) (pf 7 h4 (pf 16 h8 p0)))) ?_;exact zA (by rw[h3,h4,h8]<;>kernel_rfl)
  refine ck ((!(Q1 a0.1))|| (bif (a0.2 !=(1:Y)) then ((a0.2 !=(2:Y))|| (decide ((k0:Y)>(0:Y))&&(!(Op.bytesLess ((nth s_ ((k0:Y)-1).toNat).1).toList a0.1.toList)))) else (decide ((k0:Y)>(0:Y))&&(!(Op.bytesLess ((nth s_ ((k0:Y)-1).toNat).1).toList a0.1.toList))))) (λh10=> ?_) (λh10=> ?_)
  ·refine su Qa [] [40] [] [] p0 <| Qd ?_
   have hr11:(X4 (Ud s_) H5 s_ 0 ())= .ret H:=Ka V (Q9 h10 (rfl)) U;exact pb [] (On hr11)
  refine Qf <| rn Qa [0,2,5,6,7] [] (pe 0 (Jl (Qn k0 (by omega))) p0) ?_
  exact xw _ (Qs V (Qj h10 (rfl)) U)
 ·exact sn Qa [0,2,5,6,7,8] [] (pe 0 (zC ((k0:Y)<(s_.length:Y))) p0) <| Qb <| ckF <| Q4 <| xw _ (Xj O (rfl) U)
 exact sn Qa [2] [] (pl 1 s_ p0) <| Qd <| pb [] (Vp hD0 (rfl))
def K7 (s_:W Y7) (f:Yj) (k0:Q) (a0:Ui) (_:uA):Rd (A) (uA) (uA):=(bif (bif decide ((k0:Y)>(0:Y)) then ((!(Op.bytesLess ((nth f.2.2.2.2 ((k0:Y)-1).toNat).1).toList a0.1.toList))|| (!(Ja s_ a0.1 a0.2))) else (!(Ja s_ a0.1 a0.2))) then (.ret H) else (.next ()))
def Wx (_:Q) (_:uA):uA:=()
def Jf (s_:W Y7) (f:Yj):A:=(Out.on (X4 (K7 s_ f) Wx f.2.2.2.2 0 ()) (λ_=>((Xo f.1 1 60)&&((V5 f.2.1)&&((Xo f.2.2.2.1 0 60)&&(Jr s_))))))
theorem Ch (s_:W Y7) (f:Yj):ACalls Tryz.prog 198 [.h s_,.a [.i f.1,.i f.2.1,.b f.2.2.1,.i f.2.2.2.1,.h f.2.2.2.2]] (.b (Jf s_ f)):=by
 refine en Qa Tryz.func198 λw0 F0 hG=> ?_
 refine sn Qa [0,3,4] [3] p0 <| Qb <| tn Qa [0,3,4,8,9,10] [3] (pl 2 f.2.2.2.2 p0) <| mz [(3,.p 3 0),(4,.b H),(8,.h f.2.2.2.2),(9,.i (f.2.2.2.2.length:Y)),(10,.i 0)] [1] [(3, [.i f.1,.i f.2.1,.b f.2.2.1,.i f.2.2.2.1,.h f.2.2.2.2])] [] <| wT 8 0 .sh f.2.2.2.2 (λhw1 hl2=> ?_)
 refine R2 (K7 s_ f) Wx f.2.2.2.2 () (λk0 _=> [(10,.i (k0:Y))]) [10] (λ_=> []) [8,9,10] wf0 (λk0 s0 O U=> ?_) (λk0 s0 O U=> ?_) (λy0 hD0=> ?_)
 ·obtain ⟨a0,V⟩:=Xh (l:=f.2.2.2.2) (i:=k0) O;refine su Qa [(11,.b K)] [] [] [] (pe 0 (zB ((k0:Y)<(f.2.2.2.2.length:Y))) p0) <| Qb <| ckT <| Qf <| Qb <| Qo <| sn Qa [0,3,4,5,6,8,9,10] [3,6] (pn 1 V p0) <| Qb <| mz [(5,.i (k0:Y)),(6,.p 6 0)] [11] [(6, [.s a0.1,.i a0.2.1,.i a0.2.2.1,.s a0.2.2.2])] [] <| jn [(37,.b (bif decide ((k0:Y)>(0:Y)) then ((!(Op.bytesLess ((nth f.2.2.2.2 ((k0:Y)-1).toNat).1).toList a0.1.toList))|| (!(Ja s_ a0.1 a0.2))) else (!(Ja s_ a0.1 a0.2))))] [5,6] [] [6] (decide ((k0:Y)>(0:Y))) (λh3=> ?_) (λh3=> ?_) ?_
  ·have h3d:=uG h3;refine Xx (!(Op.bytesLess ((nth f.2.2.2.2 ((k0:Y)-1).toNat).1).toList a0.1.toList)) (λh4=> ?_) (λh4=> ?_)
   ·have hx5:=ng f.2.2.2.2 ((k0:Y)-1).toNat;refine rN Qa Yo [0,3,4,8,9,10,37] [3] (pt 1 h3 (pe 6 (Jl (IntWalk.i64_in ((k0:Y)-1) (by omega))) (pg 7 ((k0:Y)-1) hx5 (pt 12 h4 p0)))) ?_;exact zA (by rw[h3,h4]<;>kernel_rfl)
   have hx6:=ng f.2.2.2.2 ((k0:Y)-1).toNat;refine rN Qa Yo [0,3,4,8,9,10,37] [3] (pt 1 h3 (pe 6 (Jl (IntWalk.i64_in ((k0:Y)-1) (by omega))) (pg 7 ((k0:Y)-1) hx6 (pf 12 h4 (pc 20 (I0 s_ a0.1 a0.2) p0))))) ?_;exact zA (by rw[h3,h4]<;>kernel_rfl)
  ·refine rN Qa Yo [0,3,4,8,9,10,37] [3] (pf 1 h3 (pc 20 (I0 s_ a0.1 a0.2) p0)) ?_;exact zA (by rw[h3]<;>kernel_rfl)
  refine ck (bif decide ((k0:Y)>(0:Y)) then ((!(Op.bytesLess ((nth f.2.2.2.2 ((k0:Y)-1).toNat).1).toList a0.1.toList))|| (!(Ja s_ a0.1 a0.2))) else (!(Ja s_ a0.1 a0.2))) (λh7=> ?_) (λh7=> ?_)
  ·refine su Qa [] [37] [] [] p0 <| Qd ?_
   have hr8:(X4 (K7 s_ f) Wx f.2.2.2.2 0 ())= .ret H:=Ka V (Q9 h7 (rfl)) U;exact pb [] (On hr8)
  refine Qf <| rn Qa [0,3,4,8,9,10] [3] (pe 0 (Jl (Qn k0 (by omega))) p0) ?_
  exact xw _ (Qs V (Qj h7 (rfl)) U)
 ·exact su Qa [(11,.b H)] [] [] [] (pe 0 (zC ((k0:Y)<(f.2.2.2.2.length:Y))) p0) <| Qb <| ckF <| Q4 <| xw _ (Xj O (rfl) U)
 refine Qb <| jn [(4,.b ((Xo f.1 1 60)&&((V5 f.2.1)&&((Xo f.2.2.2.1 0 60)&&(Jr s_)))))] [0,3,4] [] [3] (Xo f.1 1 60) (λh9=> ?_) (λh9=> ?_) ?_
 ·have h9w:=Ki.1 h9;refine Xx (V5 f.2.1) (λh10=> ?_) (λh10=> ?_)
  ·refine Xx (Xo f.2.2.2.1 0 60) (λh11=> ?_) (λh11=> ?_)
   ·have h11w:=Ki.1 h11;refine rn Qa [4] [] (pc 2 (cb h9 (Js f.1 1 60)) (pc 6 (cb h10 (Bo f.2.1)) (pc 11 (cb h11 (Js f.2.2.2.1 0 60)) (pc 15 (Al s_) p0)))) ?_;exact zA (by rw[h9,h10,h11]<;>kernel_rfl)
   refine rn Qa [4] [] (pc 2 (cb h9 (Js f.1 1 60)) (pc 6 (cb h10 (Bo f.2.1)) (pc 11 (cb h11 (Js f.2.2.2.1 0 60)) p0))) ?_;exact zA (by rw[h9,h10,h11]<;>kernel_rfl)
  refine rn Qa [4] [] (pc 2 (cb h9 (Js f.1 1 60)) (pc 6 (cb h10 (Bo f.2.1)) p0)) ?_;exact zA (by rw[h9,h10]<;>kernel_rfl)
 ·refine rn Qa [4] [] (pc 2 (cb h9 (Js f.1 1 60)) p0) ?_;exact zA (by rw[h9]<;>kernel_rfl)
 exact Qd <| pb [] (Vp hD0 (rfl))
def Zw (s_:Yk) (k0:Q) (a0:Yj) (_:uA):Rd (A) (uA) (uA):=(bif ((!(Jf s_.1 a0))|| (decide (a0.1>=s_.2.2)|| (decide ((k0:Y)>(0:Y))&&decide ((nth s_.2.1 ((k0:Y)-1).toNat).1>=a0.1)))) then (.ret H) else (.next ()))
def Kw (_:Q) (_:uA):uA:=()
def Xk (s_:Yk):A:=(Out.on (X4 (Zw s_) Kw s_.2.1 0 ()) (λ_=>((Jr s_.1)&&(decide ((s_.2.1.length:Y)<=(12:Y))&&(Xo s_.2.2 1 61)))))
theorem Hj (s_:Yk):ACalls Tryz.prog 148 [.a [.h s_.1,.h s_.2.1,.i s_.2.2]] (.b (Xk s_)):=by
 refine en Qa Tryz.func148 λw0 F0 hG=> ?_
 refine sn Qa [1,2] [1] p0 <| Qb <| tn Qa [1,2,6,7,8] [1] (pl 2 s_.2.1 p0) <| mz [(1,.p 1 0),(2,.b H),(6,.h s_.2.1),(7,.i (s_.2.1.length:Y)),(8,.i 0)] [0] [(1, [.h s_.1,.h s_.2.1,.i s_.2.2])] [] <| wT 6 0 .sh s_.2.1 (λhw1 hl2=> ?_)
 refine R2 (Zw s_) Kw s_.2.1 () (λk0 _=> [(8,.i (k0:Y))]) [8] (λ_=> []) [6,7,8] wf0 (λk0 s0 O U=> ?_) (λk0 s0 O U=> ?_) (λy0 hD0=> ?_)
 ·obtain ⟨a0,V⟩:=Xh (l:=s_.2.1) (i:=k0) O;refine sn Qa [1,2,6,7,8,9] [1] (pe 0 (zB ((k0:Y)<(s_.2.1.length:Y))) p0) <| Qb <| ckT <| Qf <| Qb <| Qo <| tn Qa [1,2,3,4,6,7,8] [1,4] (pn 1 V p0) <| Qb <| mz [(3,.i (k0:Y)),(4,.p 4 0)] [] [(4, [.i a0.1,.i a0.2.1,.b a0.2.2.1,.i a0.2.2.2.1,.h a0.2.2.2.2])] [] <| jn [(40,.b ((!(Jf s_.1 a0))|| (decide (a0.1>=s_.2.2)|| (decide ((k0:Y)>(0:Y))&&decide ((nth s_.2.1 ((k0:Y)-1).toNat).1>=a0.1)))))] [3,4] [] [4] (!(Jf s_.1 a0)) (λh3=> ?_) (λh3=> ?_) ?_
  ·have h3n:(Jf s_.1 a0)=H:=Vt h3;refine rN Qa Yo [1,2,6,7,8,40] [1] (pc 3 (cb h3n (Ch s_.1 a0)) (pe 4 (show .b (!H)= .b K from rfl) p0)) ?_;exact zA (by rw[h3]<;>kernel_rfl)
  ·have h3n:(Jf s_.1 a0)=K:=Zz h3;refine Xx (decide (a0.1>=s_.2.2)) (λh4=> ?_) (λh4=> ?_)
   ·refine rN Qa Yo [1,2,6,7,8,40] [1] (pc 3 (cb h3n (Ch s_.1 a0)) (pe 4 (show .b (!K)= .b H from rfl) (pt 10 h4 p0))) ?_;exact zA (by rw[h3,h4]<;>kernel_rfl)
   have h4d:=uR h4;refine Xx (decide ((k0:Y)>(0:Y))) (λh5=> ?_) (λh5=> ?_)
   ·have h5d:=uG h5;have hx6:=ng s_.2.1 ((k0:Y)-1).toNat;refine rN Qa Yo [1,2,6,7,8,40] [1] (pc 3 (cb h3n (Ch s_.1 a0)) (pe 4 (show .b (!K)= .b H from rfl) (pf 10 h4 (pt 14 h5 (pe 19 (Jl (IntWalk.i64_in ((k0:Y)-1) (by omega))) (pg 20 ((k0:Y)-1) hx6 p0)))))) ?_;exact zA (by rw[h3,h4,h5]<;>kernel_rfl)
   refine rN Qa Yo [1,2,6,7,8,40] [1] (pc 3 (cb h3n (Ch s_.1 a0)) (pe 4 (show .b (!K)= .b H from rfl) (pf 10 h4 (pf 14 h5 p0)))) ?_;exact zA (by rw[h3,h4,h5]<;>kernel_rfl)
  refine ck ((!(Jf s_.1 a0))|| (decide (a0.1>=s_.2.2)|| (decide ((k0:Y)>(0:Y))&&decide ((nth s_.2.1 ((k0:Y)-1).toNat).1>=a0.1)))) (λh7=> ?_) (λh7=> ?_)
  ·refine su Qa [] [40] [] [] p0 <| Qd ?_
   have hr8:(X4 (Zw s_) Kw s_.2.1 0 ())= .ret H:=Ka V (Q9 h7 (rfl)) U;exact pb [] (On hr8)
  have h7r:((decide (a0.1>=s_.2.2)|| (decide ((k0:Y)>(0:Y))&&decide ((nth s_.2.1 ((k0:Y)-1).toNat).1>=a0.1))))=H:=WL h7;have h7rl:(decide (a0.1>=s_.2.2))=H:=JL h7r;have h7rld:=uR h7rl;refine Qf <| rn Qa [1,2,6,7,8] [1] (pe 0 (Jl (Qn k0 (by omega))) p0) ?_
  exact xw _ (Qs V (Qj h7 (rfl)) U)
 ·exact sn Qa [1,2,6,7,8,9] [1] (pe 0 (zC ((k0:Y)<(s_.2.1.length:Y))) p0) <| Qb <| ckF <| Q4 <| xw _ (Xj O (rfl) U)
 refine Qb <| jn [(2,.b ((Jr s_.1)&&(decide ((s_.2.1.length:Y)<=(12:Y))&&(Xo s_.2.2 1 61))))] [1,2] [] [1] (Jr s_.1) (λh9=> ?_) (λh9=> ?_) ?_
 ·refine Xx (decide ((s_.2.1.length:Y)<=(12:Y))) (λh10=> ?_) (λh10=> ?_)
  ·refine rn Qa [2] [] (pc 2 (cb h9 (Al s_.1)) (pl 6 s_.2.1 (pt 7 h10 (pc 12 (Js s_.2.2 1 61) p0)))) ?_;exact zA (by rw[h9,h10]<;>kernel_rfl)
  refine rn Qa [2] [] (pc 2 (cb h9 (Al s_.1)) (pl 6 s_.2.1 (pf 7 h10 p0))) ?_;exact zA (by rw[h9,h10]<;>kernel_rfl)
 ·refine rn Qa [2] [] (pc 2 (cb h9 (Al s_.1)) p0) ?_;exact zA (by rw[h9]<;>kernel_rfl)
 exact Qd <| pb [] (Vp hD0 (rfl))
def Gt (name:B) (_:Q) (a0:Y7) (_:uA):Rd (Y) (uA) (uA):=(bif (a0.1.toList==name.toList) then (.ret a0.2) else (.next ()))
def Gu (_:Q) (_:uA):uA:=()
def Et (s_:W Y7) (name:B):Y:=(Out.on (X4 (Gt name) Gu s_ 0 ()) (λ_=>0))
theorem UA (s_:W Y7) (name:B):ACalls Tryz.prog 260 [.h s_,.s name] (.i (Et s_ name)):=by
 refine en Qa Tryz.func260 λw0 F0 hG=> ?_
 refine sn Qa [0,1,4] [] p0 <| Qb <| tn Qa [0,1,4,5] [] p0 <| mz [(4,.i 0),(5,.i 0)] [] [] [] <| wT 0 0 .sh s_ (λhw1 hl2=> ?_)
 refine R2 (Gt name) Gu s_ () (λk0 _=> [(5,.i (k0:Y))]) [5] (λ_=> []) [0,1,5] wf0 (λk0 s0 O U=> ?_) (λk0 s0 O U=> ?_) (λy0 hD0=> ?_)
 ·obtain ⟨a0,V⟩:=Xh (l:=s_) (i:=k0) O;refine Qb <| sn Qa [0,1,4,5,9] [] (pl 2 s_ (pe 3 (zB ((k0:Y)<(s_.length:Y))) p0)) <| ckT <| Qf <| Qb <| Qo <| tn Qa [0,1,4,5,18] [] (pn 2 V p0) <| ck (a0.1.toList==name.toList) (λh3=> ?_) (λh3=> ?_)
  ·refine tu Qa [(4,.i a0.2)] [4] [] [] (pn 2 V p0) <| Qd ?_
   have hr4:(X4 (Gt name) Gu s_ 0 ())= .ret a0.2:=Ka V (Q9 h3 (rfl)) U;exact pi [] (On hr4)
  refine Qf <| qu Qa [(5,.i ((k0+1:Q):Y))] [5] [] [] (pe 1 (Jl (Qn k0 (by omega))) p0) ?_
  exact xw _ (Qs V (Qj h3 (rfl)) U)
 ·exact Qb <| sn Qa [0,1,4,5,9] [] (pl 2 s_ (pe 3 (zC ((k0:Y)<(s_.length:Y))) p0)) <| ckF <| Q4 <| xw _ (Xj O (rfl) U)
 exact sn Qa [4] [] p0 <| Qd <| pi [] (Vp hD0 (rfl))
def Kj (s_:W Y7) (name:B) (v:K4):A:=((Xw v)&&((v.1 !=(0:Y))&&(v.1==(Et s_ name))))
theorem Ds (s_:W Y7) (name:B) (v:K4):ACalls Tryz.prog 222 [.h s_,.s name,.a [.i v.1,.i v.2.1,.s v.2.2]] (.b (Kj s_ name v)):=by
 refine en Qa Tryz.func222 λw0 F0 hG=> ?_
 refine sn Qa [0,1,5,6] [5] p0 <| Qb <| mz [(5,.p 5 0),(6,.b H)] [2] [(5, [.i v.1,.i v.2.1,.s v.2.2])] [] <| jn [(6,.b ((Xw v)&&((v.1 !=(0:Y))&&(v.1==(Et s_ name)))))] [0,1,5,6] [] [5] (Xw v) (λh1=> ?_) (λh1=> ?_) ?_
 ·refine Xx (v.1 !=(0:Y)) (λh2=> ?_) (λh2=> ?_)
  ·refine rN Qa Yo [6] [] (pc 1 (cb h1 (Za v)) (pt 5 h2 (pc 12 (UA s_ name) p0))) ?_;exact zA (by rw[h1,h2]<;>kernel_rfl)
  refine rN Qa Yo [6] [] (pc 1 (cb h1 (Za v)) (pf 5 h2 p0)) ?_;exact zA (by rw[h1,h2]<;>kernel_rfl)
 ·refine rN Qa Yo [6] [] (pc 1 (cb h1 (Za v)) p0) ?_;exact zA (by rw[h1]<;>kernel_rfl)
 exact Qd <| pb [] (show Kj s_ name v=((Xw v)&&((v.1 !=(0:Y))&&(v.1==(Et s_ name)))) from rfl)
def Ue (s_:W Y7) (k0:Q) (a0:Y7) (_:uA):Rd (A) (uA) (uA):=(bif ((!(Xs a0.1))|| ((!(Q0 a0.2 1 2))|| (decide ((k0:Y)>(0:Y))&&(!(Op.bytesLess ((nth s_ ((k0:Y)-1).toNat).1).toList a0.1.toList))))) then (.ret H) else (.next ()))
def H6 (_:Q) (_:uA):uA:=()
def Kz (s_:W Y7):A:=(Out.on (X4 (Ue s_) H6 s_ 0 ()) (λ_=>decide ((s_.length:Y)<=(5:Y))))
theorem Vr (s_:W Y7):ACalls Tryz.prog 175 [.h s_] (.b (Kz s_)):=by
 refine en Qa Tryz.func175 λw0 F0 hG=> ?_
 refine sn Qa [0,2] [] p0 <| Qb <| tn Qa [0,2,3] [] p0 <| mz [(2,.b H),(3,.i 0)] [] [] [] <| wT 0 0 .sh s_ (λhw1 hl2=> ?_)
 refine R2 (Ue s_) H6 s_ () (λk0 _=> [(3,.i (k0:Y))]) [3] (λ_=> []) [3] wf0 (λk0 s0 O U=> ?_) (λk0 s0 O U=> ?_) (λy0 hD0=> ?_)
 ·obtain ⟨a0,V⟩:=Xh (l:=s_) (i:=k0) O;refine Qb <| sn Qa [0,2,3,7] [] (pl 2 s_ (pe 3 (zB ((k0:Y)<(s_.length:Y))) p0)) <| ckT <| Qf <| Qb <| Qo <| Qb <| mz [(7,.b K)] [] [] [] <| jn [(43,.b ((!(Xs a0.1))|| ((!(Q0 a0.2 1 2))|| (decide ((k0:Y)>(0:Y))&&(!(Op.bytesLess ((nth s_ ((k0:Y)-1).toNat).1).toList a0.1.toList))))))] [7] [] [] (!(Xs a0.1)) (λh3=> ?_) (λh3=> ?_) ?_
  ·have h3n:(Xs a0.1)=H:=Vt h3;refine rN Qa Yo [0,2,3,43] [] (pn 2 V (pc 5 (cb h3n (Yh a0.1)) (pe 6 (show .b (!H)= .b K from rfl) p0))) ?_;exact zA (by rw[h3]<;>kernel_rfl)
  ·have h3n:(Xs a0.1)=K:=Zz h3;refine Xx (!(Q0 a0.2 1 2)) (λh4=> ?_) (λh4=> ?_)
   ·have h4n:(Q0 a0.2 1 2)=H:=Vt h4;refine rN Qa Yo [0,2,3,43] [] (pn 2 V (pc 5 (cb h3n (Yh a0.1)) (pe 6 (show .b (!K)= .b H from rfl) (pn 10 V (pc 13 (cb h4n (Ys a0.2 1 2)) (pe 14 (show .b (!H)= .b K from rfl) p0)))))) ?_;exact zA (by rw[h3,h4]<;>kernel_rfl)
   have h4n:(Q0 a0.2 1 2)=K:=Zz h4;have h4nw:=K1.1 h4n;refine Xx (decide ((k0:Y)>(0:Y))) (λh5=> ?_) (λh5=> ?_)
   ·have h5d:=uG h5;have hx6:=ng s_ ((k0:Y)-1).toNat;refine rN Qa Yo [0,2,3,43] [] (pn 2 V (pc 5 (cb h3n (Yh a0.1)) (pe 6 (show .b (!K)= .b H from rfl) (pn 10 V (pc 13 (cb h4n (Ys a0.2 1 2)) (pe 14 (show .b (!K)= .b H from rfl) (pt 18 h5 (pe 22 (Jl (IntWalk.i64_in ((k0:Y)-1) (by omega))) (pg 23 ((k0:Y)-1) hx6 (pn 28 V p0)))))))))) ?_;exact zA (by rw[h3,h4,h5]<;>kernel_rfl)
   refine rN Qa Yo [0,2,3,43] [] (pn 2 V (pc 5 (cb h3n (Yh a0.1)) (pe 6 (show .b (!K)= .b H from rfl) (pn 10 V (pc 13 (cb h4n (Ys a0.2 1 2)) (pe 14 (show .b (!K)= .b H from rfl) (pf 18 h5 p0))))))) ?_;exact zA (by rw[h3,h4,h5]<;>kernel_rfl)
  refine ck ((!(Xs a0.1))|| ((!(Q0 a0.2 1 2))|| (decide ((k0:Y)>(0:Y))&&(!(Op.bytesLess ((nth s_ ((k0:Y)-1).toNat).1).toList a0.1.toList))))) (λh7=> ?_) (λh7=> ?_)
  ·refine sn Qa [0,2,3] [] p0 <| Qd ?_
   have hr8:(X4 (Ue s_) H6 s_ 0 ())= .ret H:=Ka V (Q9 h7 (rfl)) U;exact pb [] (On hr8)
  have h7r:(((!(Q0 a0.2 1 2))|| (decide ((k0:Y)>(0:Y))&&(!(Op.bytesLess ((nth s_ ((k0:Y)-1).toNat).1).toList a0.1.toList)))))=H:=WL h7;have h7rl:((!(Q0 a0.2 1 2)))=H:=JL h7r;have h7rln:(Q0 a0.2 1 2)=K:=Zz h7rl;have h7rlnw:=K1.1 h7rln;refine Qf <| rn Qa [0,2,3] [] (pe 1 (Jl (Qn k0 (by omega))) p0) ?_
  exact xw _ (Qs V (Qj h7 (rfl)) U)
 ·exact Qb <| sn Qa [0,2,3,7] [] (pl 2 s_ (pe 3 (zC ((k0:Y)<(s_.length:Y))) p0)) <| ckF <| Q4 <| xw _ (Xj O (rfl) U)
 exact sn Qa [2] [] (pl 1 s_ p0) <| Qd <| pb [] (Vp hD0 (rfl))
def Hk (s_:W Y7) (f:Yj) (k0:Q) (a0:Ui) (_:uA):Rd (A) (uA) (uA):=(bif ((!(Kj s_ a0.1 a0.2))|| (decide ((k0:Y)>(0:Y))&&(!(Op.bytesLess ((nth f.2.2.2.2 ((k0:Y)-1).toNat).1).toList a0.1.toList)))) then (.ret H) else (.next ()))
def Ba (_:Q) (_:uA):uA:=()
def Vy (s_:W Y7) (f:Yj):A:=(Out.on (X4 (Hk s_ f) Ba f.2.2.2.2 0 ()) (λ_=>((Kz s_)&&((Q0 f.1 1 60)&&((Q0 f.2.1 0 2)&&(Q0 f.2.2.2.1 0 60))))))
theorem Ci (s_:W Y7) (f:Yj):ACalls Tryz.prog 174 [.h s_,.a [.i f.1,.i f.2.1,.b f.2.2.1,.i f.2.2.2.1,.h f.2.2.2.2]] (.b (Vy s_ f)):=by
 refine en Qa Tryz.func174 λw0 F0 hG=> ?_
 refine sn Qa [0,3,4] [3] p0 <| Qb <| tn Qa [0,3,4,5] [3] p0 <| mz [(3,.p 3 0),(4,.b H),(5,.i 0)] [1] [(3, [.i f.1,.i f.2.1,.b f.2.2.1,.i f.2.2.2.1,.h f.2.2.2.2])] [] <| wB 3 4 .sh f.2.2.2.2 (λhw1 hl2=> ?_)
 refine R2 (Hk s_ f) Ba f.2.2.2.2 () (λk0 _=> [(5,.i (k0:Y))]) [5] (λ_=> []) [5] wf0 (λk0 s0 O U=> ?_) (λk0 s0 O U=> ?_) (λy0 hD0=> ?_)
 ·obtain ⟨a0,V⟩:=Xh (l:=f.2.2.2.2) (i:=k0) O;refine Qb <| sn Qa [0,3,4,5,10] [3] (pl 3 f.2.2.2.2 (pe 4 (zB ((k0:Y)<(f.2.2.2.2.length:Y))) p0)) <| ckT <| Qf <| Qb <| Qo <| Qb <| mz [(10,.b K)] [] [] [] <| jn [(47,.b ((!(Kj s_ a0.1 a0.2))|| (decide ((k0:Y)>(0:Y))&&(!(Op.bytesLess ((nth f.2.2.2.2 ((k0:Y)-1).toNat).1).toList a0.1.toList)))))] [10] [] [] (!(Kj s_ a0.1 a0.2)) (λh3=> ?_) (λh3=> ?_) ?_
  ·have h3n:(Kj s_ a0.1 a0.2)=H:=Vt h3;refine rN Qa Yo [0,3,4,5,47] [3] (pn 4 V (pn 10 V (pc 13 (cb h3n (Ds s_ a0.1 a0.2)) (pe 14 (show .b (!H)= .b K from rfl) p0)))) ?_;exact zA (by rw[h3]<;>kernel_rfl)
  ·have h3n:(Kj s_ a0.1 a0.2)=K:=Zz h3;refine Xx (decide ((k0:Y)>(0:Y))) (λh4=> ?_) (λh4=> ?_)
   ·have h4d:=uG h4;have hx5:=ng f.2.2.2.2 ((k0:Y)-1).toNat;refine rN Qa Yo [0,3,4,5,47] [3] (pn 4 V (pn 10 V (pc 13 (cb h3n (Ds s_ a0.1 a0.2)) (pe 14 (show .b (!K)= .b H from rfl) (pt 17 h4 (pe 22 (Jl (IntWalk.i64_in ((k0:Y)-1) (by omega))) (pg 23 ((k0:Y)-1) hx5 (pn 29 V p0)))))))) ?_;exact zA (by rw[h3,h4]<;>kernel_rfl)
   refine rN Qa Yo [0,3,4,5,47] [3] (pn 4 V (pn 10 V (pc 13 (cb h3n (Ds s_ a0.1 a0.2)) (pe 14 (show .b (!K)= .b H from rfl) (pf 17 h4 p0))))) ?_;exact zA (by rw[h3,h4]<;>kernel_rfl)
  refine ck ((!(Kj s_ a0.1 a0.2))|| (decide ((k0:Y)>(0:Y))&&(!(Op.bytesLess ((nth f.2.2.2.2 ((k0:Y)-1).toNat).1).toList a0.1.toList)))) (λh6=> ?_) (λh6=> ?_)
  ·refine su Qa [] [47] [] [] p0 <| Qd ?_
   have hr7:(X4 (Hk s_ f) Ba f.2.2.2.2 0 ())= .ret H:=Ka V (Q9 h6 (rfl)) U;exact pb [] (On hr7)
  refine Qf <| rn Qa [0,3,4,5] [3] (pe 1 (Jl (Qn k0 (by omega))) p0) ?_
  exact xw _ (Qs V (Qj h6 (rfl)) U)
 ·exact Qb <| sn Qa [0,3,4,5,10] [3] (pl 3 f.2.2.2.2 (pe 4 (zC ((k0:Y)<(f.2.2.2.2.length:Y))) p0)) <| ckF <| Q4 <| xw _ (Xj O (rfl) U)
 refine Qb <| jn [(4,.b ((Kz s_)&&((Q0 f.1 1 60)&&((Q0 f.2.1 0 2)&&(Q0 f.2.2.2.1 0 60)))))] [0,3,4] [] [3] (Kz s_) (λh8=> ?_) (λh8=> ?_) ?_
 ·refine Xx (Q0 f.1 1 60) (λh9=> ?_) (λh9=> ?_)
  ·have h9w:=K1.1 h9;refine Xx (Q0 f.2.1 0 2) (λh10=> ?_) (λh10=> ?_)
   ·have h10w:=K1.1 h10;refine rn Qa [4] [] (pc 1 (cb h8 (Vr s_)) (pc 5 (cb h9 (Ys f.1 1 60)) (pc 10 (cb h10 (Ys f.2.1 0 2)) (pc 15 (Ys f.2.2.2.1 0 60) p0)))) ?_;exact zA (by rw[h8,h9,h10]<;>kernel_rfl)
   refine rn Qa [4] [] (pc 1 (cb h8 (Vr s_)) (pc 5 (cb h9 (Ys f.1 1 60)) (pc 10 (cb h10 (Ys f.2.1 0 2)) p0))) ?_;exact zA (by rw[h8,h9,h10]<;>kernel_rfl)
  refine rn Qa [4] [] (pc 1 (cb h8 (Vr s_)) (pc 5 (cb h9 (Ys f.1 1 60)) p0)) ?_;exact zA (by rw[h8,h9]<;>kernel_rfl)
 ·refine rn Qa [4] [] (pc 1 (cb h8 (Vr s_)) p0) ?_;exact zA (by rw[h8]<;>kernel_rfl)
 exact Qd <| pb [] (Vp hD0 (rfl))
def U2 (s_:Yk) (k0:Q) (a0:Yj) (_:uA):Rd (A) (uA) (uA):=(bif ((!(Vy s_.1 a0))|| (decide (a0.1>=s_.2.2)|| (decide ((k0:Y)>(0:Y))&&decide ((nth s_.2.1 ((k0:Y)-1).toNat).1>=a0.1)))) then (.ret H) else (.next ()))
def Am (_:Q) (_:uA):uA:=()
def Z4 (s_:Yk):A:=(Out.on (X4 (U2 s_) Am s_.2.1 0 ()) (λ_=>((Kz s_.1)&&(decide ((s_.2.1.length:Y)<=(12:Y))&&(Q0 s_.2.2 1 61)))))
theorem Bb (s_:Yk):ACalls Tryz.prog 127 [.a [.h s_.1,.h s_.2.1,.i s_.2.2]] (.b (Z4 s_)):=by
 refine en Qa Tryz.func127 λw0 F0 hG=> ?_
 refine sn Qa [1,2] [1] p0 <| Qb <| tn Qa [1,2,3] [1] p0 <| mz [(1,.p 1 0),(2,.b H),(3,.i 0)] [0] [(1, [.h s_.1,.h s_.2.1,.i s_.2.2])] [] <| wB 1 1 .sh s_.2.1 (λhw1 hl2=> ?_)
 refine R2 (U2 s_) Am s_.2.1 () (λk0 _=> [(3,.i (k0:Y))]) [3] (λ_=> []) [3] wf0 (λk0 s0 O U=> ?_) (λk0 s0 O U=> ?_) (λy0 hD0=> ?_)
 ·obtain ⟨a0,V⟩:=Xh (l:=s_.2.1) (i:=k0) O;refine Qb <| sn Qa [1,2,3,8] [1] (pl 3 s_.2.1 (pe 4 (zB ((k0:Y)<(s_.2.1.length:Y))) p0)) <| ckT <| Qf <| Qb <| Qo <| Qb <| mz [(8,.b K)] [] [] [] <| jn [(50,.b ((!(Vy s_.1 a0))|| (decide (a0.1>=s_.2.2)|| (decide ((k0:Y)>(0:Y))&&decide ((nth s_.2.1 ((k0:Y)-1).toNat).1>=a0.1)))))] [8] [] [] (!(Vy s_.1 a0)) (λh3=> ?_) (λh3=> ?_) ?_
  ·have h3n:(Vy s_.1 a0)=H:=Vt h3;refine rN Qa Yo [1,2,3,50] [1] (pn 5 V (pc 7 (cb h3n (Ci s_.1 a0)) (pe 8 (show .b (!H)= .b K from rfl) p0))) ?_;exact zA (by rw[h3]<;>kernel_rfl)
  ·have h3n:(Vy s_.1 a0)=K:=Zz h3;refine Xx (decide (a0.1>=s_.2.2)) (λh4=> ?_) (λh4=> ?_)
   ·refine rN Qa Yo [1,2,3,50] [1] (pn 5 V (pc 7 (cb h3n (Ci s_.1 a0)) (pe 8 (show .b (!K)= .b H from rfl) (pn 13 V (pt 18 h4 p0))))) ?_;exact zA (by rw[h3,h4]<;>kernel_rfl)
   have h4d:=uR h4;refine Xx (decide ((k0:Y)>(0:Y))) (λh5=> ?_) (λh5=> ?_)
   ·have h5d:=uG h5;have hx6:=ng s_.2.1 ((k0:Y)-1).toNat;refine rN Qa Yo [1,2,3,50] [1] (pn 5 V (pc 7 (cb h3n (Ci s_.1 a0)) (pe 8 (show .b (!K)= .b H from rfl) (pn 13 V (pf 18 h4 (pt 22 h5 (pe 27 (Jl (IntWalk.i64_in ((k0:Y)-1) (by omega))) (pg 28 ((k0:Y)-1) hx6 (pn 34 V p0))))))))) ?_;exact zA (by rw[h3,h4,h5]<;>kernel_rfl)
   refine rN Qa Yo [1,2,3,50] [1] (pn 5 V (pc 7 (cb h3n (Ci s_.1 a0)) (pe 8 (show .b (!K)= .b H from rfl) (pn 13 V (pf 18 h4 (pf 22 h5 p0)))))) ?_;exact zA (by rw[h3,h4,h5]<;>kernel_rfl)
  refine ck ((!(Vy s_.1 a0))|| (decide (a0.1>=s_.2.2)|| (decide ((k0:Y)>(0:Y))&&decide ((nth s_.2.1 ((k0:Y)-1).toNat).1>=a0.1)))) (λh7=> ?_) (λh7=> ?_)
  ·refine su Qa [] [50] [] [] p0 <| Qd ?_
   have hr8:(X4 (U2 s_) Am s_.2.1 0 ())= .ret H:=Ka V (Q9 h7 (rfl)) U;exact pb [] (On hr8)
  have h7r:((decide (a0.1>=s_.2.2)|| (decide ((k0:Y)>(0:Y))&&decide ((nth s_.2.1 ((k0:Y)-1).toNat).1>=a0.1))))=H:=WL h7;have h7rl:(decide (a0.1>=s_.2.2))=H:=JL h7r;have h7rld:=uR h7rl;refine Qf <| rn Qa [1,2,3] [1] (pe 1 (Jl (Qn k0 (by omega))) p0) ?_
  exact xw _ (Qs V (Qj h7 (rfl)) U)
 ·exact Qb <| sn Qa [1,2,3,8] [1] (pl 3 s_.2.1 (pe 4 (zC ((k0:Y)<(s_.2.1.length:Y))) p0)) <| ckF <| Q4 <| xw _ (Xj O (rfl) U)
 refine Qb <| jn [(2,.b ((Kz s_.1)&&(decide ((s_.2.1.length:Y)<=(12:Y))&&(Q0 s_.2.2 1 61))))] [1,2] [] [1] (Kz s_.1) (λh9=> ?_) (λh9=> ?_) ?_
 ·refine Xx (decide ((s_.2.1.length:Y)<=(12:Y))) (λh10=> ?_) (λh10=> ?_)
  ·refine rn Qa [2] [] (pc 2 (cb h9 (Vr s_.1)) (pl 6 s_.2.1 (pt 7 h10 (pc 12 (Ys s_.2.2 1 61) p0)))) ?_;exact zA (by rw[h9,h10]<;>kernel_rfl)
  refine rn Qa [2] [] (pc 2 (cb h9 (Vr s_.1)) (pl 6 s_.2.1 (pf 7 h10 p0))) ?_;exact zA (by rw[h9,h10]<;>kernel_rfl)
 ·refine rn Qa [2] [] (pc 2 (cb h9 (Vr s_.1)) p0) ?_;exact zA (by rw[h9]<;>kernel_rfl)
 exact Qd <| pb [] (Vp hD0 (rfl))
theorem Qmn (s:W Y7) (n:B):Et s n=Ak s n:=rfl
theorem AE (s:W Y7) (n:B) (v:K4):Kj s n v=Ja s n v:=by
 unfold Kj Ja;rw[Qek,Qmn]
theorem LH (s:W Y7):Kz s=Jr s:=by
 unfold Kz Jr
 rw [Nf (f:=Ue s) (g:=Ud s) (e:=H6) (e':=H5) (λk a u=>by
  unfold Ue Ud;rw[KF]
  have h:(!(Q0 a.2 1 2))=((a.2 !=1)&&(a.2 !=2)):=by
   unfold Q0;rw[yO];simp;omega
  rw[h];generalize (!(Op.bytesLess ((nth s (zJ (((k:Q):Y)-1))).1).toList a.1.toList))=x;cases Xs a.1<;>cases (a.2 !=(1:Y))<;>cases (a.2 !=(2:Y))<;>cases decide (((k:Q):Y)>(0:Y))<;>cases x<;>rfl) (λ_ _=>rfl)]
theorem Qmo (s:W Y7) (f:Yj):Vy s f=Jf s f:=by
 unfold Vy Jf
 rw[Nf (f:=Hk s f) (g:=K7 s f) (e:=Ba) (e':=Wx) (λk a u=>by
  unfold Hk K7;rw[AE];generalize (!(Op.bytesLess ((nth f.2.2.2.2 (zJ (((k:Q):Y)-1))).1).toList a.1.toList))=x;cases Ja s a.1 a.2<;>cases decide (((k:Q):Y)>(0:Y))<;>cases x<;>rfl) (λ_ _=>rfl),LH]
 congr 1
 funext y
 unfold V5;simp only[←WM];cases Jr s<;>cases Xo f.1 1 60<;>cases Xo f.2.1 0 2<;>cases Xo f.2.2.2.1 0 60<;>rfl
theorem EF (s:Yk):Z4 s=Xk s:=by
 unfold Z4 Xk
 rw[Nf (f:=U2 s) (g:=Zw s) (e:=Am) (e':=Kw) (λk a u=>by
  unfold U2 Zw;rw[Qmo]) (λ_ _=>rfl),LH]
 rfl
theorem EG {n:B} (h:Q1 n=K):n.size=1:=by
 unfold Q1 at h;simp only[yM,uT] at h;omega
theorem Qou {n:B} (h:Xs n=K):n.size=1:=EG ((KF n).trans h)
theorem YO {s:Y} {c:Y} (h0:0<=s) (h1:s<=65520) (c0:0<=c) (c1:c<=255):0<=xK (IntKind.i64.wrap (IntKind.i64.wrap (33*s)+IntKind.i64.wrap c)) 65521/\xK (IntKind.i64.wrap (IntKind.i64.wrap (33*s)+IntKind.i64.wrap c)) 65521<=65520:=by
 rw[IntWalk.i64_in (33*s) (by omega),IntWalk.i64_in c (by omega),IntWalk.i64_in (33*s+c) (by omega)];rw[Int.tmod_eq_emod_of_nonneg (by omega)];omega
theorem PK {s:Y} {c:Y} (h0:0<=s) (h1:s<=65520) (c0:0<=c) (c1:c<=255):0<=xK (IntKind.i64.wrap (IntKind.i64.wrap (s*33)+IntKind.i64.wrap c)) 65521/\xK (IntKind.i64.wrap (IntKind.i64.wrap (s*33)+IntKind.i64.wrap c)) 65521<=65520:=by
 rw[Int.mul_comm s 33];exact YO h0 h1 c0 c1
theorem QD (s:B) (i:Y):0<=Z9 s i/\Z9 s i<=255:=by
 unfold Z9;have:=(s.data.toList.getD i.toNat 0).toNat_lt;omega
open GoD (rd own)
def inR (n lo hi:Y):A:=decide (lo<=n)&&decide (n<=hi)
theorem KM {n lo hi:Y} (h1:lo<=n) (h2:n<=hi):inR n lo hi=K:=by simp[inR,h1,h2]
theorem Qov {n lo hi:Y} (h:¬lo<=n):inR n lo hi=H:=by simp[inR,h]
theorem Qow {n lo hi:Y} (h:¬n<=hi):inR n lo hi=H:=by simp[inR,h]
theorem Qis (w:uB) (n lo hi:Y):Calls Tryz.prog 200 #[.int .i64 n,.int .i64 lo,.int .i64 hi] w (Ret w (.bool (inR n lo hi))):=by
 by_cases h1:lo<=n
 . by_cases h2:n<=hi
   . rw[KM h1 h2];go_enter Tryz.func200,Tryz.ntmps200
     go_wp2
     go_ret
     exact ⟨rfl,Below.refl _ _⟩
   rw[Qow h2];go_enter Tryz.func200,Tryz.ntmps200
   go_wp2
   go_ret
   exact ⟨rfl,Below.refl _ _⟩
 rw[Qov h1];go_enter Tryz.func200,Tryz.ntmps200
 go_wp2
 go_ret
 exact ⟨rfl,Below.refl _ _⟩
theorem EH (w:uB) (n lo hi:Y) (r:A) (h:inR n lo hi=r):Calls Tryz.prog 200 #[.int .i64 n,.int .i64 lo,.int .i64 hi] w (Ret w (.bool r)):=h▸Qis w n lo hi
end
section
open Go.RowKit
open GoD (rd own)
theorem Qit (w:uB) (k:Q) (os:uL Obj):Below w.heap.size w (Go.Sort.grow (w.drewN k) os):=
 ⟨rfl,rfl,rfl,by rw[Go.Sort.size_grow];exact Nat.le_add_right _ _,λj hj=>by
  unfold Go.Sort.grow;rw[yL,uE (by exact hj)];rfl⟩
theorem Qiu (w:uB) (d:Q) (hd:d<10):Calls Tryz.prog 130 #[.int .i64 d] w (Ret w (.int .u8 (48+(d:Y)))):=by
 have h1:(d:Y)<10:=by omega
 have h2:IntKind.i64.wrap (48+(d:Y))=48+(d:Y):=by rw[IntKind.wrap_i64];omega
 go_enter Tryz.func130,Tryz.ntmps130
 go_wp2
 go_ret
 exact ⟨rfl,Below.refl _ _⟩
def tabOk (w : World) : Prop := Lib.TabIs Tryz.prog w "internal/strconv.uint64pow10" .u64 Lib.pow10Tab
theorem Qql : Tryz.prog.globalNamed "internal/strconv.uint64pow10" = some 0 := by kernel_rfl
theorem tabOk.keep {w w':uB} (h:tabOk w) (hb:Below w.heap.size w w'):tabOk w':=Go.Joins.tab_stays Qql h hb (Nat.le_refl _)
def Qz (n:Y):B:=⟨(Lib.itoa n).toArray⟩
theorem I1 (w:uB) (n:Y) (hn:I64 n) (ht:tabOk w):Calls Tryz.prog 101 #[.int .i64 n] w (Ret w (.string (Qz n))):=by
 have hcon:=Sh.strconv_Itoa n hn.1 hn.2 w ht;rw[show (⟨(Lib.itoa n).toArray⟩:B)=Qz n from rfl] at hcon;generalize Qz n=s at*;clear ht hn;go_enter Tryz.func101,Tryz.ntmps101
 go_wp2_with (go_at_call 151;refine hcon.mono ?_;rintro e w' ⟨rfl,k,os,rfl⟩;have hb:=Qit w k os;generalize Go.Sort.grow (w.drewN k) os=w9 at*)
 go_ret
 exact ⟨rfl,hb⟩
theorem PM:∀(k u:Q),u<10^(k+1)->(Lib.decDigits u).length<=k+1
 | 0,u,h=>by rw[Lib.decDigits,dif_pos (by simpa using h)];simp
 | k+1,u,h=>by
   rw[Lib.decDigits];split
   . simp
   have:=PM k (u / 10) (by rw[Nat.pow_succ] at h;omega);simp only[yR,xD];omega
theorem LI {n:Y} (h:inR n 0 1000000000=K):(Qz n).size<=10:=by
 unfold inR at h;simp only[yM,uO] at h;have h1:=PM 9 n.toNat (by omega);unfold Qz Lib.itoa;rw[uF (by omega)];show (Lib.decDigits n.toNat).toArray.size<=10;simp only[zX];omega
theorem KN {n:Q} (h:¬n<10):Lib.decDigits n=Lib.decDigits (n / 10)++ [zQ (48+n % 10)]:=by rw[Lib.decDigits,dif_neg h]
theorem Po {n:Q} (h:n<10):Lib.decDigits n= [zQ (48+n)]:=by rw[Lib.decDigits,dif_pos h]
def S9 (n:Q):W uC:=if n=0 then [] else Lib.decDigits n
theorem Qe7 {n:Q} (h:n≠0) (t:W uC):S9 (n / 10)++(zQ (48+n % 10)::t)=S9 n++t:=by
 unfold S9;rw[uF h];by_cases h10:n<10
 . rw[uE (by omega),Po h10,show n % 10=n by omega];rfl
 rw[uF (by omega),KN h10];simp
theorem Qiv (d:Q) (hd:d<10) (s:B):(⟨#[zQ (48+d)]⟩:B)++s=⟨(zQ (48+d)::s.data.toList).toArray⟩:=by
 apply ByteArray.ext;rw[ByteArray.data_append];apply Array.toList_inj.1;simp
set_option maxRecDepth 20000 in
theorem UB (w:uB) (n:Y) (hn:I64 n) (hr:inR n 0 1000000000=K):Calls Tryz.prog 81 #[.int .i64 n] w (Ret w (.string (Qz n))):=by
 unfold inR at hr;simp only[yM,uO] at hr;obtain ⟨m,rfl⟩:∃m:Q,n=m:=⟨n.toNat,by omega⟩;have hm:m<2000000000:=by omega
 clear hr hn
 have hnum:Qz (m:Y)=⟨(Lib.decDigits m).toArray⟩:=by
  unfold Qz Lib.itoa;rw[uF (by omega)];rfl
 generalize Qz (m:Y)=res at*;have HRES:=Lib.hid hnum;clear hnum;by_cases h0:m=0
 . subst h0;have hr:res=⟨#[48]⟩:=by rw[HRES.out,Po (by omega)];rfl
   subst hr;clear HRES;go_enter Tryz.func81,Tryz.ntmps81
   go_wp2
   go_ret
   exact ⟨rfl,Below.refl _ _⟩
 have hm0:¬((m:Y)=0):=by omega
 have hm1:¬((m:Y)<0):=by omega
 go_enter Tryz.func81,Tryz.ntmps81
 go_wp2
 go_loopw [0,4] (λi s wr=>∃(k:Q) (t:B),k<2000000000/\i= .int .i64 k/\s= .string t/\t.size<=2000000000-k/\Below w.heap.size w wr/\Hid (S9 k++t.data.toList=Lib.decDigits m)) (λi _ _=>(intOf i).toNat)
 case atStart=>exact ⟨m,⟨#[]⟩,hm,rfl,rfl,by simp[ByteArray.size],Below.refl _ _,Lib.hid (by unfold S9;rw[uF h0];simp)⟩
 case round=>
  obtain ⟨k,t,hk,rfl,rfl,hts,hB,hd⟩:=hrel;by_cases O:k=0
  . subst O
    have hrt:res=t:=by
     have h1:=hd.out;unfold S9 at h1;rw[uE rfl,List.nil_append] at h1;rw[HRES.out,←h1]
    subst hrt;clear HRES hd;go_wp2
    go_ret
    exact ⟨rfl,hB⟩
  have hk1:¬((k:Y)=0):=by omega
  have hd10:k % 10<10:=Nat.mod_lt _ (by decide);have hd0:¬((k:Y) % 10<0):=by omega
  have hcv:∀g:uB,(convert 195 9 (.slice (J ⟨g.heap.size,0,uD⟩) 1 1)).run Tryz.prog (g.alloc (.cells #[.int .u8 (48+(k:Y) % 10)] 5))= .ok (.string ⟨#[zQ (48+k % 10)]⟩) (g.alloc (.cells #[.int .u8 (48+(k:Y) % 10)] 5)):=λg=>by
   have h:=Lib.run_convert_whole (P:=Tryz.prog) (g.alloc (.cells #[.int .u8 (48+(k:Y) % 10)] 5)) 195 5 9 Tryz.underlying195 Tryz.underlying5 Tryz.underlying9 g.heap.size 0 ⟨#[zQ (48+k % 10)]⟩ (λi hi=>by
    have hi0:i=0:=by have:i<1:=hi;omega
    subst hi0;have he:(48+(k:Y) % 10)=((zQ (48+k % 10)).toNat:Y):=by rw[UInt8.toNat_ofNat'];omega
    show (g.alloc _).cell? ⟨g.heap.size,0+0,uD⟩=J (.int .u8 ((zQ (48+k % 10)).toNat:Y));rw[←he];simp[go_sem]) 1
   exact h
  go_wp2_with (go_at_call 130;have hfg:=(λw1=>Qiu w1 (k % 10) hd10);rw[show (((k % 10:Q)):Y)=(k:Y) % 10 by omega] at hfg;refine P8 (w:=w) (hfg _) (by go_grown) ?_;clear hfg;intro g1 hG1 hb hz1 hz2;clear hb)
  go_roundw
  case rel=>exact ⟨k / 10,⟨#[zQ (48+k % 10)]⟩++t,by omega,by first | rfl | go_num,by rw[UInt8.ofNat_add];rfl,by rw[ByteArray.size_append];have:(⟨#[zQ (48+k % 10)]⟩:B).size=1:=rfl;omega,by go_grown,Lib.hid (by rw[Qiv _ hd10];show S9 (k / 10)++(zQ (48+k % 10)::t.data.toList)=_;rw[Qe7 O];exact hd.out)⟩
  case measure=>simp[intOf];omega
section
variable {P:uU}
theorem R7 {f:Q} (hok:F9 P f) {n:Y} {s:B} (hs:s.size<=uJ) (h:∀w,Good P w->I64 n->Calls P f #[.int .i64 n] w (Ret w (.string s))):ACalls P f [.i n] (.s s):=by
 refine ⟨hok,λw hg F vals hF hall=> ?_⟩;cases hall with
 | cons h1 h2=>
   cases h2
   obtain ⟨rfl,hi⟩:=h1;refine (h w hg ((So n).1 hi)).mono ?_
   rintro e w' ⟨rfl,hb⟩
   exact ⟨_,λ_=> [],rfl,hb,λ_=>yJ,λk b hm=>by simp at hm,λk k' b hm=>by simp at hm,rfl,hs⟩
end
theorem J4 {n:Y} (h:0<=n/\n<=1000000000):(Qz n).size<=10:=LI (KM h.1 h.2)
theorem U3 (n:Y) (h:0<=n/\n<=1000000000):ACalls Tryz.prog 101 [.i n] (.s (Qz n)):=R7 (by unfold F9;kernel_rfl) (by have:=J4 h;unfold uJ;omega) λw hg hn=>I1 w n hn (hg.tab _ Qql)
theorem Wp (n:Y) (h:0<=n/\n<=1000000000):ACalls Tryz.prog 81 [.i n] (.s (Qz n)):=R7 (by unfold F9;kernel_rfl) (by have:=J4 h;unfold uJ;omega) λw _ hn=>UB w n hn (KM h.1 h.2)
end
section
open Go.RowKit
theorem PN {s c:Y} {k:Q} (h0:0<=s) (h1:s<10^k) (hk:k<=9) (c0:48<=c) (c1:c<=57):
 IntKind.i64.wrap (IntKind.i64.wrap (IntKind.i64.wrap (10*s)+IntKind.i64.wrap c)-48)=10*s+(c-48)/\0<=10*s+(c-48)/\10*s+(c-48)<10^(k+1):=by
 have hp:(10:Y)^k<=10^9:=by exact_mod_cast Nat.pow_le_pow_right (n:=10) (by decide) hk
 have e9:(10:Y)^9=1000000000:=by decide
 have e1:(10:Y)^(k+1)=10*10^k:=by rw[Int.pow_succ];omega
 rw[IntWalk.i64_in (10*s) (by omega),IntWalk.i64_in c (by omega),IntWalk.i64_in (10*s+c) (by omega),IntWalk.i64_in _ (by omega),e1];omega
theorem Qmp {c:Y} (h:0<=c/\c<=255) (hw:Xo (IntKind.i64.wrap c) 32 126=K):32<=c/\c<=126:=by
 rw[IntWalk.i64_in c (by omega)] at hw;exact Ki.1 hw
theorem Qiw {s:B} (h:∀j:Q,j<s.size->Z9 s (j:Y)<=126):∀(j:Q) (b:uC),s.data.toList[j]? =J b->b.toNat<128:=λj b hb=>by
 have hl:=(yG.1 hb).1;have hs:s.data.toList.length=s.size:=yQ;have h1:=h j (by omega);unfold Z9 at h1;rw[zU,List.getD_eq_getElem?_getD,hb] at h1;simp only[Option.getD_some] at h1;omega
def UC (c:uC):W uC->W (W uC)
 | []=> [[]]
 | b::l=>if b=c then []::UC c l else match UC c l with
   | []=> [[b]]
   | p::ps=>(b::p)::ps
theorem UD (c:uC):∀l:W uC,∃p ps,UC c l=p::ps
 | []=>⟨[], [],rfl⟩
 | b::l=>by
   obtain ⟨p,ps,h⟩:=UD c l;simp only[UC,h];split
   . exact ⟨_,_,rfl⟩
   exact ⟨_,_,rfl⟩
theorem CH (c:uC):∀l:W uC,Lib.splitK [c] 0 (l.count c) l=UC c l
 | []=>rfl
 | b ::l=>by
   have ih:=CH c l;by_cases h:b=c
   . subst h;rw[List.count_cons_self];have hix:Lib.index (b::l) [b]=0:=by rw[Lib.index];simp[List.isPrefixOf]
     rw[Lib.splitK,hix,UC,uE rfl,←ih];rfl
   rw[List.count_cons_of_ne (by simpa using h),UC,uF h,←ih];have hp:([c]:W uC).isPrefixOf (b::l)=H:=by simp[List.isPrefixOf,Ne.symm h]
   have hix:Lib.index (b::l) [c]=if Lib.index l [c]== -1 then-1 else Lib.index l [c]+1:=by rw[Lib.index,hp];simp
   cases hk:l.count c with
   | zero=>rfl
   | succ k=>
     have hge:=Lib.index_ge l [c];simp only[Lib.splitK];by_cases hm:Lib.index l [c]= -1
     . rw[hix,hm];rfl
     rw[hix,uF (λe=>hm (uT.1 e))];obtain ⟨j,hj⟩:∃j:Q,Lib.index l [c]=j:=⟨(Lib.index l [c]).toNat,by omega⟩;rw[hj,uF (by simp;omega),uF (by simp)];have e1:((j:Y)+1).toNat=j+1:=by omega
     have e2:((j:Q):Y).toNat=j:=by omega
     simp only[e1,e2,Nat.add_zero,zK,yA];rfl
def Bp (l:W uC):B:=⟨l.toArray⟩
theorem Un (s:B):Bp s.data.toList=s:=by cases s;simp[Bp]
def Qt (c:uC) (s:B):W B:=(UC c s.data.toList).map Bp
theorem LJ (c:uC) (s:B):Lib.splitB ⟨#[c]⟩ 0 (Lib.countB s ⟨#[c]⟩) s=Qt c s:=by
 have h:=Lib.splitB_data ⟨#[c]⟩ 0 (Lib.countB s ⟨#[c]⟩) s;have e:Lib.countB s ⟨#[c]⟩=s.data.toList.count c:=Lib.count_one c s.data.toList;rw[e] at h⊢;rw[show (⟨#[c]⟩:B).data.toList= [c] from rfl,CH] at h;unfold Qt;rw[←h,List.map_map];rw[show (Bp ∘ λx:B=>x.data.toList)=id from funext Un,List.map_id]
theorem TM (c:uC):∀l:W uC,(UC c l).length<=l.length+1/\∀p,p∈UC c l->p.length<=l.length
 | []=>⟨zT _,λp hp=>by rw[zZ.1 hp];exact zT _⟩
 | b ::l=>by
   obtain ⟨h1,h2⟩:=TM c l;obtain ⟨p0,ps,h⟩:=UD c l;simp only[UC];split
   . refine ⟨Nat.succ_le_succ h1,λp hp=> ?_⟩;rcases zO.1 hp with rfl | hp
     . exact yU _
     exact Nat.le_succ_of_le (h2 p hp)
   rw[h] at h1 h2⊢;refine ⟨Nat.le_succ_of_le h1,λp hp=> ?_⟩;rcases zO.1 hp with rfl | hp
   . exact Nat.succ_le_succ (h2 p0 (zM ..))
   exact Nat.le_succ_of_le (h2 p (zH _ hp))
theorem Rm (c:uC) (s:B):(Qt c s).length<=s.size+1/\∀x,x∈Qt c s->x.size<=s.size:=by
 obtain ⟨h1,h2⟩:=TM c s.data.toList;have e:s.data.toList.length=s.size:=yQ;refine ⟨by unfold Qt;rw[zL];omega,λx hx=> ?_⟩;obtain ⟨p,hp,rfl⟩:=zY.1 hx;have:=h2 p hp;show p.toArray.size<=_;rw[zX];omega
def Xl (sep:B) (l:W B):B:=Bp (Lib.join (l.map (·.data.toList)) sep.data.toList)
def Vb (s:B):W B:=(Lib.fields s.data.toList).map Bp
theorem Pp:∀(l cur:W uC),(Lib.fieldsGo cur l).length<=l.length+1/\∀p,p∈Lib.fieldsGo cur l->p.length<=cur.length+l.length
 | [],cur=>by
   unfold Lib.fieldsGo;split
   . exact ⟨yU _,λp hp=>by simp at hp⟩
   exact ⟨zT _,λp hp=>by rw[zZ.1 hp];simp⟩
 | b ::l,cur=>by
   obtain ⟨h1,h2⟩:=Pp l [];obtain ⟨h3,h4⟩:=Pp l (cur++ [b]);simp only[yA,yI,yR,xD] at h2 h4;unfold Lib.fieldsGo;split
   . split
     . exact ⟨by simp only[zK];omega,λp hp=>by have:=h2 p hp;simp only[zK];omega⟩
     refine ⟨by simp only[zK];omega,λp hp=> ?_⟩;rcases zO.1 hp with rfl | hp
     . omega
     have:=h2 p hp;simp only[zK];omega
   exact ⟨by simp only[zK];omega,λp hp=>by have:=h4 p hp;simp only[zK];omega⟩
theorem QE (s:B):(Vb s).length<=s.size+1/\∀x,x∈Vb s->x.size<=s.size:=by
 obtain ⟨h1,h2⟩:=Pp s.data.toList [];have e:s.data.toList.length=s.size:=yQ;refine ⟨by unfold Vb Lib.fields;rw[zL];omega,λx hx=> ?_⟩;obtain ⟨p,hp,rfl⟩:=zY.1 hx;have:=h2 p hp;simp only[yA,yI] at this;show p.toArray.size<=_;rw[zX];omega
section
variable {P:uU}
theorem CI (w:uB) (F:Q->Prop):∀l:W B,(∀x,x∈l->x.size<=uJ)->VR F w 1 (l.map Value.string) (eL l)
 | [],_=> .nil 1
 | a::l,h=>VR.cons (ce:= [.string a]) (.cons (.str (h a (zM ..))) .nil) rfl (CI w F l λx hx=>h x (zH _ hx))
theorem LL {F:Q->Prop} {w:uB} {l:W B} {t:uS} (hn:0<l.length) (hl:l.length<=1073741824) (hs:∀x,x∈l->x.size<=uJ):
 Qhs F w (.o 0 l) (.returned (.slice (J ⟨w.heap.size,0,uD⟩) l.length l.length)) (w.alloc (.cells (l.map Value.string).toArray t)):=by
 have hg:(w.alloc (.cells (l.map Value.string).toArray t)).heap[w.heap.size]? =J (.cells (l.map Value.string).toArray t (0,0)):=Array.getElem?_push_size;have hlt:=Xe hg;refine ⟨_,λk=>if k=0 then [w.heap.size] else [],rfl,(Below.refl _ _).alloc (zT _) _,λk=> ?_,λk b hb=> ?_,λk k' b hb hb'=> ?_, ?_⟩
 . show (if k=0 then _ else _:W Q).Nodup;split<;>simp
 . have hb:b∈(if k=0 then [w.heap.size] else []:W Q):=hb;split at hb
   . obtain rfl:=zZ.1 hb;exact ⟨zT _,hlt⟩
   simp at hb
 . have hb:b∈(if k=0 then [w.heap.size] else []:W Q):=hb;have hb':b∈(if k'=0 then [w.heap.size] else []:W Q):=hb';split at hb<;>split at hb'
   . rename_i e1 e2;rw[e1,e2]
   all_goals simp_all
 show OwnDeep (if 0=0 then [w.heap.size] else []) _ _ 1 (eL l);rw[uE rfl];refine .of ?_ (by simp);have hR:=VR.orr (w':=w.alloc (.cells (l.map Value.string).toArray t)) (CI w F l hs) (Uh l);have hc:uJ>=l.length:=by unfold uJ;omega
 have:=OV.slc (w:=w.alloc (.cells (l.map Value.string).toArray t)) (n:=1) (cap:=l.length) (l:=eL l) (L:= []) hg (by simp) (by rw[Yr,yD,yY (by simp)];exact hR) (by rw[Yr];exact zT _) ⟨hc,by rw[Yr];exact hl⟩
 rwa [Yr] at this
theorem LM {f:Q} (hok:F9 P f) {c:uC} {t:uS} {s:B} (hp:s.size<=1073741000)
 (h:∀w,Good P w->Calls P f #[.string s,.string ⟨#[c]⟩] w λe w'=>e= .returned (.slice (J ⟨w.heap.size,0,uD⟩) (Lib.countB s ⟨#[c]⟩+1) (Lib.countB s ⟨#[c]⟩+1))/\w'=w.alloc (.cells ((Lib.splitB ⟨#[c]⟩ 0 (Lib.countB s ⟨#[c]⟩) s).map Value.string).toArray t)):
 ACalls P f [.s s,.s ⟨#[c]⟩] (.o 0 (Qt c s)):=by
 refine ⟨hok,λw hg F vals hF hall=> ?_⟩;cases hall with
 | cons h1 h2=>
   cases h2 with
   | cons h2 h3=>
     cases h3
     obtain ⟨rfl,_⟩:=h1;obtain ⟨rfl,_⟩:=h2;refine (h w hg).mono ?_
     rintro e w' ⟨rfl,rfl⟩
     obtain ⟨g1,g2⟩:=Rm c s;have hlen:Lib.countB s ⟨#[c]⟩+1=(Qt c s).length:=by rw[←LJ,Lib.splitB_all ⟨#[c]⟩ (zT 1) 0 _ s rfl]
     rw[LJ,hlen];exact LL (by rw[←hlen];exact Nat.succ_pos _) (by omega) λx hx=>by have:=g2 x hx;unfold uJ;omega
theorem EI {f:Q} (hok:F9 P f) {t:uS} {s:B} (hp:s.size<=1073741000)
 (h:∀w,Good P w->Calls P f #[.string s] w λe w'=>e= .returned (.slice (J ⟨w.heap.size,0,uD⟩) (Lib.fields s.data.toList).length (Lib.fields s.data.toList).length)/\w'=w.alloc (.cells ((Lib.fields s.data.toList).map λl=>Value.string ⟨l.toArray⟩).toArray t)):
 ACalls P f [.s s] (.o 0 (Vb s)):=by
 refine ⟨hok,λw hg F vals hF hall=> ?_⟩;cases hall with
 | cons h1 h2=>
   cases h2
   obtain ⟨rfl,_⟩:=h1;refine (h w hg).mono ?_
   rintro e w' ⟨rfl,rfl⟩
   obtain ⟨g1,g2⟩:=QE s;have hm:((Lib.fields s.data.toList).map λl=>Value.string ⟨l.toArray⟩)=(Vb s).map Value.string:=by unfold Vb;rw[List.map_map];rfl
   have hlen:(Lib.fields s.data.toList).length=(Vb s).length:=by unfold Vb;rw[zL]
   rw[hm,hlen];by_cases h0:0<(Vb s).length
   . exact LL h0 (by omega) λx hx=>by have:=g2 x hx;unfold uJ;omega
   have hn:Vb s= []:=zP (by omega);rw[hn];refine ⟨_,λ_=> [],rfl,(Below.refl _ _).alloc (zT _) _,λ_=>yJ,λk b hm=>by simp at hm,λk k' b hm=>by simp at hm, ?_⟩;exact ⟨[],.emp _ 1,yJ,(λb hb=>by simp at hb),.inl rfl⟩
theorem TN {X:Q->Prop} {w:uB}:∀{l:W B} {cs:W uK},VR X w 1 cs (eL l)->cs=l.map Value.string
 | [],cs,h=>by
   generalize hr:eL ([]:W B)=r at h;cases h with
   | nil=>rfl
   | cons=>cases hr
 | a :: l,cs,h=>by
   generalize hr:eL (a::l)=r at h;cases h with
   | nil=>cases hr
   | cons h1 h2 h3=>
     rw[WA] at hr;obtain ⟨rfl,rfl⟩: [PV.str a]=_/\eL l=_:=by simpa [GoE.enc] using hr
     have e:=TN h3;cases h1 with
     | cons h4 h5=>
       cases h5
       cases h4 with
       | str=>rw[e];rfl
theorem PO {f:Q} (hok:F9 P f) {sep:B} {l:W B} (hp:(Xl sep l).size<=1073741824)
 (h0:∀w oa cap,Good P w->Calls P f #[.slice oa 0 cap,.string sep] w λe w'=>e= .returned (.string ⟨#[]⟩)/\w'=w)
 (h:∀w bk o c,Good P w->(∀(j:Q) x,l[j]? =J x->w.cell? ⟨bk,o+j,uD⟩=J (.string x))->bk<w.heap.size->l.length<=140737488355328->l.length<=c->(Lib.join (l.map (·.data.toList)) sep.data.toList).length<=140737488355328->Calls P f #[.slice (J ⟨bk,o,uD⟩) l.length c,.string sep] w λe w'=>e= .returned (.string ⟨(Lib.join (l.map (·.data.toList)) sep.data.toList).toArray⟩)/\Below w.heap.size w w'):
 ACalls P f [.h l,.s sep] (.s (Xl sep l)):=by
 refine ⟨hok,λw hg F vals hF hall=> ?_⟩;cases hall with
 | cons h1 h2=>
   cases h2 with
   | cons h2 h3=>
     cases h3
     obtain ⟨rfl,_⟩:=h2;have h1:VV F w _ (.slc 1 (eL l)):=h1;have hsz:(Xl sep l).size<=uJ:=by unfold uJ;omega
     have key:∀{w':uB},Below w.heap.size w w'->Qhs F w (.s (Xl sep l)) (.returned (.string (Xl sep l))) w':=λhb=>⟨_,λ_=> [],rfl,hb,λ_=>yJ,λk b hm=>by simp at hm,λk k' b hm=>by simp at hm,rfl,hsz⟩
     generalize hq:PV.slc 1 (eL l)=q at h1;cases h1 with
     | int | bool | str | any | raw=>cases hq
     | emp oa n hc=>
       have hl:l= []:=by
        have:eL l= []:=(PV.slc.inj hq).2;have:=D zD this;rw[Yr] at this;exact zP this
       subst hl;refine (h0 w oa _ hg).mono ?_
       rintro e w' ⟨rfl,rfl⟩
       exact key (Below.refl _ _)
     | @slc b off cap n cs l1 hb hc hr hle hcap=>
       obtain ⟨rfl,rfl⟩:1=n/\eL l=l1:=PV.slc.inj hq;have e:=TN hr;subst e;rw[Yr] at hle hcap⊢
       refine (h w b off cap hg (λj x hj=>hc j _ (by rw[yV,hj];rfl)) (hF b hb) (by have:=hcap.2;omega) hle (by
        have e:(Xl sep l).size=(Lib.join (l.map (·.data.toList)) sep.data.toList).length:=zX;omega)).mono ?_
       rintro e w' ⟨rfl,hbl⟩
       exact key hbl
end
end
section
open Go.RowKit
theorem Qrd : Tryz.prog.globalNamed "internal/bytealg.MaxLen" = some 1 := by kernel_rfl
theorem Qre : Tryz.prog.globalNamed "strings.asciiSpace" = some 6 := by kernel_rfl
theorem R8 (s:B) (c:uC) (hp:s.size<=1073741000):ACalls Tryz.prog 183 [.s s,.s ⟨#[c]⟩] (.o 0 (Qt c s)):=
 LM (by unfold F9;kernel_rfl) hp λw hg=>by
  obtain ⟨m,hm⟩:=hg.mx _ Qrd;exact Sh.strings_Split s ⟨#[c]⟩ m w (by omega) hm (zT 1)
theorem UE (s:B) (hp:s.size<=1073741000) (ha:∀(j:Q) b,s.data.toList[j]? =J b->b.toNat<128):ACalls Tryz.prog 334 [.s s] (.o 0 (Vb s)):=
 EI (by unfold F9;kernel_rfl) hp λw hg=>Sh.strings_Fields s w (by omega) ha (hg.sp _ Qre)
theorem Uj (l:W B) (sep:B) (hp:(Xl sep l).size<=1073741824):ACalls Tryz.prog 153 [.h l,.s sep] (.s (Xl sep l)):=
 PO (by unfold F9;kernel_rfl) hp (λw oa cap _=>Sh.strings_Join_none oa cap sep w) λw bk o c _ hc hb hN hcap hl=>Sh.strings_Join bk o c l sep w hc hb hN hcap hl
open GoD (rd own)
instance instGoDU8:GoD uC where
 n:=1
 rd _ cs a:=cs= [.int .u8 (a.toNat:Y)]
 own L _ cs a:=L= []/\cs= [.int .u8 (a.toNat:Y)]
 size _:=0
 mark a k:=(a,k+1)
 markT a k:=(a,k)
 rd_len h:=by rw[h];rfl
 rd_same h _:=h
 own_same h _:=h
 own_rd h:=h.2
 own_lt h:=by rw[h.1];simp
 own_nd h:=by rw[h.1];simp
 deq:=inferInstance
 mk_le _ k:=Nat.le_succ k
 mkT_le _ k:=zT k
 lv:=1
 lvm:=0
 mk_bd _ k:=by simp
 mkT_bd _ k:=by simp
theorem Opens.u8 {P:uU} {t:uS} (ht:P.underlying t=J (.int .u8)) (hc:P.cellsOf t=1):Opens P t uC:=by
 refine ⟨hc,Nat.zero_lt_one,λh=> ?_⟩;obtain ⟨n,rfl,_,hw⟩:=DataW.trod_int ht h;simp only[Lit.wf,yM,uO] at hw;have h1:0<=n:=hw.1;have h2:n<=255:=hw.2;refine ⟨zQ n.toNat, ?_⟩;show [Value.int .u8 n]= [Value.int .u8 ((zQ n.toNat).toNat:Y)];have e:((zQ n.toNat).toNat:Y)=n:=by rw[UInt8.toNat_ofNat'];omega
 rw[e]
end
section
open Go.RowKit
open GoD (rd own)
theorem Qkq (a:uC):InR .u8 (a.toNat:Y):=by
 have h:a.toNat<256:=a.toNat_lt;constructor<;>simp[IntKind.min,IntKind.max,IntKind.bits,IntKind.signed]<;>omega
instance instGoEU8:GoE uC where
 enc a:= [.int .u8 (a.toNat:Y)]
 no_any h:=by rw[zZ.1 h];simp
 enc_len _:=rfl
 n_pos:=Nat.zero_lt_one
 wide _:=True
 wide_size _:=trivial
 vc_wide _:=trivial
 rd_vc {w cs a} h _:=by rw[show cs=_ from h];exact .cons (.int (Qkq a)) .nil
 vc_rd h:=by
  cases h with
  | cons h1 h2=>cases h2;cases h1;rfl
 own_oc h _:=by obtain ⟨rfl,h⟩:=h;rw[h];exact OC.cons (L1:= []) (L2:= []) (.int (Qkq _)) .nil
 oc_own h _:=by
  cases h with
  | cons h1 h2=>cases h2;cases h1;exact ⟨rfl,rfl⟩
end
end Go.Proofs.YteleondjndkpbaaGreatDoor
