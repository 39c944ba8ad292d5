/- Texts of this proof, put together by a program: Nga, Ngb, Zd, Sh, Ts, Dpa, Dpb, Dpc, Dpd, Sta, Stb, Stc, Stg, Sth, Std, Ste, Isa, Isb, Ckc, Slb, Ev, Ex, Ey. -/
import Derived.Test.YtnnhlokdfkajnaaGreatP3
import Derived.KernelRfl
import Derived.Sort.EncStr
import Derived.Sort.Grow
import Derived.Lib.SlicesCompact
import Derived.Sort.Walk0
import Derived.Shelf.Small.Bits
import Derived.Shelf.Strconv.Itoa0
import Derived.Shelf.Sort.Plain
import Derived.Shelf.Slices.Turned
import Derived.Shelf.Slices.Equal
import Derived.Ground.Names2Prog
import Derived.Shelf.Slices.Clone
import Derived.Shelf.Slices.CompactS
import Derived.Shelf.Slices.Cells
import Derived.Shelf.Slices.In.SortNone
import Derived.Shelf.Slices.Empties2
import Derived.Ground.SlgnProg
import Derived.Shelf.SlicesE.Equal
import Derived.Shelf.SlicesE.Compact
import Derived.Shelf.SlicesE.Clone
import Derived.Ground.SlgfProg
import Derived.Shelf.SlicesE.IndexFunc
import Derived.Shelf.SlicesE.DeleteFunc
import Derived.Test.YtnnhlokdfkajnaaGreatProg
set_option linter.unusedVariables false
set_option linter.unusedSimpArgs false
namespace Go.Proofs.YtnnhlokdfkajnaaGreat
open _root_.And renaming intro → yN
open _root_.Array renaming getElem?_toList → yA, getElem?_eq_getElem → yX, getElem?_append → xG, getElem?_modify → xH
open _root_.Bool renaming false_eq_true → zY, not_true → yD, true_and → yP, or_eq_true → yR, eq_iff_iff → yU, and_eq_true → xD
open _root_.Classical renaming byContradiction → zS
open _root_.Exists renaming intro → zZ
open _root_.Function renaming comp_def → yH
open _root_.Int renaming toNat → zH, toNat_natCast → zN, le_refl → zR, le_trans → yJ, natCast_add → xF
open _root_.List renaming length → zD, set → zE, replicate → zF, length_set → zG, mem_cons_of_mem → zJ, length_map → zK, length_cons → zL, mem_cons_self → zM, range → zO, mem_cons → zP, take → zQ, getD → zT, pairwise_cons → zU, mem_map → zW, eq_nil_of_length_eq_zero → zX, range' → yB, drop → yC, mem_filter → yF, mem_range → yI, length_pos_of_mem → yK, mem_append_right → yM, filter_cons → yO, range_eq_range' → yQ, length_nil → yT, getD_eq_getElem?_getD → yW, getElem?_eq_some_iff → yY, getElem?_set → xA, getElem_mem → xB, range'_succ → xC, mem_append → xE, length_filter_le → xI, length_mergeSort → xJ, mem_append_left → xK, drop_drop → xL, mem_of_getElem? → xM, mergeSort_perm → xN, getElem_of_mem → xO, sum_cons → xP, map → xQ
open _root_.Nat renaming zero_add → zV, mul_one → yG, le_trans → yV, le_refl → yZ, zero_le → xR
open _root_.Ne renaming symm → xS
open _root_.Option renaming isSome_iff_exists → yE, isSome_map → yL
open _root_.Option.some renaming inj → yS
section
open Go.RowKit
open GoE (enc wide)
def Ja (q:List Yz) (k0:Nat) (s0:List Bool):Rd (List Bool) (List Bool) (List Bool):=(bif ((nth q (dn ((q.length:Int)-1) k0).toNat).1==(5:Int)) then (.next (zE s0 ((nth q (dn ((q.length:Int)-1) k0).toNat).2.1).toNat ((nth s0 (dn ((q.length:Int)-1) k0).toNat)|| ((nth q (dn ((q.length:Int)-1) k0).toNat).1==(5:Int))))) else (bif ((nth q (dn ((q.length:Int)-1) k0).toNat).1==(6:Int)) then (.next (zE (zE s0 ((nth q (dn ((q.length:Int)-1) k0).toNat).2.1).toNat ((nth s0 (dn ((q.length:Int)-1) k0).toNat)|| ((nth q (dn ((q.length:Int)-1) k0).toNat).1==(5:Int)))) ((nth q (dn ((q.length:Int)-1) k0).toNat).2.2.1).toNat ((nth s0 (dn ((q.length:Int)-1) k0).toNat)|| ((nth q (dn ((q.length:Int)-1) k0).toNat).1==(5:Int))))) else (bif ((nth q (dn ((q.length:Int)-1) k0).toNat).1==(7:Int)) then (.next (zE (zE s0 ((nth q (dn ((q.length:Int)-1) k0).toNat).2.1).toNat ((nth s0 (dn ((q.length:Int)-1) k0).toNat)|| ((nth q (dn ((q.length:Int)-1) k0).toNat).1==(5:Int)))) ((nth q (dn ((q.length:Int)-1) k0).toNat).2.2.1).toNat ((nth s0 (dn ((q.length:Int)-1) k0).toNat)|| ((nth q (dn ((q.length:Int)-1) k0).toNat).1==(5:Int))))) else (.next s0))))
def Hz (_:Nat) (s0:List Bool):(List Bool):=s0
def Ym (q:List Yz):(List Bool):=(bif (!(Q8 q)) then [] else (Out.on (U1 (Ja q) Hz (zD q) 0 (zF (q.length:Int).toNat false)) (λy0=>y0)))
theorem QC (q:List Yz):ACalls Tryz.prog 302 [.h q] (.o 0 (Ym q)):=by
 refine en Qa Tryz.func302 λw0 F0 hG=> ?_
 refine sn Qa [0,2] [] p0 <| Qc <| tn Qa [0,2,8] [] (pc 1 (An q) p0) <| ck (!(Q8 q)) (λh1=> ?_) (λh1=> ?_)
 ·refine tu Qa [(2,.e 0)] [] [] [] p0 <| opn [(false,2,0,true,384000,1)] ?_
  exact Qh <| po0 [] (Xm h1 (rfl))
 have h1n:(Q8 q)=true:=Zc h1;refine Qe <| wT 0 0 .sh q (λhw2 hl3=> ?_)
 refine tu Qa [(2,.e 0),(3,.one (.slc (.own true 704) 1 (zF (q.length:Int).toNat [.b false])))] [] [] [] (pl 1 q (px (T2 (lo:=0) (hi:=(q.length:Int)) (n:=1073741824) (⟨by omega,by omega,by omega⟩)) p0)) <| eqn [(3,.o 704 (zF (q.length:Int).toNat false))] [3] [] [] (by rw[show (zF (q.length:Int).toNat [.b false])=(eL (zF (q.length:Int).toNat false)) from Qfy _ false];first | done | kernel_rfl) ?_
 refine Qc <| sn Qa [0,2,3,4] [] (pl 1 q (pe 2 (J6 (IntWalk.i64_in ((q.length:Int)-1) (by omega))) p0)) <| mz [(4,.i ((q.length:Int)-1))] [] [] [] <| Qlu (Ja q) Hz (zD q) (zF (q.length:Int).toNat false) (λk0 s0=> [(3,.o 704 s0),(4,.i (dn ((q.length:Int)-1) k0))]) [3,4] (λy0=> [(3,.o 704 y0)]) [0,3,4] (λ_ s0=>zD s0=(q.length:Int).toNat) (λy0=>zD y0=(q.length:Int).toNat) wf0 (by simp) (λk0 s0 hk0 U=> ?_) (λk0 s0 hk0 U=> ?_) (λy0 hD0=> ?_)
 ·have hA0_0:=U.2;have hdn0:=LW ((q.length:Int)-1) k0;refine Qc <| sn Qa [0,2,3,4,16] [] (pe 1 (zB ((dn ((q.length:Int)-1) k0)>=(0:Int))) p0) <| ckT <| Qe <| Qc <| Qt <| Qc <| mz [(16,.b true)] [] [] [] <| jn [(5,.b ((nth s0 (dn ((q.length:Int)-1) k0).toNat)|| ((nth q (dn ((q.length:Int)-1) k0).toNat).1==(5:Int))))] [16] [] [] (nth s0 (dn ((q.length:Int)-1) k0).toNat) (λh4=> ?_) (λh4=> ?_) ?_
  ·refine wT 3 0 (.own true 704) s0 (λhw6 hl7=> ?_);have hx5:=ng s0 (dn ((q.length:Int)-1) k0).toNat;refine rn Qa [0,2,3,4,5] [] (pG 2 (dn ((q.length:Int)-1) k0) hx5 (pt 3 h4 p0)) ?_;exact zA (by rw[h4]<;>kernel_rfl)
  ·refine wT 3 0 (.own true 704) s0 (λhw9 hl10=> ?_);have hx8:=ng s0 (dn ((q.length:Int)-1) k0).toNat;have hx11:=ng q (dn ((q.length:Int)-1) k0).toNat;refine rn Qa [0,2,3,4,5] [] (pG 2 (dn ((q.length:Int)-1) k0) hx8 (pf 3 h4 (pg 7 (dn ((q.length:Int)-1) k0) hx11 p0))) ?_;exact zA (by rw[h4]<;>kernel_rfl)
  have hx12:=ng q (dn ((q.length:Int)-1) k0).toNat;refine sn Qa [0,2,3,4,5,35] [] (pg 2 (dn ((q.length:Int)-1) k0) hx12 p0) <| Qt <| tn Qa [0,2,3,4,5,35,36] [] p0 <| ck ((nth q (dn ((q.length:Int)-1) k0).toNat).1==(5:Int)) (λh13=> ?_) (λh13=> ?_)
  ·have h13k:=Qh0 h1n (by omega) (by omega) h13;have h13d:=eq_of_beq h13;refine wT 3 0 (.own true 704) s0 (λhw15 hl16=> ?_);have hx14:=ng s0 ((nth q (dn ((q.length:Int)-1) k0).toNat).2.1).toNat;refine qu Qa [(3,.one (.slc (.own true 704) 1 (setRow (eL s0) ((nth q (dn ((q.length:Int)-1) k0).toNat).2.1).toNat 0 [.b ((nth s0 (dn ((q.length:Int)-1) k0).toNat)|| ((nth q (dn ((q.length:Int)-1) k0).toNat).1==(5:Int)))])))] [3,5] [] [] (pg 3 (dn ((q.length:Int)-1) k0) hx12 (pG 7 ((nth q (dn ((q.length:Int)-1) k0).toNat).2.1) hx14 p0)) ?_;refine eqn [(3,.o 704 (zE s0 ((nth q (dn ((q.length:Int)-1) k0).toNat).2.1).toNat ((nth s0 (dn ((q.length:Int)-1) k0).toNat)|| ((nth q (dn ((q.length:Int)-1) k0).toNat).1==(5:Int)))))] [3] [] [] (by rw[Vg (y:=((nth s0 (dn ((q.length:Int)-1) k0).toNat)|| ((nth q (dn ((q.length:Int)-1) k0).toNat).1==(5:Int)))) hx14 rfl]<;>kernel_rfl) ?_;refine rn Qa [0,2,3,4] [] (pe 1 (show .i (IntKind.i64.wrap ((dn ((q.length:Int)-1) k0)-1))= .i (dn ((q.length:Int)-1) (k0+1)) from J6 (show IntKind.i64.wrap ((dn ((q.length:Int)-1) k0)-1)=(dn ((q.length:Int)-1) (k0+1)) from IntWalk.i64_in ((dn ((q.length:Int)-1) k0)-1) (by omega))) p0) ?_;exact xw (zE s0 ((nth q (dn ((q.length:Int)-1) k0).toNat).2.1).toNat ((nth s0 (dn ((q.length:Int)-1) k0).toNat)|| ((nth q (dn ((q.length:Int)-1) k0).toNat).1==(5:Int)))) ⟨Wf hk0 (Xm h13 (rfl)) U.1,(by first|omega|(simp only[zG];omega))⟩
  have h13d:=Z7 h13;refine Qc <| tu Qa [(35,.i ((nth q (dn ((q.length:Int)-1) k0).toNat).1)),(46,.b ((nth q (dn ((q.length:Int)-1) k0).toNat).1==(6:Int)))] [] [] [] p0 <| ck ((nth q (dn ((q.length:Int)-1) k0).toNat).1==(6:Int)) (λh17=> ?_) (λh17=> ?_)
  ·have h17k:=PB h1n (by omega) (by omega) h17;have h17m:=Qh1 h1n (by omega) (by omega) h17;have h17d:=eq_of_beq h17;refine Qe <| ckt h17 ?_
   refine wT 3 0 (.own true 704) s0 (λhw19 hl20=> ?_);have hx18:=ng s0 ((nth q (dn ((q.length:Int)-1) k0).toNat).2.1).toNat;have hx21:(zE s0 ((nth q (dn ((q.length:Int)-1) k0).toNat).2.1).toNat ((nth s0 (dn ((q.length:Int)-1) k0).toNat)|| ((nth q (dn ((q.length:Int)-1) k0).toNat).1==(5:Int))))[((nth q (dn ((q.length:Int)-1) k0).toNat).2.2.1).toNat]? =some (nth (zE s0 ((nth q (dn ((q.length:Int)-1) k0).toNat).2.1).toNat ((nth s0 (dn ((q.length:Int)-1) k0).toNat)|| ((nth q (dn ((q.length:Int)-1) k0).toNat).1==(5:Int)))) ((nth q (dn ((q.length:Int)-1) k0).toNat).2.2.1).toNat):=Hb (by first|omega|(simp only[zG];omega));refine rU Qa Zt [(3,.one (.slc (.own true 704) 1 (setRow (setRow (eL s0) ((nth q (dn ((q.length:Int)-1) k0).toNat).2.1).toNat 0 [.b ((nth s0 (dn ((q.length:Int)-1) k0).toNat)|| ((nth q (dn ((q.length:Int)-1) k0).toNat).1==(5:Int)))]) ((nth q (dn ((q.length:Int)-1) k0).toNat).2.2.1).toNat 0 [.b ((nth s0 (dn ((q.length:Int)-1) k0).toNat)|| ((nth q (dn ((q.length:Int)-1) k0).toNat).1==(5:Int)))])))] [3,5,35,46] [] [] (pg 3 (dn ((q.length:Int)-1) k0) hx12 (pg 9 (dn ((q.length:Int)-1) k0) hx12 (pG 14 ((nth q (dn ((q.length:Int)-1) k0).toNat).2.1) hx18 (pR 16 (l:=(setRow (eL s0) ((nth q (dn ((q.length:Int)-1) k0).toNat).2.1).toNat 0 [.b ((nth s0 (dn ((q.length:Int)-1) k0).toNat)|| ((nth q (dn ((q.length:Int)-1) k0).toNat).1==(5:Int)))])) (j:=((nth q (dn ((q.length:Int)-1) k0).toNat).2.2.1)) (r:= [.b (nth (zE s0 ((nth q (dn ((q.length:Int)-1) k0).toNat).2.1).toNat ((nth s0 (dn ((q.length:Int)-1) k0).toNat)|| ((nth q (dn ((q.length:Int)-1) k0).toNat).1==(5:Int)))) ((nth q (dn ((q.length:Int)-1) k0).toNat).2.2.1).toNat)]) (by rw[Vg (y:=((nth s0 (dn ((q.length:Int)-1) k0).toNat)|| ((nth q (dn ((q.length:Int)-1) k0).toNat).1==(5:Int)))) hx18 rfl];exact SG (by omega) rfl hx21) p0)))) ?_;refine eqn [(3,.o 704 (zE (zE s0 ((nth q (dn ((q.length:Int)-1) k0).toNat).2.1).toNat ((nth s0 (dn ((q.length:Int)-1) k0).toNat)|| ((nth q (dn ((q.length:Int)-1) k0).toNat).1==(5:Int)))) ((nth q (dn ((q.length:Int)-1) k0).toNat).2.2.1).toNat ((nth s0 (dn ((q.length:Int)-1) k0).toNat)|| ((nth q (dn ((q.length:Int)-1) k0).toNat).1==(5:Int)))))] [3] [] [] (by rw[Vg (y:=((nth s0 (dn ((q.length:Int)-1) k0).toNat)|| ((nth q (dn ((q.length:Int)-1) k0).toNat).1==(5:Int)))) hx18 rfl,Vg (y:=((nth s0 (dn ((q.length:Int)-1) k0).toNat)|| ((nth q (dn ((q.length:Int)-1) k0).toNat).1==(5:Int)))) hx21 rfl]<;>kernel_rfl) ?_;refine rn Qa [0,2,3,4] [] (pe 1 (show .i (IntKind.i64.wrap ((dn ((q.length:Int)-1) k0)-1))= .i (dn ((q.length:Int)-1) (k0+1)) from J6 (show IntKind.i64.wrap ((dn ((q.length:Int)-1) k0)-1)=(dn ((q.length:Int)-1) (k0+1)) from IntWalk.i64_in ((dn ((q.length:Int)-1) k0)-1) (by omega))) p0) ?_;exact xw (zE (zE s0 ((nth q (dn ((q.length:Int)-1) k0).toNat).2.1).toNat ((nth s0 (dn ((q.length:Int)-1) k0).toNat)|| ((nth q (dn ((q.length:Int)-1) k0).toNat).1==(5:Int)))) ((nth q (dn ((q.length:Int)-1) k0).toNat).2.2.1).toNat ((nth s0 (dn ((q.length:Int)-1) k0).toNat)|| ((nth q (dn ((q.length:Int)-1) k0).toNat).1==(5:Int)))) ⟨Wf hk0 (Qn h13 (Xm h17 (rfl))) U.1,(by first|omega|(simp only[zG];omega))⟩
  have h17d:=Z7 h17;refine rn Qa [0,2,3,4,5,46] [] p0 ?_;refine ck ((nth q (dn ((q.length:Int)-1) k0).toNat).1==(7:Int)) (λh22=> ?_) (λh22=> ?_)
  ·have h22k:=SS h1n (by omega) (by omega) h22;have h22m:=Qjs h1n (by omega) (by omega) h22;have h22d:=eq_of_beq h22;refine wT 3 0 (.own true 704) s0 (λhw24 hl25=> ?_);have hx23:=ng s0 ((nth q (dn ((q.length:Int)-1) k0).toNat).2.1).toNat;have hx26:(zE s0 ((nth q (dn ((q.length:Int)-1) k0).toNat).2.1).toNat ((nth s0 (dn ((q.length:Int)-1) k0).toNat)|| ((nth q (dn ((q.length:Int)-1) k0).toNat).1==(5:Int))))[((nth q (dn ((q.length:Int)-1) k0).toNat).2.2.1).toNat]? =some (nth (zE s0 ((nth q (dn ((q.length:Int)-1) k0).toNat).2.1).toNat ((nth s0 (dn ((q.length:Int)-1) k0).toNat)|| ((nth q (dn ((q.length:Int)-1) k0).toNat).1==(5:Int)))) ((nth q (dn ((q.length:Int)-1) k0).toNat).2.2.1).toNat):=Hb (by first|omega|(simp only[zG];omega));refine qU Qa Zt [(3,.one (.slc (.own true 704) 1 (setRow (setRow (eL s0) ((nth q (dn ((q.length:Int)-1) k0).toNat).2.1).toNat 0 [.b ((nth s0 (dn ((q.length:Int)-1) k0).toNat)|| ((nth q (dn ((q.length:Int)-1) k0).toNat).1==(5:Int)))]) ((nth q (dn ((q.length:Int)-1) k0).toNat).2.2.1).toNat 0 [.b ((nth s0 (dn ((q.length:Int)-1) k0).toNat)|| ((nth q (dn ((q.length:Int)-1) k0).toNat).1==(5:Int)))])))] [3,5,35,46] [] [] (pg 3 (dn ((q.length:Int)-1) k0) hx12 (pg 9 (dn ((q.length:Int)-1) k0) hx12 (pG 14 ((nth q (dn ((q.length:Int)-1) k0).toNat).2.1) hx23 (pR 16 (l:=(setRow (eL s0) ((nth q (dn ((q.length:Int)-1) k0).toNat).2.1).toNat 0 [.b ((nth s0 (dn ((q.length:Int)-1) k0).toNat)|| ((nth q (dn ((q.length:Int)-1) k0).toNat).1==(5:Int)))])) (j:=((nth q (dn ((q.length:Int)-1) k0).toNat).2.2.1)) (r:= [.b (nth (zE s0 ((nth q (dn ((q.length:Int)-1) k0).toNat).2.1).toNat ((nth s0 (dn ((q.length:Int)-1) k0).toNat)|| ((nth q (dn ((q.length:Int)-1) k0).toNat).1==(5:Int)))) ((nth q (dn ((q.length:Int)-1) k0).toNat).2.2.1).toNat)]) (by rw[Vg (y:=((nth s0 (dn ((q.length:Int)-1) k0).toNat)|| ((nth q (dn ((q.length:Int)-1) k0).toNat).1==(5:Int)))) hx23 rfl];exact SG (by omega) rfl hx26) p0)))) ?_;refine eqn [(3,.o 704 (zE (zE s0 ((nth q (dn ((q.length:Int)-1) k0).toNat).2.1).toNat ((nth s0 (dn ((q.length:Int)-1) k0).toNat)|| ((nth q (dn ((q.length:Int)-1) k0).toNat).1==(5:Int)))) ((nth q (dn ((q.length:Int)-1) k0).toNat).2.2.1).toNat ((nth s0 (dn ((q.length:Int)-1) k0).toNat)|| ((nth q (dn ((q.length:Int)-1) k0).toNat).1==(5:Int)))))] [3] [] [] (by rw[Vg (y:=((nth s0 (dn ((q.length:Int)-1) k0).toNat)|| ((nth q (dn ((q.length:Int)-1) k0).toNat).1==(5:Int)))) hx23 rfl,Vg (y:=((nth s0 (dn ((q.length:Int)-1) k0).toNat)|| ((nth q (dn ((q.length:Int)-1) k0).toNat).1==(5:Int)))) hx26 rfl]<;>kernel_rfl) ?_;refine rn Qa [0,2,3,4] [] (pe 1 (show .i (IntKind.i64.wrap ((dn ((q.length:Int)-1) k0)-1))= .i (dn ((q.length:Int)-1) (k0+1)) from J6 (show IntKind.i64.wrap ((dn ((q.length:Int)-1) k0)-1)=(dn ((q.length:Int)-1) (k0+1)) from IntWalk.i64_in ((dn ((q.length:Int)-1) k0)-1) (by omega))) p0) ?_;exact xw (zE (zE s0 ((nth q (dn ((q.length:Int)-1) k0).toNat).2.1).toNat ((nth s0 (dn ((q.length:Int)-1) k0).toNat)|| ((nth q (dn ((q.length:Int)-1) k0).toNat).1==(5:Int)))) ((nth q (dn ((q.length:Int)-1) k0).toNat).2.2.1).toNat ((nth s0 (dn ((q.length:Int)-1) k0).toNat)|| ((nth q (dn ((q.length:Int)-1) k0).toNat).1==(5:Int)))) ⟨Wf hk0 (Qn h13 (Qn h17 (Xm h22 (rfl)))) U.1,(by first|omega|(simp only[zG];omega))⟩
  have h22d:=Z7 h22;refine Qe <| qn Qa [0,2,3,4] [] (pe 1 (show .i (IntKind.i64.wrap ((dn ((q.length:Int)-1) k0)-1))= .i (dn ((q.length:Int)-1) (k0+1)) from J6 (show IntKind.i64.wrap ((dn ((q.length:Int)-1) k0)-1)=(dn ((q.length:Int)-1) (k0+1)) from IntWalk.i64_in ((dn ((q.length:Int)-1) k0)-1) (by omega))) p0) ?_
  exact xw s0 ⟨Wf hk0 (Qn h13 (Qn h17 (Qn h22 (rfl)))) U.1,(by first|omega|(simp only[zG];omega))⟩
 ·have hA0_0:=U.2;have hdn0:=LW ((q.length:Int)-1) k0;exact Qc <| sn Qa [0,2,3,4,16] [] (pe 1 (zC ((dn ((q.length:Int)-1) k0)>=(0:Int))) p0) <| ckF <| Q9 <| xw s0 ⟨Cx hk0 (rfl) U.1,by first|omega|(simp only[zG];omega)⟩
 have hD0_0:=hD0.2;exact sn Qa [2] [] p0 <| Qh <| po0 [] (Qn h1 (Uc hD0.1 (rfl)))
def H0 (q:List Yz) (k0:Nat) (s0:List Bool):Rd (List Bool) (List Bool) (List Bool):=(bif ((nth q (dn ((q.length:Int)-1) k0).toNat).1==(5:Int)) then (bif (((nth q (dn ((q.length:Int)-1) k0).toNat).1==(6:Int))|| ((nth q (dn ((q.length:Int)-1) k0).toNat).1==(7:Int))) then (.next (zE (zE (zE s0 ((nth q (dn ((q.length:Int)-1) k0).toNat).2.1).toNat true) ((nth q (dn ((q.length:Int)-1) k0).toNat).2.1).toNat (nth (zE s0 ((nth q (dn ((q.length:Int)-1) k0).toNat).2.1).toNat true) (dn ((q.length:Int)-1) k0).toNat)) ((nth q (dn ((q.length:Int)-1) k0).toNat).2.2.1).toNat (nth (zE (zE s0 ((nth q (dn ((q.length:Int)-1) k0).toNat).2.1).toNat true) ((nth q (dn ((q.length:Int)-1) k0).toNat).2.1).toNat (nth (zE s0 ((nth q (dn ((q.length:Int)-1) k0).toNat).2.1).toNat true) (dn ((q.length:Int)-1) k0).toNat)) (dn ((q.length:Int)-1) k0).toNat))) else (.next (zE s0 ((nth q (dn ((q.length:Int)-1) k0).toNat).2.1).toNat true))) else (bif (((nth q (dn ((q.length:Int)-1) k0).toNat).1==(6:Int))|| ((nth q (dn ((q.length:Int)-1) k0).toNat).1==(7:Int))) then (.next (zE (zE s0 ((nth q (dn ((q.length:Int)-1) k0).toNat).2.1).toNat (nth s0 (dn ((q.length:Int)-1) k0).toNat)) ((nth q (dn ((q.length:Int)-1) k0).toNat).2.2.1).toNat (nth (zE s0 ((nth q (dn ((q.length:Int)-1) k0).toNat).2.1).toNat (nth s0 (dn ((q.length:Int)-1) k0).toNat)) (dn ((q.length:Int)-1) k0).toNat))) else (.next s0)))
def Eg (_:Nat) (s0:List Bool):(List Bool):=s0
def Js (q:List Yz):(List Bool):=(bif (!(Zq q)) then [] else (Out.on (U1 (H0 q) Eg (zD q) 0 (zF (q.length:Int).toNat false)) (λy0=>y0)))
theorem QD (q:List Yz):ACalls Tryz.prog 312 [.h q] (.o 0 (Js q)):=by
 refine en Qa Tryz.func312 λw0 F0 hG=> ?_
 refine sn Qa [0,2] [] p0 <| Qc <| tn Qa [0,2,9] [] (pc 1 (Ut q) p0) <| ck (!(Zq q)) (λh1=> ?_) (λh1=> ?_)
 ·exact tu Qa [(2,.one (.slc (.own true 640) 1 []))] [] [] [] p0 <| Qh <| po0 [] (Xm h1 (rfl))
 have h1n:(Zq q)=true:=Zc h1;refine Qe <| wT 0 0 .sh q (λhw2 hl3=> ?_)
 refine tu Qa [(2,.e 0),(3,.one (.slc (.own true 832) 1 (zF (q.length:Int).toNat [.b false])))] [] [] [] (pl 1 q (px (T2 (lo:=0) (hi:=(q.length:Int)) (n:=1073741824) (⟨by omega,by omega,by omega⟩)) p0)) <| eqn [(3,.o 832 (zF (q.length:Int).toNat false))] [3] [] [] (by rw[show (zF (q.length:Int).toNat [.b false])=(eL (zF (q.length:Int).toNat false)) from Qfy _ false];first | done | kernel_rfl) ?_
 refine Qc <| sn Qa [0,2,3,4] [] (pl 1 q (pe 2 (J6 (IntWalk.i64_in ((q.length:Int)-1) (by omega))) p0)) <| mz [(4,.i ((q.length:Int)-1))] [] [] [] <| Qlu (H0 q) Eg (zD q) (zF (q.length:Int).toNat false) (λk0 s0=> [(3,.o 832 s0),(4,.i (dn ((q.length:Int)-1) k0))]) [3,4] (λy0=> [(3,.o 832 y0)]) [0,3,4] (λ_ s0=>zD s0=(q.length:Int).toNat) (λy0=>zD y0=(q.length:Int).toNat) wf0 (by simp) (λk0 s0 hk0 U=> ?_) (λk0 s0 hk0 U=> ?_) (λy0 hD0=> ?_)
 ·have hA0_0:=U.2;have hdn0:=LW ((q.length:Int)-1) k0;refine Qc <| sn Qa [0,2,3,4,18] [] (pe 1 (zB ((dn ((q.length:Int)-1) k0)>=(0:Int))) p0) <| ckT <| Qe <| Qc <| Qt ?_
  have hx4:=ng q (dn ((q.length:Int)-1) k0).toNat;refine tn Qa [0,2,3,4,5] [5] (pg 2 (dn ((q.length:Int)-1) k0) hx4 p0) <| Qc <| mz [(5,.p 5 0)] [] [(5, [.i ((nth q (dn ((q.length:Int)-1) k0).toNat).1),.i ((nth q (dn ((q.length:Int)-1) k0).toNat).2.1),.i ((nth q (dn ((q.length:Int)-1) k0).toNat).2.2.1),.s ((nth q (dn ((q.length:Int)-1) k0).toNat).2.2.2.1),.i ((nth q (dn ((q.length:Int)-1) k0).toNat).2.2.2.2.1),.i ((nth q (dn ((q.length:Int)-1) k0).toNat).2.2.2.2.2.1),.s ((nth q (dn ((q.length:Int)-1) k0).toNat).2.2.2.2.2.2)])] [] <| jn [(6,.b (((nth q (dn ((q.length:Int)-1) k0).toNat).1==(6:Int))|| ((nth q (dn ((q.length:Int)-1) k0).toNat).1==(7:Int))))] [] [] [] ((nth q (dn ((q.length:Int)-1) k0).toNat).1==(6:Int)) (λh5=> ?_) (λh5=> ?_) ?_
  ·have h5k:=PB (S9 h1n) (by omega) (by omega) h5;have h5m:=Qh1 (S9 h1n) (by omega) (by omega) h5;refine rn Qa [0,2,3,4,5,6] [5] (pt 2 h5 p0) ?_;exact zA (by rw[h5]<;>kernel_rfl)
  ·refine rn Qa [0,2,3,4,5,6] [5] (pf 2 h5 p0) ?_;exact zA (by rw[h5]<;>kernel_rfl)
  refine Qc <| sn Qa [0,2,3,4,5,6,35] [5] p0 <| ck ((nth q (dn ((q.length:Int)-1) k0).toNat).1==(5:Int)) (λh6=> ?_) (λh6=> ?_)
  ·have h6k:=Qh0 (S9 h1n) (by omega) (by omega) h6;have h6d:=eq_of_beq h6;refine wT 3 0 (.own true 832) s0 (λhw8 hl9=> ?_);have hx7:=ng s0 ((nth q (dn ((q.length:Int)-1) k0).toNat).2.1).toNat;refine qu Qa [(3,.one (.slc (.own true 832) 1 (setRow (eL s0) ((nth q (dn ((q.length:Int)-1) k0).toNat).2.1).toNat 0 [.b true])))] [3] [] [] (pG 3 ((nth q (dn ((q.length:Int)-1) k0).toNat).2.1) hx7 p0) ?_;refine eqn [(3,.o 832 (zE s0 ((nth q (dn ((q.length:Int)-1) k0).toNat).2.1).toNat true))] [3] [] [] (by rw[Vg (y:=true) hx7 rfl]<;>kernel_rfl) ?_;refine sn Qa [0,2,3,4,5,40] [5] p0 <| ck (((nth q (dn ((q.length:Int)-1) k0).toNat).1==(6:Int))|| ((nth q (dn ((q.length:Int)-1) k0).toNat).1==(7:Int))) (λh10=> ?_) (λh10=> ?_)
   ·have h10k:=Qh2 (S9 h1n) (by omega) (by omega) h10;refine wT 3 0 (.own true 832) (zE s0 ((nth q (dn ((q.length:Int)-1) k0).toNat).2.1).toNat true) (λhw12 hl13=> ?_);have hx11:=ng (zE s0 ((nth q (dn ((q.length:Int)-1) k0).toNat).2.1).toNat true) (dn ((q.length:Int)-1) k0).toNat (by first|omega|(simp only[zG];omega));have hx14:=ng (zE s0 ((nth q (dn ((q.length:Int)-1) k0).toNat).2.1).toNat true) ((nth q (dn ((q.length:Int)-1) k0).toNat).2.1).toNat (by first|omega|(simp only[zG];omega));refine tU Qa Zt [(3,.one (.slc (.own true 832) 1 (setRow (eL (zE s0 ((nth q (dn ((q.length:Int)-1) k0).toNat).2.1).toNat true)) ((nth q (dn ((q.length:Int)-1) k0).toNat).2.1).toNat 0 [.b (nth (zE s0 ((nth q (dn ((q.length:Int)-1) k0).toNat).2.1).toNat true) (dn ((q.length:Int)-1) k0).toNat)])))] [3,6] [] [] (pG 5 (dn ((q.length:Int)-1) k0) hx11 (pG 7 ((nth q (dn ((q.length:Int)-1) k0).toNat).2.1) hx14 p0)) <| eqn [(3,.o 832 (zE (zE s0 ((nth q (dn ((q.length:Int)-1) k0).toNat).2.1).toNat true) ((nth q (dn ((q.length:Int)-1) k0).toNat).2.1).toNat (nth (zE s0 ((nth q (dn ((q.length:Int)-1) k0).toNat).2.1).toNat true) (dn ((q.length:Int)-1) k0).toNat)))] [3] [] [] (by rw[Vg (y:=(nth (zE s0 ((nth q (dn ((q.length:Int)-1) k0).toNat).2.1).toNat true) (dn ((q.length:Int)-1) k0).toNat)) hx14 rfl]<;>kernel_rfl) ?_
    refine wT 3 0 (.own true 832) (zE (zE s0 ((nth q (dn ((q.length:Int)-1) k0).toNat).2.1).toNat true) ((nth q (dn ((q.length:Int)-1) k0).toNat).2.1).toNat (nth (zE s0 ((nth q (dn ((q.length:Int)-1) k0).toNat).2.1).toNat true) (dn ((q.length:Int)-1) k0).toNat)) (λhw16 hl17=> ?_);have hx15:=ng (zE (zE s0 ((nth q (dn ((q.length:Int)-1) k0).toNat).2.1).toNat true) ((nth q (dn ((q.length:Int)-1) k0).toNat).2.1).toNat (nth (zE s0 ((nth q (dn ((q.length:Int)-1) k0).toNat).2.1).toNat true) (dn ((q.length:Int)-1) k0).toNat)) (dn ((q.length:Int)-1) k0).toNat (by first|omega|(simp only[zG];omega));have hx18:=ng (zE (zE s0 ((nth q (dn ((q.length:Int)-1) k0).toNat).2.1).toNat true) ((nth q (dn ((q.length:Int)-1) k0).toNat).2.1).toNat (nth (zE s0 ((nth q (dn ((q.length:Int)-1) k0).toNat).2.1).toNat true) (dn ((q.length:Int)-1) k0).toNat)) ((nth q (dn ((q.length:Int)-1) k0).toNat).2.2.1).toNat (by first|omega|(simp only[zG];omega));refine rU Qa Zt [(3,.one (.slc (.own true 832) 1 (setRow (eL (zE (zE s0 ((nth q (dn ((q.length:Int)-1) k0).toNat).2.1).toNat true) ((nth q (dn ((q.length:Int)-1) k0).toNat).2.1).toNat (nth (zE s0 ((nth q (dn ((q.length:Int)-1) k0).toNat).2.1).toNat true) (dn ((q.length:Int)-1) k0).toNat))) ((nth q (dn ((q.length:Int)-1) k0).toNat).2.2.1).toNat 0 [.b (nth (zE (zE s0 ((nth q (dn ((q.length:Int)-1) k0).toNat).2.1).toNat true) ((nth q (dn ((q.length:Int)-1) k0).toNat).2.1).toNat (nth (zE s0 ((nth q (dn ((q.length:Int)-1) k0).toNat).2.1).toNat true) (dn ((q.length:Int)-1) k0).toNat)) (dn ((q.length:Int)-1) k0).toNat)])))] [3,5] [] [5] (pG 5 (dn ((q.length:Int)-1) k0) hx15 (pG 7 ((nth q (dn ((q.length:Int)-1) k0).toNat).2.2.1) hx18 p0)) ?_;refine eqn [(3,.o 832 (zE (zE (zE s0 ((nth q (dn ((q.length:Int)-1) k0).toNat).2.1).toNat true) ((nth q (dn ((q.length:Int)-1) k0).toNat).2.1).toNat (nth (zE s0 ((nth q (dn ((q.length:Int)-1) k0).toNat).2.1).toNat true) (dn ((q.length:Int)-1) k0).toNat)) ((nth q (dn ((q.length:Int)-1) k0).toNat).2.2.1).toNat (nth (zE (zE s0 ((nth q (dn ((q.length:Int)-1) k0).toNat).2.1).toNat true) ((nth q (dn ((q.length:Int)-1) k0).toNat).2.1).toNat (nth (zE s0 ((nth q (dn ((q.length:Int)-1) k0).toNat).2.1).toNat true) (dn ((q.length:Int)-1) k0).toNat)) (dn ((q.length:Int)-1) k0).toNat)))] [3] [] [] (by rw[Vg (y:=(nth (zE (zE s0 ((nth q (dn ((q.length:Int)-1) k0).toNat).2.1).toNat true) ((nth q (dn ((q.length:Int)-1) k0).toNat).2.1).toNat (nth (zE s0 ((nth q (dn ((q.length:Int)-1) k0).toNat).2.1).toNat true) (dn ((q.length:Int)-1) k0).toNat)) (dn ((q.length:Int)-1) k0).toNat)) hx18 rfl]<;>kernel_rfl) ?_;refine rn Qa [0,2,3,4] [] (pe 1 (show .i (IntKind.i64.wrap ((dn ((q.length:Int)-1) k0)-1))= .i (dn ((q.length:Int)-1) (k0+1)) from J6 (show IntKind.i64.wrap ((dn ((q.length:Int)-1) k0)-1)=(dn ((q.length:Int)-1) (k0+1)) from IntWalk.i64_in ((dn ((q.length:Int)-1) k0)-1) (by omega))) p0) ?_;exact xw (zE (zE (zE s0 ((nth q (dn ((q.length:Int)-1) k0).toNat).2.1).toNat true) ((nth q (dn ((q.length:Int)-1) k0).toNat).2.1).toNat (nth (zE s0 ((nth q (dn ((q.length:Int)-1) k0).toNat).2.1).toNat true) (dn ((q.length:Int)-1) k0).toNat)) ((nth q (dn ((q.length:Int)-1) k0).toNat).2.2.1).toNat (nth (zE (zE s0 ((nth q (dn ((q.length:Int)-1) k0).toNat).2.1).toNat true) ((nth q (dn ((q.length:Int)-1) k0).toNat).2.1).toNat (nth (zE s0 ((nth q (dn ((q.length:Int)-1) k0).toNat).2.1).toNat true) (dn ((q.length:Int)-1) k0).toNat)) (dn ((q.length:Int)-1) k0).toNat)) ⟨Wf hk0 (Xm h6 (Xm h10 (rfl))) U.1,(by first|omega|(simp only[zG];omega))⟩
   have h10l:(((nth q (dn ((q.length:Int)-1) k0).toNat).1==(6:Int)))=false:=Rw h10;have h10ld:=Z7 h10l;have h10r:(((nth q (dn ((q.length:Int)-1) k0).toNat).1==(7:Int)))=false:=Pr h10;have h10rd:=Z7 h10r;refine Qe <| qn Qa [0,2,3,4] [] (pe 1 (show .i (IntKind.i64.wrap ((dn ((q.length:Int)-1) k0)-1))= .i (dn ((q.length:Int)-1) (k0+1)) from J6 (show IntKind.i64.wrap ((dn ((q.length:Int)-1) k0)-1)=(dn ((q.length:Int)-1) (k0+1)) from IntWalk.i64_in ((dn ((q.length:Int)-1) k0)-1) (by omega))) p0) ?_
   exact xw (zE s0 ((nth q (dn ((q.length:Int)-1) k0).toNat).2.1).toNat true) ⟨Wf hk0 (Xm h6 (Qn h10 (rfl))) U.1,(by first|omega|(simp only[zG];omega))⟩
  have h6d:=Z7 h6;refine Qe <| tn Qa [0,2,3,4,5,40] [5] p0 <| ck (((nth q (dn ((q.length:Int)-1) k0).toNat).1==(6:Int))|| ((nth q (dn ((q.length:Int)-1) k0).toNat).1==(7:Int))) (λh19=> ?_) (λh19=> ?_)
  ·have h19k:=Qh2 (S9 h1n) (by omega) (by omega) h19;refine wT 3 0 (.own true 832) s0 (λhw21 hl22=> ?_);have hx20:=ng s0 (dn ((q.length:Int)-1) k0).toNat;have hx23:=ng s0 ((nth q (dn ((q.length:Int)-1) k0).toNat).2.1).toNat;refine tU Qa Zt [(3,.one (.slc (.own true 832) 1 (setRow (eL s0) ((nth q (dn ((q.length:Int)-1) k0).toNat).2.1).toNat 0 [.b (nth s0 (dn ((q.length:Int)-1) k0).toNat)])))] [3,6] [] [] (pG 5 (dn ((q.length:Int)-1) k0) hx20 (pG 7 ((nth q (dn ((q.length:Int)-1) k0).toNat).2.1) hx23 p0)) <| eqn [(3,.o 832 (zE s0 ((nth q (dn ((q.length:Int)-1) k0).toNat).2.1).toNat (nth s0 (dn ((q.length:Int)-1) k0).toNat)))] [3] [] [] (by rw[Vg (y:=(nth s0 (dn ((q.length:Int)-1) k0).toNat)) hx23 rfl]<;>kernel_rfl) ?_
   refine wT 3 0 (.own true 832) (zE s0 ((nth q (dn ((q.length:Int)-1) k0).toNat).2.1).toNat (nth s0 (dn ((q.length:Int)-1) k0).toNat)) (λhw25 hl26=> ?_);have hx24:=ng (zE s0 ((nth q (dn ((q.length:Int)-1) k0).toNat).2.1).toNat (nth s0 (dn ((q.length:Int)-1) k0).toNat)) (dn ((q.length:Int)-1) k0).toNat (by first|omega|(simp only[zG];omega));have hx27:=ng (zE s0 ((nth q (dn ((q.length:Int)-1) k0).toNat).2.1).toNat (nth s0 (dn ((q.length:Int)-1) k0).toNat)) ((nth q (dn ((q.length:Int)-1) k0).toNat).2.2.1).toNat (by first|omega|(simp only[zG];omega));refine rU Qa Zt [(3,.one (.slc (.own true 832) 1 (setRow (eL (zE s0 ((nth q (dn ((q.length:Int)-1) k0).toNat).2.1).toNat (nth s0 (dn ((q.length:Int)-1) k0).toNat))) ((nth q (dn ((q.length:Int)-1) k0).toNat).2.2.1).toNat 0 [.b (nth (zE s0 ((nth q (dn ((q.length:Int)-1) k0).toNat).2.1).toNat (nth s0 (dn ((q.length:Int)-1) k0).toNat)) (dn ((q.length:Int)-1) k0).toNat)])))] [3,5] [] [5] (pG 5 (dn ((q.length:Int)-1) k0) hx24 (pG 7 ((nth q (dn ((q.length:Int)-1) k0).toNat).2.2.1) hx27 p0)) ?_;refine eqn [(3,.o 832 (zE (zE s0 ((nth q (dn ((q.length:Int)-1) k0).toNat).2.1).toNat (nth s0 (dn ((q.length:Int)-1) k0).toNat)) ((nth q (dn ((q.length:Int)-1) k0).toNat).2.2.1).toNat (nth (zE s0 ((nth q (dn ((q.length:Int)-1) k0).toNat).2.1).toNat (nth s0 (dn ((q.length:Int)-1) k0).toNat)) (dn ((q.length:Int)-1) k0).toNat)))] [3] [] [] (by rw[Vg (y:=(nth (zE s0 ((nth q (dn ((q.length:Int)-1) k0).toNat).2.1).toNat (nth s0 (dn ((q.length:Int)-1) k0).toNat)) (dn ((q.length:Int)-1) k0).toNat)) hx27 rfl]<;>kernel_rfl) ?_;refine rn Qa [0,2,3,4] [] (pe 1 (show .i (IntKind.i64.wrap ((dn ((q.length:Int)-1) k0)-1))= .i (dn ((q.length:Int)-1) (k0+1)) from J6 (show IntKind.i64.wrap ((dn ((q.length:Int)-1) k0)-1)=(dn ((q.length:Int)-1) (k0+1)) from IntWalk.i64_in ((dn ((q.length:Int)-1) k0)-1) (by omega))) p0) ?_;exact xw (zE (zE s0 ((nth q (dn ((q.length:Int)-1) k0).toNat).2.1).toNat (nth s0 (dn ((q.length:Int)-1) k0).toNat)) ((nth q (dn ((q.length:Int)-1) k0).toNat).2.2.1).toNat (nth (zE s0 ((nth q (dn ((q.length:Int)-1) k0).toNat).2.1).toNat (nth s0 (dn ((q.length:Int)-1) k0).toNat)) (dn ((q.length:Int)-1) k0).toNat)) ⟨Wf hk0 (Qn h6 (Xm h19 (rfl))) U.1,(by first|omega|(simp only[zG];omega))⟩
  have h19l:(((nth q (dn ((q.length:Int)-1) k0).toNat).1==(6:Int)))=false:=Rw h19;have h19ld:=Z7 h19l;have h19r:(((nth q (dn ((q.length:Int)-1) k0).toNat).1==(7:Int)))=false:=Pr h19;have h19rd:=Z7 h19r;refine Qe <| qu Qa [(4,.i (dn ((q.length:Int)-1) (k0+1)))] [4,5,6] [] [5] (pe 1 (show .i (IntKind.i64.wrap ((dn ((q.length:Int)-1) k0)-1))= .i (dn ((q.length:Int)-1) (k0+1)) from J6 (show IntKind.i64.wrap ((dn ((q.length:Int)-1) k0)-1)=(dn ((q.length:Int)-1) (k0+1)) from IntWalk.i64_in ((dn ((q.length:Int)-1) k0)-1) (by omega))) p0) ?_
  exact xw s0 ⟨Wf hk0 (Qn h6 (Qn h19 (rfl))) U.1,(by first|omega|(simp only[zG];omega))⟩
 ·have hA0_0:=U.2;have hdn0:=LW ((q.length:Int)-1) k0;exact Qc <| sn Qa [0,2,3,4,18] [] (pe 1 (zC ((dn ((q.length:Int)-1) k0)>=(0:Int))) p0) <| ckF <| Q9 <| xw s0 ⟨Cx hk0 (rfl) U.1,by first|omega|(simp only[zG];omega)⟩
 have hD0_0:=hD0.2;exact sn Qa [2] [] p0 <| Qh <| po0 [] (Qn h1 (Uc hD0.1 (rfl)))
theorem Nq {α:Type} [Inhabited α] {l:List α} {i j:Nat} (x:α) (h:j≠i):nth (l.set j x) i=nth l i:=by
 simp[nth,zT,List.getElem?_set_ne h]
theorem Qci {q:List Yz} (hv:Q8 q=true) {k:Nat} (hk:k<q.length) (s:List Bool):Ja q k s=H0 q k s:=by
 have hdn:=LW ((q.length:Int)-1) k;obtain ⟨hl,hr⟩:=Ig hv (k:=dn ((q.length:Int)-1) k) (by omega) (by omega);unfold Ja H0;generalize hi:dn ((q.length:Int)-1) k=i at hl hr⊢;generalize nth q (zH i)=n at hl hr⊢;by_cases h5:n.1=5
 . simp[h5]
 by_cases h6:n.1=6
 . have:=hl (.inr (.inl h6));simp[h6];rw[Nq _ (by omega)]
 by_cases h7:n.1=7
 . have:=hl (.inr (.inr h7));simp[h7];rw[Nq _ (by omega)]
 simp only[beq_eq_false_iff_ne.2 h5,beq_eq_false_iff_ne.2 h6,beq_eq_false_iff_ne.2 h7,Bool.or_false,cond_false]
theorem BF (q:List Yz):Js q=Ym q:=by
 unfold Js Ym;rw[←Qf5];cases hv:Q8 q with
 | false=>rfl
 | true=>
   simp only[yD,cond_false];rw[BC (f:=H0 q) (g:=Ja q) (e:=Eg) (e':=Hz) (λ_ _=>rfl) _ _ _ λi s _ hi=>(Qci hv (by omega) s).symm]
theorem FT (q:List Yz) (k:Nat) (s:List Bool):∃s',Ja q k s= .next s'/\s'.length=s.length:=by
 unfold Ja;generalize ((nth q (zH (dn ((q.length:Int)-1) k))).1==(5:Int))=a;generalize ((nth q (zH (dn ((q.length:Int)-1) k))).1==(6:Int))=b;generalize ((nth q (zH (dn ((q.length:Int)-1) k))).1==(7:Int))=c;cases a<;>cases b<;>cases c<;>exact ⟨_,rfl,by simp⟩
theorem ZB (q:List Yz):∀(n k:Nat) (s:List Bool),∃s',U1 (Ja q) Hz n k s= .brk s'/\s'.length=s.length
 | 0,k,s=>⟨s,rfl,rfl⟩
 | n+1,k,s=>by
   obtain ⟨s1,h1,h2⟩:=FT q k s;obtain ⟨s2,h3,h4⟩:=ZB q n (k+1) s1;refine ⟨s2, ?_,h4.trans h2⟩;simp only[U1,h1];exact h3
theorem Ta (q:List Yz):zD (Ym q)<=zD q:=by
 unfold Ym;cases Q8 q with
 | false=>exact xR _
 | true=>
   obtain ⟨s,h1,h2⟩:=ZB q (zD q) 0 (zF (zH (q.length:Int)) false);simp only[yD,cond_false,h1,Out.on];rw[h2];simp
theorem FU (q:List Yz):zD (Js q)<=zD q:=by rw[BF];exact Ta q
end
section
open Go.RowKit Go.Sort
open GoE (enc)
structure OneC (α σ:Type) [GoE α] where
 to:α->σ
 of:σ->α
 cell:σ->Value
 pv:α->PV
 ok:α->Prop
 of_to:∀a,of (to a)=a
 to_of:∀s,to (of s)=s
 enc_eq:∀a,enc a= [pv a]
 flat:∀a,(pv a).flat
 vv:∀(X:Nat->Prop) (w:World) v a,VV X w v (pv a)↔v=cell (to a)/\ok a
def oneS:OneC ByteArray (List UInt8) where
 to b:=b.data.toList
 of s:=⟨s.toArray⟩
 cell:=encStr
 pv:= .str
 ok b:=b.size<=maxLen
 of_to b:=by cases b;simp
 to_of s:=by simp
 enc_eq _:=rfl
 flat _:=trivial
 vv X w v a:=by
  have e:encStr a.data.toList= .string a:=by cases a;simp[encStr]
  rw[e];exact ⟨λh=>by cases h with | str h=>exact ⟨rfl,h⟩,λ⟨h1,h2⟩=>by subst h1;exact .str h2⟩
section
variable {α σ:Type} [GoE α] (C:OneC α σ)
theorem Qcj {X:Nat->Prop} {w:World}:∀{l:List α} {cs:List Value},VR X w 1 cs (eL l)->cs=(l.map C.to).map C.cell/\∀a,a∈l->C.ok a
 | [],cs,h=>by
   generalize hr:eL ([]:List α)=r at h;cases h with
   | nil=>exact ⟨rfl,λa ha=>by simp at ha⟩
   | cons=>cases hr
 | a :: l,cs,h=>by
   generalize hr:eL (a::l)=r at h;cases h with
   | nil=>cases hr
   | cons h1 h2 h3=>
     rw[CS,C.enc_eq] at hr;obtain ⟨rfl,rfl⟩: [C.pv a]=_/\eL l=_:=by simpa using hr
     obtain ⟨e,hok⟩:=Qcj h3;cases h1 with
     | cons h4 h5=>
       cases h5
       obtain ⟨rfl,ha⟩:=(C.vv X w _ a).1 h4;exact ⟨by rw[e];rfl,λb hb=>(zP.1 hb).elim (λe=>e▸ha) (hok b)⟩
theorem Qck {X:Nat->Prop} {w:World}:∀{l:List α},(∀a,a∈l->C.ok a)->VR X w 1 ((l.map C.to).map C.cell) (eL l)
 | [],_=> .nil 1
 | a::l,h=>by
   rw[CS,C.enc_eq];exact VR.cons (ce:= [C.cell (C.to a)]) (.cons ((C.vv X w _ a).2 ⟨rfl,h a zM⟩) .nil) rfl (Qck λb hb=>h b (zJ _ hb))
theorem Qjt (l:List α):(eL l).flatten=l.map C.pv:=by
 induction l with
 | nil=>rfl
 | cons a l ih=>rw[CS,C.enc_eq,List.flatten_cons,ih];rfl
theorem Ql8 (l:List α):eL l=(l.map C.pv).map λc=> [c]:=by
 simp[eL,C.enc_eq,yH]
theorem PC (e:σ->Value) [Inhabited σ] (d:Array σ) (cur:Array Value) (h:d.size<=cur.size):(Go.Sort.putCells e 0 d cur).toList=d.toList.map e++cur.toList.drop d.size:=by
 apply List.ext_getElem?;intro j;unfold Go.Sort.putCells;rw[yA,Array.getElem?_mapIdx];by_cases hj:j<d.size
 . rw[List.getElem?_append_left (by simpa using hj),yX (by omega:j<cur.size),List.getElem?_map,yA,yX hj];simp only[Option.map_some];rw[if_pos ⟨xR _,by omega⟩,Nat.sub_zero,getElem!_pos d j hj]
 rw[List.getElem?_append_right (by simpa using Nat.le_of_not_lt hj),List.getElem?_drop];have e1:d.size+(j-(d.toList.map e).length)=j:=by simp;omega
 rw[e1,yA];cases cur[j]? with
 | none=>rfl
 | some x=>simp;omega
theorem Tb {e:σ->Value} [Inhabited σ] {w:World} {g:Nat} {cur:Array Value} {ty:TypeId} (hg:w.heap[g]? =some (.cells cur ty (0,0))) (q:Nat) (d:Array σ) (os:Array Obj):
 (grow (putRow e (Sort.ahead w q) g 0 d) os).heap[g]? =some (.cells (Go.Sort.putCells e 0 d cur) ty (0,0)):=by
 have hlt:g<w.heap.size:=Q7 hg;unfold grow putRow mapBlock Sort.ahead;simp only[xG,Array.size_modify];rw[if_pos hlt,xH,if_pos rfl,hg];rfl
theorem ZC {e:σ->Value} [Inhabited σ] (w:World) (g q:Nat) (d:Array σ) (os:Array Obj):(∀b,b<w.heap.size->b≠g->(grow (putRow e (Sort.ahead w q) g 0 d) os).heap[b]? =w.heap[b]?)/\∀m,m<=g->m<=w.heap.size->Below m w (grow (putRow e (Sort.ahead w q) g 0 d) os):=by
 have h:∀b,b<w.heap.size->b≠g->(grow (putRow e (Sort.ahead w q) g 0 d) os).heap[b]? =w.heap[b]? :=λb hb hn=>by
  unfold grow putRow mapBlock Sort.ahead;simp only[xG,Array.size_modify];rw[if_pos hb,xH,if_neg (λe=>hn e.symm)]
 refine ⟨h,λm hm hs=>⟨rfl,rfl,rfl, ?_,λb hb=>h b (by omega) (by omega)⟩⟩;unfold grow putRow mapBlock Sort.ahead;simp
theorem PD {e:σ->Value} [Inhabited σ] {g:Nat} {w:World} {cur:Array Value} {ty:TypeId} {l:List σ} (hg:w.heap[g]? =some (.cells cur ty (0,0))) (ht:cur.toList.take l.length=l.map e):Holds e w g 0 l.toArray:=by
 intro j hj;have hjl:j<l.length:=by simpa using hj
 have hc:cur[j]? =some (e l[j]):=by
  have h5:(cur.toList.take l.length)[j]? =(l.map e)[j]? :=by rw[ht]
  rw[List.getElem?_take,if_pos hjl,List.getElem?_map,List.getElem?_eq_getElem hjl,yA] at h5;exact h5
 refine ⟨?_, ?_⟩
 . rw[zV];simp[World.cell?,hg,hc,getElem!_pos,hjl]
 simp[World.frozen?,hg]
variable {P:Program} [Inhabited σ]
theorem Qcl (F:Nat->Prop) (L:List Nat) (w:World) (oa:Option Addr):Qls F L w 1 true [] (.returned (.tuple #[])) w:=
 ⟨_,rfl,λm _ _=>Below.refl _ _,λ_ _ _=>rfl,rfl,λv2 l2 h=>by simpa [JY] using h⟩
theorem ST {f:Nat} (hok:It P f) (srt:List σ->List σ) (hlen:∀l,(srt l).length=l.length) (hmem:∀l x,x∈srt l->x∈l)
 (h0:∀oa cap w,Calls P f #[.slice oa 0 cap] w λe w'=>e= .returned (.tuple #[])/\w'=w)
 (h1:∀g cap (l:List σ) w,Holds C.cell w g 0 l.toArray->g<w.heap.size->l.length<4611686018427387904->Calls P f #[.slice (some ⟨g,0,none⟩) l.length cap] w λe w'=>e= .returned (.tuple #[])/\∃n os,w'=grow (putRow C.cell (Sort.ahead w n) g 0 (srt l).toArray) os)
 (l:List α):ATake P f 1 (eL l) [] false true (eL ((srt (l.map C.to)).map C.of)):=by
 refine ⟨hok,λw F G L v vals _ hFG _ hGs _ hLG hrow hargs=> ?_⟩;cases hargs
 rcases hrow with ⟨hl,oa,rfl⟩ | ⟨g,cap,cur,ty,rfl,rfl,hg,hs,hr,h5,h6⟩
 . obtain rfl:l= []:=by simpa [eL] using hl
   have hs0:srt []= []:=zX (by rw[hlen];rfl);refine (h0 oa 0 w).mono ?_
   rintro e w' ⟨rfl,rfl⟩
   rw[List.map_nil,hs0];exact Qcl F L w' oa
 have hll:(eL l).length=l.length:=by simp[eL]
 rw[hll] at hr h5 h6⊢;rw[yG] at hr hs;obtain ⟨hcs,hok'⟩:=Qcj C hr;have hH:Holds C.cell w g 0 (l.map C.to).toArray:=PD hg (by rw[zK];exact hcs);have hc:=h1 g cap (l.map C.to) w hH (Q7 hg) (by rw[zK];have:=h6.2;omega);rw[zK] at hc;refine hc.mono ?_
 rintro e w' ⟨rfl,n,os,rfl⟩
 have hother:=ZC (e:=C.cell) w g n (srt (l.map C.to)).toArray os;have hgl:=Q7 hg;refine ⟨_,rfl,λm hm hL=>hother.2 m (hL g (by simp)) hm,λb hb hn=>hother.1 b hb (by simpa using hn),rfl,λv2 l2 h2=> ?_⟩;rcases h2 with ⟨rfl,oa,rfl⟩ | ⟨g2,cap2,cur2,ty2,hL2,rfl,hg2,hs2,hr2,h7,h8⟩
 . exact .inl ⟨by simp[JY],oa,rfl⟩
 obtain rfl:g=g2:=by simpa using hL2
 rw[hg] at hg2;cases hg2
 rw[Qjt C,JY];have hd:(srt (l.map C.to)).toArray.size<=cur.size:=by simp only[List.size_toArray,hlen,zK];omega
 have hlen2:(xQ (λc=> [c]) (zQ l2.length (xQ C.pv (xQ C.of (srt (l.map C.to)))))++yC (xQ C.pv (xQ C.of (srt (l.map C.to)))).length l2).length=l2.length:=by
  simp only[List.length_append,zK,List.length_take,List.length_drop];omega
 refine .inr ⟨g,cap2,_,ty,rfl,by rw[hlen2],Tb hg n _ os, ?_, ?_,by rw[hlen2];exact h7,by rw[hlen2];exact h8⟩
 . simp[Go.Sort.putCells,hs2]
 rw[hlen2,yG,PC C.cell _ cur hd,List.take_append];rw[yG] at hr2;refine VR.append ?_ ?_
 . have hk:VR F (grow (putRow C.cell (Sort.ahead w n) g 0 (srt (l.map C.to)).toArray) os) 1 (cur.toList.take l2.length) l2:=by
    refine hr2.keep λb hb=>⟨hb,hother.1 b (hGs b (hFG b hb)) λe=>(hLG g (by simp)).2 (hFG g (e▸hb))⟩
   have:=VR.drop (srt (l.map C.to)).length hk;rw[yG,List.drop_take] at this;simpa using this
 have hm:∀a,a∈(srt (l.map C.to)).map C.of->C.ok a:=λa ha=>by
  obtain ⟨x,hx,rfl⟩:=zW.1 ha;obtain ⟨b,hb,rfl⟩:=zW.1 (hmem _ _ hx);rw[C.of_to];exact hok' b hb
 have:=VR.take l2.length (Qck C (X:=F) (w:=grow (putRow C.cell (Sort.ahead w n) g 0 (srt (l.map C.to)).toArray) os) hm);rw[yG,Ql8 C] at this;simpa [List.map_take,yH,C.to_of] using this
theorem SU {f:Nat} (hok:It P f) (cmp:List σ->List σ) (hlen:∀l,(cmp l).length<=l.length) (hmem:∀l x,x∈cmp l->x∈l)
 (h0:∀oa cap w,Calls P f #[.slice oa 0 cap] w λe w'=>e= .returned (.slice oa 0 cap)/\w'=w)
 (h1:∀g cap (l:List σ) w,Holds C.cell w g 0 l.toArray->l.length<=9223372036854775807->l.length<=cap->Calls P f #[.slice (some ⟨g,0,none⟩) l.length cap] w λe w'=>e= .returned (.slice (some ⟨g,0,none⟩) (cmp l).length cap)/\∃q pad,(cmp l++pad).length=l.length/\w'=putRow C.cell (Sort.ahead w q) g 0 (cmp l++pad).toArray)
 (l:List α):ATake P f 1 (eL l) [] false false (eL ((cmp (l.map C.to)).map C.of)):=by
 refine ⟨hok,λw F G L v vals _ hFG _ hGs _ hLG hrow hargs=> ?_⟩;cases hargs
 rcases hrow with ⟨hl,oa,rfl⟩ | ⟨g,cap,cur,ty,rfl,rfl,hg,hs,hr,h5,h6⟩
 . obtain rfl:l= []:=by simpa [eL] using hl
   have hs0:cmp []= []:=zX (by have:=hlen [];simpa using this);refine (h0 oa 0 w).mono ?_
   rintro e w' ⟨rfl,rfl⟩
   rw[List.map_nil,hs0];exact ⟨_,rfl,λm _ _=>Below.refl _ _,λ_ _ _=>rfl, [],List.nodup_nil,λb hb=>(by simp at hb),.inl ⟨rfl,oa,rfl⟩⟩
 have hll:(eL l).length=l.length:=by simp[eL]
 rw[hll] at hr h5 h6⊢;rw[yG] at hr hs;obtain ⟨hcs,hok'⟩:=Qcj C hr;have hH:Holds C.cell w g 0 (l.map C.to).toArray:=PD hg (by rw[zK];exact hcs);have hc:=h1 g cap (l.map C.to) w hH (by rw[zK];have:=h6.2;omega) (by rw[zK];exact h5);rw[zK] at hc;refine hc.mono ?_
 rintro e w' ⟨rfl,q,pad,hpad,rfl⟩
 have hw:putRow C.cell (Sort.ahead w q) g 0 (cmp (l.map C.to)++pad).toArray=grow (putRow C.cell (Sort.ahead w q) g 0 (cmp (l.map C.to)++pad).toArray) #[]:=(grow_empty _).symm;rw[hw];have hother:=ZC (e:=C.cell) w g q (cmp (l.map C.to)++pad).toArray #[];have hgl:=Q7 hg;have hd:(cmp (l.map C.to)++pad).toArray.size<=cur.size:=by rw[List.size_toArray,hpad];omega
 have hle:=hlen (l.map C.to);rw[zK] at hle;have hel:(eL ((cmp (l.map C.to)).map C.of)).length=(cmp (l.map C.to)).length:=by simp[eL]
 have hsz:g<(grow (putRow C.cell (Sort.ahead w q) g 0 (cmp (l.map C.to)++pad).toArray) #[]).heap.size:=Q7 (Tb hg q _ #[]);refine ⟨_,rfl,λm hm hL=>hother.2 m (hL g (by simp)) hm,λb hb hn=>hother.1 b hb (by simpa using hn), [g],by simp,λb hb=> ?_,.inr ⟨g,cap,_,ty,rfl,by rw[hel],Tb hg q _ #[], ?_, ?_,by rw[hel];omega,h6.1,by rw[hel];have:=h6.2;omega⟩⟩
 . obtain rfl:=List.mem_singleton.1 hb;exact ⟨hsz,.inr (by simp)⟩
 . simp[Go.Sort.putCells,hs]
 rw[hel,yG,PC C.cell _ cur hd]
 have hm:∀a,a∈(cmp (l.map C.to)).map C.of->C.ok a:=λa ha=>by
  obtain ⟨x,hx,rfl⟩:=zW.1 ha;obtain ⟨b,hb,rfl⟩:=zW.1 (hmem _ _ hx);rw[C.of_to];exact hok' b hb
 have:=Qck C (X:=F) (w:=grow (putRow C.cell (Sort.ahead w q) g 0 (cmp (l.map C.to)++pad).toArray) #[]) hm;have e1:((cmp (l.map C.to)).map C.of).map C.to=cmp (l.map C.to):=by simp[yH,C.to_of]
 rw[e1] at this;rw[List.map_append,List.append_assoc,List.take_left' (by simp)];exact VR.keep (λb hb=>⟨.inl hb,rfl⟩) this
end
def P7 (l:List ByteArray):List ByteArray:=((l.map oneS.to).mergeSort λx y=>decide (x<=y)).map oneS.of
def VJ (l:List ByteArray):List ByteArray:=(Lib.compact (l.map oneS.to)).map oneS.of
theorem Qf6 {σ:Type} [Inhabited σ] [DecidableEq σ] (l:List σ) (x:σ) (h:x∈Lib.compact l):x∈l:=by
 unfold Lib.compact Lib.compactUpTo at h;simp only[zW,yF,yI] at h;obtain ⟨j,⟨hj,_⟩,e⟩:=h;have e1:l.toArray[j]! =l[j]:=by rw[getElem!_pos l.toArray j (by simpa using hj)];simp
 rw[e1] at e;exact e▸xB hj
theorem DD {σ:Type} [Inhabited σ] [DecidableEq σ] (l:List σ):(Lib.compact l).length<=l.length:=by
 unfold Lib.compact Lib.compactUpTo;rw[zK];exact yV (xI _ _) (by rw[List.length_range];exact yZ _)
theorem FV (l:List ByteArray):(P7 l).length=l.length:=by simp[P7,xJ]
theorem Qcm (l:List ByteArray):(VJ l).length<=l.length:=by
 have:=DD (l.map oneS.to);rw[zK] at this;simpa [VJ] using this
theorem Qf7 {α:Type} [GoE α] {l k:List α} (h1:∀a:α,(enc a).length=1) (h:k.length=l.length):Qil (eL l) 0 4294967296 (eL k).flatten=eL k:=by
 have hk:∀k:List α,((eL k).flatten.map λc=> [c])=eL k:=λk=>by
  induction k with
  | nil=>rfl
  | cons a k ih=>
    rw[CS,List.flatten_cons,List.map_append,ih];have:=h1 a
    match enc a,this with
    | [p],_=>rfl
 have hf:(eL k).flatten.length=k.length:=by
  have:=congrArg zD (hk k);rw[zK] at this;rw[this];simp[eL]
 show JY (eL l) (eL k).flatten=eL k;unfold JY;have e1:(eL l).length=l.length:=by simp[eL]
 rw[e1,List.take_of_length_le (by omega),hk,List.drop_of_length_le (by omega),List.append_nil]
end
section
open Go.RowKit
section
variable {σ:Type} (lt:σ->σ->Prop)
theorem PE (irr:∀a,¬lt a a) (tr:∀a b c,lt a b->lt b c->lt a c):∀(a b:List σ),a.Pairwise lt->b.Pairwise lt->(∀x,x∈a↔x∈b)->a=b
 | [], [],_,_,_=>rfl
 | [],y::b,_,_,h=>by have:=(h y).2 (by simp);simp at this
 | x::a, [],_,_,h=>by have:=(h x).1 (by simp);simp at this
 | x ::a,y::b,ha,hb,h=>by
   rw[zU] at ha hb
   have h1:x=y:=by
    have hx:=(h x).1 (by simp);have hy:=(h y).2 (by simp);simp only[zP] at hx hy;rcases hx with e | hx
    . exact e
    rcases hy with e | hy
    . exact e.symm
    exact (irr x (tr _ _ _ (ha.1 y hy) (hb.1 x hx))).elim
   subst h1
   congr 1
   refine PE irr tr a b ha.2 hb.2 λz=> ?_
   have hz:=h z;simp only[zP] at hz;constructor
   . intro hm;have hlt:=ha.1 z hm;rcases hz.1 (.inr hm) with e | e
     . subst e;exact (irr z hlt).elim
     exact e
   intro hm;have hlt:=hb.1 z hm;rcases hz.2 (.inr hm) with e | e
   . subst e;exact (irr z hlt).elim
   exact e
theorem PF [Inhabited σ] [DecidableEq σ] (d:Array σ) (tr:∀a b c,¬lt b a->lt b c->lt a c) (tri:∀a b,¬lt b a->a≠b->lt a b) (hs:∀i j,i<=j->j<d.size->¬lt d[j]! d[i]!):
 ∀m,m<=d.size->(Lib.compactUpTo d m).Pairwise lt/\∀x,x∈Lib.compactUpTo d m↔∃j,j<m/\d[j]! =x
 | 0,_=>by simp[Lib.compactUpTo]
 | m + 1,hm=>by
   obtain ⟨h1,h2⟩:=PF d tr tri hs m (by omega);rw[Lib.compactUpTo_succ];by_cases hk:Lib.keeps d m=true
   . rw [if_pos hk];refine ⟨?_,λx=> ?_⟩
     . rw[List.pairwise_append];refine ⟨h1,by simp,λa ha b hb=> ?_⟩;obtain ⟨j,hj,rfl⟩:=(h2 a).1 ha;obtain rfl:b=d[m]! :=by simpa using hb
       have hle:=hs j (m-1) (by omega) (by omega);have hle2:=hs (m-1) m (by omega) (by omega)
       have hne:d[m]! ≠d[m-1]! :=by
        unfold Lib.keeps at hk;simp only[yR,beq_iff_eq,bne_iff_ne,decide_eq_true_eq] at hk;rcases hk with h | h
        . omega
        exact h
       exact tr _ _ _ hle (tri _ _ hle2 λe=>hne e.symm)
     rw[xE,h2 x];constructor
     . rintro (⟨j,hj,e⟩ | h)
       . exact ⟨j,by omega,e⟩
       exact ⟨m,by omega,by simpa using (by simpa using h:x=d[m]!).symm⟩
     rintro ⟨j,hj,e⟩
     by_cases hjm:j=m
     . subst hjm;exact .inr (by simp[e])
     exact .inl ⟨j,by omega,e⟩
   rw[if_neg hk,List.append_nil];refine ⟨h1,λx=> ?_⟩;rw[h2 x]
   have hm0:m≠0/\d[m]! =d[m-1]! :=by
    unfold Lib.keeps at hk;simp only[yR,beq_iff_eq,bne_iff_ne,decide_eq_true_eq,not_or,Decidable.not_not] at hk;exact hk
   constructor
   . rintro ⟨j,hj,e⟩;exact ⟨j,by omega,e⟩
   rintro ⟨j,hj,e⟩
   by_cases hjm:j=m
   . subst hjm;exact ⟨j-1,by omega,hm0.2▸e⟩
   exact ⟨j,by omega,e⟩
end
def bl (a b:ByteArray):Bool:=Op.bytesLess a.toList b.toList
theorem FW {a b c:List UInt8} (h:a<b) (h':b<c):a<c:=List.lt_trans h h'
theorem Qcn (a:List UInt8):¬a<a:=List.lt_irrefl a
theorem MI {a b:List UInt8} (h:¬b<a) (hn:a≠b):a<b:=zS λh'=>hn (List.le_antisymm h h')
theorem VK (a b:ByteArray):bl a b=true↔a.data.toList<b.data.toList:=by
 unfold bl;rw[bytesLess_eq,ByteArray.toList_eq,ByteArray.toList_eq,decide_eq_true_iff]
theorem PG (a:ByteArray):bl a a=false:=by
 cases h:bl a a with
 | false=>rfl
 | true=>exact (Qcn _ ((VK a a).1 h)).elim
theorem JN {a b c:ByteArray} (h:bl a b=true) (h':bl b c=true):bl a c=true:=(VK _ _).2 (FW ((VK _ _).1 h) ((VK _ _).1 h'))
theorem Qh3 {a b:ByteArray} (h:bl b a=false) (hn:a≠b):bl a b=true:=(VK _ _).2 (MI (λhb=>by rw[(VK _ _).2 hb] at h;cases h) λe=>hn (by cases a;cases b;simp at e;rw[e]))
def DE:List ByteArray->ByteArray->List ByteArray
 | [],s=> [s]
 | x::l,s=>if bl x s then x::DE l s else if x=s then x::l else s::x::l
def YG (l:List ByteArray):Prop:=l.Pairwise λa b=>bl a b=true
theorem Ml (s x:ByteArray):∀l,x∈DE l s↔x=s\/x∈l
 | []=>by simp[DE]
 | y ::l=>by
   simp only[DE];split
   . rw[zP,Ml s x l,zP];constructor
     . rintro (h | h | h)<;>simp[h]
     rintro (h | h | h)<;>simp[h]
   split
   . rename_i e;subst e;simp
   simp
theorem QE (s:ByteArray):∀l,YG l->YG (DE l s)
 | [],_=>by simp[YG,DE]
 | y ::l,h=>by
   have h:=zU.1 h;simp only[DE];split
   . rename_i hl;refine zU.2 ⟨λz hz=> ?_,QE s l h.2⟩;rcases (Ml s z l).1 hz with e | hz
     . exact e▸hl
     exact h.1 z hz
   split
   . exact zU.2 h
   rename_i hl hn;have hs:bl s y=true:=Qh3 (by simpa using hl) λe=>hn e.symm
   refine zU.2 ⟨λz hz=> ?_,zU.2 h⟩;rcases zP.1 hz with rfl | hz
   . exact hs
   exact JN hs (h.1 z hz)
theorem PH (s:ByteArray):∀l,(DE l s).length<=l.length+1
 | []=>by simp[DE]
 | y::l=>by
   have:=PH s l;simp only[DE];split
   . simp only[zL];omega
   split<;>simp
def Di (l xs:List ByteArray):List ByteArray:=xs.foldl DE l
theorem Oi (x:ByteArray):∀xs l,x∈Di l xs↔x∈xs\/x∈l
 | [],l=>by simp[Di]
 | y::xs,l=>by
   show x∈Di (DE l y) xs↔_;rw[Oi x xs,Ml,zP];constructor
   . rintro (h | h | h)<;>simp[h]
   rintro ((h | h) | h)<;>simp[h]
theorem Oj:∀xs l,YG l->YG (Di l xs)
 | [],_,h=>h
 | y::xs,l,h=>Oj xs (DE l y) (QE y l h)
theorem DF (a b:List ByteArray) (ha:YG a) (hb:YG b) (h:∀x,x∈a↔x∈b):a=b:=
 PE (λa b=>bl a b=true) (λa h=>by rw[PG] at h;cases h) (λ_ _ _=>JN) a b ha hb h
theorem VL (l:List ByteArray):YG (VJ (P7 l))/\∀x,x∈VJ (P7 l)↔x∈l:=by
 have hto:(P7 l).map oneS.to=(l.map oneS.to).mergeSort λx y=>decide (x<=y):=by simp[P7,yH,oneS.to_of]
 unfold VJ;rw[hto];generalize hm:l.map oneS.to=m;have hp:=xN m (λx y=>decide (x<=y))
 have hs:=List.pairwise_mergeSort (le:=λ(x y:List UInt8)=>decide (x<=y)) (λa b c h1 h2=>by
  simp only[decide_eq_true_eq] at h1 h2⊢;exact List.le_trans h1 h2) (λa b=>by
  have:=List.le_total a b;simpa using this) m
 generalize (m.mergeSort λx y=>decide (x<=y))=s at hp hs;have hget:∀j,j<s.length->s.toArray[j]! =s[j]! :=λj hj=>by simp
 have hmono:∀i j,i<=j->j<s.toArray.size->¬s.toArray[j]! <s.toArray[i]! :=λi j hij hj=>by
  have hj:j<s.length:=by simpa using hj
  rw[hget i (by omega),hget j hj,getElem!_pos s i (by omega),getElem!_pos s j hj];by_cases e:i=j
  . subst e;exact Qcn _
  have:=List.pairwise_iff_getElem.1 hs i j (by omega) hj (by omega);simpa using this
 obtain ⟨h1,h2⟩:=PF (λa b:List UInt8=>a<b) s.toArray (λa b c hab hbc=>by
  by_cases e:a=b
  . exact e▸hbc
  exact FW (MI hab e) hbc) (λa b h hn=>MI h hn) hmono s.length (by simp)
 refine ⟨?_,λx=> ?_⟩
 . refine List.pairwise_map.2 (h1.imp λ{a b} h=>(VK _ _).2 ?_);simpa [oneS] using h
 have hmem:x∈l↔oneS.to x∈m:=by
  rw[←hm,zW];refine ⟨λh=>⟨x,h,rfl⟩,λ⟨y,h,e⟩=> ?_⟩;have:=congrArg oneS.of e;rw[oneS.of_to,oneS.of_to] at this;exact this▸h
 rw[hmem,←hp.mem_iff,zW];constructor
 . rintro ⟨y,hy,rfl⟩
   obtain ⟨j,hj,e⟩:=(h2 y).1 hy;rw[hget j hj,getElem!_pos s j hj] at e;rw[oneS.to_of];exact e▸xB hj
 intro h;obtain ⟨j,hj,e⟩:=xO h;exact ⟨oneS.to x,(h2 _).2 ⟨j,hj,by rw[hget j hj,getElem!_pos s j hj];exact e⟩,oneS.of_to x⟩
theorem PI (l:List ByteArray):VJ (P7 l)=Di [] l:=
 DF _ _ (VL l).1 (Oj l [] List.Pairwise.nil) λx=>by rw[(VL l).2,Oi];simp
end
section
abbrev Uh:=List (Nat×Int)
def Mm (E:Uh) (L:List Int):Int:=E.foldl (λm e=>max m (nth L e.1+e.2)) 0
theorem Ok (L:List Int) (x:Int):∀(E:Uh) (m:Int),E.foldl (λm e=>max m (nth L e.1+e.2)) m<=x↔m<=x/\∀e,e∈E->nth L e.1+e.2<=x
 | [],m=>by simp
 | e ::E,m=>by
   rw[List.foldl_cons,Ok L x E];constructor
   . rintro ⟨h1,h2⟩
     refine ⟨by omega,λe' he=> ?_⟩;rcases zP.1 he with rfl | he
     . omega
     exact h2 e' he
   rintro ⟨h1,h2⟩
   have:=h2 e zM;exact ⟨by omega,λe' he=>h2 e' (zJ _ he)⟩
theorem Ce {E:Uh} {L:List Int} {x:Int}:Mm E L<=x↔0<=x/\∀e,e∈E->nth L e.1+e.2<=x:=Ok L x E 0
theorem Tc (E:Uh) (L:List Int):0<=Mm E L:=(Ce.1 (zR _)).1
theorem FX {E:Uh} {L M:List Int} (h:∀j,nth L j<=nth M j):Mm E L<=Mm E M:=
 Ce.2 ⟨Tc E M,λe he=>by
  have:=(Ce.1 (zR (Mm E M))).2 e he;have:=h e.1;omega⟩
theorem Td {L:List Int} {i:Nat} (x:Int) (j:Nat) (hi:i<L.length):nth (L.set i x) j=if j=i then x else nth L j:=by
 unfold nth;by_cases h:j=i
 . subst h;simp[zT,hi]
 rw[if_neg h];simp[zT,xA,xS h]
theorem Te {L:List Int} {i:Nat} (h:L.length<=i):nth L i=0:=by
 unfold nth;simp[zT,List.getElem?_eq_none h]
def A6 (E:Nat->Uh) (L:List Int) (i:Nat):List Int:=if nth L i<Mm (E i) L then L.set i (Mm (E i) L) else L
theorem Lu (E:Nat->Uh) (L:List Int) (i:Nat):(A6 E L i).length=L.length:=by unfold A6;split<;>simp
theorem DG (E:Nat->Uh) (L:List Int) (i j:Nat):nth L j<=nth (A6 E L i) j:=by
 unfold A6;split
 . rename_i h;by_cases hi:i<L.length
   . rw[Td _ _ hi];split
     . rename_i e;subst e;omega
     omega
   rw[List.set_eq_of_length_le (by omega)];omega
 omega
def rounds (E:Nat->Uh) (is:List Nat) (L:List Int):List Int:=is.foldl (A6 E) L
theorem Rz (E:Nat->Uh):∀(is:List Nat) (L:List Int),(rounds E is L).length=L.length
 | [],_=>rfl
 | i::is,L=>(Rz E is (A6 E L i)).trans (Lu E L i)
theorem QF (E:Nat->Uh) (j:Nat):∀(is:List Nat) (L:List Int),nth L j<=nth (rounds E is L) j
 | [],_=>zR _
 | i::is,L=>yJ (DG E L i j) (QF E j is (A6 E L i))
theorem Qco {L M:List Int} (hl:L.length=M.length) (h:∀j,nth L j=nth M j):L=M:=by
 apply List.ext_getElem hl;intro i h1 h2;have:=h i;simpa [nth,zT,h1,h2] using this
theorem BG (E:Nat->Uh):∀(is:List Nat) (L:List Int),rounds E is L=L->∀i,i∈is->A6 E L i=L
 | [],_,_,i,hi=>by simp at hi
 | a ::is,L,h,i,hi=>by
   have h1:A6 E L a=L:=Qco (Lu E L a) λj=>by
    have h2:=DG E L a j;have h3:=QF E j is (A6 E L a);have h4:nth (rounds E is (A6 E L a)) j=nth L j:=congrArg (nth · j) h;omega
   rcases zP.1 hi with rfl | hi
   . exact h1
   refine BG E is L ?_ i hi;have:rounds E is (A6 E L a)=L:=h
   rwa [h1] at this
theorem BH {E:Nat->Uh} {L:List Int} {i:Nat} (hi:i<L.length):A6 E L i=L↔Mm (E i) L<=nth L i:=by
 unfold A6;constructor
 . intro h;split at h
   . rename_i hlt;have h2:nth (L.set i (Mm (E i) L)) i=nth L i:=by rw[h]
     rw[Td _ _ hi,if_pos rfl] at h2;omega
   omega
 intro h;rw[if_neg (by omega)]
def Sat (E:Nat->Uh) (n:Nat) (g:List Int):Prop:=∀i,i<n->Mm (E i) g<=nth g i
theorem MJ {E:Nat->Uh} {n:Nat} {L g:List Int} {i:Nat} (hi:i<n) (hn:L.length=n) (hs:Sat E n g) (h:∀j,nth L j<=nth g j):∀j,nth (A6 E L i) j<=nth g j:=by
 intro j;unfold A6;split
 . rw[Td _ _ (by omega)];split
   . rename_i e;subst e;exact yJ (FX h) (hs j hi)
   exact h j
 exact h j
theorem P8 {E:Nat->Uh} {n:Nat} {g:List Int} (hs:Sat E n g):∀(is:List Nat) (L:List Int),(∀i,i∈is->i<n)->L.length=n->(∀j,nth L j<=nth g j)->∀j,nth (rounds E is L) j<=nth g j
 | [],_,_,_,h=>h
 | i::is,L,hi,hn,h=>P8 hs is (A6 E L i) (λk hk=>hi k (zJ _ hk)) ((Lu E L i).trans hn) (MJ (hi i zM) hn hs h)
theorem Qh4:∀(m:Nat) (l:List Int),(∀v:Nat,v<m->((v:Nat):Int)∈l)->m<=l.length
 | 0,_,_=>xR _
 | m+1,l,h=>by
   have hm:=h m (by omega);have:=Qh4 m (l.erase (m:Int)) λv hv=>(List.mem_erase_of_ne (by omega)).2 (h v (by omega))
   rw[List.length_erase_of_mem hm] at this;have:0<l.length:=yK hm;omega
theorem MK {L:List Int} {i:Nat} (h:i<L.length):nth L i∈L:=by
 have:nth L i=L[i]:=by simp[nth,zT,h]
 rw[this];exact xB h
theorem VM {L:List Int} {x:Int} (h:x∈L):∃i,i<L.length/\nth L i=x:=by
 obtain ⟨i,hi,e⟩:=xO h;exact ⟨i,hi,by rw[←e];simp[nth,zT,hi]⟩
theorem Qju {L:List Int} {f:Int->Int} {i:Nat} (h:i<L.length):nth (L.map f) i=f (nth L i):=by simp[nth,zT,h]
theorem SV {E:Nat->Uh} {n:Nat} {f:List Int} (hw:∀i e,e∈E i->e.2<=1/\e.1<n) (hlen:f.length=n) (hs:Sat E n f) (hleast:∀g:List Int,g.length=n->Sat E n g->(∀j,0<=nth g j)->∀j,nth f j<=nth g j) (h0:∀j,0<=nth f j):
 ∀i,i<n->nth f i<(n:Int):=by
 intro i hi
 have hall:∀v:Nat,(v:Int)<=nth f i->((v:Nat):Int)∈f:=λv hv=>by
  refine zS λhno=> ?_
  have hne:∀j,j<n->nth f j≠v:=λj hj e=>hno (e▸MK (by omega))
  have hvi:(v:Int)<nth f i:=by have:=hne i hi;omega
  let g:=f.map λx=>if (v:Int)<x then x-1 else x
  have hg:∀j,j<n->nth g j=if (v:Int)<nth f j then nth f j-1 else nth f j:=λj hj=>Qju (by omega)
  have hg0:∀j,¬j<n->nth g j=0:=λj hj=>Te (by simp only[g,zK];omega)
  have hf0:∀j,¬j<n->nth f j=0:=λj hj=>Te (by omega)
  have hpos:∀j,0<=nth g j:=λj=>by
   by_cases hj:j<n
   . rw[hg j hj];have:=h0 j;split<;>omega
   rw[hg0 j hj];omega
  have:=hleast g (by simp only[g,zK];exact hlen) (λk hk=>Ce.2 ⟨hpos k,λe he=> ?_⟩) hpos i
  . rw[hg i hi,if_pos hvi] at this;omega
  have h1:=(Ce.1 (hs k hk)).2 e he;obtain ⟨h2,hj⟩:=hw k e he;have h3:=hne k hk;rw[hg k hk];have h4:=hne e.1 hj;rw[hg e.1 hj];split<;>split<;>omega
 have hp:=Qh4 ((nth f i).toNat+1) f λv hv=>hall v (by have:=h0 i;omega)
 have:=h0 i;omega
theorem Qcp:∀(L:List Int) (i:Nat) (x:Int),i<L.length->(L.set i x).sum=L.sum+(x-nth L i)
 | [],i,x,h=>by simp at h
 | a::L,0,x,_=>by simp[nth];omega
 | a::L,i+1,x,h=>by
   have:=Qcp L i x (by simpa using h);have e:nth (a::L) (i+1)=nth L i:=rfl;rw[e,List.set_cons_succ,xP,xP,this];omega
theorem FY:∀(L:List Int) (N:Int),(∀x,x∈L->x<=N)->L.sum<=(L.length:Int)*N
 | [],N,_=>by simp
 | a::L,N,h=>by
   have h1:=FY L N λx hx=>h x (zJ _ hx)
   have h2:=h a zM;rw[xP,zL,xF,Int.add_mul];omega
theorem FZ {E:Nat->Uh} {L:List Int} {i:Nat} (hi:i<L.length):L.sum<=(A6 E L i).sum/\(A6 E L i≠L->L.sum+1<=(A6 E L i).sum):=by
 unfold A6;split
 . rename_i h;have:=Qcp L i (Mm (E i) L) hi;omega
 exact ⟨zR _,λh=>(h rfl).elim⟩
theorem R0 {E:Nat->Uh}:∀(is:List Nat) (L:List Int),(∀i,i∈is->i<L.length)->L.sum<=(rounds E is L).sum/\(rounds E is L≠L->L.sum+1<=(rounds E is L).sum)
 | [],L,_=>⟨zR _,λh=>(h rfl).elim⟩
 | i::is,L,h=>by
   obtain ⟨h1,h2⟩:=FZ (E:=E) (h i zM);obtain ⟨h3,h4⟩:=R0 (E:=E) is (A6 E L i) λk hk=>by rw[Lu];exact h k (zJ _ hk)
   show L.sum<=(rounds E is (A6 E L i)).sum/\(rounds E is (A6 E L i)≠L->L.sum+1<=(rounds E is (A6 E L i)).sum);refine ⟨by omega,λhn=> ?_⟩;by_cases e:A6 E L i=L
   . have:=h4 (by rw[e] at hn⊢;exact hn);omega
   have:=h2 e;omega
def Gi (E:Nat->Uh) (N:Int):List Nat->Bool×List Int->Option (Bool×List Int)
 | [],s=>some s
 | i::is,s=>if N<Mm (E i) s.2 then none else Gi E N is (if nth s.2 i<Mm (E i) s.2 then (true,s.2.set i (Mm (E i) s.2)) else s)
theorem G7 {E:Nat->Uh} {N:Int}:∀(is:List Nat) (c:Bool) (L:List Int) (s:Bool×List Int),(∀i,i∈is->i<L.length)->Gi E N is (c,L)=some s->s.2=rounds E is L/\(s.1=true->c=true\/rounds E is L≠L)/\(s.1=false->c=false/\rounds E is L=L)/\((∀j,nth L j<=N)->∀j,nth s.2 j<=N)
 | [],c,L,s,_,h=>by
   obtain rfl:=yS h;exact ⟨rfl,λh=> .inl h,λh=>⟨h,rfl⟩,λh=>h⟩
 | i :: is,c,L,s,hi,h=>by
   have hil:=hi i zM;have hlen:∀k,k∈is->k<(A6 E L i).length:=λk hk=>by rw[Lu];exact hi k (zJ _ hk)
   simp only[Gi] at h;split at h
   . cases h
   rename_i hN;split at h
   . rename_i hlt;have er:A6 E L i=L.set i (Mm (E i) L):=by unfold A6;rw[if_pos hlt]
     rw[←er] at h;obtain ⟨h1,h2,h3,h4⟩:=G7 is true (A6 E L i) s hlen h
     have hne:rounds E (i::is) L≠L:=λe=>by
      have:=(R0 (E:=E) is (A6 E L i) hlen).1
      have h5:=(FZ (E:=E) hil).2 λe'=>by
       have:=(BH hil).1 e';omega
      have h6:(rounds E is (A6 E L i)).sum=L.sum:=congrArg List.sum e;omega
     refine ⟨h1,λ_=> .inr hne,λh=>(by have:=(h3 h).1;cases this),λhb j=>h4 (λj=> ?_) j⟩;rw[er,Td _ _ hil];split
     . omega
     exact hb j
   rename_i hlt;have er:A6 E L i=L:=by unfold A6;rw[if_neg hlt]
   have e2:rounds E (i::is) L=rounds E is L:=by show rounds E is (A6 E L i)=_;rw[er]
   rw[e2];exact G7 is c L s (λk hk=>hi k (zJ _ hk)) h
theorem ZD {E:Nat->Uh} {N:Int}:∀(is:List Nat) (c:Bool) (L:List Int),Gi E N is (c,L)=none->∃pre i,(∀k,k∈pre->k∈is)/\i∈is/\N<Mm (E i) (rounds E pre L)
 | [],c,L,h=>by cases h
 | i ::is,c,L,h=>by
   simp only[Gi] at h;split at h
   . rename_i hN;exact ⟨[],i,λk hk=>by simp at hk,zM,hN⟩
   have key:∀c' L',L'=A6 E L i->Gi E N is (c',L')=none->∃pre k,(∀x,x∈pre->x∈i::is)/\k∈i::is/\N<Mm (E k) (rounds E pre L):=λc' L' e h=>by
    obtain ⟨pre,k,h1,h2,h3⟩:=ZD is c' L' h;subst e;refine ⟨i::pre,k,λx hx=> ?_,zJ _ h2,h3⟩;rcases zP.1 hx with rfl | hx
    . exact zM
    exact zJ _ (h1 x hx)
   split at h
   . rename_i hlt;exact key true _ (by unfold A6;rw[if_pos hlt]) h
   rename_i hlt;exact key c _ (by unfold A6;rw[if_neg hlt]) h
def QG (E:Nat->Uh) (N:Int) (n:Nat):Nat->Bool×List Int->Option (Option (List Int))
 | 0,_=>none
 | k +1,s=>match s.1 with
   | true=>(match Gi E N (zO n) (false,s.2) with
     | none=>some none
     | some s'=>QG E N n k s')
   | false=>some (some s.2)
theorem D0 {n i:Nat} (h:i∈zO n):i<n:=yI.1 h
theorem BI {E:Nat->Uh} {n:Nat}:∀(k:Nat) (c:Bool) (L:List Int),L.length=n->(∀j,nth L j<=(n:Int))->(n:Int)*(n:Int)-L.sum+2<=(k:Int)->(QG E n n k (c,L)).isSome=true
 | 0,c,L,hl,hb,hk=>by
   have:=FY L n λx hx=>by obtain ⟨i,_,e⟩:=VM hx;exact e▸hb i
   rw[hl] at this;omega
 | k+1,false,L,hl,hb,hk=>rfl
 | k + 1, true,L,hl,hb,hk=>by
   simp only[QG];cases hc:Gi E n (zO n) (false,L) with
   | none=>rfl
   | some s=>
     obtain ⟨h1,h2,h3,h4⟩:=G7 (zO n) false L s (λi hi=>by rw[hl];exact D0 hi) hc;obtain ⟨c',L'⟩:=s;simp only at h1 h2 h3 h4⊢;have hl':L'.length=n:=by rw[h1,Rz,hl]
     have hs:=R0 (E:=E) (zO n) L λi hi=>by rw[hl];exact D0 hi
     rw[←h1] at hs;cases c' with
     | false=>
       cases k with
       | zero=>
         have:=FY L n λx hx=>by obtain ⟨i,_,e⟩:=VM hx;exact e▸hb i
         rw[hl] at this;omega
       | succ k=>rfl
     | true=>
       have hne:L'≠L:=by
        rcases h2 rfl with h | h
        . cases h
        rw[h1];exact h
       have:=hs.2 hne;exact BI k true L' hl' (h4 hb) (by omega)
def after (E:Nat->Uh) (n:Nat):Nat->List Int
 | 0=>zF n 0
 | k+1=>rounds E (zO n) (after E n k)
theorem Un (E:Nat->Uh) (n:Nat):∀k,(after E n k).length=n
 | 0=>by simp[after]
 | k+1=>by rw[after,Rz,Un E n k]
def PJ (E:Nat->Uh) (n:Nat) (L:List Int):Prop:=rounds E (zO n) L=L
theorem JO (n j:Nat):nth (zF n (0:Int)) j=0:=by
 by_cases h:j<n
 . simp[nth,zT,h]
 exact Te (by simp;omega)
theorem Cf (E:Nat->Uh) (n j:Nat):∀k,0<=nth (after E n k) j
 | 0=>by rw[after,JO];omega
 | k+1=>yJ (Cf E n j k) (QF E j _ _)
theorem QH {E:Nat->Uh} {n:Nat} {L:List Int} (hl:L.length=n) (h:PJ E n L):Sat E n L:=λi hi=>(BH (by omega)).1 (BG E _ L h i (yI.2 hi))
theorem Lw {E:Nat->Uh} {n:Nat} {g:List Int} (hs:Sat E n g) (h0:∀j,0<=nth g j):∀k j,nth (after E n k) j<=nth g j
 | 0,j=>by rw[after,JO];exact h0 j
 | k+1,j=>P8 hs _ _ (λi hi=>D0 hi) (Un E n k) (Lw hs h0 k) j
theorem R6 {E:Nat->Uh} {n k:Nat} (h:PJ E n (after E n k)):∀d,after E n (k+d)=after E n k
 | 0=>rfl
 | d+1=>by
   show rounds E (zO n) (after E n (k+d))=_;rw[R6 h d];exact h
theorem Qcq {E:Nat->Uh} {n k m:Nat} (hk:PJ E n (after E n k)) (hm:PJ E n (after E n m)):after E n k=after E n m:=by
 rcases Nat.le_total k m with h | h
 . have:=R6 hk (m-k);rw[show k+(m-k)=m by omega] at this;exact this.symm
 have:=R6 hm (k-m)
 rwa [show m+(k-m)=k by omega] at this
theorem Tf {E:Nat->Uh} {n:Nat}:∀k,(∀j,j<k->¬PJ E n (after E n j))->(k:Int)<=(after E n k).sum
 | 0,_=>by
   have:∀n:Nat,(zF n (0:Int)).sum=0:=λn=>by simp
   rw[after,this];omega
 | k+1,h=>by
   have h1:=Tf k λj hj=>h j (by omega)
   have h2:=(R0 (E:=E) (zO n) (after E n k) λi hi=>by rw[Un];exact D0 hi).2 (h k (by omega));show ((k+1:Nat):Int)<=(rounds E (zO n) (after E n k)).sum;omega
variable {E:Nat->Uh} {n:Nat} (hw:∀i e,e∈E i->e.2<=1/\e.1<n)
include hw in
theorem MM {k:Nat} (h:PJ E n (after E n k)):∀i,i<n->nth (after E n k) i<(n:Int):=
 SV hw (Un E n k) (QH (Un E n k) h) (λ_ _ hs h0=>Lw hs h0 k) λj=>Cf E n j k
include hw in
theorem GA {k:Nat} (h:PJ E n (after E n k)):PJ E n (after E n (n*n+2)):=by
 have hex:∃j,j<=n*n+1/\PJ E n (after E n j):=zS λhno=>by
  have h1:=Tf (E:=E) (n:=n) (n*n+2) λj hj hr=>hno ⟨j,by omega,hr⟩
  have h2:=FY (after E n (n*n+2)) n λx hx=>by
   obtain ⟨i,hi,e⟩:=VM hx;rw[Un] at hi;have h3:=Lw (QH (Un E n k) h) (λj=>Cf E n j k) (n*n+2) i;have:=MM hw h i hi;omega
  rw[Un] at h2;have h3:((n*n+2:Nat):Int)=(n:Int)*(n:Int)+2:=by rw[xF,Int.natCast_mul];rfl
  omega
 obtain ⟨j,hj,hr⟩:=hex;have:=R6 hr (n*n+2-j);rw[show j+(n*n+2-j)=n*n+2 by omega] at this;rw[this];exact hr
include hw in
theorem QI:∀(k m:Nat) (c:Bool) (r:Option (List Int)),(c=false->PJ E n (after E n m))->QG E n n k (c,after E n m)=some r->
 (∀L,r=some L->PJ E n (after E n (n*n+2))/\L=after E n (n*n+2))/\(r=none->¬PJ E n (after E n (n*n+2)))
 | 0,m,c,r,_,h=>by cases h
 | k+1,m,false,r,hc,h=>by
   obtain rfl:=yS h;have hr:=hc rfl;have hs:=GA hw hr;refine ⟨λL e=>⟨hs, ?_⟩,λe=>by cases e⟩;obtain rfl:=yS e;exact Qcq hr hs
 | k +1,m,true,r,_,h=>by
   simp only[QG] at h;have hlt:∀i,i∈zO n->i<(after E n m).length:=λi hi=>by rw[Un];exact D0 hi
   cases hcr:Gi E n (zO n) (false,after E n m) with
   | none=>
     rw[hcr] at h;obtain rfl:=yS h;refine ⟨λL e=>(by cases e),λ_ hr=> ?_⟩;obtain ⟨pre,i,h1,h2,h3⟩:=ZD _ _ _ hcr;have hsat:=QH (Un E n _) hr;have h4:=P8 hsat pre (after E n m) (λi hi=>D0 (h1 i hi)) (Un E n m) (Lw hsat (λj=>Cf E n j _) m);have h5:=FX (E:=E i) h4;have h6:=hsat i (D0 h2);have h7:=MM hw hr i (D0 h2);omega
   | some s=>
     rw[hcr] at h;obtain ⟨h1,_,h3,_⟩:=G7 _ _ _ s hlt hcr;obtain ⟨c',L'⟩:=s;simp only at h1 h3 h;have e:L'=after E n (m+1):=h1;subst e;refine QI k (m+1) c' r (λhc=> ?_) h;have h5:=(h3 hc).2;show rounds E (zO n) (after E n (m+1))=after E n (m+1);have e2:after E n (m+1)=after E n m:=h5;rw[e2];exact h5
omit hw
def XO (i:Nat) (L:List Int) (e:Nat×Int):List Int:=if nth L i<nth L e.1+e.2 then L.set i (nth L e.1+e.2) else L
def Eh (i:Nat) (E:Uh) (L:List Int):List Int:=E.foldl (XO i) L
theorem Ol (i:Nat) (L:List Int) (e:Nat×Int):(XO i L e).length=L.length:=by unfold XO;split<;>simp
theorem Lx (i:Nat):∀(E:Uh) (L:List Int),(Eh i E L).length=L.length
 | [],_=>rfl
 | e::E,L=>(Lx i E (XO i L e)).trans (Ol i L e)
theorem JP {i:Nat} {L:List Int} (e:Nat×Int) (hi:i<L.length) (j:Nat):nth (XO i L e) j=if j=i then max (nth L i) (nth L e.1+e.2) else nth L j:=by
 unfold XO;split
 . rw[Td _ _ hi];split<;>omega
 split
 . rename_i h;subst h;omega
 rfl
theorem GB {i:Nat}:∀(E:Uh) {L M:List Int},i<M.length->(∀j,j≠i->nth M j=nth L j)->nth L i<=nth M i->(∀e,e∈E->e.1=i->e.2<=0)->∀j,nth (Eh i E M) j=if j=i then E.foldl (λm e=>max m (nth L e.1+e.2)) (nth M i) else nth L j
 | [],L,M,hi,hj,h0,hs,j=>by
   show nth M j=_;split
   . rename_i e;subst e;rfl
   rename_i e;exact hj j e
 | e ::E,L,M,hi,hj,h0,hs,j=>by
   show nth (Eh i E (XO i M e)) j=_;have hb:=JP e hi
   have hmax:nth (XO i M e) i=max (nth M i) (nth L e.1+e.2):=by
    rw[hb,if_pos rfl];by_cases he:e.1=i
    . have:=hs e zM he;rw[he];omega
    rw[hj e.1 he]
   rw[GB E (L:=L) (M:=XO i M e) (by rw[Ol];exact hi) (λk hk=>by rw[hb,if_neg hk];exact hj k hk) (by rw[hmax];omega) (λe' he'=>hs e' (zJ _ he')) j,hmax,List.foldl_cons]
theorem Qf8 (L:List Int):∀(E:Uh) (m:Int),0<=m->E.foldl (λm e=>max m (nth L e.1+e.2)) m=max m (Mm E L):=λE m hm=>by
 have h1:=Ok L (E.foldl (λm e=>max m (nth L e.1+e.2)) m) E m;have h2:=h1.1 (zR _);have h3:Mm E L<=E.foldl (λm e=>max m (nth L e.1+e.2)) m:=Ce.2 ⟨by omega,h2.2⟩;have h4:=(Ok L (max m (Mm E L)) E m).2 ⟨by omega,λe he=>by have:=(Ce.1 (zR (Mm E L))).2 e he;omega⟩;omega
theorem Qf9 {E:Nat->Uh} {L:List Int} {i:Nat} (hi:i<L.length) (h0:0<=nth L i) (hs:∀e,e∈E i->e.1=i->e.2<=0):Eh i (E i) L=A6 E L i:=
 Qco ((Lx i (E i) L).trans (Lu E L i).symm) λj=>by
  rw[GB (E i) hi (λ_ _=>rfl) (zR _) hs,Qf8 _ _ _ h0];unfold A6;by_cases hlt:nth L i<Mm (E i) L
  . rw[if_pos hlt,Td _ _ hi];split<;>omega
  rw[if_neg hlt];split
  . rename_i e;subst e;omega
  rfl
theorem JQ {i:Nat}:∀(E:Uh) {L:List Int},i<L.length->∀j,nth L j<=nth (Eh i E L) j
 | [],_,_,_=>zR _
 | e::E,L,hi,j=>by
   have h1:=JQ E (L:=XO i L e) (by rw[Ol];exact hi) j;have h2:=JP e hi j;show _<=nth (Eh i E (XO i L e)) j;split at h2
   . rename_i h;subst h;omega
   omega
theorem BJ {i:Nat}:∀(E:Uh) {L:List Int},i<L.length->(∃e,e∈E/\e.1=i/\1<=e.2)->nth L i+1<=nth (Eh i E L) i
 | [],_,_,⟨e,he,_⟩=>by simp at he
 | e::E,L,hi,⟨e',he,h1,h2⟩=>by
   have h3:=JP e hi i;rw[if_pos rfl] at h3;have hb:=JQ E (L:=XO i L e) (by rw[Ol];exact hi) i;show _<=nth (Eh i E (XO i L e)) i;rcases zP.1 he with rfl | he
   . rw[h1] at h3;omega
   have:=BJ E (L:=XO i L e) (by rw[Ol];exact hi) ⟨e',he,h1,h2⟩;omega
def Dj (E:Nat->Uh) (is:List Nat) (L:List Int):List Int:=is.foldl (λL i=>Eh i (E i) L) L
theorem Tg (E:Nat->Uh):∀(is:List Nat) (L:List Int),(Dj E is L).length=L.length
 | [],_=>rfl
 | i::is,L=>(Tg E is (Eh i (E i) L)).trans (Lx i _ L)
theorem YH {E:Nat->Uh} (hs:∀i e,e∈E i->e.1=i->e.2<=0):∀(is:List Nat) (L:List Int),(∀i,i∈is->i<L.length)->(∀j,0<=nth L j)->Dj E is L=rounds E is L
 | [],_,_,_=>rfl
 | i::is,L,hi,h0=>by
   have hil:=hi i zM;show Dj E is (Eh i (E i) L)=rounds E is (A6 E L i);rw[Qf9 hil (h0 i) (hs i)];exact YH hs is _ (λk hk=>by rw[Lu];exact hi k (zJ _ hk)) λj=>yJ (h0 j) (DG E L i j)
theorem BK {E:Nat->Uh}:∀(is:List Nat) (L:List Int),(∀i,i∈is->i<L.length)->∀j,nth L j<=nth (Dj E is L) j
 | [],_,_,_=>zR _
 | i::is,L,hi,j=>yJ (JQ (E i) (hi i zM) j) (BK is (Eh i (E i) L) (λk hk=>by rw[Lx];exact hi k (zJ _ hk)) j)
theorem ZE {E:Nat->Uh} {i:Nat} (he:∃e,e∈E i/\e.1=i/\1<=e.2):∀(is:List Nat) (L:List Int),(∀i,i∈is->i<L.length)->i∈is->nth L i+1<=nth (Dj E is L) i
 | [],_,_,h=>by simp at h
 | k::is,L,hi,h=>by
   have hk:=hi k zM;have hl:∀x,x∈is->x<(Eh k (E k) L).length:=λx hx=>by rw[Lx];exact hi x (zJ _ hx)
   show _<=nth (Dj E is (Eh k (E k) L)) i;have h1:=JQ (E k) hk i;have h2:=BK (E:=E) is (Eh k (E k) L) hl i;rcases zP.1 h with rfl | h
   . have:=BJ (E i) hk he;omega
   have:=ZE he is (Eh k (E k) L) hl h;omega
def Cg (E:Nat->Uh) (n:Nat):Nat->List Int
 | 0=>zF n 0
 | k+1=>Dj E (zO n) (Cg E n k)
theorem R7 (E:Nat->Uh) (n:Nat):∀k,(Cg E n k).length=n
 | 0=>by simp[Cg]
 | k+1=>by rw[Cg,Tg,R7 E n k]
theorem GC {E:Nat->Uh} {n:Nat} (hs:∀i e,e∈E i->e.1=i->e.2<=0):∀k,Cg E n k=after E n k
 | 0=>rfl
 | k+1=>by
   rw[Cg,after,GC hs k];exact YH hs _ _ (λi hi=>by rw[Un];exact D0 hi) λj=>Cf E n j k
theorem Qcr {E:Nat->Uh} {n:Nat} (hw:∀i e,e∈E i->e.2<=1/\e.1<n/\i<n) {k:Nat} {r:Option (List Int)} (h:QG E n n k (true,zF n 0)=some r):
 (Dj E (zO n) (Cg E n (n*n+2))=Cg E n (n*n+2)->r=some (Cg E n (n*n+2)))/\(Dj E (zO n) (Cg E n (n*n+2))≠Cg E n (n*n+2)->r=none):=by
 have hw':∀i e,e∈E i->e.2<=1/\e.1<n:=λi e he=>⟨(hw i e he).1,(hw i e he).2.1⟩
 obtain ⟨h1,h2⟩:=QI hw' k 0 true r (λe=>by cases e) h;by_cases hself:∃i,∃e,e∈E i/\e.1=i/\1<=e.2
 . obtain ⟨i,e,he,hei,h3⟩:=hself;have hi:i<n:=(hw i e he).2.2
   have hne:Dj E (zO n) (Cg E n (n*n+2))≠Cg E n (n*n+2):=λheq=>by
    have:=ZE (E:=E) ⟨e,he,hei,h3⟩ (zO n) (Cg E n (n*n+2)) (λk hk=>by rw[R7];exact D0 hk) (yI.2 hi);rw[heq] at this;omega
   refine ⟨λh=>(hne h).elim,λ_=> ?_⟩;cases r with
   | none=>rfl
   | some L=>
     obtain ⟨hr,_⟩:=h1 L rfl;have h4:=QH (Un E n _) hr i hi;have h5:=(Ce.1 h4).2 e he;rw[hei] at h5;omega
 have hs:∀i e,e∈E i->e.1=i->e.2<=0:=λi e he hei=>zS λhn=>hself ⟨i,e,he,hei,by omega⟩
 rw[GC hs,YH hs _ _ (λi hi=>by rw[Un];exact D0 hi) λj=>Cf E n j _];refine ⟨λhr=> ?_,λhr=> ?_⟩
 . cases r with
   | none=>exact (h2 rfl hr).elim
   | some L=>rw[(h1 L rfl).2]
 cases r with
 | none=>rfl
 | some L=>exact (hr (h1 L rfl).1).elim
end
section
open Go.Shelf
def Sh.lays190_ren:Go.Shelf.Ren:=⟨λ| 190=>232 | 125=>266 | 258=>265 | 128=>299 | 129=>300 | 302=>290 | 303=>291 | 304=>292 | 305=>293 | 306=>294 | 307=>295 | 308=>296 | 309=>297 | 310=>298 | 333=>306 | 329=>307 | 330=>308 | 334=>309 | 335=>310 | 336=>311 | 344=>313 | n=>n,λ| 31=>204 | 9=>9 | 3=>3 | 46=>299 | 0=>0 | 51=>320 | 53=>322 | 4=>4 | 183=>312 | 182=>311 | 131=>317 | 5=>5 | 218=>327 | 222=>331 | 228=>333 | 229=>334 | n=>n,λ| n=>n⟩
theorem Sh.lays190:Go.Proofs.Lays.n190 Tryz.prog Sh.lays190_ren:={
 mixed:=by kernel_rfl
 f125:=Tryz.func266.trans (congrArg some (by kernel_rfl))
 f128:=Tryz.func299.trans (congrArg some (by kernel_rfl))
 f129:=Tryz.func300.trans (congrArg some (by kernel_rfl))
 f190:=Tryz.func232.trans (congrArg some (by kernel_rfl))
 f258:=Tryz.func265.trans (congrArg some (by kernel_rfl))
 f302:=Tryz.func290.trans (congrArg some (by kernel_rfl))
 f303:=Tryz.func291.trans (congrArg some (by kernel_rfl))
 f304:=Tryz.func292.trans (congrArg some (by kernel_rfl))
 f305:=Tryz.func293.trans (congrArg some (by kernel_rfl))
 f306:=Tryz.func294.trans (congrArg some (by kernel_rfl))
 f307:=Tryz.func295.trans (congrArg some (by kernel_rfl))
 f308:=Tryz.func296.trans (congrArg some (by kernel_rfl))
 f309:=Tryz.func297.trans (congrArg some (by kernel_rfl))
 f310:=Tryz.func298.trans (congrArg some (by kernel_rfl))
 f329:=Tryz.func307.trans (congrArg some (by kernel_rfl))
 f330:=Tryz.func308.trans (congrArg some (by kernel_rfl))
 f333:=Tryz.func306.trans (congrArg some (by kernel_rfl))
 f334:=Tryz.func309.trans (congrArg some (by kernel_rfl))
 f335:=Tryz.func310.trans (congrArg some (by kernel_rfl))
 f336:=Tryz.func311.trans (congrArg some (by kernel_rfl))
 f344:=Tryz.func313.trans (congrArg some (by kernel_rfl))
 t0:=Tryz.underlying0
 a0:=Tryz.isAgg0
 z0:=Tryz.sizeOf0
 v0:=Tryz.zeroValue0
 t3:=Tryz.underlying3
 a3:=Tryz.isAgg3
 z3:=Tryz.sizeOf3
 v3:=Tryz.zeroValue3
 t4:=Tryz.underlying4
 a4:=Tryz.isAgg4
 z4:=Tryz.sizeOf4
 v4:=Tryz.zeroValue4
 t5:=Tryz.underlying5
 a5:=Tryz.isAgg5
 z5:=Tryz.sizeOf5
 v5:=Tryz.zeroValue5
 t9:=Tryz.underlying9
 a9:=Tryz.isAgg9
 z9:=Tryz.sizeOf9
 v9:=Tryz.zeroValue9
 t31:=Tryz.underlying204
 a31:=Tryz.isAgg204
 z31:=Tryz.sizeOf204
 v31:=Tryz.zeroValue204
 t46:=Tryz.underlying299
 a46:=Tryz.isAgg299
 z46:=Tryz.sizeOf299
 v46:=Tryz.zeroValue299
 t51:=Tryz.underlying320
 a51:=Tryz.isAgg320
 z51:=Tryz.sizeOf320
 v51:=Tryz.zeroValue320
 t53:=Tryz.underlying322
 a53:=Tryz.isAgg322
 z53:=Tryz.sizeOf322
 v53:=Tryz.zeroValue322
 t131:=Tryz.underlying317
 a131:=Tryz.isAgg317
 z131:=Tryz.sizeOf317
 v131:=Tryz.zeroValue317
 t182:=Tryz.underlying311
 a182:=Tryz.isAgg311
 z182:=Tryz.sizeOf311
 v182:=Tryz.zeroValue311
 t183:=Tryz.underlying312
 a183:=Tryz.isAgg312
 z183:=Tryz.sizeOf312
 v183:=Tryz.zeroValue312
 t218:=Tryz.underlying327
 a218:=Tryz.isAgg327
 z218:=Tryz.sizeOf327
 v218:=Tryz.zeroValue327
 t222:=Tryz.underlying331
 a222:=Tryz.isAgg331
 z222:=Tryz.sizeOf331
 v222:=Tryz.zeroValue331
 t228:=Tryz.underlying333
 a228:=Tryz.isAgg333
 z228:=Tryz.sizeOf333
 v228:=Tryz.zeroValue333
 t229:=Tryz.underlying334
 a229:=Tryz.isAgg334
 z229:=Tryz.sizeOf334
 v229:=Tryz.zeroValue334}
open Go.Sort Go.RowKit in
theorem Sh.slices_Sort_string (blk off cap:Nat) (ss:List (List UInt8)) (w:World) (hH:Holds encStr w blk off ss.toArray) (hblk:blk<w.heap.size) (hsz:ss.length<4611686018427387904):
 Calls Tryz.prog 232 #[.slice (some ⟨blk,off,none⟩) ss.length cap] w λe w'=>
  e= .returned (.tuple #[])/\∃n os,w'=grow (putRow encStr (Sort.ahead w n) blk off (ss.mergeSort λx y=>decide (x<=y)).toArray) os:=Any.slices_Sort_string Sh.lays190 blk off cap ss w hH hblk hsz
def Sh.lays194_ren:Go.Shelf.Ren:=⟨λ| 194=>233 | n=>n,λ| 31=>204 | 9=>9 | 3=>3 | 4=>4 | 0=>0 | n=>n,λ| n=>n⟩
theorem Sh.lays194:Go.Proofs.Lays.n194 Tryz.prog Sh.lays194_ren:={
 mixed:=by kernel_rfl
 f194:=Tryz.func233.trans (congrArg some (by kernel_rfl))
 t0:=Tryz.underlying0
 a0:=Tryz.isAgg0
 z0:=Tryz.sizeOf0
 v0:=Tryz.zeroValue0
 t3:=Tryz.underlying3
 a3:=Tryz.isAgg3
 z3:=Tryz.sizeOf3
 v3:=Tryz.zeroValue3
 t4:=Tryz.underlying4
 a4:=Tryz.isAgg4
 z4:=Tryz.sizeOf4
 v4:=Tryz.zeroValue4
 t9:=Tryz.underlying9
 a9:=Tryz.isAgg9
 z9:=Tryz.sizeOf9
 v9:=Tryz.zeroValue9
 t31:=Tryz.underlying204
 a31:=Tryz.isAgg204
 z31:=Tryz.sizeOf204
 v31:=Tryz.zeroValue204}
open Go.RowKit Go.Lib Go.Sort in
theorem Sh.slices_Compact_string (blk off cap:Nat) (zs:List (List UInt8)) (w:World) (hH:Holds encStr w blk off zs.toArray) (hsz:zs.length<=9223372036854775807) (hcap:zs.length<=cap):
 Calls Tryz.prog 233 #[.slice (some ⟨blk,off,none⟩) zs.length cap] w λe w'=>e= .returned (.slice (some ⟨blk,off,none⟩) (Lib.compact zs).length cap)/\∃q,w'=putRow encStr (Sort.ahead w q) blk off (Lib.compact zs++zF (zs.length-(Lib.compact zs).length) []).toArray:=Any.slices_Compact_string Sh.lays194 blk off cap zs w hH hsz hcap
open Go.RowKit Go.Lib Go.Sort in
theorem Sh.slices_Compact_string_empty (a:Option Addr) (cap:Nat) (w:World):
 Calls Tryz.prog 233 #[.slice a 0 cap] w λe w'=>e= .returned (.slice a 0 cap)/\w'=w:=Any.slices_Compact_string_empty Sh.lays194 a cap w
open Go.RowKit Go.Sort in
theorem Sh.slices_Sort_string_none (p:Option Addr) (cap:Nat) (w:World):
 Calls Tryz.prog 232 #[.slice p 0 cap] w λe w'=>e= .returned (.tuple #[])/\w'=w:=Any.slices_Sort_string_none Sh.lays190 p cap w
end
section
open Go.RowKit
theorem Qjv (l:List ByteArray):ATake Tryz.prog 232 1 (eL l) [] false true (eL (P7 l)):=by
 have h:=ST oneS (P:=Tryz.prog) (f:=232) (by unfold It;kernel_rfl) (λl=>l.mergeSort λx y=>decide (x<=y)) (λl=>xJ _) (λl x h=>(xN l _).mem_iff.1 h) (λoa cap w=>Sh.slices_Sort_string_none oa cap w) (λg cap l w h h2 h3=>Sh.slices_Sort_string g 0 cap l w h h2 h3) l;exact h
theorem Qjw (l:List ByteArray):ATake Tryz.prog 233 1 (eL l) [] false false (eL (VJ l)):=by
 have h:=SU oneS (P:=Tryz.prog) (f:=233) (by unfold It;kernel_rfl) Lib.compact DD Qf6 (λoa cap w=>Sh.slices_Compact_string_empty oa cap w) (λg cap l w h h2 h3=>(Sh.slices_Compact_string g 0 cap l w h h2 h3).mono (by rintro e w' ⟨h4,q,h5⟩;exact ⟨h4,q,_,by have:=DD l;simp;omega,h5⟩)) l;exact h
open GoE (enc wide)
def I0 (s_:ByteArray) (k0:Nat) (a0:ByteArray) (_:Unit):Rd Z (Unit) (Int):=(bif (Op.bytesLess a0.toList s_.toList) then (.next ()) else (.brk (k0:Int)))
def I1 (k0:Nat) (_:Unit):Int:=(k0:Int)
def Kg (list:Z) (s_:ByteArray):Z:=(Out.on (X7 (I0 s_) I1 list 0 ()) (λy0=>(bif (decide (y0<(list.length:Int))&&((nth list y0.toNat).toList==s_.toList)) then list else zQ y0.toNat list++ [s_]++(yC y0.toNat list))))
theorem Ex (list:Z) (s_:ByteArray) (hp:list.length<1073741824):ACalls Tryz.prog 208 [.h list,.s s_] (.h (Kg list s_)):=by
 refine en Qa Tryz.func208 λw0 F0 hG=> ?_
 refine sn Qa [0,1,4] [] p0 <| tn Qa [0,1,4,5] [] p0 <| Qc <| mz [(4,.e 0),(5,.i 0)] [] [] [] <| wT 0 0 .sh list (λhw1 hl2=> ?_)
 refine Qmq (I0 s_) I1 list () (λk0 _=> [(5,.i (k0:Int))]) [5] (λy0=> [(5,.i y0)]) [5] (λy0=>0<=y0/\y0<=(list.length:Int)) wf0 (λk0 s0 hk0 U=> ?_) (λk0 s0 hk0 U=> ?_) (λy0 hD0=> ?_)
 ·obtain ⟨a0,V⟩:=Xs (l:=list) (i:=k0) hk0;refine Qc <| sn Qa [0,1,4,5,18] [] (pl 2 list (pe 3 (zB ((k0:Int)<(list.length:Int))) (pn 7 V p0))) <| ck (Op.bytesLess a0.toList s_.toList) (λh3=> ?_) (λh3=> ?_)
  ·refine Qe <| Qt <| qn Qa [0,1,4,5] [] (pe 1 (J6 (Ql k0 (by omega))) p0) ?_
   exact xw _ (Qp V (Xm h3 (rfl)) U)
  exact Q9 <| xw (k0:Int) ⟨Qfz V (Qn h3 (rfl)) U,by first|omega|(simp only[zG];omega)⟩
 ·exact Qc <| sn Qa [0,1,4,5,18] [] (pl 2 list (pe 3 (zC ((k0:Int)<(list.length:Int))) p0)) <| ckF <| Q9 <| xw (k0:Int) ⟨Xt hk0 (rfl) U,by first|omega|(simp only[zG];omega)⟩
 have hD0_0:=hD0.2;refine Qc <| Qc <| jn [(32,.b (decide (y0<(list.length:Int))&&((nth list y0.toNat).toList==s_.toList)))] [] [] [] (decide (y0<(list.length:Int))) (λh4=> ?_) (λh4=> ?_) ?_
 ·have h4d:=of_decide_eq_true h4;have hx5:=ng list y0.toNat;refine rn Qa [0,1,4,5,32] [] (pl 2 list (pt 3 h4 (pg 7 y0 hx5 p0))) ?_;exact zA (by rw[h4]<;>kernel_rfl)
 ·refine rn Qa [0,1,4,5,32] [] (pl 2 list (pf 3 h4 p0)) ?_;exact zA (by rw[h4]<;>kernel_rfl)
 refine ck (decide (y0<(list.length:Int))&&((nth list y0.toNat).toList==s_.toList)) (λh6=> ?_) (λh6=> ?_)
 ·exact sn Qa [0,1,4,5] [] p0 <| Qh <| ph0 [] (Uc hD0.1 (Xm h6 (rfl)))
 refine Qe ?_;have hl7:zD (zQ y0.toNat list)<=1073741824:=Iz (FK y0.toNat (hw1));refine su Qa [(6,.one (.slc (.own true 2624) 1 (([]++(eL (zQ y0.toNat list)))++ [[.s s_]])))] [1,32] [] [] (pe 3 (LX .sh 1 y0.toNat y0 list rfl) (px (T2 (lo:=0) (hi:=y0) (n:=(zD (eL list))) (Qhz (by omega) (by omega) (by omega))) (po 4 (.flat) (px (Ga (n:=(([]:List (List PV)).length+((eL (zQ y0.toNat list)):List (List PV)).length)) (Iu (rfl) (Zs (zQ y0.toNat list)) (by first|omega|(simp only[zL,yT];omega) | (simp;omega) | simp))) (px (Ec (Df (zQ y0.toNat list))) (px (Ga (n:=((([]++(eL (zQ y0.toNat list))):List (List PV)).length+([[.s s_]]:List (List PV)).length)) (by simp[Zs];omega)) p0)))))) <| eqn [(6,.o 2624 (zQ y0.toNat list++ [s_]))] [6] [] [] (by rw[show (([]++(eL (zQ y0.toNat list)))++ [[.s s_]])=(eL (zQ y0.toNat list++ [s_])) from We (rfl) (rfl)];first | done | kernel_rfl) ?_
 refine wT 6 0 (.own true 2624) (zQ y0.toNat list++ [s_]) (λhw8 hl9=> ?_);have hl10:zD (yC y0.toNat list)<=1073741824:=Iz (FL y0.toNat (hw1));refine su Qa [(4,.one (.slc (.own true 2944) 1 ((eL (zQ y0.toNat list++ [s_]))++(eL (yC y0.toNat list)))))] [0,4,5,6] [] [] (pe 3 (Qb8 .sh 1 y0.toNat y0 list rfl) (px (T2 (lo:=y0) (hi:=(((eL list):List (List PV)).length:Int)) (n:=(zD (eL list))) (Qb9 (by omega) (by omega))) (po 4 (.flat) (pa (zQ y0.toNat list++ [s_]) (yC y0.toNat list) (px (Ec (Df (yC y0.toNat list))) p0))))) <| eqn [(4,.o 2944 (zQ y0.toNat list++ [s_]++(yC y0.toNat list)))] [4] [] [] (by rw[show ((eL (zQ y0.toNat list++ [s_]))++(eL (yC y0.toNat list)))=(eL (zQ y0.toNat list++ [s_]++(yC y0.toNat list))) from We (rfl) (rfl)];first | done | kernel_rfl) ?_
 exact Qh <| ph0 [2944] (Uc hD0.1 (Qn h6 (rfl)))
theorem Hm {a b:ByteArray}:(a.toList==b.toList)=decide (a=b):=by
 rw[ByteArray.toList_eq,ByteArray.toList_eq,yU];simp only[beq_iff_eq,decide_eq_true_eq];exact ⟨λh=>ByteArray.ext (Array.ext' h),λh=>h▸rfl⟩
def Gb (l:List ByteArray) (s:ByteArray):Nat:=(l.takeWhile λx=>bl x s).length
theorem VN (a:ByteArray) (l:List ByteArray) (s:ByteArray):Gb (a::l) s=if bl a s=true then Gb l s+1 else 0:=by
 unfold Gb;rw[List.takeWhile_cons];cases bl a s<;>simp
theorem BL (s:ByteArray):∀(l:List ByteArray) (k:Nat),X7 (I0 s) I1 l k ()= .brk (((k+Gb l s:Nat)):Int)
 | [],k=>by simp[X7,I1,Gb]
 | a ::l,k=>by
   rw[VN];simp only[X7,I0];cases h:Op.bytesLess a.toList s.toList with
   | true=>
     have h':bl a s=true:=h;simp only[cond_true,h',if_true];rw[BL s l (k+1),show k+1+Gb l s=k+(Gb l s+1) by omega]
   | false=>
     have h':bl a s=false:=h;simp[h']
theorem Qcs (s:ByteArray):∀l:List ByteArray,DE l s=bif (decide (((Gb l s:Nat):Int)<(l.length:Int))&&((nth l (Gb l s)).toList==s.toList)) then l else zQ (Gb l s) l++ [s]++yC (Gb l s) l
 | []=>by simp[DE,Gb]
 | a ::l=>by
   rw[VN,DE];cases h:bl a s with
   | true=>
     simp only[if_true];rw[Qcs s l];have e:nth (a::l) (Gb l s+1)=nth l (Gb l s):=rfl
     rw[e,show decide ((((Gb l s+1:Nat)):Int)<((a::l).length:Int))=decide (((Gb l s:Nat):Int)<(l.length:Int)) by
      rw[yU];simp only[decide_eq_true_eq,zL];omega]
     generalize (decide (((Gb l s:Nat):Int)<(l.length:Int))&&((nth l (Gb l s)).toList==s.toList))=c;cases c<;>simp
   | false=>
     have e:nth (a::l) 0=a:=rfl;simp only[zY,if_false];rw[e,Hm];by_cases hs:a=s
     . simp[hs]
     simp[hs]
theorem P9 (l:List ByteArray) (s:ByteArray):Kg l s=DE l s:=by
 unfold Kg;rw[BL,Qcs];simp only[Out.on,zV,zN]
theorem Ra (l:List ByteArray) (s:ByteArray):zD (Kg l s)<=zD l+1:=by rw[P9];exact PH s l
open GoE (enc wide)
def Jp (n:Yz):Bool:=((n.1==(8:Int))|| (n.1==(9:Int)))
theorem M2 (n:Yz):ACalls Tryz.prog 264 [.a [.i n.1,.i n.2.1,.i n.2.2.1,.s n.2.2.2.1,.i n.2.2.2.2.1,.i n.2.2.2.2.2.1,.s n.2.2.2.2.2.2]] (.b (Jp n)):=by
 refine en Qa Tryz.func264 λw0 F0 hG=> ?_
 refine sn Qa [1,2] [1] p0 <| Qc <| mz [(1,.p 1 0),(2,.b false)] [0] [(1, [.i n.1,.i n.2.1,.i n.2.2.1,.s n.2.2.2.1,.i n.2.2.2.2.1,.i n.2.2.2.2.2.1,.s n.2.2.2.2.2.2])] [] <| jn [(2,.b ((n.1==(8:Int))|| (n.1==(9:Int))))] [1,2] [] [1] (n.1==(8:Int)) (λh1=> ?_) (λh1=> ?_) ?_
 ·refine rn Qa [2] [] (pt 2 h1 p0) ?_;exact zA (by rw[h1]<;>kernel_rfl)
 ·refine rn Qa [2] [] (pf 2 h1 p0) ?_;exact zA (by rw[h1]<;>kernel_rfl)
 exact Qh <| pb [] (show Jp n=((n.1==(8:Int))|| (n.1==(9:Int))) from rfl)
def Gw (l:Z):Z:=VJ (P7 l)
theorem Pb (l:Z):ACalls Tryz.prog 193 [.h l] (.h (Gw l)):=by
 refine en Qa Tryz.func193 λw0 F0 hG=> ?_
 refine sn Qa [0,2] [] p0 <| tn Qa [2,3] [] (pc 1 (QA l) p0) <| mz [(2,.e 0),(3,.o 320 l)] [0] [] [] <| Lt [320] rfl ?_
 refine su Qa [(3,.one (.slc (.own false 320) 1 (Qil (eL l) 0 4294967296 (List.flatten (eL (P7 l))))))] [3] [] [] (po 1 (.take false true (eL (P7 l))) (px (S5 (Qjv l)) p0)) <| eqn [(3,.q 320 (P7 l))] [3] [] [] (by rw[Qf7 (λ_=>rfl) (FV _)]<;>kernel_rfl) ?_
 exact sn Qa [2] [] (po 1 (.take false false (eL (VJ (P7 l)))) (px (S5 (Qjw (P7 l))) p0)) <| Qh <| ph0 [576] (show Gw l=VJ (P7 l) from rfl)
def W4 (q:List Yz) (negated:Bool) (k0:Nat) (a0:Bool) (s0:Z):Rd Z Z Z:=(bif ((Jp (nth q k0))&&(a0==negated)) then (.next (s0++ [(nth q k0).2.2.2.1])) else (.next s0))
def Ag (_:Nat) (s0:Z):Z:=s0
def Ui (q:List Yz) (negated:Bool):Z:=(Out.on (X7 (W4 q negated) Ag (Ym q) 0 []) (λy0=>(Gw y0)))
theorem Rb (q:List Yz) (negated:Bool):ACalls Tryz.prog 280 [.h q,.b negated] (.h (Ui q negated)):=by
 refine en Qa Tryz.func280 λw0 F0 hG=> ?_
 have hnl:=Ta q;refine sn Qa [0,1,4] [] p0 <| tn Qa [0,1,4,5] [] p0 <| Qc <| tu Qa [(4,.e 0),(5,.one (.slc (.own true 512) 1 [])),(10,.o 640 (Ym q)),(11,.i ((Ym q).length:Int)),(12,.i 0)] [] [] [] (pc 1 (QC q) (pl 2 (Ym q) p0)) <| wT 10 0 (.own true 640) (Ym q) (λhw1 hl2=> ?_)
 refine ZQ (W4 q negated) Ag (Ym q) [] (λk0 s0=> [(5,.o 147203 s0),(12,.i (k0:Int))]) [5,12] (λy0=> [(5,.o 147353 y0)]) [0,1,5,10,11,12] (λk0 s0=>zD s0<=k0) (X4 [(512,147203)] (by kernel_rfl)) (by simp) (λk0 s0 hk0 U=> ?_) (λk0 s0 hk0 U=> ?_) (λy0 hD0=> ?_)
 ·have hA0_0:=U.2;obtain ⟨a0,V⟩:=Xs (l:=Ym q) (i:=k0) hk0;refine su Qa [(13,.b true)] [] [] [] (pe 0 (zB ((k0:Int)<((Ym q).length:Int))) p0) <| Qc <| ckT <| Qe <| Qc <| Qt <| sn Qa [0,1,4,5,6,7,10,11,12] [] (pN 1 V p0) <| Qc <| mz [(6,.i (k0:Int)),(7,.b a0)] [13] [] [] <| jn [(26,.b ((Jp (nth q k0))&&(a0==negated)))] [7] [] [] (Jp (nth q k0)) (λh3=> ?_) (λh3=> ?_) ?_
  ·refine wT 0 0 .sh q (λhw5 hl6=> ?_);have hx4:=ng q k0;refine rn Qa [0,1,4,5,6,10,11,12,26] [] (pn 2 hx4 (pc 4 (cb h3 (M2 (nth q k0))) p0)) ?_;exact zA (by rw[h3]<;>kernel_rfl)
  ·refine wT 0 0 .sh q (λhw8 hl9=> ?_);have hx7:=ng q k0;refine ru Qa [(26,.b false)] [7] [] [] (pn 2 hx7 (pc 4 (cb h3 (M2 (nth q k0))) p0)) ?_;exact zA (by rw[h3]<;>kernel_rfl)
  refine ck ((Jp (nth q k0))&&(a0==negated)) (λh10=> ?_) (λh10=> ?_)
  ·have h10r:((a0==negated))=true:=CY h10;have h10rd:=eq_of_beq h10r;refine wT 0 0 .sh q (λhw12 hl13=> ?_);have hx11:=ng q k0;refine wT 5 0 (.own true 147203) s0 (λhw14 hl15=> ?_);refine ru Qa [(5,.one (.slc (.own true 2176) 1 ((eL s0)++ [[.s ((nth q k0).2.2.2.1)]])))] [5,6,26] [] [] (pn 3 hx11 (pa s0 [(nth q k0).2.2.2.1] p0)) ?_;refine eqn [(5,.o 2176 (s0++ [(nth q k0).2.2.2.1]))] [5] [] [] (by rw[show ((eL s0)++ [[.s ((nth q k0).2.2.2.1)]])=(eL (s0++ [(nth q k0).2.2.2.1])) from We (rfl) (rfl)];first | done | kernel_rfl) ?_;refine rn Qa [0,1,4,5,10,11,12] [] (pe 0 (J6 (Ql k0 (by omega))) p0) ?_;exact zZ (s0++ [(nth q k0).2.2.2.1]) (yN (X4 [(2176,147203)] (by kernel_rfl)) ⟨Qp V (Xm h10 (rfl)) U.1,by first|omega|(simp;omega) | simp⟩)
  refine Qe <| rn Qa [0,1,4,5,10,11,12] [] (pe 0 (J6 (Ql k0 (by omega))) p0) ?_
  exact xw s0 ⟨Qp V (Qn h10 (rfl)) U.1,by first|omega|(simp;omega) | simp⟩
 ·have hA0_0:=U.2;exact su Qa [(13,.b false)] [] [] [] (pe 0 (zC ((k0:Int)<((Ym q).length:Int))) p0) <| Qc <| ckF <| Q9 <| zZ _ (yN (X4 [(147203,147353)] (by kernel_rfl)) (Xt hk0 (rfl) U.1))
 exact sn Qa [4] [] (pc 1 (Pb y0) p0) <| Qh <| ph0 [] (Uc hD0 (rfl))
def Y2 (q:List Yz):Z:=(Ui q false)
theorem QK (q:List Yz):ACalls Tryz.prog 248 [.h q] (.h (Y2 q)):=by
 refine en Qa Tryz.func248 λw0 F0 hG=> ?_
 exact sn Qa [0,2] [] p0 <| tn Qa [2] [] (pc 1 (Rb q false) p0) <| Qh <| ph0 [] (show Y2 q=(Ui q false) from rfl)
def Yh (q:List Yz):Z:=(Ui q true)
theorem QM (q:List Yz):ACalls Tryz.prog 249 [.h q] (.h (Yh q)):=by
 refine en Qa Tryz.func249 λw0 F0 hG=> ?_
 exact sn Qa [0,2] [] p0 <| tn Qa [2] [] (pc 1 (Rb q true) p0) <| Qh <| ph0 [] (show Yh q=(Ui q true) from rfl)
def Fi (q:List Yz) (under:Bool) (k0:Nat) (a0:Bool) (s0:Z):Rd Z Z Z:=(bif ((Xk ((nth q k0).1) 8 9)&&(a0==under)) then (.next (Kg s0 ((nth q k0).2.2.2.1))) else (.next s0))
def Fj (_:Nat) (s0:Z):Z:=s0
def Ch (q:List Yz) (under:Bool):Z:=(Out.on (X7 (Fi q under) Fj (Js q) 0 []) (λy0=>y0))
theorem Sm (q:List Yz) (under:Bool):ACalls Tryz.prog 301 [.h q,.b under] (.o 0 (Ch q under)):=by
 refine en Qa Tryz.func301 λw0 F0 hG=> ?_
 have hnl:=FU q;refine sn Qa [0,1,4] [] p0 <| tn Qa [0,1,4,5] [] p0 <| tu Qa [(4,.e 0),(5,.one (.slc (.own true 512) 1 [])),(6,.o 640 (Js q))] [] [] [] (pc 1 (QD q) p0) <| Qc <| su Qa [(7,.i 0)] [] [] [] p0 <| wT 6 0 (.own true 640) (Js q) (λhw1 hl2=> ?_)
 refine ZQ (Fi q under) Fj (Js q) [] (λk0 s0=> [(5,.h s0),(7,.i (k0:Int))]) [5,7] (λy0=> [(5,.h y0)]) [0,1,5,6,7] (λk0 s0=>zD s0<=k0) (Oe [] [512] [] [] (by kernel_rfl)) (by simp) (λk0 s0 hk0 U=> ?_) (λk0 s0 hk0 U=> ?_) (λy0 hD0=> ?_)
 ·have hA0_0:=U.2;obtain ⟨a0,V⟩:=Xs (l:=Js q) (i:=k0) hk0;refine Qc <| su Qa [(14,.b true)] [] [] [] (pl 2 (Js q) (pe 3 (zB ((k0:Int)<((Js q).length:Int))) p0)) <| ckT <| Qe <| Qc <| Qt <| Qc <| jn [(30,.b ((Xk ((nth q k0).1) 8 9)&&(a0==under)))] [14] [] [] (Xk ((nth q k0).1) 8 9) (λh3=> ?_) (λh3=> ?_) ?_
  ·refine wT 0 0 .sh q (λhw5 hl6=> ?_);have hx4:=ng q k0;refine rn Qa [0,1,4,5,6,7,30] [] (pn 2 hx4 (pc 5 (cb h3 (Z9 ((nth q k0).1) 8 9)) (pN 9 V p0))) ?_;exact zA (by rw[h3]<;>kernel_rfl)
  ·refine wT 0 0 .sh q (λhw8 hl9=> ?_);have hx7:=ng q k0;refine rn Qa [0,1,4,5,6,7,30] [] (pn 2 hx7 (pc 5 (cb h3 (Z9 ((nth q k0).1) 8 9)) p0)) ?_;exact zA (by rw[h3]<;>kernel_rfl)
  refine ck ((Xk ((nth q k0).1) 8 9)&&(a0==under)) (λh10=> ?_) (λh10=> ?_)
  ·have h10r:((a0==under))=true:=CY h10;have h10rd:=eq_of_beq h10r;refine wT 0 0 .sh q (λhw12 hl13=> ?_);have hx11:=ng q k0;refine rn Qa [0,1,4,5,6,7] [] (pn 3 hx11 (pc 6 (Ex s0 ((nth q k0).2.2.2.1) (by omega)) p0)) ?_;refine qn Qa [0,1,4,5,6,7] [] (pe 1 (J6 (Ql k0 (by omega))) p0) ?_;exact xw (Kg s0 ((nth q k0).2.2.2.1)) ⟨Qp V (Xm h10 (rfl)) U.1,(by first|omega|(have hz:=Ra s0 (nth q k0).2.2.2.1;omega))⟩
  refine Qe <| rn Qa [0,1,4,5,6,7] [] (pe 1 (J6 (Ql k0 (by omega))) p0) ?_
  exact xw s0 ⟨Qp V (Qn h10 (rfl)) U.1,(by first|omega|(have hz:=Ra s0 (nth q k0).2.2.2.1;omega))⟩
 ·have hA0_0:=U.2;exact Qc <| su Qa [(14,.b false)] [] [] [] (pl 2 (Js q) (pe 3 (zC ((k0:Int)<((Js q).length:Int))) p0)) <| ckF <| Q9 <| xw _ (Xt hk0 (rfl) U.1)
 refine wT 5 0 .sh y0 (λhw14 hl15=> ?_);exact sn Qa [4] [] (po 2 (.flat) (px (Ga (n:=(([]:List (List PV)).length+((eL y0):List (List PV)).length)) (Iu (rfl) (Zs y0) (by first|omega|(simp only[zL,yT];omega) | (simp;omega) | simp))) (px (Ec (Df y0)) p0))) <| Qh <| po0 [] (Uc hD0 (rfl))
def Jt (q:List Yz):Z:=(Ch q false)
theorem QN (q:List Yz):ACalls Tryz.prog 269 [.h q] (.o 0 (Jt q)):=by
 refine en Qa Tryz.func269 λw0 F0 hG=> ?_
 exact sn Qa [0,2] [] p0 <| tn Qa [2] [] (pc 1 (Sm q false) p0) <| Qh <| po0 [] (show Jt q=(Ch q false) from rfl)
def Ju (q:List Yz):Z:=(Ch q true)
theorem QO (q:List Yz):ACalls Tryz.prog 270 [.h q] (.o 0 (Ju q)):=by
 refine en Qa Tryz.func270 λw0 F0 hG=> ?_
 exact sn Qa [0,2] [] p0 <| tn Qa [2] [] (pc 1 (Sm q true) p0) <| Qh <| po0 [] (show Ju q=(Ch q true) from rfl)
theorem VO (n:Yz):Xk n.1 8 9=Jp n:=by
 unfold Xk Jp;rw[yU];simp;omega
theorem VP (q:List Yz) (b:Bool):∀(l:List Bool) (k:Nat) (s:List ByteArray),∃m,X7 (W4 q b) Ag l k s= .brk (s++m)/\∀t,X7 (Fi q b) Fj l k t= .brk (Di t m)
 | [],k,s=>⟨[],by simp[X7,Ag],λt=>by simp[X7,Fj,Di]⟩
 | a ::l,k,s=>by
   simp only[X7,W4,Fi,VO];cases h:(Jp (nth q k)&&(a==b)) with
   | true=>
     obtain ⟨m,h1,h2⟩:=VP q b l (k+1) (s++ [(nth q k).2.2.2.1]);refine ⟨(nth q k).2.2.2.1::m, ?_,λt=> ?_⟩
     . simp only[cond_true];rw[h1,List.append_assoc];rfl
     simp only[cond_true];rw[h2,P9];rfl
   | false=>
     obtain ⟨m,h1,h2⟩:=VP q b l (k+1) s;exact ⟨m,by simp only[cond_false];exact h1,λt=>by simp only[cond_false];exact h2 t⟩
theorem Qct (q:List Yz) (b:Bool):Ch q b=Ui q b:=by
 unfold Ch Ui;obtain ⟨m,h1,h2⟩:=VP q b (Ym q) 0 [];rw[BF,h1,h2];simp only[Out.on,List.nil_append];exact (PI m).symm
theorem SW (q:List Yz):Jt q=Y2 q:=Qct q false
theorem SX (q:List Yz):Ju q=Yh q:=Qct q true
open GoE (enc wide)
def Y9 (d:List Yc) (k0:Nat) (a0:Yc) (_:Unit):Rd (Bool) (Unit) (Unit):=(bif ((!(Zg a0.1))|| (bif decide ((k0:Int)>(0:Int)) then ((!(Op.bytesLess ((nth d ((k0:Int)-1).toNat).1).toList a0.1.toList))|| (!(Q8 a0.2))) else (!(Q8 a0.2)))) then (.ret false) else (.next ()))
def Vv (_:Nat) (_:Unit):Unit:=()
def Qk (d:List Yc):Bool:=(Out.on (X7 (Y9 d) Vv d 0 ()) (λ_=>decide ((d.length:Int)<=(5:Int))))
theorem Jv (d:List Yc):ACalls Tryz.prog 187 [.h d] (.b (Qk d)):=by
 refine en Qa Tryz.func187 λw0 F0 hG=> ?_
 refine sn Qa [0,2] [] p0 <| Qc <| tn Qa [0,2,5,6,7] [] (pl 1 d p0) <| mz [(2,.b false),(5,.h d),(6,.i (d.length:Int)),(7,.i 0)] [] [] [] <| wT 0 0 .sh d (λhw1 hl2=> ?_)
 refine Pa (Y9 d) Vv d () (λk0 _=> [(7,.i (k0:Int))]) [7] (λ_=> []) [5,6,7] wf0 (λk0 s0 hk0 U=> ?_) (λk0 s0 hk0 U=> ?_) (λy0 hD0=> ?_)
 ·obtain ⟨a0,V⟩:=Xs (l:=d) (i:=k0) hk0;refine sn Qa [0,2,5,6,7,8] [] (pe 0 (zB ((k0:Int)<(d.length:Int))) p0) <| Qc <| ckT <| Qe <| Qc <| Qt <| tn Qa [0,2,3,4,5,6,7] [4] (pn 1 V p0) <| Qc <| mz [(3,.i (k0:Int)),(4,.p 4 0)] [] [(4, [.s a0.1,.h a0.2])] [] <| jn [(36,.b ((!(Zg a0.1))|| (bif decide ((k0:Int)>(0:Int)) then ((!(Op.bytesLess ((nth d ((k0:Int)-1).toNat).1).toList a0.1.toList))|| (!(Q8 a0.2))) else (!(Q8 a0.2)))))] [3,4] [] [4] (!(Zg a0.1)) (λh3=> ?_) (λh3=> ?_) ?_
  ·have h3n:(Zg a0.1)=false:=Vp h3;refine rN Qa Zt [0,2,5,6,7,36] [] (pc 2 (cb h3n (Vi a0.1)) (pe 3 (show .b (!false)= .b true from rfl) p0)) ?_;exact zA (by rw[h3]<;>kernel_rfl)
  ·have h3n:(Zg a0.1)=true:=Zc h3;refine Yj (decide ((k0:Int)>(0:Int))) (λh4=> ?_) (λh4=> ?_)
   ·have h4d:=of_decide_eq_true h4;refine Yj (!(Op.bytesLess ((nth d ((k0:Int)-1).toNat).1).toList a0.1.toList)) (λh5=> ?_) (λh5=> ?_)
    ·have hx6:=ng d ((k0:Int)-1).toNat;refine rN Qa Zt [0,2,5,6,7,36] [] (pc 2 (cb h3n (Vi a0.1)) (pe 3 (show .b (!true)= .b false from rfl) (pt 6 h4 (pe 10 (J6 (IntWalk.i64_in ((k0:Int)-1) (by omega))) (pg 11 ((k0:Int)-1) hx6 (pt 16 h5 p0)))))) ?_;exact zA (by rw[h3,h4,h5]<;>kernel_rfl)
    have hx7:=ng d ((k0:Int)-1).toNat;refine rN Qa Zt [0,2,5,6,7,36] [] (pc 2 (cb h3n (Vi a0.1)) (pe 3 (show .b (!true)= .b false from rfl) (pt 6 h4 (pe 10 (J6 (IntWalk.i64_in ((k0:Int)-1) (by omega))) (pg 11 ((k0:Int)-1) hx7 (pf 16 h5 (pc 22 (An a0.2) p0))))))) ?_;exact zA (by rw[h3,h4,h5]<;>kernel_rfl)
   refine rN Qa Zt [0,2,5,6,7,36] [] (pc 2 (cb h3n (Vi a0.1)) (pe 3 (show .b (!true)= .b false from rfl) (pf 6 h4 (pc 22 (An a0.2) p0)))) ?_;exact zA (by rw[h3,h4]<;>kernel_rfl)
  refine ck ((!(Zg a0.1))|| (bif decide ((k0:Int)>(0:Int)) then ((!(Op.bytesLess ((nth d ((k0:Int)-1).toNat).1).toList a0.1.toList))|| (!(Q8 a0.2))) else (!(Q8 a0.2)))) (λh8=> ?_) (λh8=> ?_)
  ·refine su Qa [] [36] [] [] p0 <| Qh ?_
   have hr9:(X7 (Y9 d) Vv d 0 ())= .ret false:=Jr V (Xm h8 (rfl)) U;exact pb [] (Nk hr9)
  refine Qe <| rn Qa [0,2,5,6,7] [] (pe 0 (J6 (Ql k0 (by omega))) p0) ?_
  exact xw _ (Qp V (Qn h8 (rfl)) U)
 ·exact sn Qa [0,2,5,6,7,8] [] (pe 0 (zC ((k0:Int)<(d.length:Int))) p0) <| Qc <| ckF <| Q9 <| xw _ (Xt hk0 (rfl) U)
 exact sn Qa [2] [] (pl 1 d p0) <| Qh <| pb [] (Uc hD0 (rfl))
def Ao (d:List Yc) (k0:Nat) (a0:Yc) (_:Unit):Rd (Bool) (Unit) (Unit):=(bif ((!(Za a0.1))|| ((!(Zq a0.2))|| (decide ((k0:Int)>(0:Int))&&(!(Op.bytesLess ((nth d ((k0:Int)-1).toNat).1).toList a0.1.toList))))) then (.ret false) else (.next ()))
def B0 (_:Nat) (_:Unit):Unit:=()
def Yo (d:List Yc):Bool:=(Out.on (X7 (Ao d) B0 d 0 ()) (λ_=>decide ((d.length:Int)<=(5:Int))))
theorem Hn (d:List Yc):ACalls Tryz.prog 207 [.h d] (.b (Yo d)):=by
 refine en Qa Tryz.func207 λw0 F0 hG=> ?_
 refine sn Qa [0,2] [] p0 <| Qc <| tn Qa [0,2,3] [] p0 <| mz [(2,.b false),(3,.i 0)] [] [] [] <| wT 0 0 .sh d (λhw1 hl2=> ?_)
 refine Pa (Ao d) B0 d () (λk0 _=> [(3,.i (k0:Int))]) [3] (λ_=> []) [3] wf0 (λk0 s0 hk0 U=> ?_) (λk0 s0 hk0 U=> ?_) (λy0 hD0=> ?_)
 ·obtain ⟨a0,V⟩:=Xs (l:=d) (i:=k0) hk0;refine Qc <| sn Qa [0,2,3,7] [] (pl 2 d (pe 3 (zB ((k0:Int)<(d.length:Int))) p0)) <| ckT <| Qe <| Qc <| Qt <| Qc <| mz [(7,.b true)] [] [] [] <| jn [(43,.b ((!(Za a0.1))|| ((!(Zq a0.2))|| (decide ((k0:Int)>(0:Int))&&(!(Op.bytesLess ((nth d ((k0:Int)-1).toNat).1).toList a0.1.toList))))))] [7] [] [] (!(Za a0.1)) (λh3=> ?_) (λh3=> ?_) ?_
  ·have h3n:(Za a0.1)=false:=Vp h3;refine rN Qa Zt [0,2,3,43] [] (pn 2 V (pc 5 (cb h3n (J7 a0.1)) (pe 6 (show .b (!false)= .b true from rfl) p0))) ?_;exact zA (by rw[h3]<;>kernel_rfl)
  ·have h3n:(Za a0.1)=true:=Zc h3;refine Yj (!(Zq a0.2)) (λh4=> ?_) (λh4=> ?_)
   ·have h4n:(Zq a0.2)=false:=Vp h4;refine rN Qa Zt [0,2,3,43] [] (pn 2 V (pc 5 (cb h3n (J7 a0.1)) (pe 6 (show .b (!true)= .b false from rfl) (pn 10 V (pc 13 (cb h4n (Ut a0.2)) (pe 14 (show .b (!false)= .b true from rfl) p0)))))) ?_;exact zA (by rw[h3,h4]<;>kernel_rfl)
   have h4n:(Zq a0.2)=true:=Zc h4;refine Yj (decide ((k0:Int)>(0:Int))) (λh5=> ?_) (λh5=> ?_)
   ·have h5d:=of_decide_eq_true h5;have hx6:=ng d ((k0:Int)-1).toNat;refine rN Qa Zt [0,2,3,43] [] (pn 2 V (pc 5 (cb h3n (J7 a0.1)) (pe 6 (show .b (!true)= .b false from rfl) (pn 10 V (pc 13 (cb h4n (Ut a0.2)) (pe 14 (show .b (!true)= .b false from rfl) (pt 18 h5 (pe 22 (J6 (IntWalk.i64_in ((k0:Int)-1) (by omega))) (pg 23 ((k0:Int)-1) hx6 (pn 28 V p0)))))))))) ?_;exact zA (by rw[h3,h4,h5]<;>kernel_rfl)
   refine rN Qa Zt [0,2,3,43] [] (pn 2 V (pc 5 (cb h3n (J7 a0.1)) (pe 6 (show .b (!true)= .b false from rfl) (pn 10 V (pc 13 (cb h4n (Ut a0.2)) (pe 14 (show .b (!true)= .b false from rfl) (pf 18 h5 p0))))))) ?_;exact zA (by rw[h3,h4,h5]<;>kernel_rfl)
  refine ck ((!(Za a0.1))|| ((!(Zq a0.2))|| (decide ((k0:Int)>(0:Int))&&(!(Op.bytesLess ((nth d ((k0:Int)-1).toNat).1).toList a0.1.toList))))) (λh7=> ?_) (λh7=> ?_)
  ·refine sn Qa [0,2,3] [] p0 <| Qh ?_
   have hr8:(X7 (Ao d) B0 d 0 ())= .ret false:=Jr V (Xm h7 (rfl)) U;exact pb [] (Nk hr8)
  refine Qe <| rn Qa [0,2,3] [] (pe 1 (J6 (Ql k0 (by omega))) p0) ?_
  exact xw _ (Qp V (Qn h7 (rfl)) U)
 ·exact Qc <| sn Qa [0,2,3,7] [] (pl 2 d (pe 3 (zC ((k0:Int)<(d.length:Int))) p0)) <| ckF <| Q9 <| xw _ (Xt hk0 (rfl) U)
 exact sn Qa [2] [] (pl 1 d p0) <| Qh <| pb [] (Uc hD0 (rfl))
def Ci (x:Yc) (q0:ByteArray):Bool:=(x.1.toList==q0.toList)
theorem DH (x:Yc) (q0:ByteArray):ACalls Tryz.prog 227 [.a [.s x.1,.h x.2],.one (.rptr .sh [.s q0])] (.b (Ci x q0)):=by
 refine en Qa Tryz.func227 λw0 F0 hG=> ?_
 exact sn Qa [1,2,3] [2] p0 <| tn Qa [3] [] p0 <| Qh <| pb [] (show Ci x q0=(x.1.toList==q0.toList) from rfl)
def X3 (c0:ByteArray) (k0:Nat) (a0:Yc) (_:Unit):Rd (Int) (Unit) (Unit):=(bif (Ci a0 c0) then (.ret (k0:Int)) else (.next ()))
def Yy (_:Nat) (_:Unit):Unit:=()
def Ji (s_:List Yc) (c0:ByteArray):Int:=(Out.on (X7 (X3 c0) Yy s_ 0 ()) (λ_=> -1))
theorem Fk (s_:List Yc) (c0:ByteArray):ACalls Tryz.prog 224 [.h s_,.one (.fnr 227 [[.s c0]])] (.i (Ji s_ c0)):=by
 refine en Qa Tryz.func224 λw0 F0 hG=> ?_
 refine sn Qa [0,1,4] [] p0 <| Qc <| tn Qa [0,1,4,7,8] [] (pl 1 s_ p0) <| mz [(4,.i 0),(7,.i (s_.length:Int)),(8,.i 0)] [] [] [] <| wT 0 0 .sh s_ (λhw1 hl2=> ?_)
 refine Pa (X3 c0) Yy s_ () (λk0 _=> [(8,.i (k0:Int))]) [8] (λ_=> []) [0,1,7,8] wf0 (λk0 s0 hk0 U=> ?_) (λk0 s0 hk0 U=> ?_) (λy0 hD0=> ?_)
 ·obtain ⟨a0,V⟩:=Xs (l:=s_) (i:=k0) hk0;refine sn Qa [0,1,4,7,8,9] [] (pe 0 (zB ((k0:Int)<(s_.length:Int))) p0) <| Qc <| ckT <| Qe <| Qc <| Qt <| tn Qa [0,1,4,5,7,8] [] p0 <| tu Qa [(5,.i (k0:Int)),(16,.b (Ci a0 c0))] [] [] [] (pn 3 V (pc 5 (DH a0 c0) p0)) <| ck (Ci a0 c0) (λh3=> ?_) (λh3=> ?_)
  ·refine sn Qa [0,1,4,7,8] [] p0 <| Qh ?_
   have hr4:(X7 (X3 c0) Yy s_ 0 ())= .ret (k0:Int):=Jr V (Xm h3 (rfl)) U;exact pi [] (Nk hr4)
  refine Qe <| rn Qa [0,1,4,7,8] [] (pe 0 (J6 (Ql k0 (by omega))) p0) ?_
  exact xw _ (Qp V (Qn h3 (rfl)) U)
 ·exact sn Qa [0,1,4,7,8,9] [] (pe 0 (zC ((k0:Int)<(s_.length:Int))) p0) <| Qc <| ckF <| Q9 <| xw _ (Xt hk0 (rfl) U)
 exact sn Qa [4] [] p0 <| Qh <| pi [] (Uc hD0 (rfl))
def Qz (d:List Yc) (name:ByteArray):Int:=(Ji d name)
theorem Th (d:List Yc) (name:ByteArray):ACalls Tryz.prog 186 [.h d,.s name] (.i (Qz d name)):=by
 refine en Qa Tryz.func186 λw0 F0 hG=> ?_
 exact sn Qa [0,3,4] [3] p0 <| tn Qa [4] [] (pc 2 (Fk d name) p0) <| Qh <| pi [] (show Qz d name=(Ji d name) from rfl)
def Ly (name:ByteArray) (k0:Nat) (a0:Yc) (_:Unit):Rd (Int) (Unit) (Unit):=(bif (a0.1.toList==name.toList) then (.ret (k0:Int)) else (.next ()))
def Lz (_:Nat) (_:Unit):Unit:=()
def Xn (d:List Yc) (name:ByteArray):Int:=(Out.on (X7 (Ly name) Lz d 0 ()) (λ_=> -1))
theorem M3 (d:List Yc) (name:ByteArray):ACalls Tryz.prog 211 [.h d,.s name] (.i (Xn d name)):=by
 refine en Qa Tryz.func211 λw0 F0 hG=> ?_
 refine sn Qa [0,1,4] [] p0 <| Qc <| tn Qa [0,1,4,5] [] p0 <| mz [(4,.i 0),(5,.i 0)] [] [] [] <| wT 0 0 .sh d (λhw1 hl2=> ?_)
 refine Pa (Ly name) Lz d () (λk0 _=> [(5,.i (k0:Int))]) [5] (λ_=> []) [0,1,5] wf0 (λk0 s0 hk0 U=> ?_) (λk0 s0 hk0 U=> ?_) (λy0 hD0=> ?_)
 ·obtain ⟨a0,V⟩:=Xs (l:=d) (i:=k0) hk0;refine Qc <| sn Qa [0,1,4,5,9] [] (pl 2 d (pe 3 (zB ((k0:Int)<(d.length:Int))) p0)) <| ckT <| Qe <| Qc <| Qt <| tn Qa [0,1,4,5,18] [] (pn 2 V p0) <| ck (a0.1.toList==name.toList) (λh3=> ?_) (λh3=> ?_)
  ·refine tu Qa [(4,.i (k0:Int))] [4] [] [] p0 <| Qh ?_
   have hr4:(X7 (Ly name) Lz d 0 ())= .ret (k0:Int):=Jr V (Xm h3 (rfl)) U;exact pi [] (Nk hr4)
  refine Qe <| qu Qa [(5,.i ((k0+1:Nat):Int))] [5] [] [] (pe 1 (J6 (Ql k0 (by omega))) p0) ?_
  exact xw _ (Qp V (Qn h3 (rfl)) U)
 ·exact Qc <| sn Qa [0,1,4,5,9] [] (pl 2 d (pe 3 (zC ((k0:Int)<(d.length:Int))) p0)) <| ckF <| Q9 <| xw _ (Xt hk0 (rfl) U)
 exact sn Qa [4] [] p0 <| Qh <| pi [] (Uc hD0 (rfl))
theorem B2 (d:List Yc):Qk d=Yo d:=by
 unfold Qk Yo
 rw[Gv (f:=Y9 d) (g:=Ao d) (e:=Vv) (e':=B0) (λk a s=>by
  unfold Y9 Ao;rw[Qf5,Qcf];cases Za a.1<;>cases Zq a.2<;>cases decide (((k:Nat):Int)>(0:Int))<;>simp) (λ_ _=>rfl)]
theorem Qga (d:List Yc) (s:ByteArray):Xn d s=Qz d s:=rfl
theorem PK (s:ByteArray):∀(l:List Yc) (k:Nat),X7 (X3 s) Yy l k ()= .brk ()\/∃i:Nat,i<l.length/\X7 (X3 s) Yy l k ()= .ret (((k+i:Nat)):Int)
 | [],_=> .inl rfl
 | a ::l,k=>by
   simp only[X7,X3];unfold Ci;cases (a.1.toList==s.toList) with
   | true=>exact .inr ⟨0,by simp,rfl⟩
   | false=>
     simp only[cond_false];rcases PK s l (k+1) with h | ⟨i,hi,h⟩
     . exact .inl h
     exact .inr ⟨i+1,by simpa using hi,by rw[h,show k+1+i=k+(i+1) by omega]⟩
theorem QP (d:List Yc) (s:ByteArray): -1<=Qz d s/\Qz d s<(zD d:Int):=by
 unfold Qz Ji;rcases PK s d 0 with h | ⟨i,hi,h⟩
 . rw[h];simp only[Out.on];omega
 rw[h];simp only[Out.on];omega
theorem QQ (d:List Yc) (s:ByteArray): -1<=Xn d s/\Xn d s<(zD d:Int):=QP d s
open GoE (enc wide)
def B3 (d:List Yc) (strata:List Int) (more:Int) (_:Nat) (a0:ByteArray) (s0:Int):Rd (Int) (Int) (Int):=(bif decide ((Qz d a0)>=(0:Int)) then (.next (max s0 (IntKind.i64.wrap ((nth strata (Qz d a0).toNat)+more)))) else (.next s0))
def Fl (_:Nat) (s0:Int):Int:=s0
def Ye (d:List Yc) (strata:List Int) (names:Z) (more:Int):Int:=(Out.on (X7 (B3 d strata more) Fl names 0 0) (λy0=>y0))
theorem Nr (d:List Yc) (strata:List Int) (names:Z) (more:Int) (hp:zD d<=zD strata):ACalls Tryz.prog 247 [.h d,.h strata,.h names,.i more] (.i (Ye d strata names more)):=by
 refine en Qa Tryz.func247 λw0 F0 hG=> ?_
 refine sn Qa [0,1,2,3,8] [] p0 <| tn Qa [0,1,2,3,8,9] [] p0 <| Qc <| tu Qa [(8,.i 0),(9,.i 0),(13,.h names),(14,.i (names.length:Int)),(15,.i 0)] [2] [] [] (pl 1 names p0) <| wT 13 0 .sh names (λhw1 hl2=> ?_)
 refine Pa (B3 d strata more) Fl names 0 (λk0 s0=> [(9,.i s0),(15,.i (k0:Int))]) [9,15] (λy0=> [(9,.i y0)]) [0,1,3,9,13,14,15] wf0 (λk0 s0 hk0 U=> ?_) (λk0 s0 hk0 U=> ?_) (λy0 hD0=> ?_)
 ·obtain ⟨a0,V⟩:=Xs (l:=names) (i:=k0) hk0;refine su Qa [(16,.b true)] [] [] [] (pe 0 (zB ((k0:Int)<(names.length:Int))) p0) <| Qc <| ckT <| Qe <| Qc <| Qt <| su Qa [(11,.s a0)] [16] [] [] (pn 0 V p0) <| sn Qa [0,1,3,8,9,12,13,14,15] [] (pc 2 (Th d a0) p0) <| tn Qa [0,1,3,8,9,12,13,14,15,23] [] p0 <| ck (decide ((Qz d a0)>=(0:Int))) (λh3=> ?_) (λh3=> ?_)
  ·have h3p:=QP d a0;have h3d:=of_decide_eq_true h3;refine wT 1 0 .sh strata (λhw5 hl6=> ?_);have hx4:=ng strata (Qz d a0).toNat;refine qu Qa [(9,.i (max s0 (IntKind.i64.wrap ((nth strata (Qz d a0).toNat)+more))))] [9,11] [] [] (pg 3 (Qz d a0) hx4 p0) ?_;refine rn Qa [0,1,3,8,9,13,14,15] [] (pe 0 (J6 (Ql k0 (by omega))) p0) ?_;exact xw _ (Qp V (Xm h3 (rfl)) U)
  have h3d:=of_decide_eq_false h3;refine Qe <| qu Qa [(15,.i ((k0+1:Nat):Int))] [11,15] [] [] (pe 0 (J6 (Ql k0 (by omega))) p0) ?_
  exact xw _ (Qp V (Qn h3 (rfl)) U)
 ·exact su Qa [(16,.b false)] [] [] [] (pe 0 (zC ((k0:Int)<(names.length:Int))) p0) <| Qc <| ckF <| Q9 <| xw _ (Xt hk0 (rfl) U)
 exact sn Qa [8] [] p0 <| Qh <| pi [] (Uc hD0 (rfl))
def Bb (d:List Yc) (k0:Nat) (_:Nat) (a1:ByteArray) (s1:List Int):Rd (Rd (List Int) (List Int) (List Int)) (List Int) (List Int):=(bif (decide ((Xn d a1)>=(0:Int))&&decide ((nth s1 (Xn d a1).toNat)>(nth s1 k0))) then (.next (zE s1 k0 (nth s1 (Xn d a1).toNat))) else (.next s1))
def Cj (_:Nat) (s1:List Int):(List Int):=s1
def Bc (d:List Yc) (k0:Nat) (_:Nat) (a2:ByteArray) (s2:List Int):Rd (Rd (List Int) (List Int) (List Int)) (List Int) (List Int):=(bif (decide ((Xn d a2)>=(0:Int))&&decide (IntKind.i64.wrap ((nth s2 (Xn d a2).toNat)+1)>(nth s2 k0))) then (.next (zE s2 k0 (IntKind.i64.wrap ((nth s2 (Xn d a2).toNat)+1)))) else (.next s2))
def Fm (_:Nat) (s2:List Int):(List Int):=s2
def H1 (d:List Yc) (k0:Nat) (a0:Yc) (s0:List Int):Rd (List Int) (List Int) (List Int):=(Out.on (X7 (Bb d k0) Cj (Jt a0.2) 0 s0) (λy1=>(Out.on (X7 (Bc d k0) Fm (Ju a0.2) 0 y1) (λy2=>(.next y2)))))
def Fn (_:Nat) (s0:List Int):(List Int):=s0
def Uo (d:List Yc) (lev:List Int):(List Int):=(Out.on (X7 (H1 d) Fn d 0 lev) (λy0=>y0))
theorem Sn (d:List Yc) (lev:List Int) (hp:zD d<=zD lev):ACalls Tryz.prog 238 [.h d,.h lev] (.o 0 (Uo d lev)):=by
 refine en Qa Tryz.func238 λw0 F0 hG=> ?_
 refine sn Qa [0,1,4] [] p0 <| wT 1 0 .sh lev (λhw1 hl2=> ?_)
 refine tn Qa [0,4,5] [] (po 2 (.flat) (px (Ga (n:=(([]:List (List PV)).length+((eL lev):List (List PV)).length)) (Iu (rfl) (Zs lev) (by first|omega|(simp only[zL,yT];omega) | (simp;omega) | simp))) (px (Ec (Df lev)) p0))) <| Qc <| tu Qa [(4,.e 0),(5,.o 960 lev),(6,.i 0)] [1] [] [] p0 <| wT 0 0 .sh d (λhw3 hl4=> ?_)
 refine Qcc (H1 d) Fn d lev (λk0 s0=> [(5,.o 960 s0),(6,.i (k0:Int))]) [5,6] (λy0=> [(5,.o 960 y0)]) [0,5,6] (λ_ s0=>zD s0=zD lev) (λy0=>zD y0=zD lev) wf0 (by simp) (λk0 s0 hk0 U=> ?_) (λk0 s0 hk0 U=> ?_) (λy0 hD0=> ?_)
 ·have hA0_0:=U.2;obtain ⟨a0,V⟩:=Xs (l:=d) (i:=k0) hk0;refine Qc <| sn Qa [0,4,5,6,19] [] (pl 2 d (pe 3 (zB ((k0:Int)<(d.length:Int))) p0)) <| ckT <| Qe <| Qc <| Qt <| tn Qa [0,4,5,6,7] [] (pn 2 V (pc 5 (QN a0.2) p0)) <| Qc <| tu Qa [(7,.o 1728 (Jt a0.2)),(8,.i 0)] [] [] [] p0 <| wT 7 0 (.own true 1728) (Jt a0.2) (λhw5 hl6=> ?_)
  refine Qcc (Bb d k0) Cj (Jt a0.2) s0 (λk1 s1=> [(5,.o 960 s1),(8,.i (k1:Int))]) [5,8] (λy1=> [(5,.o 960 y1)]) [5,7,8] (λ_ s1=>zD s1=zD s0) (λy1=>zD y1=zD s0) wf0 (by simp) (λk1 s1 hk1 hI1=> ?_) (λk1 s1 hk1 hI1=> ?_) (λy1 hD1=> ?_)
  ·have hA1_0:=hI1.2;obtain ⟨a1,hx1⟩:=Xs (l:=Jt a0.2) (i:=k1) hk1;refine Qc <| su Qa [(31,.b true)] [] [] [] (pl 2 (Jt a0.2) (pe 3 (zB ((k1:Int)<((Jt a0.2).length:Int))) p0)) <| ckT <| Qe <| Qc <| Qt <| sn Qa [0,4,5,6,7,8,9] [] (pN 3 hx1 (pc 5 (M3 d a1) p0)) <| Qc <| mz [(9,.i (Xn d a1))] [31] [] [] <| jn [(52,.b (decide ((Xn d a1)>=(0:Int))&&decide ((nth s1 (Xn d a1).toNat)>(nth s1 k0))))] [] [] [] (decide ((Xn d a1)>=(0:Int))) (λh7=> ?_) (λh7=> ?_) ?_
   ·have h7p:=QQ d a1;have h7d:=of_decide_eq_true h7;refine wT 5 0 (.own true 960) s1 (λhw9 hl10=> ?_);have hx8:=ng s1 (Xn d a1).toNat;have hx11:=ng s1 k0;refine rN Qa Zt [0,4,5,6,7,8,9,52] [] (pt 1 h7 (pG 5 (Xn d a1) hx8 (pN 9 hx11 p0))) ?_;exact zA (by rw[h7]<;>kernel_rfl)
   ·refine rU Qa Zt [(52,.b false)] [] [] [] (pf 1 h7 p0) ?_;exact zA (by rw[h7]<;>kernel_rfl)
   refine ck (decide ((Xn d a1)>=(0:Int))&&decide ((nth s1 (Xn d a1).toNat)>(nth s1 k0))) (λh12=> ?_) (λh12=> ?_)
   ·have h12l:(decide ((Xn d a1)>=(0:Int)))=true:=UV h12;have h12lp:=QQ d a1;have h12ld:=of_decide_eq_true h12l;have h12r:(decide ((nth s1 (Xn d a1).toNat)>(nth s1 k0)))=true:=CY h12;have h12rd:=of_decide_eq_true h12r;refine wT 5 0 (.own true 960) s1 (λhw14 hl15=> ?_);have hx13:=ng s1 (Xn d a1).toNat;have hx16:=ng s1 k0;refine ru Qa [(5,.one (.slc (.own true 960) 1 (setRow (eL s1) k0 0 [.i (nth s1 (Xn d a1).toNat)])))] [5,9,52] [] [] (pG 4 (Xn d a1) hx13 (pN 6 hx16 p0)) ?_;refine eqn [(5,.o 960 (zE s1 k0 (nth s1 (Xn d a1).toNat)))] [5] [] [] (by rw[Vg (y:=(nth s1 (Xn d a1).toNat)) hx16 rfl]<;>kernel_rfl) ?_;refine rn Qa [0,4,5,6,7,8] [] (pe 1 (J6 (Ql k1 (by omega))) p0) ?_;exact xw (zE s1 k0 (nth s1 (Xn d a1).toNat)) ⟨Qp hx1 (Xm h12 (rfl)) hI1.1,(by first|omega|(simp only[zG];omega))⟩
   refine Qe <| rn Qa [0,4,5,6,7,8] [] (pe 1 (J6 (Ql k1 (by omega))) p0) ?_
   exact xw s1 ⟨Qp hx1 (Qn h12 (rfl)) hI1.1,(by first|omega|(simp only[zG];omega))⟩
  ·have hA1_0:=hI1.2;exact Qc <| su Qa [(31,.b false)] [] [] [] (pl 2 (Jt a0.2) (pe 3 (zC ((k1:Int)<((Jt a0.2).length:Int))) p0)) <| ckF <| Q9 <| xw s1 ⟨Xt hk1 (rfl) hI1.1,by first|omega|(simp only[zG];omega)⟩
  have hD1_0:=hD1.2;refine sn Qa [0,4,5,6,10] [] (pn 2 V (pc 5 (QO a0.2) p0)) <| tn Qa [0,4,5,6,10,11] [] p0 <| mz [(10,.o 4160 (Ju a0.2)),(11,.i 0)] [] [] [] <| wT 10 0 (.own true 4160) (Ju a0.2) (λhw17 hl18=> ?_)
  refine Qcc (Bc d k0) Fm (Ju a0.2) y1 (λk2 s2=> [(5,.o 960 s2),(11,.i (k2:Int))]) [5,11] (λy2=> [(5,.o 960 y2)]) [5,10,11] (λ_ s2=>zD s2=zD y1) (λy2=>zD y2=zD y1) wf0 (by simp) (λk2 s2 hk2 hI2=> ?_) (λk2 s2 hk2 hI2=> ?_) (λy2 hD2=> ?_)
  ·have hA2_0:=hI2.2;obtain ⟨a2,hx2⟩:=Xs (l:=Ju a0.2) (i:=k2) hk2;refine Qc <| su Qa [(69,.b true)] [] [] [] (pl 2 (Ju a0.2) (pe 3 (zB ((k2:Int)<((Ju a0.2).length:Int))) p0)) <| ckT <| Qe <| Qc <| Qt <| sn Qa [0,4,5,6,10,11,12] [] (pN 3 hx2 (pc 5 (M3 d a2) p0)) <| Qc <| mz [(12,.i (Xn d a2))] [69] [] [] <| jn [(91,.b (decide ((Xn d a2)>=(0:Int))&&decide (IntKind.i64.wrap ((nth s2 (Xn d a2).toNat)+1)>(nth s2 k0))))] [] [] [] (decide ((Xn d a2)>=(0:Int))) (λh19=> ?_) (λh19=> ?_) ?_
   ·have h19p:=QQ d a2;have h19d:=of_decide_eq_true h19;refine wT 5 0 (.own true 960) s2 (λhw21 hl22=> ?_);have hx20:=ng s2 (Xn d a2).toNat;have hx23:=ng s2 k0;refine rN Qa Zt [0,4,5,6,10,11,12,91] [] (pt 1 h19 (pG 5 (Xn d a2) hx20 (pN 10 hx23 p0))) ?_;exact zA (by rw[h19]<;>kernel_rfl)
   ·refine rU Qa Zt [(91,.b false)] [] [] [] (pf 1 h19 p0) ?_;exact zA (by rw[h19]<;>kernel_rfl)
   refine ck (decide ((Xn d a2)>=(0:Int))&&decide (IntKind.i64.wrap ((nth s2 (Xn d a2).toNat)+1)>(nth s2 k0))) (λh24=> ?_) (λh24=> ?_)
   ·have h24l:(decide ((Xn d a2)>=(0:Int)))=true:=UV h24;have h24lp:=QQ d a2;have h24ld:=of_decide_eq_true h24l;have h24r:(decide (IntKind.i64.wrap ((nth s2 (Xn d a2).toNat)+1)>(nth s2 k0)))=true:=CY h24;have h24rd:=of_decide_eq_true h24r;refine wT 5 0 (.own true 960) s2 (λhw26 hl27=> ?_);have hx25:=ng s2 (Xn d a2).toNat;have hx28:=ng s2 k0;refine ru Qa [(5,.one (.slc (.own true 960) 1 (setRow (eL s2) k0 0 [.i (IntKind.i64.wrap ((nth s2 (Xn d a2).toNat)+1))])))] [5,12,91] [] [] (pG 4 (Xn d a2) hx25 (pN 7 hx28 p0)) ?_;refine eqn [(5,.o 960 (zE s2 k0 (IntKind.i64.wrap ((nth s2 (Xn d a2).toNat)+1))))] [5] [] [] (by rw[Vg (y:=IntKind.i64.wrap ((nth s2 (Xn d a2).toNat)+1)) hx28 rfl]<;>kernel_rfl) ?_;refine rn Qa [0,4,5,6,10,11] [] (pe 1 (J6 (Ql k2 (by omega))) p0) ?_;exact xw (zE s2 k0 (IntKind.i64.wrap ((nth s2 (Xn d a2).toNat)+1))) ⟨Qp hx2 (Xm h24 (rfl)) hI2.1,(by first|omega|(simp only[zG];omega))⟩
   refine Qe <| rn Qa [0,4,5,6,10,11] [] (pe 1 (J6 (Ql k2 (by omega))) p0) ?_
   exact xw s2 ⟨Qp hx2 (Qn h24 (rfl)) hI2.1,(by first|omega|(simp only[zG];omega))⟩
  ·have hA2_0:=hI2.2;exact Qc <| su Qa [(69,.b false)] [] [] [] (pl 2 (Ju a0.2) (pe 3 (zC ((k2:Int)<((Ju a0.2).length:Int))) p0)) <| ckF <| Q9 <| xw s2 ⟨Xt hk2 (rfl) hI2.1,by first|omega|(simp only[zG];omega)⟩
  have hD2_0:=hD2.2;refine rn Qa [0,4,5,6] [] (pe 1 (J6 (Ql k0 (by omega))) p0) ?_;exact xw y2 ⟨Qp V (Uc hD1.1 (Uc hD2.1 (rfl))) U.1,(by first|omega|(simp only[zG];omega))⟩
 ·have hA0_0:=U.2;exact Qc <| sn Qa [0,4,5,6,19] [] (pl 2 d (pe 3 (zC ((k0:Int)<(d.length:Int))) p0)) <| ckF <| Q9 <| xw s0 ⟨Xt hk0 (rfl) U.1,by first|omega|(simp only[zG];omega)⟩
 have hD0_0:=hD0.2;exact sn Qa [4] [] p0 <| Qh <| po0 [] (Uc hD0.1 (rfl))
theorem JR {α R S T:Type} {f:Nat->α->S->Rd R S T} {e:Nat->S->T} (I:S->Prop) (h:∀k a s,I s->∃s',f k a s= .next s'/\I s'):∀(l:List α) (k:Nat) (s:S),I s->∃s',X7 f e l k s= .brk (e (k+l.length) s')/\I s'
 | [],k,s,hs=>⟨s,by simp[X7],hs⟩
 | a::l,k,s,hs=>by
   obtain ⟨s1,h1,h2⟩:=h k a s hs;obtain ⟨s2,h3,h4⟩:=JR I h l (k+1) s1 h2;refine ⟨s2, ?_,h4⟩;simp only[X7,h1];rw[h3,zL,show k+1+l.length=k+(l.length+1) by omega]
theorem Qk6 (d:List Yc) (k0 n:Nat) (k:Nat) (a:ByteArray) (s:List Int) (hs:s.length=n):∃s',Bb d k0 k a s= .next s'/\s'.length=n:=by
 unfold Bb;generalize (decide ((Xn d a)>=(0:Int))&&decide ((nth s (zH (Xn d a)))>(nth s k0)))=c;cases c<;>exact ⟨_,rfl,by simpa using hs⟩
theorem Qk7 (d:List Yc) (k0 n:Nat) (k:Nat) (a:ByteArray) (s:List Int) (hs:s.length=n):∃s',Bc d k0 k a s= .next s'/\s'.length=n:=by
 unfold Bc;generalize (decide ((Xn d a)>=(0:Int))&&decide (IntKind.i64.wrap ((nth s (zH (Xn d a)))+1)>(nth s k0)))=c;cases c<;>exact ⟨_,rfl,by simpa using hs⟩
theorem Qk8 (d:List Yc) (n:Nat) (k:Nat) (a:Yc) (s:List Int) (hs:s.length=n):∃s',H1 d k a s= .next s'/\s'.length=n:=by
 unfold H1;obtain ⟨s1,h1,h2⟩:=JR (e:=Cj) (λs:List Int=>s.length=n) (Qk6 d k n) (Jt a.2) 0 s hs;obtain ⟨s2,h3,h4⟩:=JR (e:=Fm) (λs:List Int=>s.length=n) (Qk7 d k n) (Ju a.2) 0 s1 h2;refine ⟨s2, ?_,h4⟩;rw[h1];simp only[Out.on,Cj];rw[h3];rfl
theorem GD (d:List Yc) (lev:List Int):zD (Uo d lev)=zD lev:=by
 unfold Uo;obtain ⟨s1,h1,h2⟩:=JR (e:=Fn) (λs:List Int=>s.length=lev.length) (Qk8 d lev.length) d 0 lev rfl;rw[h1];exact h2
theorem Ub {d:List Yc} (h:Qk d=true):zD d<=5:=by
 unfold Qk at h;cases hf:X7 (Y9 d) Vv d 0 () with
 | brk t=>rw[hf] at h;simp only[Out.on,decide_eq_true_eq] at h;omega
 | ret r=>
   rw[hf] at h;obtain rfl:r=true:=h;exfalso
   have key:∀(l:List Yc) k,X7 (Y9 d) Vv l k ()≠ .ret true:=by
    intro l
    induction l with
    | nil=>intro k h;simp[X7] at h
    | cons a l ih=>
      intro k h;simp only[X7] at h;unfold Y9 at h;split at h
      . rename_i hf;exact ih _ h
      . cases h
      rename_i r hf;cases h;revert hf;generalize (_|| _:Bool)=c;cases c<;>simp
   exact key _ _ hf
theorem Qcu {d:List Yc} (h:Yo d=true):IntKind.i64.wrap (IntKind.i64.wrap ((d.length:Int)*(d.length:Int))+1)=((zD d*zD d+1:Nat):Int)/\((zD d*zD d+1:Nat):Int)<=26:=by
 have h5:=Ub ((B2 d).trans h);generalize zD d=n at h5⊢;have:n=0\/n=1\/n=2\/n=3\/n=4\/n=5:=by omega
 rcases this with rfl | rfl | rfl | rfl | rfl | rfl<;>decide
def Vf (d:List Yc) (w:Int):List ByteArray->Uh
 | []=> []
 | s::r=>if 0<=Qz d s then (zH (Qz d s),w)::Vf d w r else Vf d w r
theorem Ti (d:List Yc) (w:Int):∀(l:List ByteArray) (e:Nat×Int),e∈Vf d w l->e.2=w/\e.1<d.length
 | [],e,h=>by simp[Vf] at h
 | s ::r,e,h=>by
   simp only[Vf] at h;split at h
   . rename_i h0;rcases zP.1 h with rfl | h
     . have:=(QP d s).2;exact ⟨rfl,by show zH _<_;omega⟩
     exact Ti d w r e h
   exact Ti d w r e h
def Jq (d:List Yc) (i:Nat):Uh:=if i<d.length then Vf d 0 (Y2 (nth d i).2)++Vf d 1 (Yh (nth d i).2) else []
theorem L6 (d:List Yc) (i:Nat) (e:Nat×Int) (h:e∈Jq d i):e.2<=1/\e.1<d.length/\i<d.length:=by
 unfold Jq at h;split at h
 . rename_i hi;rcases xE.1 h with h | h<;>(have:=Ti d _ _ e h;omega)
 simp at h
theorem Qgb (E1 E2:Uh) (L:List Int):Mm (E1++E2) L=max (Mm E1 L) (Mm E2 L):=by
 have h1:Mm (E1++E2) L<=max (Mm E1 L) (Mm E2 L):=Ce.2 ⟨by have:=Tc E1 L;omega,λe he=>by
  rcases xE.1 he with he | he
  . have:=(Ce.1 (zR (Mm E1 L))).2 e he;omega
  have:=(Ce.1 (zR (Mm E2 L))).2 e he;omega⟩
 have h2:=Ce.1 (zR (Mm (E1++E2) L));have h3:Mm E1 L<=Mm (E1++E2) L:=Ce.2 ⟨h2.1,λe he=>h2.2 e (xK _ he)⟩;have h4:Mm E2 L<=Mm (E1++E2) L:=Ce.2 ⟨h2.1,λe he=>h2.2 e (yM _ he)⟩;omega
theorem YI (d:List Yc) (L:List Int) (w:Int) (hw:0<=w/\w<=1) (hL:∀j,0<=nth L j/\nth L j<=1000000):∀(l:List ByteArray) (k:Nat) (m:Int),X7 (B3 d L w) Fl l k m= .brk ((Vf d w l).foldl (λm e=>max m (nth L e.1+e.2)) m)
 | [],k,m=>rfl
 | s::r,k,m=>by
   simp only[X7,B3,Vf];have hwr:∀j,IntKind.i64.wrap (nth L j+w)=nth L j+w:=λj=>IntWalk.i64_in _ (by have:=hL j;omega)
   by_cases h:0<=Qz d s
   . have h':decide (Qz d s>=(0:Int))=true:=decide_eq_true h;rw[h',cond_true,if_pos h,hwr];exact YI d L w hw hL r (k+1) _
   have h':decide (Qz d s>=(0:Int))=false:=decide_eq_false h;rw[h',cond_false,if_neg h];exact YI d L w hw hL r (k+1) _
theorem PM {d:List Yc} {L:List Int} {w:Int} (hw:0<=w/\w<=1) (hL:∀j,0<=nth L j/\nth L j<=1000000) (l:List ByteArray):Ye d L l w=Mm (Vf d w l) L:=by
 unfold Ye;rw[YI d L w hw hL];rfl
theorem Qgc {d:List Yc} {L:List Int} (hL:∀j,0<=nth L j/\nth L j<=1000000) {i:Nat} (hi:i<d.length):max (Ye d L (Y2 (nth d i).2) 0) (Ye d L (Yh (nth d i).2) 1)=Mm (Jq d i) L:=by
 rw[PM (by omega) hL,PM (by omega) hL];unfold Jq;rw[if_pos hi,Qgb]
abbrev PN (d:List Yc) (a:Yc) (L:List Int):Int:=max (Ye d L (Y2 a.2) 0) (Ye d L (Yh a.2) 1)
abbrev Qcv:=Nat->Yc->List Int×Bool->Rd (Rd (List Int×Bool) (List Int×Bool) (List Int)) (List Int×Bool) (List Int×Bool)
def Qcw (d:List Yc) (f:Qcv):Prop:=∀k a s,f k a s=bif decide (PN d a s.1>(d.length:Int)) then .ret (.ret ([],false)) else (bif decide (PN d a s.1>nth s.1 k) then .next (zE s.1 k (PN d a s.1),true) else .next (s.1,s.2))
theorem Tj {d:List Yc} {f:Qcv} {e:Nat->List Int×Bool->List Int×Bool} (hf:Qcw d f) (he:∀k s,e k s=s) (hd:d.length<=1000000):
 ∀ (l:List Yc) (k:Nat) (L:List Int) (c:Bool),d.drop k=l->L.length=d.length->(∀j,0<=nth L j/\nth L j<=(d.length:Int))->
   X7 f e l k (L,c)=(match Gi (Jq d) d.length (yB k l.length) (c,L) with
    | none=> .ret (.ret ([],false))
    | some s=> .brk (s.2,s.1))
 | [],k,L,c,_,_,_=>by simp[X7,Gi,he]
 | a ::l,k,L,c,hl,hlen,hL=>by
   have hk:d[k]? =some a:=by
    have:=congrArg (·[0]?) hl;simpa using this
   have hkl:k<d.length:=(yY.1 hk).1;have ha:nth d k=a:=O9 hk;have hrest:d.drop (k+1)=l:=by rw[←xL,hl];rfl
   have hb:∀j,0<=nth L j/\nth L j<=1000000:=λj=>by have:=hL j;omega
   have hM:PN d a L=Mm (Jq d k) L:=by rw[←ha];exact Qgc hb hkl
   simp only[X7,hf k a (L,c),zL,xC,Gi,hM];by_cases h1:(d.length:Int)<Mm (Jq d k) L
   . rw[decide_eq_true (show Mm (Jq d k) L>(d.length:Int) from h1),cond_true,if_pos h1]
   rw[decide_eq_false (show¬Mm (Jq d k) L>(d.length:Int) from h1),cond_false,if_neg h1];by_cases h2:nth L k<Mm (Jq d k) L
   . rw[decide_eq_true (show Mm (Jq d k) L>nth L k from h2),cond_true,if_pos h2];refine Tj hf he hd l (k+1) _ true hrest (by rw[zG];exact hlen) λj=> ?_
     have h0:=Tc (Jq d k) L;rw[Td _ _ (by omega)];split
     . omega
     exact hL j
   rw[decide_eq_false (show¬Mm (Jq d k) L>nth L k from h2),cond_false,if_neg h2];exact Tj hf he hd l (k+1) L c hrest hlen hL
def Qkr:Option (List Int)->Out (List Int×Bool) (List Int)
 | none=> .ret ([],false)
 | some L=> .brk L
def Qh5 (d:List Yc) (f:Qcv) (e:Nat->List Int×Bool->List Int×Bool) (F:List Int×Bool->Rd (List Int×Bool) (List Int×Bool) (List Int)):Prop:=∀s,F s=bif s.2 then (Out.on (X7 f e d 0 (s.1,false)) λy1=> .next (y1.1,y1.2)) else .brk s.1
theorem L7 {d:List Yc} {f:Qcv} {e:Nat->List Int×Bool->List Int×Bool} {F:List Int×Bool->Rd (List Int×Bool) (List Int×Bool) (List Int)} (hf:Qcw d f) (he:∀k s,e k s=s) (hF:Qh5 d f e F) (hd:d.length<=1000000):
 ∀(n:Nat) (L:List Int) (c:Bool),L.length=d.length->(∀j,0<=nth L j/\nth L j<=(d.length:Int))->whl F n (L,c)=(QG (Jq d) d.length d.length n (c,L)).map Qkr
 | 0,L,c,_,_=>rfl
 | n+1,L,false,_,_=>by
   simp only[whl,hF (L,false),cond_false,QG];rfl
 | n +1,L,true,hlen,hL=>by
   have hr:=Tj hf he hd d 0 L false rfl hlen hL;have e1:yB 0 d.length=zO d.length:=(yQ ..).symm;rw[e1] at hr;simp only[whl,hF (L,true),cond_true,hr,QG];cases hc:Gi (Jq d) d.length (zO d.length) (false,L) with
   | none=>rfl
   | some s=>
     obtain ⟨h1,_,_,h4⟩:=G7 (zO d.length) false L s (λi hi=>by rw[hlen];exact D0 hi) hc;have:=L7 hf he hF hd n s.2 s.1 (by rw[h1,Rz,hlen]) λj=>⟨by rw[h1];exact yJ (hL j).1 (QF (Jq d) j _ L),h4 (λj=>(hL j).2) j⟩
     exact this
theorem B4 (n:Nat):(zF n (0:Int)).length=n/\∀j,0<=nth (zF n (0:Int)) j/\nth (zF n (0:Int)) j<=(n:Int):=
 ⟨by simp,λj=>by rw[JO];omega⟩
theorem MN {d:List Yc} {f:Qcv} {e:Nat->List Int×Bool->List Int×Bool} {F:List Int×Bool->Rd (List Int×Bool) (List Int×Bool) (List Int)} (hf:Qcw d f) (he:∀k s,e k s=s) (hF:Qh5 d f e F) (hd:d.length<=1000000):
 (whl F (zD d*zD d+3) (zF (zH (d.length:Int)) (0:Int),true)).isSome=true:=by
 rw[zN,L7 hf he hF hd _ _ _ (B4 _).1 (B4 _).2,yL];refine BI _ _ _ (B4 _).1 (λj=>((B4 _).2 j).2) ?_;have:((zD d*zD d+3:Nat):Int)=(d.length:Int)*(d.length:Int)+3:=by rw[xF,Int.natCast_mul];rfl
 have h0:(zF d.length (0:Int)).sum=0:=by simp
 rw[this,h0];omega
open GoE (enc wide)
def Ds (b:List Int) (k0:Nat) (a0:Int) (_:Unit):Rd (Bool) (Unit) (Unit):=(bif (a0 !=(nth b k0)) then (.ret false) else (.next ()))
def Gx (_:Nat) (_:Unit):Unit:=()
def Kp (a_:List Int) (b:List Int):Bool:=(bif ((a_.length:Int) !=(b.length:Int)) then false else (Out.on (X7 (Ds b) Gx a_ 0 ()) (λ_=>true)))
theorem I2 (a_:List Int) (b:List Int):ACalls Tryz.prog 150 [.h a_,.h b] (.b (Kp a_ b)):=by
 refine en Qa Tryz.func150 λw0 F0 hG=> ?_
 refine sn Qa [0,1,4] [] p0 <| Qc <| tn Qa [0,1,4,10] [] (pl 1 a_ (pl 3 b p0)) <| ck ((a_.length:Int) !=(b.length:Int)) (λh1=> ?_) (λh1=> ?_)
 ·exact tu Qa [(4,.b false)] [] [] [] p0 <| Qh <| pb [] (Xm h1 (rfl))
 have h1d:=U8 h1;refine Qe <| Qc <| tu Qa [(4,.b false),(5,.i 0)] [] [] [] p0 <| wT 0 0 .sh a_ (λhw2 hl3=> ?_)
 refine Pa (Ds b) Gx a_ () (λk0 _=> [(5,.i (k0:Int))]) [5] (λ_=> []) [0,1,5] wf0 (λk0 s0 hk0 U=> ?_) (λk0 s0 hk0 U=> ?_) (λy0 hD0=> ?_)
 ·obtain ⟨a0,V⟩:=Xs (l:=a_) (i:=k0) hk0;refine Qc <| sn Qa [0,1,4,5,14] [] (pl 2 a_ (pe 3 (zB ((k0:Int)<(a_.length:Int))) p0)) <| ckT <| Qe <| Qc <| Qt <| wT 1 0 .sh b (λhw5 hl6=> ?_)
  have hx4:=ng b k0;refine tN Qa Zt [0,1,4,5,25] [] (pn 2 V (pn 6 hx4 p0)) <| ck (a0 !=(nth b k0)) (λh7=> ?_) (λh7=> ?_)
  ·refine tu Qa [] [] [] [] p0 <| Qh ?_
   have hr8:(X7 (Ds b) Gx a_ 0 ())= .ret false:=Jr V (Xm h7 (rfl)) U;exact pb [] (Qn h1 (Nk hr8))
  have h7d:=U8 h7;refine Qe <| qu Qa [(5,.i ((k0+1:Nat):Int))] [5] [] [] (pe 1 (J6 (Ql k0 (by omega))) p0) ?_
  exact xw _ (Qp V (Qn h7 (rfl)) U)
 ·exact Qc <| sn Qa [0,1,4,5,14] [] (pl 2 a_ (pe 3 (zC ((k0:Int)<(a_.length:Int))) p0)) <| ckF <| Q9 <| xw _ (Xt hk0 (rfl) U)
 exact sn Qa [4] [] p0 <| Qh <| pb [] (Qn h1 (Uc hD0 (rfl)))
def I3 (d:List Yc) (_:Nat) (s0:List Int):Rd ((List Int)×Bool) (List Int) (List Int):=(.next (Uo d s0))
def Om (_:Nat) (s0:List Int):(List Int):=s0
def Xe (d:List Yc):(List Int)×Bool:=(bif (!(Yo d)) then ([],false) else (Out.on (U1 (I3 d) Om (IntKind.i64.wrap (IntKind.i64.wrap ((d.length:Int)*(d.length:Int))+1)+1).toNat 0 (zF (d.length:Int).toNat (0:Int))) (λy0=>(bif (!(Kp (Uo d y0) y0)) then ([],false) else (y0,true)))))
theorem Mn (d:List Yc):ACalls Tryz.prog 200 [.h d] (.tup [(false, [.o 0 (((Xe d)).1)]),(false, [.b (((Xe d)).2)])]):=by
 refine en Qa Tryz.func200 λw0 F0 hG=> ?_
 refine sn Qa [0,2,3] [] p0 <| Qc <| tn Qa [0,2,3,8] [] (pc 1 (Hn d) p0) <| ck (!(Yo d)) (λh1=> ?_) (λh1=> ?_)
 ·exact tu Qa [(2,.one (.slc (.own true 576) 1 [])),(3,.b false)] [] [] [] p0 <| Qh <| pz [] (show Xe d=_ from Xm h1 (rfl)) (λz=> .tup [(false, [.o 0 z.1]),(false, [.b z.2])])
 have h1n:(Yo d)=true:=Zc h1;have h1nv:=Qcu h1n;refine Qe <| wT 0 0 .sh d (λhw2 hl3=> ?_)
 refine tu Qa [(2,.e 0),(3,.b false),(4,.one (.slc (.own true 768) 1 (zF (d.length:Int).toNat [.i 0])))] [] [] [] (pl 1 d (px (T2 (lo:=0) (hi:=(d.length:Int)) (n:=1073741824) (⟨by omega,by omega,by omega⟩)) p0)) <| eqn [(4,.o 768 (zF (d.length:Int).toNat (0:Int)))] [4] [] [] (by rw[show (zF (d.length:Int).toNat [.i 0])=(eL (zF (d.length:Int).toNat (0:Int))) from Qfy _ (0:Int)];first | done | kernel_rfl) ?_
 refine Qc <| sn Qa [0,2,3,4,5] [] p0 <| mz [(5,.i 0)] [] [] [] <| Qlu (I3 d) Om (IntKind.i64.wrap (IntKind.i64.wrap ((d.length:Int)*(d.length:Int))+1)+1).toNat (zF (d.length:Int).toNat (0:Int)) (λk0 s0=> [(4,.o 147203 s0),(5,.i (k0:Int))]) [4,5] (λy0=> [(4,.o 147353 y0)]) [4,5] (λ_ s0=>zD s0=zD d) (λy0=>zD y0=zD d) (X4 [(768,147203)] (by kernel_rfl)) (by simp) (λk0 s0 hk0 U=> ?_) (λk0 s0 hk0 U=> ?_) (λy0 hD0=> ?_)
 ·have hA0_0:=U.2;refine Qc <| sn Qa [0,2,3,4,5,20] [] (pl 2 d (pl 4 d (pe 7 (zB ((k0:Int)<=IntKind.i64.wrap (IntKind.i64.wrap ((d.length:Int)*(d.length:Int))+1))) p0))) <| ckT <| Qe <| Qc <| Qt <| qn Qa [0,2,3,4,5] [] (pc 2 (Sn d s0 (by omega)) p0) ?_
  refine qu Qa [(4,.o 1600 (Uo d s0)),(5,.i ((k0+1:Nat):Int))] [4,5] [] [] (pe 1 (J6 (Ql k0 (by omega))) p0) ?_;exact zZ (Uo d s0) (yN (X4 [(1600,147203)] (by kernel_rfl)) ⟨Wf hk0 (rfl) U.1,(by have hz:=GD d s0;omega)⟩)
 ·have hA0_0:=U.2;exact Qc <| sn Qa [0,2,3,4,5,20] [] (pl 2 d (pl 4 d (pe 7 (zC ((k0:Int)<=IntKind.i64.wrap (IntKind.i64.wrap ((d.length:Int)*(d.length:Int))+1))) p0))) <| ckF <| Q9 <| zZ s0 (yN (X4 [(147203,147353)] (by kernel_rfl)) ⟨Cx hk0 (rfl) U.1,by first|omega|(simp only[zG];omega)⟩)
 have hD0_0:=hD0.2;refine Qc <| sn Qa [2,3,4,31] [] (pc 2 (Sn d y0 (by omega)) (pc 4 (I2 (Uo d y0) y0) p0)) <| ck (!(Kp (Uo d y0) y0)) (λh4=> ?_) (λh4=> ?_)
 ·exact tn Qa [2,3,4] [] p0 <| Qh <| pz [] (show Xe d=_ from Qn h1 (Uc hD0.1 (Xm h4 (rfl)))) (λz=> .tup [(false, [.o 0 z.1]),(false, [.b z.2])])
 exact Qe <| tn Qa [2,3] [] p0 <| Qh <| pz [] (show Xe d=_ from Qn h1 (Uc hD0.1 (Qn h4 (rfl)))) (λz=> .tup [(false, [.o 0 z.1]),(false, [.b z.2])])
def Hc (d:List Yc) (k1:Nat) (a1:Yc) (s1:(List Int)×Bool):Rd (Rd ((List Int)×Bool) ((List Int)×Bool) (List Int)) ((List Int)×Bool) ((List Int)×Bool):=(bif decide ((max (Ye d s1.1 (Y2 a1.2) 0) (Ye d s1.1 (Yh a1.2) 1))>(d.length:Int)) then (.ret (.ret ([],false))) else (bif decide ((max (Ye d s1.1 (Y2 a1.2) 0) (Ye d s1.1 (Yh a1.2) 1))>(nth s1.1 k1)) then (.next (zE s1.1 k1 (max (Ye d s1.1 (Y2 a1.2) 0) (Ye d s1.1 (Yh a1.2) 1)),true)) else (.next (s1.1,s1.2))))
def Hd (_:Nat) (s1:(List Int)×Bool):(List Int)×Bool:=(s1.1,s1.2)
def Wo (d:List Yc) (s0:(List Int)×Bool):Rd ((List Int)×Bool) ((List Int)×Bool) (List Int):=(bif s0.2 then (Out.on (X7 (Hc d) Hd d 0 (s0.1,false)) (λy1=>(.next (y1.1,y1.2)))) else (.brk s0.1))
def Qq (d:List Yc):(List Int)×Bool:=(bif (!(Qk d)) then ([],false) else (Out.on (N1 (Wo d) (zD d*zD d+3) ((zF (d.length:Int).toNat (0:Int)),true)) (λy0=>(y0,true))))
theorem Ey (d:List Yc) (hd:d.length<=5):(whl (Wo d) (zD d*zD d+3) (zF (d.length:Int).toNat (0:Int),true)).isSome=true:=MN (f:=Hc d) (e:=Hd) (λ_ _ _=>rfl) (λ_ _=>rfl) (λ_=>rfl) (by omega)
theorem Rc (d:List Yc):ACalls Tryz.prog 213 [.h d] (.tup [(false, [.o 0 (((Qq d)).1)]),(false, [.b (((Qq d)).2)])]):=by
 refine en Qa Tryz.func213 λw0 F0 hG=> ?_
 refine sn Qa [0,2,3] [] p0 <| Qc <| tn Qa [0,2,3,11] [] (pc 1 (Jv d) p0) <| ck (!(Qk d)) (λh1=> ?_) (λh1=> ?_)
 ·refine tu Qa [(2,.e 0),(3,.b false)] [] [] [] p0 <| opn [(false,2,0,true,384000,1)] ?_
  exact Qh <| pz [] (show Qq d=_ from Xm h1 (rfl)) (λz=> .tup [(false, [.o 0 z.1]),(false, [.b z.2])])
 have h1n:(Qk d)=true:=Zc h1;refine Qe <| wT 0 0 .sh d (λhw2 hl3=> ?_)
 refine tu Qa [(2,.e 0),(3,.b false),(4,.one (.slc (.own true 896) 1 (zF (d.length:Int).toNat [.i 0])))] [] [] [] (pl 1 d (px (T2 (lo:=0) (hi:=(d.length:Int)) (n:=1073741824) (⟨by omega,by omega,by omega⟩)) p0)) <| eqn [(4,.o 896 (zF (d.length:Int).toNat (0:Int)))] [4] [] [] (by rw[show (zF (d.length:Int).toNat [.i 0])=(eL (zF (d.length:Int).toNat (0:Int))) from Qfy _ (0:Int)];first | done | kernel_rfl) ?_
 refine Qc <| sn Qa [0,2,3,4,5] [] p0 <| mz [(5,.b true)] [] [] [] <| blw (λ(s0:(List Int)×Bool)=> [(4,.o 896 s0.1),(5,.b s0.2)]) [4,5] (λs0=> []) [] (λ(y0:List Int)=> [(4,.o 896 y0)]) [0,4,5] (λy0=> []) [] (λ(k0:Nat) (s0:(List Int)×Bool)=>whl (Wo d) k0 s0=some (N1 (Wo d) (zD d*zD d+3) ((zF (d.length:Int).toNat (0:Int)),true))/\zD s0.1=zD d) (λ(y0:List Int)=>(N1 (Wo d) (zD d*zD d+3) ((zF (d.length:Int).toNat (0:Int)),true))= .brk y0) (zD d*zD d+3) ((zF (d.length:Int).toNat (0:Int)),true) wf0 ⟨Oc (Ey d (Ub (h1n))),(by simp)⟩ (λ_ h=>Rv h.1) (λk0 s0 U=> ?_) (λy0 hD0=> ?_)
 ·have hA0_0:=U.2;refine Qc <| sn Qa [0,2,3,4,5,15] [] p0 <| ck s0.2 (λh4=> ?_) (λh4=> ?_)
  ·refine Qe <| Qt <| tn Qa [0,2,3,4,5] [] p0 <| tu Qa [(5,.b false),(16,.h d),(17,.i (d.length:Int)),(18,.i 0)] [5] [] [] (pl 1 d p0) <| Qcc (Hc d) Hd d (s0.1,false) (λk1 s1=> [(4,.o 896 s1.1),(5,.b s1.2),(18,.i (k1:Int))]) [4,5,18] (λy1=> [(4,.o 896 y1.1),(5,.b y1.2)]) [4,5,16,17,18] (λ_ s1=>zD s1.1=zD s0.1) (λy1=>zD y1.1=zD s0.1) wf0 (by simp) (λk1 s1 hk1 hI1=> ?_) (λk1 s1 hk1 hI1=> ?_) (λy1 hD1=> ?_)
   ·have hA1_0:=hI1.2;obtain ⟨a1,hx1⟩:=Xs (l:=d) (i:=k1) hk1;refine su Qa [(19,.b true)] [] [] [] (pe 0 (zB ((k1:Int)<(d.length:Int))) p0) <| Qc <| ckT <| Qe <| Qc <| Qt <| sn Qa [0,2,3,4,5,6,7,16,17,18] [7] (pn 1 hx1 p0) <| tN Qa Zt [0,2,3,4,5,6,8,16,17,18] [] (pc 4 (QK a1.2) (pc 5 (Nr d s1.1 (Y2 a1.2) 0 (by omega)) (pc 10 (QM a1.2) (pc 11 (Nr d s1.1 (Yh a1.2) 1 (by omega)) p0)))) <| Qc <| tu Qa [(6,.i (k1:Int)),(8,.i (max (Ye d s1.1 (Y2 a1.2) 0) (Ye d s1.1 (Yh a1.2) 1))),(39,.b (decide ((max (Ye d s1.1 (Y2 a1.2) 0) (Ye d s1.1 (Yh a1.2) 1))>(d.length:Int))))] [19] [] [] (pl 2 d p0) <| ck (decide ((max (Ye d s1.1 (Y2 a1.2) 0) (Ye d s1.1 (Yh a1.2) 1))>(d.length:Int))) (λh5=> ?_) (λh5=> ?_)
    ·refine su Qa [] [39] [] [] p0 <| opn [(false,2,0,true,384000,1)] ?_
     refine Qh ?_;have hr6:(X7 (Hc d) Hd d 0 (s0.1,false))= .ret (.ret ([],false)):=Jr hx1 (Xm h5 (rfl)) hI1.1;have hr7:(N1 (Wo d) (zD d*zD d+3) ((zF (d.length:Int).toNat (0:Int)),true))= .ret ([],false):=Qjk (Xm h4 (Nk hr6)) U.1;exact pz [] (show Qq d=_ from Qn h1 (Nk hr7)) (λz=> .tup [(false, [.o 0 z.1]),(false, [.b z.2])])
    have h5d:=of_decide_eq_false h5;refine Qe <| wT 4 0 (.own true 896) s1.1 (λhw9 hl10=> ?_)
    have hx8:=ng s1.1 k1;refine sn Qa [0,2,3,4,5,6,8,16,17,18,45] [] (pN 3 hx8 p0) <| ck (decide ((max (Ye d s1.1 (Y2 a1.2) 0) (Ye d s1.1 (Yh a1.2) 1))>(nth s1.1 k1))) (λh11=> ?_) (λh11=> ?_)
    ·have h11d:=of_decide_eq_true h11;refine tu Qa [(4,.one (.slc (.own true 896) 1 (setRow (eL s1.1) k1 0 [.i (max (Ye d s1.1 (Y2 a1.2) 0) (Ye d s1.1 (Yh a1.2) 1))])))] [4,6,8,39] [] [] (pN 3 hx8 p0) <| eqn [(4,.o 896 (zE s1.1 k1 (max (Ye d s1.1 (Y2 a1.2) 0) (Ye d s1.1 (Yh a1.2) 1))))] [4] [] [] (by rw[Vg (y:=(max (Ye d s1.1 (Y2 a1.2) 0) (Ye d s1.1 (Yh a1.2) 1))) hx8 rfl]<;>kernel_rfl) ?_
     refine ru Qa [(5,.b true)] [5] [] [] p0 ?_;refine rn Qa [0,2,3,4,5,16,17,18] [] (pe 0 (J6 (Ql k1 (by omega))) p0) ?_;exact xw (zE s1.1 k1 (max (Ye d s1.1 (Y2 a1.2) 0) (Ye d s1.1 (Yh a1.2) 1)),true) ⟨Qp hx1 (Qn h5 (Xm h11 (rfl))) hI1.1,(by first|omega|(simp only[zG];omega))⟩
    have h11d:=of_decide_eq_false h11;refine Qe <| qn Qa [0,2,3,4,5,16,17,18] [] (pe 0 (J6 (Ql k1 (by omega))) p0) ?_
    exact xw (s1.1,s1.2) ⟨Qp hx1 (Qn h5 (Qn h11 (rfl))) hI1.1,(by first|omega|(simp only[zG];omega))⟩
   ·have hA1_0:=hI1.2;exact su Qa [(19,.b false)] [] [] [] (pe 0 (zC ((k1:Int)<(d.length:Int))) p0) <| Qc <| ckF <| Q9 <| xw (s1.1,s1.2) ⟨Xt hk1 (rfl) hI1.1,by first|omega|(simp only[zG];omega)⟩
   have hD1_0:=hD1.2;exact xw (y1.1,y1.2) ⟨wn U.1 (Xm h4 (Uc hD1.1 (rfl))),(by first|omega|(simp only[zG];omega))⟩
  exact Q9 <| xw _ (wb U.1 (Qn h4 (rfl)))
 exact sn Qa [2,3] [] p0 <| Qh <| pz [] (show Qq d=_ from Qn h1 (Uc hD0 (rfl))) (λz=> .tup [(false, [.o 0 z.1]),(false, [.b z.2])])
def Low (b:Int) (L:List Int):Prop:=∀j,0<=nth L j/\nth L j<=b
theorem PO {b w:Int} {i:Nat} {L:List Int} {p:Nat} (hi:i<L.length) (hw:0<=w/\w<=1) (h:Low b L):Low (b+w) (XO i L (p,w)):=λj=>by
 rw[JP _ hi];have h1:=h j;have h2:=h p;have h3:=h i;split
 . show 0<=max (nth L i) (nth L p+w)/\max (nth L i) (nth L p+w)<=b+w;omega
 omega
theorem MO (d:List Yc) (k0:Nat):∀(l:List ByteArray) (k:Nat) (s:List Int) (b:Int),k0<s.length->Low b s->X7 (Bb d k0) Cj l k s= .brk (Eh k0 (Vf d 0 l) s)/\Low b (Eh k0 (Vf d 0 l) s)
 | [],k,s,b,_,h=>⟨rfl,h⟩
 | a :: l,k,s,b,hk,h=>by
   have hf:Bb d k0 k a s=(bif (decide (0<=Qz d a)&&decide (nth s k0<nth s (zH (Qz d a)))) then .next (zE s k0 (nth s (zH (Qz d a)))) else .next s):=rfl;simp only[X7,hf,Vf];by_cases h0:0<=Qz d a
   . rw [if_pos h0,decide_eq_true h0,yP];have hb:Low b (XO k0 s (zH (Qz d a),0)):=by have:=PO (w:=0) (p:=zH (Qz d a)) hk (by omega) h;simpa using this
     have hbk:Eh k0 ((zH (Qz d a),0)::Vf d 0 l) s=Eh k0 (Vf d 0 l) (XO k0 s (zH (Qz d a),0)):=rfl;rw[hbk];have ih:=MO d k0 l (k+1) (XO k0 s (zH (Qz d a),0)) b (by rw[Ol];exact hk) hb;by_cases h1:nth s k0<nth s (zH (Qz d a))
     . have e:XO k0 s (zH (Qz d a),0)=zE s k0 (nth s (zH (Qz d a))):=by unfold XO;simp[h1]
       rw[decide_eq_true h1,cond_true];rw[e] at ih⊢;exact ih
     have e:XO k0 s (zH (Qz d a),0)=s:=by unfold XO;simp[h1]
     rw[decide_eq_false h1,cond_false];rw[e] at ih⊢;exact ih
   rw[if_neg h0,decide_eq_false h0,Bool.false_and,cond_false];exact MO d k0 l (k+1) s b hk h
theorem MP (d:List Yc) (k0:Nat):∀(l:List ByteArray) (k:Nat) (s:List Int) (b:Int),k0<s.length->Low b s->b+l.length<=1000000->X7 (Bc d k0) Fm l k s= .brk (Eh k0 (Vf d 1 l) s)/\Low (b+l.length) (Eh k0 (Vf d 1 l) s)
 | [],k,s,b,_,h,_=>⟨rfl,by show Low (b+((0:Nat):Int)) s;simpa using h⟩
 | a :: l,k,s,b,hk,h,hb=>by
   rw[zL] at hb⊢;have hf:Bc d k0 k a s=(bif (decide (0<=Qz d a)&&decide (nth s k0<IntKind.i64.wrap (nth s (zH (Qz d a))+1))) then .next (zE s k0 (IntKind.i64.wrap (nth s (zH (Qz d a))+1))) else .next s):=rfl;simp only[X7,hf,Vf];have hl:b+((l.length+1:Nat):Int)=b+1+(l.length:Int):=by omega
   have hw:IntKind.i64.wrap (nth s (zH (Qz d a))+1)=nth s (zH (Qz d a))+1:=IntWalk.i64_in _ (by have:=h (zH (Qz d a));omega);rw[hl] at hb⊢;by_cases h0:0<=Qz d a
   . rw [if_pos h0,decide_eq_true h0,yP,hw];have hlow:=PO (w:=1) (p:=zH (Qz d a)) hk (by omega) h;have hbk:Eh k0 ((zH (Qz d a),1)::Vf d 1 l) s=Eh k0 (Vf d 1 l) (XO k0 s (zH (Qz d a),1)):=rfl;rw[hbk];have ih:=MP d k0 l (k+1) (XO k0 s (zH (Qz d a),1)) (b+1) (by rw[Ol];exact hk) hlow hb;by_cases h1:nth s k0<nth s (zH (Qz d a))+1
     . have e:XO k0 s (zH (Qz d a),1)=zE s k0 (nth s (zH (Qz d a))+1):=by unfold XO;rw[if_pos h1]
       rw[decide_eq_true h1,cond_true];rw[e] at ih⊢;exact ih
     have e:XO k0 s (zH (Qz d a),1)=s:=by unfold XO;rw[if_neg h1]
     rw[decide_eq_false h1,cond_false];rw[e] at ih⊢;exact ih
   rw[if_neg h0,decide_eq_false h0,Bool.false_and,cond_false];exact MP d k0 l (k+1) s (b+1) hk (λj=>by have:=h j;omega) hb
theorem VQ (q:List Yz) (b:Bool):∀(l:List Bool) (k:Nat) (s:List ByteArray),∃t,X7 (W4 q b) Ag l k s= .brk t/\t.length<=s.length+l.length
 | [],k,s=>⟨s,rfl,by simp⟩
 | a ::l,k,s=>by
   simp only[X7,W4];cases (Jp (nth q k)&&(a==b)) with
   | true=>
     obtain ⟨t,h1,h2⟩:=VQ q b l (k+1) (s++ [(nth q k).2.2.2.1]);exact ⟨t,h1,by simp at h2⊢;omega⟩
   | false=>
     obtain ⟨t,h1,h2⟩:=VQ q b l (k+1) s;exact ⟨t,h1,by simp at h2⊢;omega⟩
theorem Qgd (q:List Yz):zD (Ym q)<=9:=by
 cases hv:Q8 q with
 | true=>have:=Ta q;have:=(VI hv).2;omega
 | false=>unfold Ym;rw[hv];simp
theorem Ql9 (q:List Yz) (b:Bool):zD (Ui q b)<=9:=by
 unfold Ui;obtain ⟨t,h1,h2⟩:=VQ q b (Ym q) 0 [];rw[h1];have h3:=Qgd q;have h4:=Qcm (P7 t);rw[FV] at h4;show (VJ (P7 t)).length<=9;simp at h2;omega
theorem Qcx (i:Nat) (E1 E2:Uh) (L:List Int):Eh i (E1++E2) L=Eh i E2 (Eh i E1 L):=List.foldl_append
theorem Qjx {d:List Yc} {k:Nat} {a:Yc} {s:List Int} {b:Int} (hk:d[k]? =some a) (hs:s.length=d.length) (h:Low b s) (hb:b+9<=1000000):H1 d k a s= .next (Eh k (Jq d k) s)/\Low (b+9) (Eh k (Jq d k) s):=by
 have hkl:k<d.length:=(yY.1 hk).1;have ha:nth d k=a:=O9 hk;obtain ⟨h1,h2⟩:=MO d k (Y2 a.2) 0 s b (by omega) h;have h9:(Yh a.2).length<=9:=Ql9 a.2 true;obtain ⟨h3,h4⟩:=MP d k (Yh a.2) 0 (Eh k (Vf d 0 (Y2 a.2)) s) b (by rw[Lx];omega) h2 (by omega);have he:Jq d k=Vf d 0 (Y2 a.2)++Vf d 1 (Yh a.2):=by unfold Jq;rw[if_pos hkl,ha]
 rw[he,Qcx];refine ⟨?_,λj=>by have:=h4 j;omega⟩;unfold H1;rw[SW,SX,h1];simp only[Out.on];rw[h3]
theorem BM {d:List Yc}:∀(l:List Yc) (k:Nat) (s:List Int) (b:Int),d.drop k=l->s.length=d.length->Low b s->b+9*l.length<=1000000->X7 (H1 d) Fn l k s= .brk (Dj (Jq d) (yB k l.length) s)/\Low (b+9*l.length) (Dj (Jq d) (yB k l.length) s)
 | [],k,s,b,_,_,h,_=>⟨rfl,by show Low (b+9*((0:Nat):Int)) s;simpa using h⟩
 | a ::l,k,s,b,hl,hs,h,hb=>by
   have hk:d[k]? =some a:=by
    have:=congrArg (·[0]?) hl;simpa using this
   have hrest:d.drop (k+1)=l:=by rw[←xL,hl];rfl
   rw[zL] at hb⊢;obtain ⟨h1,h2⟩:=Qjx hk hs h (by omega);have e:b+9*((l.length+1:Nat):Int)=b+9+9*(l.length:Int):=by omega
   rw[e] at hb⊢;obtain ⟨h3,h4⟩:=BM l (k+1) (Eh k (Jq d k) s) (b+9) hrest (by rw[Lx];exact hs) h2 hb;simp only[X7,h1,xC];exact ⟨h3,h4⟩
theorem BN {d:List Yc} {s:List Int} {b:Int} (hs:s.length=d.length) (h:Low b s) (hb:b+9*d.length<=1000000):Uo d s=Dj (Jq d) (zO d.length) s/\Low (b+9*d.length) (Dj (Jq d) (zO d.length) s):=by
 obtain ⟨h1,h2⟩:=BM d 0 s b rfl hs h hb;have e1:yB 0 d.length=zO d.length:=(yQ ..).symm;rw[e1] at h1 h2;refine ⟨?_,h2⟩;unfold Uo;rw[h1];rfl
theorem VT {d:List Yc} (hd:d.length<=5):∀(n k m:Nat),m+n<=1000->Low (45*m) (Cg (Jq d) d.length m)->U1 (I3 d) Om n k (Cg (Jq d) d.length m)= .brk (Cg (Jq d) d.length (m+n))/\Low (45*(m+n)) (Cg (Jq d) d.length (m+n))
 | 0,k,m,_,h=>⟨rfl,by simpa using h⟩
 | n+1,k,m,hm,h=>by
   obtain ⟨h1,h2⟩:=BN (R7 (Jq d) d.length m) h (by omega);have e:Cg (Jq d) d.length (m+1)=Dj (Jq d) (zO d.length) (Cg (Jq d) d.length m):=rfl;simp only[U1,I3,h1];rw[←e] at h2⊢;have:=VT hd n (k+1) (m+1) (by omega) (λj=>by have:=h2 j;omega);rw[show m+(n+1)=m+1+n by omega];refine ⟨this.1,λj=>by have:=this.2 j;omega⟩
theorem Qcy (b:List Int):∀(l:List Int) (k:Nat),l.length=(b.drop k).length->Out.on (X7 (Ds b) Gx l k ()) (λ_=>true)=decide (l=b.drop k)
 | [],k,h=>by
   have:b.drop k= []:=zX (by rw[←h];rfl);rw[this];rfl
 | a ::l,k,h=>by
   have hk:k<b.length:=by simp only[zL,List.length_drop] at h;omega
   have hd:b.drop k=nth b k::b.drop (k+1):=by
    rw[List.drop_eq_getElem_cons hk,show nth b k=b[k] by simp[nth,zT,hk]]
   rw[hd] at h⊢;simp only[X7,Ds];by_cases e:a=nth b k
   . rw[show (a !=nth b k)=false by simp[e],cond_false,Qcy b l (k+1) (by simpa using h)];simp[e]
   rw[show (a !=nth b k)=true by simp[e],cond_true];simp[e,Out.on]
theorem Qcz (a b:List Int) (h:a.length=b.length):Kp a b=decide (a=b):=by
 unfold Kp;rw[show ((a.length:Int) !=(b.length:Int))=false by simp[h],cond_false,Qcy b a 0 (by simpa using h),List.drop_zero]
theorem W5 (d:List Yc):Xe d=Qq d:=by
 unfold Xe Qq;rw[←B2];cases hv:Qk d with
 | false=>rfl
 | true=>
   have h5:=Ub hv;obtain ⟨hn,_⟩:=Qcu ((B2 d).symm.trans hv);simp only[yD,cond_false];have hz:Cg (Jq d) d.length 0=zF (zH (d.length:Int)) (0:Int):=by rw[zN];rfl
   have hnn:d.length*d.length<=25:=yV (Nat.mul_le_mul h5 h5) (by decide);obtain ⟨h1,h2⟩:=VT (d:=d) h5 (d.length*d.length+2) 0 0 (by omega) (λj=>by rw[hz,zN,JO];omega);rw[hz,zV] at h1;rw[zV] at h2;rw[hn,show zH (((d.length*d.length+1:Nat):Int)+1)=d.length*d.length+2 by omega,h1];simp only[Out.on];have hlen:=R7 (Jq d) d.length (d.length*d.length+2);obtain ⟨h3,_⟩:=BN (d:=d) hlen h2 (by omega);rw[h3,Qcz _ _ (by rw[Tg])];have hw:=L7 (d:=d) (f:=Hc d) (e:=Hd) (F:=Wo d) (λ_ _ _=>rfl) (λ_ _=>rfl) (λ_=>rfl) (by omega) (d.length*d.length+3) (zF d.length 0) true (B4 _).1 (B4 _).2
   have hsome:(QG (Jq d) d.length d.length (d.length*d.length+3) (true,zF d.length 0)).isSome=true:=by
    have:=Ey d h5;rw[zN,hw,yL] at this;exact this
   obtain ⟨r,hr⟩:=yE.1 hsome;unfold N1;rw[zN,hw,hr];obtain ⟨h6,h7⟩:=Qcr (E:=Jq d) (n:=d.length) (λi e he=>L6 d i e he) hr;by_cases hfix:Dj (Jq d) (zO d.length) (Cg (Jq d) d.length (d.length*d.length+2))=Cg (Jq d) d.length (d.length*d.length+2)
   . rw[h6 hfix,decide_eq_true hfix];rfl
   rw[h7 hfix,decide_eq_false hfix];rfl
open GoE (enc wide)
def Bq (name:ByteArray) (_:Nat) (a0:Km) (_:Unit):Rd (Int) (Unit) (Unit):=(bif (a0.1.toList==name.toList) then (.ret a0.2) else (.next ()))
def D1 (_:Nat) (_:Unit):Unit:=()
def Fo (s_:List Km) (name:ByteArray):Int:=(Out.on (X7 (Bq name) D1 s_ 0 ()) (λ_=>0))
theorem VU (s_:List Km) (name:ByteArray):ACalls Tryz.prog 284 [.h s_,.s name] (.i (Fo s_ name)):=by
 refine en Qa Tryz.func284 λw0 F0 hG=> ?_
 refine sn Qa [0,1,4] [] p0 <| Qc <| tn Qa [1,4,7,8,9] [] (pl 1 s_ p0) <| mz [(4,.i 0),(7,.h s_),(8,.i (s_.length:Int)),(9,.i 0)] [0] [] [] <| wT 7 0 .sh s_ (λhw1 hl2=> ?_)
 refine Pa (Bq name) D1 s_ () (λk0 _=> [(9,.i (k0:Int))]) [9] (λ_=> []) [1,7,8,9] wf0 (λk0 s0 hk0 U=> ?_) (λk0 s0 hk0 U=> ?_) (λy0 hD0=> ?_)
 ·obtain ⟨a0,V⟩:=Xs (l:=s_) (i:=k0) hk0;refine sn Qa [1,4,7,8,9,10] [] (pe 0 (zB ((k0:Int)<(s_.length:Int))) p0) <| Qc <| ckT <| Qe <| Qc <| Qt <| tn Qa [1,4,6,7,8,9] [6] (pn 0 V p0) <| tu Qa [(6,.p 6 0),(16,.b (a0.1.toList==name.toList))] [] [(6, [.s a0.1,.i a0.2])] [] p0 <| ck (a0.1.toList==name.toList) (λh3=> ?_) (λh3=> ?_)
  ·refine sn Qa [1,4,7,8,9] [] p0 <| Qh ?_
   have hr4:(X7 (Bq name) D1 s_ 0 ())= .ret a0.2:=Jr V (Xm h3 (rfl)) U;exact pi [] (Nk hr4)
  refine Qe <| rn Qa [1,4,7,8,9] [] (pe 0 (J6 (Ql k0 (by omega))) p0) ?_
  exact xw _ (Qp V (Qn h3 (rfl)) U)
 ·exact sn Qa [1,4,7,8,9,10] [] (pe 0 (zC ((k0:Int)<(s_.length:Int))) p0) <| Qc <| ckF <| Q9 <| xw _ (Xt hk0 (rfl) U)
 exact sn Qa [4] [] p0 <| Qh <| pi [] (Uc hD0 (rfl))
def Z8 (s_:List Km) (name:ByteArray) (v:Dr):Bool:=((V5 v)&&((v.1 !=(0:Int))&&(v.1==(Fo s_ name))))
theorem L8 (s_:List Km) (name:ByteArray) (v:Dr):ACalls Tryz.prog 253 [.h s_,.s name,.a [.i v.1,.i v.2.1,.s v.2.2]] (.b (Z8 s_ name v)):=by
 refine en Qa Tryz.func253 λw0 F0 hG=> ?_
 refine sn Qa [0,1,5,6] [5] p0 <| Qc <| mz [(5,.p 5 0),(6,.b false)] [2] [(5, [.i v.1,.i v.2.1,.s v.2.2])] [] <| jn [(6,.b ((V5 v)&&((v.1 !=(0:Int))&&(v.1==(Fo s_ name)))))] [0,1,5,6] [] [5] (V5 v) (λh1=> ?_) (λh1=> ?_) ?_
 ·refine Yj (v.1 !=(0:Int)) (λh2=> ?_) (λh2=> ?_)
  ·refine rN Qa Zt [6] [] (pc 1 (cb h1 (Wm v)) (pt 5 h2 (pc 12 (VU s_ name) p0))) ?_;exact zA (by rw[h1,h2]<;>kernel_rfl)
  refine rN Qa Zt [6] [] (pc 1 (cb h1 (Wm v)) (pf 5 h2 p0)) ?_;exact zA (by rw[h1,h2]<;>kernel_rfl)
 ·refine rN Qa Zt [6] [] (pc 1 (cb h1 (Wm v)) p0) ?_;exact zA (by rw[h1]<;>kernel_rfl)
 exact Qh <| pb [] (show Z8 s_ name v=((V5 v)&&((v.1 !=(0:Int))&&(v.1==(Fo s_ name)))) from rfl)
def Ve (n:Int):Bool:=(Zk n 0 2)
theorem Ck (n:Int):ACalls Tryz.prog 124 [.i n] (.b (Ve n)):=by
 refine en Qa Tryz.func124 λw0 F0 hG=> ?_
 exact sn Qa [0,2] [] p0 <| tn Qa [2] [] (pc 1 (Kn n 0 2) p0) <| Qh <| pb [] (show Ve n=(Zk n 0 2) from rfl)
def K5 (s_:List Km) (k0:Nat) (a0:Km) (_:Unit):Rd (Bool) (Unit) (Unit):=(bif ((!(Zl a0.1))|| (bif (a0.2 !=(1:Int)) then ((a0.2 !=(2:Int))|| (decide ((k0:Int)>(0:Int))&&(!(Op.bytesLess ((nth s_ ((k0:Int)-1).toNat).1).toList a0.1.toList)))) else (decide ((k0:Int)>(0:Int))&&(!(Op.bytesLess ((nth s_ ((k0:Int)-1).toNat).1).toList a0.1.toList))))) then (.ret false) else (.next ()))
def Wy (_:Nat) (_:Unit):Unit:=()
def Jw (s_:List Km):Bool:=(Out.on (X7 (K5 s_) Wy s_ 0 ()) (λ_=>decide ((s_.length:Int)<=(5:Int))))
theorem Bn (s_:List Km):ACalls Tryz.prog 250 [.h s_] (.b (Jw s_)):=by
 refine en Qa Tryz.func250 λw0 F0 hG=> ?_
 refine sn Qa [0,2] [] p0 <| Qc <| tn Qa [0,2,5,6,7] [] (pl 1 s_ p0) <| mz [(2,.b false),(5,.h s_),(6,.i (s_.length:Int)),(7,.i 0)] [] [] [] <| wT 0 0 .sh s_ (λhw1 hl2=> ?_)
 refine Pa (K5 s_) Wy s_ () (λk0 _=> [(7,.i (k0:Int))]) [7] (λ_=> []) [5,6,7] wf0 (λk0 s0 hk0 U=> ?_) (λk0 s0 hk0 U=> ?_) (λy0 hD0=> ?_)
 ·obtain ⟨a0,V⟩:=Xs (l:=s_) (i:=k0) hk0;refine sn Qa [0,2,5,6,7,8] [] (pe 0 (zB ((k0:Int)<(s_.length:Int))) p0) <| Qc <| ckT <| Qe <| Qc <| Qt <| tn Qa [0,2,3,4,5,6,7] [4] (pn 1 V p0) <| Qc <| mz [(3,.i (k0:Int)),(4,.p 4 0)] [] [(4, [.s a0.1,.i a0.2])] [] <| jn [(40,.b ((!(Zl a0.1))|| (bif (a0.2 !=(1:Int)) then ((a0.2 !=(2:Int))|| (decide ((k0:Int)>(0:Int))&&(!(Op.bytesLess ((nth s_ ((k0:Int)-1).toNat).1).toList a0.1.toList)))) else (decide ((k0:Int)>(0:Int))&&(!(Op.bytesLess ((nth s_ ((k0:Int)-1).toNat).1).toList a0.1.toList))))))] [3,4] [] [4] (!(Zl a0.1)) (λh3=> ?_) (λh3=> ?_) ?_
  ·have h3n:(Zl a0.1)=false:=Vp h3;refine rN Qa Zt [0,2,5,6,7,40] [] (pc 2 (cb h3n (Zx a0.1)) (pe 3 (show .b (!false)= .b true from rfl) p0)) ?_;exact zA (by rw[h3]<;>kernel_rfl)
  ·have h3n:(Zl a0.1)=true:=Zc h3;refine Yj (a0.2 !=(1:Int)) (λh4=> ?_) (λh4=> ?_)
   ·have h4d:=T8 h4;refine Yj (a0.2 !=(2:Int)) (λh5=> ?_) (λh5=> ?_)
    ·refine rN Qa Zt [0,2,5,6,7,40] [] (pc 2 (cb h3n (Zx a0.1)) (pe 3 (show .b (!true)= .b false from rfl) (pt 7 h4 (pt 11 h5 p0)))) ?_;exact zA (by rw[h3,h4,h5]<;>kernel_rfl)
    have h5d:=U8 h5;refine Yj (decide ((k0:Int)>(0:Int))) (λh6=> ?_) (λh6=> ?_)
    ·have h6d:=of_decide_eq_true h6;have hx7:=ng s_ ((k0:Int)-1).toNat;refine rN Qa Zt [0,2,5,6,7,40] [] (pc 2 (cb h3n (Zx a0.1)) (pe 3 (show .b (!true)= .b false from rfl) (pt 7 h4 (pf 11 h5 (pt 16 h6 (pe 20 (J6 (IntWalk.i64_in ((k0:Int)-1) (by omega))) (pg 21 ((k0:Int)-1) hx7 p0))))))) ?_;exact zA (by rw[h3,h4,h5,h6]<;>kernel_rfl)
    refine rN Qa Zt [0,2,5,6,7,40] [] (pc 2 (cb h3n (Zx a0.1)) (pe 3 (show .b (!true)= .b false from rfl) (pt 7 h4 (pf 11 h5 (pf 16 h6 p0))))) ?_;exact zA (by rw[h3,h4,h5,h6]<;>kernel_rfl)
   have h4d:=U8 h4;refine Yj (decide ((k0:Int)>(0:Int))) (λh8=> ?_) (λh8=> ?_)
   ·have h8d:=of_decide_eq_true h8;have hx9:=ng s_ ((k0:Int)-1).toNat;refine rN Qa Zt [0,2,5,6,7,40] [] (pc 2 (cb h3n (Zx a0.1)) (pe 3 (show .b (!true)= .b false from rfl) (pf 7 h4 (pt 16 h8 (pe 20 (J6 (IntWalk.i64_in ((k0:Int)-1) (by omega))) (pg 21 ((k0:Int)-1) hx9 p0)))))) ?_;exact zA (by rw[h3,h4,h8]<;>kernel_rfl)
   refine rN Qa Zt [0,2,5,6,7,40] [] (pc 2 (cb h3n (Zx a0.1)) (pe 3 (show .b (!true)= .b false from rfl) (pf 7 h4 (pf 16 h8 p0)))) ?_;exact zA (by rw[h3,h4,h8]<;>kernel_rfl)
  refine ck ((!(Zl a0.1))|| (bif (a0.2 !=(1:Int)) then ((a0.2 !=(2:Int))|| (decide ((k0:Int)>(0:Int))&&(!(Op.bytesLess ((nth s_ ((k0:Int)-1).toNat).1).toList a0.1.toList)))) else (decide ((k0:Int)>(0:Int))&&(!(Op.bytesLess ((nth s_ ((k0:Int)-1).toNat).1).toList a0.1.toList))))) (λh10=> ?_) (λh10=> ?_)
  ·refine su Qa [] [40] [] [] p0 <| Qh ?_
   have hr11:(X7 (K5 s_) Wy s_ 0 ())= .ret false:=Jr V (Xm h10 (rfl)) U;exact pb [] (Nk hr11)
  refine Qe <| rn Qa [0,2,5,6,7] [] (pe 0 (J6 (Ql k0 (by omega))) p0) ?_
  exact xw _ (Qp V (Qn h10 (rfl)) U)
 ·exact sn Qa [0,2,5,6,7,8] [] (pe 0 (zC ((k0:Int)<(s_.length:Int))) p0) <| Qc <| ckF <| Q9 <| xw _ (Xt hk0 (rfl) U)
 exact sn Qa [2] [] (pl 1 s_ p0) <| Qh <| pb [] (Uc hD0 (rfl))
def Jy (s_:List Km) (f:Xx) (k0:Nat) (a0:Ee) (_:Unit):Rd (Bool) (Unit) (Unit):=(bif (bif decide ((k0:Int)>(0:Int)) then ((!(Op.bytesLess ((nth f.2.2.2.2 ((k0:Int)-1).toNat).1).toList a0.1.toList))|| (!(Z8 s_ a0.1 a0.2))) else (!(Z8 s_ a0.1 a0.2))) then (.ret false) else (.next ()))
def Wp (_:Nat) (_:Unit):Unit:=()
def Y1 (s_:List Km) (f:Xx):Bool:=(Out.on (X7 (Jy s_ f) Wp f.2.2.2.2 0 ()) (λ_=>((Zk f.1 1 60)&&((Ve f.2.1)&&((Zk f.2.2.2.1 0 60)&&(Jw s_))))))
theorem Ho (s_:List Km) (f:Xx):ACalls Tryz.prog 218 [.h s_,.a [.i f.1,.i f.2.1,.b f.2.2.1,.i f.2.2.2.1,.h f.2.2.2.2]] (.b (Y1 s_ f)):=by
 refine en Qa Tryz.func218 λw0 F0 hG=> ?_
 refine sn Qa [0,3,4] [3] p0 <| Qc <| tn Qa [0,3,4,8,9,10] [3] (pl 2 f.2.2.2.2 p0) <| mz [(3,.p 3 0),(4,.b false),(8,.h f.2.2.2.2),(9,.i (f.2.2.2.2.length:Int)),(10,.i 0)] [1] [(3, [.i f.1,.i f.2.1,.b f.2.2.1,.i f.2.2.2.1,.h f.2.2.2.2])] [] <| wT 8 0 .sh f.2.2.2.2 (λhw1 hl2=> ?_)
 refine Pa (Jy s_ f) Wp f.2.2.2.2 () (λk0 _=> [(10,.i (k0:Int))]) [10] (λ_=> []) [8,9,10] wf0 (λk0 s0 hk0 U=> ?_) (λk0 s0 hk0 U=> ?_) (λy0 hD0=> ?_)
 ·obtain ⟨a0,V⟩:=Xs (l:=f.2.2.2.2) (i:=k0) hk0;refine su Qa [(11,.b true)] [] [] [] (pe 0 (zB ((k0:Int)<(f.2.2.2.2.length:Int))) p0) <| Qc <| ckT <| Qe <| Qc <| Qt <| sn Qa [0,3,4,5,6,8,9,10] [3,6] (pn 1 V p0) <| Qc <| mz [(5,.i (k0:Int)),(6,.p 6 0)] [11] [(6, [.s a0.1,.i a0.2.1,.i a0.2.2.1,.s a0.2.2.2])] [] <| jn [(37,.b (bif decide ((k0:Int)>(0:Int)) then ((!(Op.bytesLess ((nth f.2.2.2.2 ((k0:Int)-1).toNat).1).toList a0.1.toList))|| (!(Z8 s_ a0.1 a0.2))) else (!(Z8 s_ a0.1 a0.2))))] [5,6] [] [6] (decide ((k0:Int)>(0:Int))) (λh3=> ?_) (λh3=> ?_) ?_
  ·have h3d:=of_decide_eq_true h3;refine Yj (!(Op.bytesLess ((nth f.2.2.2.2 ((k0:Int)-1).toNat).1).toList a0.1.toList)) (λh4=> ?_) (λh4=> ?_)
   ·have hx5:=ng f.2.2.2.2 ((k0:Int)-1).toNat;refine rN Qa Zt [0,3,4,8,9,10,37] [3] (pt 1 h3 (pe 6 (J6 (IntWalk.i64_in ((k0:Int)-1) (by omega))) (pg 7 ((k0:Int)-1) hx5 (pt 12 h4 p0)))) ?_;exact zA (by rw[h3,h4]<;>kernel_rfl)
   have hx6:=ng f.2.2.2.2 ((k0:Int)-1).toNat;refine rN Qa Zt [0,3,4,8,9,10,37] [3] (pt 1 h3 (pe 6 (J6 (IntWalk.i64_in ((k0:Int)-1) (by omega))) (pg 7 ((k0:Int)-1) hx6 (pf 12 h4 (pc 20 (L8 s_ a0.1 a0.2) p0))))) ?_;exact zA (by rw[h3,h4]<;>kernel_rfl)
  ·refine rN Qa Zt [0,3,4,8,9,10,37] [3] (pf 1 h3 (pc 20 (L8 s_ a0.1 a0.2) p0)) ?_;exact zA (by rw[h3]<;>kernel_rfl)
  refine ck (bif decide ((k0:Int)>(0:Int)) then ((!(Op.bytesLess ((nth f.2.2.2.2 ((k0:Int)-1).toNat).1).toList a0.1.toList))|| (!(Z8 s_ a0.1 a0.2))) else (!(Z8 s_ a0.1 a0.2))) (λh7=> ?_) (λh7=> ?_)
  ·refine su Qa [] [37] [] [] p0 <| Qh ?_
   have hr8:(X7 (Jy s_ f) Wp f.2.2.2.2 0 ())= .ret false:=Jr V (Xm h7 (rfl)) U;exact pb [] (Nk hr8)
  refine Qe <| rn Qa [0,3,4,8,9,10] [3] (pe 0 (J6 (Ql k0 (by omega))) p0) ?_
  exact xw _ (Qp V (Qn h7 (rfl)) U)
 ·exact su Qa [(11,.b false)] [] [] [] (pe 0 (zC ((k0:Int)<(f.2.2.2.2.length:Int))) p0) <| Qc <| ckF <| Q9 <| xw _ (Xt hk0 (rfl) U)
 refine Qc <| jn [(4,.b ((Zk f.1 1 60)&&((Ve f.2.1)&&((Zk f.2.2.2.1 0 60)&&(Jw s_)))))] [0,3,4] [] [3] (Zk f.1 1 60) (λh9=> ?_) (λh9=> ?_) ?_
 ·have h9w:=Ry.1 h9;refine Yj (Ve f.2.1) (λh10=> ?_) (λh10=> ?_)
  ·refine Yj (Zk f.2.2.2.1 0 60) (λh11=> ?_) (λh11=> ?_)
   ·have h11w:=Ry.1 h11;refine rn Qa [4] [] (pc 2 (cb h9 (Kn f.1 1 60)) (pc 6 (cb h10 (Ck f.2.1)) (pc 11 (cb h11 (Kn f.2.2.2.1 0 60)) (pc 15 (Bn s_) p0)))) ?_;exact zA (by rw[h9,h10,h11]<;>kernel_rfl)
   refine rn Qa [4] [] (pc 2 (cb h9 (Kn f.1 1 60)) (pc 6 (cb h10 (Ck f.2.1)) (pc 11 (cb h11 (Kn f.2.2.2.1 0 60)) p0))) ?_;exact zA (by rw[h9,h10,h11]<;>kernel_rfl)
  refine rn Qa [4] [] (pc 2 (cb h9 (Kn f.1 1 60)) (pc 6 (cb h10 (Ck f.2.1)) p0)) ?_;exact zA (by rw[h9,h10]<;>kernel_rfl)
 ·refine rn Qa [4] [] (pc 2 (cb h9 (Kn f.1 1 60)) p0) ?_;exact zA (by rw[h9]<;>kernel_rfl)
 exact Qh <| pb [] (Uc hD0 (rfl))
def Z2 (s_:Xr) (k0:Nat) (a0:Xx) (_:Unit):Rd (Bool) (Unit) (Unit):=(bif ((!(Y1 s_.1 a0))|| (decide (a0.1>=s_.2.2)|| (decide ((k0:Int)>(0:Int))&&decide ((nth s_.2.1 ((k0:Int)-1).toNat).1>=a0.1)))) then (.ret false) else (.next ()))
def Vj (_:Nat) (_:Unit):Unit:=()
def Qs (s_:Xr):Bool:=(Out.on (X7 (Z2 s_) Vj s_.2.1 0 ()) (λ_=>((Jw s_.1)&&(decide ((s_.2.1.length:Int)<=(12:Int))&&(Zk s_.2.2 1 61)))))
theorem Va (s_:Xr):ACalls Tryz.prog 214 [.a [.h s_.1,.h s_.2.1,.i s_.2.2]] (.b (Qs s_)):=by
 refine en Qa Tryz.func214 λw0 F0 hG=> ?_
 refine sn Qa [1,2] [1] p0 <| Qc <| tn Qa [1,2,6,7,8] [1] (pl 2 s_.2.1 p0) <| mz [(1,.p 1 0),(2,.b false),(6,.h s_.2.1),(7,.i (s_.2.1.length:Int)),(8,.i 0)] [0] [(1, [.h s_.1,.h s_.2.1,.i s_.2.2])] [] <| wT 6 0 .sh s_.2.1 (λhw1 hl2=> ?_)
 refine Pa (Z2 s_) Vj s_.2.1 () (λk0 _=> [(8,.i (k0:Int))]) [8] (λ_=> []) [6,7,8] wf0 (λk0 s0 hk0 U=> ?_) (λk0 s0 hk0 U=> ?_) (λy0 hD0=> ?_)
 ·obtain ⟨a0,V⟩:=Xs (l:=s_.2.1) (i:=k0) hk0;refine sn Qa [1,2,6,7,8,9] [1] (pe 0 (zB ((k0:Int)<(s_.2.1.length:Int))) p0) <| Qc <| ckT <| Qe <| Qc <| Qt <| tn Qa [1,2,3,4,6,7,8] [1,4] (pn 1 V p0) <| Qc <| mz [(3,.i (k0:Int)),(4,.p 4 0)] [] [(4, [.i a0.1,.i a0.2.1,.b a0.2.2.1,.i a0.2.2.2.1,.h a0.2.2.2.2])] [] <| jn [(40,.b ((!(Y1 s_.1 a0))|| (decide (a0.1>=s_.2.2)|| (decide ((k0:Int)>(0:Int))&&decide ((nth s_.2.1 ((k0:Int)-1).toNat).1>=a0.1)))))] [3,4] [] [4] (!(Y1 s_.1 a0)) (λh3=> ?_) (λh3=> ?_) ?_
  ·have h3n:(Y1 s_.1 a0)=false:=Vp h3;refine rN Qa Zt [1,2,6,7,8,40] [1] (pc 3 (cb h3n (Ho s_.1 a0)) (pe 4 (show .b (!false)= .b true from rfl) p0)) ?_;exact zA (by rw[h3]<;>kernel_rfl)
  ·have h3n:(Y1 s_.1 a0)=true:=Zc h3;refine Yj (decide (a0.1>=s_.2.2)) (λh4=> ?_) (λh4=> ?_)
   ·refine rN Qa Zt [1,2,6,7,8,40] [1] (pc 3 (cb h3n (Ho s_.1 a0)) (pe 4 (show .b (!true)= .b false from rfl) (pt 10 h4 p0))) ?_;exact zA (by rw[h3,h4]<;>kernel_rfl)
   have h4d:=of_decide_eq_false h4;refine Yj (decide ((k0:Int)>(0:Int))) (λh5=> ?_) (λh5=> ?_)
   ·have h5d:=of_decide_eq_true h5;have hx6:=ng s_.2.1 ((k0:Int)-1).toNat;refine rN Qa Zt [1,2,6,7,8,40] [1] (pc 3 (cb h3n (Ho s_.1 a0)) (pe 4 (show .b (!true)= .b false from rfl) (pf 10 h4 (pt 14 h5 (pe 19 (J6 (IntWalk.i64_in ((k0:Int)-1) (by omega))) (pg 20 ((k0:Int)-1) hx6 p0)))))) ?_;exact zA (by rw[h3,h4,h5]<;>kernel_rfl)
   refine rN Qa Zt [1,2,6,7,8,40] [1] (pc 3 (cb h3n (Ho s_.1 a0)) (pe 4 (show .b (!true)= .b false from rfl) (pf 10 h4 (pf 14 h5 p0)))) ?_;exact zA (by rw[h3,h4,h5]<;>kernel_rfl)
  refine ck ((!(Y1 s_.1 a0))|| (decide (a0.1>=s_.2.2)|| (decide ((k0:Int)>(0:Int))&&decide ((nth s_.2.1 ((k0:Int)-1).toNat).1>=a0.1)))) (λh7=> ?_) (λh7=> ?_)
  ·refine su Qa [] [40] [] [] p0 <| Qh ?_
   have hr8:(X7 (Z2 s_) Vj s_.2.1 0 ())= .ret false:=Jr V (Xm h7 (rfl)) U;exact pb [] (Nk hr8)
  have h7r:((decide (a0.1>=s_.2.2)|| (decide ((k0:Int)>(0:Int))&&decide ((nth s_.2.1 ((k0:Int)-1).toNat).1>=a0.1))))=false:=Pr h7;have h7rl:(decide (a0.1>=s_.2.2))=false:=Rw h7r;have h7rld:=of_decide_eq_false h7rl;refine Qe <| rn Qa [1,2,6,7,8] [1] (pe 0 (J6 (Ql k0 (by omega))) p0) ?_
  exact xw _ (Qp V (Qn h7 (rfl)) U)
 ·exact sn Qa [1,2,6,7,8,9] [1] (pe 0 (zC ((k0:Int)<(s_.2.1.length:Int))) p0) <| Qc <| ckF <| Q9 <| xw _ (Xt hk0 (rfl) U)
 refine Qc <| jn [(2,.b ((Jw s_.1)&&(decide ((s_.2.1.length:Int)<=(12:Int))&&(Zk s_.2.2 1 61))))] [1,2] [] [1] (Jw s_.1) (λh9=> ?_) (λh9=> ?_) ?_
 ·refine Yj (decide ((s_.2.1.length:Int)<=(12:Int))) (λh10=> ?_) (λh10=> ?_)
  ·refine rn Qa [2] [] (pc 2 (cb h9 (Bn s_.1)) (pl 6 s_.2.1 (pt 7 h10 (pc 12 (Kn s_.2.2 1 61) p0)))) ?_;exact zA (by rw[h9,h10]<;>kernel_rfl)
  refine rn Qa [2] [] (pc 2 (cb h9 (Bn s_.1)) (pl 6 s_.2.1 (pf 7 h10 p0))) ?_;exact zA (by rw[h9,h10]<;>kernel_rfl)
 ·refine rn Qa [2] [] (pc 2 (cb h9 (Bn s_.1)) p0) ?_;exact zA (by rw[h9]<;>kernel_rfl)
 exact Qh <| pb [] (Uc hD0 (rfl))
def Ih (name:ByteArray) (_:Nat) (a0:Km) (_:Unit):Rd (Int) (Unit) (Unit):=(bif (a0.1.toList==name.toList) then (.ret a0.2) else (.next ()))
def Ii (_:Nat) (_:Unit):Unit:=()
def Fp (s_:List Km) (name:ByteArray):Int:=(Out.on (X7 (Ih name) Ii s_ 0 ()) (λ_=>0))
theorem VW (s_:List Km) (name:ByteArray):ACalls Tryz.prog 274 [.h s_,.s name] (.i (Fp s_ name)):=by
 refine en Qa Tryz.func274 λw0 F0 hG=> ?_
 refine sn Qa [0,1,4] [] p0 <| Qc <| tn Qa [0,1,4,5] [] p0 <| mz [(4,.i 0),(5,.i 0)] [] [] [] <| wT 0 0 .sh s_ (λhw1 hl2=> ?_)
 refine Pa (Ih name) Ii s_ () (λk0 _=> [(5,.i (k0:Int))]) [5] (λ_=> []) [0,1,5] wf0 (λk0 s0 hk0 U=> ?_) (λk0 s0 hk0 U=> ?_) (λy0 hD0=> ?_)
 ·obtain ⟨a0,V⟩:=Xs (l:=s_) (i:=k0) hk0;refine Qc <| sn Qa [0,1,4,5,9] [] (pl 2 s_ (pe 3 (zB ((k0:Int)<(s_.length:Int))) p0)) <| ckT <| Qe <| Qc <| Qt <| tn Qa [0,1,4,5,18] [] (pn 2 V p0) <| ck (a0.1.toList==name.toList) (λh3=> ?_) (λh3=> ?_)
  ·refine tu Qa [(4,.i a0.2)] [4] [] [] (pn 2 V p0) <| Qh ?_
   have hr4:(X7 (Ih name) Ii s_ 0 ())= .ret a0.2:=Jr V (Xm h3 (rfl)) U;exact pi [] (Nk hr4)
  refine Qe <| qu Qa [(5,.i ((k0+1:Nat):Int))] [5] [] [] (pe 1 (J6 (Ql k0 (by omega))) p0) ?_
  exact xw _ (Qp V (Qn h3 (rfl)) U)
 ·exact Qc <| sn Qa [0,1,4,5,9] [] (pl 2 s_ (pe 3 (zC ((k0:Int)<(s_.length:Int))) p0)) <| ckF <| Q9 <| xw _ (Xt hk0 (rfl) U)
 exact sn Qa [4] [] p0 <| Qh <| pi [] (Uc hD0 (rfl))
def Kz (s_:List Km) (name:ByteArray) (v:Dr):Bool:=((Kb v)&&((v.1 !=(0:Int))&&(v.1==(Fp s_ name))))
theorem Ei (s_:List Km) (name:ByteArray) (v:Dr):ACalls Tryz.prog 241 [.h s_,.s name,.a [.i v.1,.i v.2.1,.s v.2.2]] (.b (Kz s_ name v)):=by
 refine en Qa Tryz.func241 λw0 F0 hG=> ?_
 refine sn Qa [0,1,5,6] [5] p0 <| Qc <| mz [(5,.p 5 0),(6,.b false)] [2] [(5, [.i v.1,.i v.2.1,.s v.2.2])] [] <| jn [(6,.b ((Kb v)&&((v.1 !=(0:Int))&&(v.1==(Fp s_ name)))))] [0,1,5,6] [] [5] (Kb v) (λh1=> ?_) (λh1=> ?_) ?_
 ·refine Yj (v.1 !=(0:Int)) (λh2=> ?_) (λh2=> ?_)
  ·refine rN Qa Zt [6] [] (pc 1 (cb h1 (Jx v)) (pt 5 h2 (pc 12 (VW s_ name) p0))) ?_;exact zA (by rw[h1,h2]<;>kernel_rfl)
  refine rN Qa Zt [6] [] (pc 1 (cb h1 (Jx v)) (pf 5 h2 p0)) ?_;exact zA (by rw[h1,h2]<;>kernel_rfl)
 ·refine rN Qa Zt [6] [] (pc 1 (cb h1 (Jx v)) p0) ?_;exact zA (by rw[h1]<;>kernel_rfl)
 exact Qh <| pb [] (show Kz s_ name v=((Kb v)&&((v.1 !=(0:Int))&&(v.1==(Fp s_ name)))) from rfl)
def U9 (s_:List Km) (k0:Nat) (a0:Km) (_:Unit):Rd (Bool) (Unit) (Unit):=(bif ((!(Yn a0.1))|| ((!(Xk a0.2 1 2))|| (decide ((k0:Int)>(0:Int))&&(!(Op.bytesLess ((nth s_ ((k0:Int)-1).toNat).1).toList a0.1.toList))))) then (.ret false) else (.next ()))
def A8 (_:Nat) (_:Unit):Unit:=()
def K0 (s_:List Km):Bool:=(Out.on (X7 (U9 s_) A8 s_ 0 ()) (λ_=>decide ((s_.length:Int)<=(5:Int))))
theorem Wc (s_:List Km):ACalls Tryz.prog 239 [.h s_] (.b (K0 s_)):=by
 refine en Qa Tryz.func239 λw0 F0 hG=> ?_
 refine sn Qa [0,2] [] p0 <| Qc <| tn Qa [0,2,3] [] p0 <| mz [(2,.b false),(3,.i 0)] [] [] [] <| wT 0 0 .sh s_ (λhw1 hl2=> ?_)
 refine Pa (U9 s_) A8 s_ () (λk0 _=> [(3,.i (k0:Int))]) [3] (λ_=> []) [3] wf0 (λk0 s0 hk0 U=> ?_) (λk0 s0 hk0 U=> ?_) (λy0 hD0=> ?_)
 ·obtain ⟨a0,V⟩:=Xs (l:=s_) (i:=k0) hk0;refine Qc <| sn Qa [0,2,3,7] [] (pl 2 s_ (pe 3 (zB ((k0:Int)<(s_.length:Int))) p0)) <| ckT <| Qe <| Qc <| Qt <| Qc <| mz [(7,.b true)] [] [] [] <| jn [(43,.b ((!(Yn a0.1))|| ((!(Xk a0.2 1 2))|| (decide ((k0:Int)>(0:Int))&&(!(Op.bytesLess ((nth s_ ((k0:Int)-1).toNat).1).toList a0.1.toList))))))] [7] [] [] (!(Yn a0.1)) (λh3=> ?_) (λh3=> ?_) ?_
  ·have h3n:(Yn a0.1)=false:=Vp h3;refine rN Qa Zt [0,2,3,43] [] (pn 2 V (pc 5 (cb h3n (Y0 a0.1)) (pe 6 (show .b (!false)= .b true from rfl) p0))) ?_;exact zA (by rw[h3]<;>kernel_rfl)
  ·have h3n:(Yn a0.1)=true:=Zc h3;refine Yj (!(Xk a0.2 1 2)) (λh4=> ?_) (λh4=> ?_)
   ·have h4n:(Xk a0.2 1 2)=false:=Vp h4;refine rN Qa Zt [0,2,3,43] [] (pn 2 V (pc 5 (cb h3n (Y0 a0.1)) (pe 6 (show .b (!true)= .b false from rfl) (pn 10 V (pc 13 (cb h4n (Z9 a0.2 1 2)) (pe 14 (show .b (!false)= .b true from rfl) p0)))))) ?_;exact zA (by rw[h3,h4]<;>kernel_rfl)
   have h4n:(Xk a0.2 1 2)=true:=Zc h4;have h4nw:=Fh.1 h4n;refine Yj (decide ((k0:Int)>(0:Int))) (λh5=> ?_) (λh5=> ?_)
   ·have h5d:=of_decide_eq_true h5;have hx6:=ng s_ ((k0:Int)-1).toNat;refine rN Qa Zt [0,2,3,43] [] (pn 2 V (pc 5 (cb h3n (Y0 a0.1)) (pe 6 (show .b (!true)= .b false from rfl) (pn 10 V (pc 13 (cb h4n (Z9 a0.2 1 2)) (pe 14 (show .b (!true)= .b false from rfl) (pt 18 h5 (pe 22 (J6 (IntWalk.i64_in ((k0:Int)-1) (by omega))) (pg 23 ((k0:Int)-1) hx6 (pn 28 V p0)))))))))) ?_;exact zA (by rw[h3,h4,h5]<;>kernel_rfl)
   refine rN Qa Zt [0,2,3,43] [] (pn 2 V (pc 5 (cb h3n (Y0 a0.1)) (pe 6 (show .b (!true)= .b false from rfl) (pn 10 V (pc 13 (cb h4n (Z9 a0.2 1 2)) (pe 14 (show .b (!true)= .b false from rfl) (pf 18 h5 p0))))))) ?_;exact zA (by rw[h3,h4,h5]<;>kernel_rfl)
  refine ck ((!(Yn a0.1))|| ((!(Xk a0.2 1 2))|| (decide ((k0:Int)>(0:Int))&&(!(Op.bytesLess ((nth s_ ((k0:Int)-1).toNat).1).toList a0.1.toList))))) (λh7=> ?_) (λh7=> ?_)
  ·refine sn Qa [0,2,3] [] p0 <| Qh ?_
   have hr8:(X7 (U9 s_) A8 s_ 0 ())= .ret false:=Jr V (Xm h7 (rfl)) U;exact pb [] (Nk hr8)
  have h7r:(((!(Xk a0.2 1 2))|| (decide ((k0:Int)>(0:Int))&&(!(Op.bytesLess ((nth s_ ((k0:Int)-1).toNat).1).toList a0.1.toList)))))=false:=Pr h7;have h7rl:((!(Xk a0.2 1 2)))=false:=Rw h7r;have h7rln:(Xk a0.2 1 2)=true:=Zc h7rl;have h7rlnw:=Fh.1 h7rln;refine Qe <| rn Qa [0,2,3] [] (pe 1 (J6 (Ql k0 (by omega))) p0) ?_
  exact xw _ (Qp V (Qn h7 (rfl)) U)
 ·exact Qc <| sn Qa [0,2,3,7] [] (pl 2 s_ (pe 3 (zC ((k0:Int)<(s_.length:Int))) p0)) <| ckF <| Q9 <| xw _ (Xt hk0 (rfl) U)
 exact sn Qa [2] [] (pl 1 s_ p0) <| Qh <| pb [] (Uc hD0 (rfl))
def Vw (s_:List Km) (f:Xx) (k0:Nat) (a0:Ee) (_:Unit):Rd (Bool) (Unit) (Unit):=(bif ((!(Kz s_ a0.1 a0.2))|| (decide ((k0:Int)>(0:Int))&&(!(Op.bytesLess ((nth f.2.2.2.2 ((k0:Int)-1).toNat).1).toList a0.1.toList)))) then (.ret false) else (.next ()))
def Uu (_:Nat) (_:Unit):Unit:=()
def X9 (s_:List Km) (f:Xx):Bool:=(Out.on (X7 (Vw s_ f) Uu f.2.2.2.2 0 ()) (λ_=>((K0 s_)&&((Xk f.1 1 60)&&((Xk f.2.1 0 2)&&(Xk f.2.2.2.1 0 60))))))
theorem Hp (s_:List Km) (f:Xx):ACalls Tryz.prog 204 [.h s_,.a [.i f.1,.i f.2.1,.b f.2.2.1,.i f.2.2.2.1,.h f.2.2.2.2]] (.b (X9 s_ f)):=by
 refine en Qa Tryz.func204 λw0 F0 hG=> ?_
 refine sn Qa [0,3,4] [3] p0 <| Qc <| tn Qa [0,3,4,5] [3] p0 <| mz [(3,.p 3 0),(4,.b false),(5,.i 0)] [1] [(3, [.i f.1,.i f.2.1,.b f.2.2.1,.i f.2.2.2.1,.h f.2.2.2.2])] [] <| wB 3 4 .sh f.2.2.2.2 (λhw1 hl2=> ?_)
 refine Pa (Vw s_ f) Uu f.2.2.2.2 () (λk0 _=> [(5,.i (k0:Int))]) [5] (λ_=> []) [5] wf0 (λk0 s0 hk0 U=> ?_) (λk0 s0 hk0 U=> ?_) (λy0 hD0=> ?_)
 ·obtain ⟨a0,V⟩:=Xs (l:=f.2.2.2.2) (i:=k0) hk0;refine Qc <| sn Qa [0,3,4,5,10] [3] (pl 3 f.2.2.2.2 (pe 4 (zB ((k0:Int)<(f.2.2.2.2.length:Int))) p0)) <| ckT <| Qe <| Qc <| Qt <| Qc <| mz [(10,.b true)] [] [] [] <| jn [(47,.b ((!(Kz s_ a0.1 a0.2))|| (decide ((k0:Int)>(0:Int))&&(!(Op.bytesLess ((nth f.2.2.2.2 ((k0:Int)-1).toNat).1).toList a0.1.toList)))))] [10] [] [] (!(Kz s_ a0.1 a0.2)) (λh3=> ?_) (λh3=> ?_) ?_
  ·have h3n:(Kz s_ a0.1 a0.2)=false:=Vp h3;refine rN Qa Zt [0,3,4,5,47] [3] (pn 4 V (pn 10 V (pc 13 (cb h3n (Ei s_ a0.1 a0.2)) (pe 14 (show .b (!false)= .b true from rfl) p0)))) ?_;exact zA (by rw[h3]<;>kernel_rfl)
  ·have h3n:(Kz s_ a0.1 a0.2)=true:=Zc h3;refine Yj (decide ((k0:Int)>(0:Int))) (λh4=> ?_) (λh4=> ?_)
   ·have h4d:=of_decide_eq_true h4;have hx5:=ng f.2.2.2.2 ((k0:Int)-1).toNat;refine rN Qa Zt [0,3,4,5,47] [3] (pn 4 V (pn 10 V (pc 13 (cb h3n (Ei s_ a0.1 a0.2)) (pe 14 (show .b (!true)= .b false from rfl) (pt 17 h4 (pe 22 (J6 (IntWalk.i64_in ((k0:Int)-1) (by omega))) (pg 23 ((k0:Int)-1) hx5 (pn 29 V p0)))))))) ?_;exact zA (by rw[h3,h4]<;>kernel_rfl)
   refine rN Qa Zt [0,3,4,5,47] [3] (pn 4 V (pn 10 V (pc 13 (cb h3n (Ei s_ a0.1 a0.2)) (pe 14 (show .b (!true)= .b false from rfl) (pf 17 h4 p0))))) ?_;exact zA (by rw[h3,h4]<;>kernel_rfl)
  refine ck ((!(Kz s_ a0.1 a0.2))|| (decide ((k0:Int)>(0:Int))&&(!(Op.bytesLess ((nth f.2.2.2.2 ((k0:Int)-1).toNat).1).toList a0.1.toList)))) (λh6=> ?_) (λh6=> ?_)
  ·refine su Qa [] [47] [] [] p0 <| Qh ?_
   have hr7:(X7 (Vw s_ f) Uu f.2.2.2.2 0 ())= .ret false:=Jr V (Xm h6 (rfl)) U;exact pb [] (Nk hr7)
  refine Qe <| rn Qa [0,3,4,5] [3] (pe 1 (J6 (Ql k0 (by omega))) p0) ?_
  exact xw _ (Qp V (Qn h6 (rfl)) U)
 ·exact Qc <| sn Qa [0,3,4,5,10] [3] (pl 3 f.2.2.2.2 (pe 4 (zC ((k0:Int)<(f.2.2.2.2.length:Int))) p0)) <| ckF <| Q9 <| xw _ (Xt hk0 (rfl) U)
 refine Qc <| jn [(4,.b ((K0 s_)&&((Xk f.1 1 60)&&((Xk f.2.1 0 2)&&(Xk f.2.2.2.1 0 60)))))] [0,3,4] [] [3] (K0 s_) (λh8=> ?_) (λh8=> ?_) ?_
 ·refine Yj (Xk f.1 1 60) (λh9=> ?_) (λh9=> ?_)
  ·have h9w:=Fh.1 h9;refine Yj (Xk f.2.1 0 2) (λh10=> ?_) (λh10=> ?_)
   ·have h10w:=Fh.1 h10;refine rn Qa [4] [] (pc 1 (cb h8 (Wc s_)) (pc 5 (cb h9 (Z9 f.1 1 60)) (pc 10 (cb h10 (Z9 f.2.1 0 2)) (pc 15 (Z9 f.2.2.2.1 0 60) p0)))) ?_;exact zA (by rw[h8,h9,h10]<;>kernel_rfl)
   refine rn Qa [4] [] (pc 1 (cb h8 (Wc s_)) (pc 5 (cb h9 (Z9 f.1 1 60)) (pc 10 (cb h10 (Z9 f.2.1 0 2)) p0))) ?_;exact zA (by rw[h8,h9,h10]<;>kernel_rfl)
  refine rn Qa [4] [] (pc 1 (cb h8 (Wc s_)) (pc 5 (cb h9 (Z9 f.1 1 60)) p0)) ?_;exact zA (by rw[h8,h9]<;>kernel_rfl)
 ·refine rn Qa [4] [] (pc 1 (cb h8 (Wc s_)) p0) ?_;exact zA (by rw[h8]<;>kernel_rfl)
 exact Qh <| pb [] (Uc hD0 (rfl))
def Jk (s_:Xr) (k0:Nat) (a0:Xx) (_:Unit):Rd (Bool) (Unit) (Unit):=(bif ((!(X9 s_.1 a0))|| (decide (a0.1>=s_.2.2)|| (decide ((k0:Int)>(0:Int))&&decide ((nth s_.2.1 ((k0:Int)-1).toNat).1>=a0.1)))) then (.ret false) else (.next ()))
def Ue (_:Nat) (_:Unit):Unit:=()
def Xf (s_:Xr):Bool:=(Out.on (X7 (Jk s_) Ue s_.2.1 0 ()) (λ_=>((K0 s_.1)&&(decide ((s_.2.1.length:Int)<=(12:Int))&&(Xk s_.2.2 1 61)))))
theorem Kk (s_:Xr):ACalls Tryz.prog 201 [.a [.h s_.1,.h s_.2.1,.i s_.2.2]] (.b (Xf s_)):=by
 refine en Qa Tryz.func201 λw0 F0 hG=> ?_
 refine sn Qa [1,2] [1] p0 <| Qc <| tn Qa [1,2,3] [1] p0 <| mz [(1,.p 1 0),(2,.b false),(3,.i 0)] [0] [(1, [.h s_.1,.h s_.2.1,.i s_.2.2])] [] <| wB 1 1 .sh s_.2.1 (λhw1 hl2=> ?_)
 refine Pa (Jk s_) Ue s_.2.1 () (λk0 _=> [(3,.i (k0:Int))]) [3] (λ_=> []) [3] wf0 (λk0 s0 hk0 U=> ?_) (λk0 s0 hk0 U=> ?_) (λy0 hD0=> ?_)
 ·obtain ⟨a0,V⟩:=Xs (l:=s_.2.1) (i:=k0) hk0;refine Qc <| sn Qa [1,2,3,8] [1] (pl 3 s_.2.1 (pe 4 (zB ((k0:Int)<(s_.2.1.length:Int))) p0)) <| ckT <| Qe <| Qc <| Qt <| Qc <| mz [(8,.b true)] [] [] [] <| jn [(50,.b ((!(X9 s_.1 a0))|| (decide (a0.1>=s_.2.2)|| (decide ((k0:Int)>(0:Int))&&decide ((nth s_.2.1 ((k0:Int)-1).toNat).1>=a0.1)))))] [8] [] [] (!(X9 s_.1 a0)) (λh3=> ?_) (λh3=> ?_) ?_
  ·have h3n:(X9 s_.1 a0)=false:=Vp h3;refine rN Qa Zt [1,2,3,50] [1] (pn 5 V (pc 7 (cb h3n (Hp s_.1 a0)) (pe 8 (show .b (!false)= .b true from rfl) p0))) ?_;exact zA (by rw[h3]<;>kernel_rfl)
  ·have h3n:(X9 s_.1 a0)=true:=Zc h3;refine Yj (decide (a0.1>=s_.2.2)) (λh4=> ?_) (λh4=> ?_)
   ·refine rN Qa Zt [1,2,3,50] [1] (pn 5 V (pc 7 (cb h3n (Hp s_.1 a0)) (pe 8 (show .b (!true)= .b false from rfl) (pn 13 V (pt 18 h4 p0))))) ?_;exact zA (by rw[h3,h4]<;>kernel_rfl)
   have h4d:=of_decide_eq_false h4;refine Yj (decide ((k0:Int)>(0:Int))) (λh5=> ?_) (λh5=> ?_)
   ·have h5d:=of_decide_eq_true h5;have hx6:=ng s_.2.1 ((k0:Int)-1).toNat;refine rN Qa Zt [1,2,3,50] [1] (pn 5 V (pc 7 (cb h3n (Hp s_.1 a0)) (pe 8 (show .b (!true)= .b false from rfl) (pn 13 V (pf 18 h4 (pt 22 h5 (pe 27 (J6 (IntWalk.i64_in ((k0:Int)-1) (by omega))) (pg 28 ((k0:Int)-1) hx6 (pn 34 V p0))))))))) ?_;exact zA (by rw[h3,h4,h5]<;>kernel_rfl)
   refine rN Qa Zt [1,2,3,50] [1] (pn 5 V (pc 7 (cb h3n (Hp s_.1 a0)) (pe 8 (show .b (!true)= .b false from rfl) (pn 13 V (pf 18 h4 (pf 22 h5 p0)))))) ?_;exact zA (by rw[h3,h4,h5]<;>kernel_rfl)
  refine ck ((!(X9 s_.1 a0))|| (decide (a0.1>=s_.2.2)|| (decide ((k0:Int)>(0:Int))&&decide ((nth s_.2.1 ((k0:Int)-1).toNat).1>=a0.1)))) (λh7=> ?_) (λh7=> ?_)
  ·refine su Qa [] [50] [] [] p0 <| Qh ?_
   have hr8:(X7 (Jk s_) Ue s_.2.1 0 ())= .ret false:=Jr V (Xm h7 (rfl)) U;exact pb [] (Nk hr8)
  have h7r:((decide (a0.1>=s_.2.2)|| (decide ((k0:Int)>(0:Int))&&decide ((nth s_.2.1 ((k0:Int)-1).toNat).1>=a0.1))))=false:=Pr h7;have h7rl:(decide (a0.1>=s_.2.2))=false:=Rw h7r;have h7rld:=of_decide_eq_false h7rl;refine Qe <| rn Qa [1,2,3] [1] (pe 1 (J6 (Ql k0 (by omega))) p0) ?_
  exact xw _ (Qp V (Qn h7 (rfl)) U)
 ·exact Qc <| sn Qa [1,2,3,8] [1] (pl 3 s_.2.1 (pe 4 (zC ((k0:Int)<(s_.2.1.length:Int))) p0)) <| ckF <| Q9 <| xw _ (Xt hk0 (rfl) U)
 refine Qc <| jn [(2,.b ((K0 s_.1)&&(decide ((s_.2.1.length:Int)<=(12:Int))&&(Xk s_.2.2 1 61))))] [1,2] [] [1] (K0 s_.1) (λh9=> ?_) (λh9=> ?_) ?_
 ·refine Yj (decide ((s_.2.1.length:Int)<=(12:Int))) (λh10=> ?_) (λh10=> ?_)
  ·refine rn Qa [2] [] (pc 2 (cb h9 (Wc s_.1)) (pl 6 s_.2.1 (pt 7 h10 (pc 12 (Z9 s_.2.2 1 61) p0)))) ?_;exact zA (by rw[h9,h10]<;>kernel_rfl)
  refine rn Qa [2] [] (pc 2 (cb h9 (Wc s_.1)) (pl 6 s_.2.1 (pf 7 h10 p0))) ?_;exact zA (by rw[h9,h10]<;>kernel_rfl)
 ·refine rn Qa [2] [] (pc 2 (cb h9 (Wc s_.1)) p0) ?_;exact zA (by rw[h9]<;>kernel_rfl)
 exact Qh <| pb [] (Uc hD0 (rfl))
theorem Qjy (s:List Km) (n:ByteArray):Fp s n=Fo s n:=rfl
theorem UX (s:List Km) (n:ByteArray) (v:Dr):Kz s n v=Z8 s n v:=by
 unfold Kz Z8;rw[Qcg,Qjy]
theorem GE (s:List Km):K0 s=Jw s:=by
 unfold K0 Jw
 rw [Gv (f:=U9 s) (g:=K5 s) (e:=A8) (e':=Wy) (λk a u=>by
  unfold U9 K5;rw[PA]
  have h:(!(Xk a.2 1 2))=((a.2 !=1)&&(a.2 !=2)):=by
   unfold Xk;rw[yU];simp;omega
  rw[h];generalize (!(Op.bytesLess ((nth s (zH (((k:Nat):Int)-1))).1).toList a.1.toList))=x;cases Yn a.1<;>cases (a.2 !=(1:Int))<;>cases (a.2 !=(2:Int))<;>cases decide (((k:Nat):Int)>(0:Int))<;>cases x<;>rfl) (λ_ _=>rfl)]
theorem VX (s:List Km) (f:Xx):X9 s f=Y1 s f:=by
 unfold X9 Y1
 rw[Gv (f:=Vw s f) (g:=Jy s f) (e:=Uu) (e':=Wp) (λk a u=>by
  unfold Vw Jy;rw[UX];generalize (!(Op.bytesLess ((nth f.2.2.2.2 (zH (((k:Nat):Int)-1))).1).toList a.1.toList))=x;cases Z8 s a.1 a.2<;>cases decide (((k:Nat):Int)>(0:Int))<;>cases x<;>rfl) (λ_ _=>rfl),GE]
 congr 1
 funext y
 unfold Ve;simp only[←Qq0];cases Jw s<;>cases Zk f.1 1 60<;>cases Zk f.2.1 0 2<;>cases Zk f.2.2.2.1 0 60<;>rfl
theorem Cz (s:Xr):Xf s=Qs s:=by
 unfold Xf Qs
 rw[Gv (f:=Jk s) (g:=Z2 s) (e:=Ue) (e':=Vj) (λk a u=>by
  unfold Jk Z2;rw[VX]) (λ_ _=>rfl),GE]
 rfl
open GoE (enc wide)
def M4 (name:ByteArray) (_:Nat) (a0:Ee) (_:Unit):Rd (Dr) (Unit) (Unit):=(bif (a0.1.toList==name.toList) then (.ret a0.2) else (.next ()))
def M5 (_:Nat) (_:Unit):Unit:=()
def Xv (f:Xx) (name:ByteArray):Dr:=(Out.on (X7 (M4 name) M5 f.2.2.2.2 0 ()) (λ_=>(0,0,⟨#[]⟩)))
theorem Fq (f:Xx) (name:ByteArray):ACalls Tryz.prog 286 [.a [.i f.1,.i f.2.1,.b f.2.2.1,.i f.2.2.2.1,.h f.2.2.2.2],.s name] (.a [.i ((Xv f name).1),.i ((Xv f name).2.1),.s ((Xv f name).2.2)]):=by
 refine en Qa Tryz.func286 λw0 F0 hG=> ?_
 refine sn Qa [1,2,4] [2,4] p0 <| Qc <| tn Qa [1,4,8,9,10] [4] (pl 2 f.2.2.2.2 p0) <| mz [(4,.p 4 0),(8,.h f.2.2.2.2),(9,.i (f.2.2.2.2.length:Int)),(10,.i 0)] [0] [(4, [.i 0,.i 0,.s ⟨#[]⟩])] [] <| wT 8 0 .sh f.2.2.2.2 (λhw1 hl2=> ?_)
 refine Pa (M4 name) M5 f.2.2.2.2 () (λk0 _=> [(10,.i (k0:Int))]) [10] (λ_=> []) [1,8,9,10] wf0 (λk0 s0 hk0 U=> ?_) (λk0 s0 hk0 U=> ?_) (λy0 hD0=> ?_)
 ·obtain ⟨a0,V⟩:=Xs (l:=f.2.2.2.2) (i:=k0) hk0;refine su Qa [(11,.b true)] [] [] [] (pe 0 (zB ((k0:Int)<(f.2.2.2.2.length:Int))) p0) <| Qc <| ckT <| Qe <| Qc <| Qt <| sn Qa [1,4,6,8,9,10] [4,6] (pn 0 V p0) <| tn Qa [1,4,6,8,9,10,17] [4,6] p0 <| ck (a0.1.toList==name.toList) (λh3=> ?_) (λh3=> ?_)
  ·refine tu Qa [] [11] [(4, [.i a0.2.1,.i a0.2.2.1,.s a0.2.2.2])] [4] p0 <| Qh ?_
   have hr4:(X7 (M4 name) M5 f.2.2.2.2 0 ())= .ret a0.2:=Jr V (Xm h3 (rfl)) U;exact pz [] (show Xv f name=_ from Nk hr4) (λz=> .a [.i z.1,.i z.2.1,.s z.2.2])
  refine Qe <| qu Qa [(10,.i ((k0+1:Nat):Int))] [10,11] [] [] (pe 0 (J6 (Ql k0 (by omega))) p0) ?_
  exact xw _ (Qp V (Qn h3 (rfl)) U)
 ·exact sn Qa [1,4,8,9,10,11] [4] (pe 0 (zC ((k0:Int)<(f.2.2.2.2.length:Int))) p0) <| Qc <| ckF <| Q9 <| xw _ (Xt hk0 (rfl) U)
 exact sn Qa [4] [4] p0 <| Qh <| pz [] (show Xv f name=_ from Uc hD0 (rfl)) (λz=> .a [.i z.1,.i z.2.1,.s z.2.2])
def U2 (f:Xx) (name:ByteArray):Int×Bool:=(bif ((Xv f name).1 !=(1:Int)) then (0,false) else ((Xv f name).2.1,true))
theorem DI (f:Xx) (name:ByteArray):ACalls Tryz.prog 303 [.a [.i f.1,.i f.2.1,.b f.2.2.1,.i f.2.2.2.1,.h f.2.2.2.2],.s name] (.tup [(false, [.i (((U2 f name)).1)]),(false, [.b (((U2 f name)).2)])]):=by
 refine en Qa Tryz.func303 λw0 F0 hG=> ?_
 refine sn Qa [1,2,4,5] [2] p0 <| tn Qa [4,5,6] [6] (pc 2 (Fq f name) p0) <| Qc <| tu Qa [(4,.i 0),(5,.b false),(6,.p 6 0),(12,.b ((Xv f name).1 !=(1:Int)))] [0,1] [(6, [.i ((Xv f name).1),.i ((Xv f name).2.1),.s ((Xv f name).2.2)])] [] p0 <| ck ((Xv f name).1 !=(1:Int)) (λh1=> ?_) (λh1=> ?_)
 ·exact su Qa [] [12] [] [] p0 <| Qh <| pz [] (show U2 f name=_ from Xm h1 (rfl)) (λz=> .tup [(false, [.i z.1]),(false, [.b z.2])])
 exact Qe <| sn Qa [4,5] [] p0 <| Qh <| pz [] (show U2 f name=_ from Qn h1 (rfl)) (λz=> .tup [(false, [.i z.1]),(false, [.b z.2])])
def Ah (name:ByteArray) (_:Nat) (a0:Qj) (_:Unit):Rd (List Int) (Unit) (Unit):=(bif (a0.1.toList==name.toList) then (.ret a0.2) else (.next ()))
def Br (_:Nat) (_:Unit):Unit:=()
def Xl (r:List Qj) (name:ByteArray):(List Int):=(Out.on (X7 (Ah name) Br r 0 ()) (λ_=> []))
theorem Fr (r:List Qj) (name:ByteArray):ACalls Tryz.prog 137 [.h r,.s name] (.o 0 (Xl r name)):=by
 refine en Qa Tryz.func137 λw0 F0 hG=> ?_
 refine sn Qa [0,1,4] [] p0 <| Qc <| tn Qa [1,4,7,8,9] [] (pl 1 r p0) <| mz [(4,.e 0),(7,.h r),(8,.i (r.length:Int)),(9,.i 0)] [0] [] [] <| wT 7 0 .sh r (λhw1 hl2=> ?_)
 refine Pa (Ah name) Br r () (λk0 _=> [(9,.i (k0:Int))]) [9] (λ_=> []) [1,7,8,9] wf0 (λk0 s0 hk0 U=> ?_) (λk0 s0 hk0 U=> ?_) (λy0 hD0=> ?_)
 ·obtain ⟨a0,V⟩:=Xs (l:=r) (i:=k0) hk0;refine sn Qa [1,4,7,8,9,10] [] (pe 0 (zB ((k0:Int)<(r.length:Int))) p0) <| Qc <| ckT <| Qe <| Qc <| Qt <| tn Qa [1,4,6,7,8,9] [6] (pn 0 V p0) <| tu Qa [(6,.p 6 0),(16,.b (a0.1.toList==name.toList))] [] [(6, [.s a0.1,.h a0.2])] [] p0 <| ck (a0.1.toList==name.toList) (λh3=> ?_) (λh3=> ?_)
  ·refine sn Qa [1,4,7,8,9] [] (pc 2 (YF a0.2) p0) <| Qh ?_
   have hr4:(X7 (Ah name) Br r 0 ())= .ret a0.2:=Jr V (Xm h3 (rfl)) U;exact po0 [] (Nk hr4)
  refine Qe <| rn Qa [1,4,7,8,9] [] (pe 0 (J6 (Ql k0 (by omega))) p0) ?_
  exact xw _ (Qp V (Qn h3 (rfl)) U)
 ·exact sn Qa [1,4,7,8,9,10] [] (pe 0 (zC ((k0:Int)<(r.length:Int))) p0) <| Qc <| ckF <| Q9 <| xw _ (Xt hk0 (rfl) U)
 refine sn Qa [4] [] p0 <| opn [(false,4,0,true,384000,1)] ?_
 exact Qh <| po0 [] (Uc hD0 (rfl))
def Vb (v:Int) (k0:Nat) (a0:Int) (_:Unit):Rd (Int) (Unit) (Unit):=(bif (v==a0) then (.ret (k0:Int)) else (.next ()))
def Uv (_:Nat) (_:Unit):Unit:=()
def Cl (s_:List Int) (v:Int):Int:=(Out.on (X7 (Vb v) Uv s_ 0 ()) (λ_=> -1))
theorem YJ (s_:List Int) (v:Int):ACalls Tryz.prog 268 [.h s_,.i v] (.i (Cl s_ v)):=by
 refine en Qa Tryz.func268 λw0 F0 hG=> ?_
 refine sn Qa [0,1,4] [] p0 <| Qc <| tn Qa [0,1,4,7,8] [] (pl 1 s_ p0) <| mz [(4,.i 0),(7,.i (s_.length:Int)),(8,.i 0)] [] [] [] <| wT 0 0 .sh s_ (λhw1 hl2=> ?_)
 refine Pa (Vb v) Uv s_ () (λk0 _=> [(8,.i (k0:Int))]) [8] (λ_=> []) [0,1,7,8] wf0 (λk0 s0 hk0 U=> ?_) (λk0 s0 hk0 U=> ?_) (λy0 hD0=> ?_)
 ·obtain ⟨a0,V⟩:=Xs (l:=s_) (i:=k0) hk0;refine sn Qa [0,1,4,7,8,9] [] (pe 0 (zB ((k0:Int)<(s_.length:Int))) p0) <| Qc <| ckT <| Qe <| Qc <| Qt <| tn Qa [0,1,4,5,7,8] [] p0 <| tu Qa [(5,.i (k0:Int)),(16,.b (v==a0))] [] [] [] (pn 3 V p0) <| ck (v==a0) (λh3=> ?_) (λh3=> ?_)
  ·refine sn Qa [0,1,4,7,8] [] p0 <| Qh ?_
   have hr4:(X7 (Vb v) Uv s_ 0 ())= .ret (k0:Int):=Jr V (Xm h3 (rfl)) U;exact pi [] (Nk hr4)
  have h3d:=Z7 h3;refine Qe <| rn Qa [0,1,4,7,8] [] (pe 0 (J6 (Ql k0 (by omega))) p0) ?_
  exact xw _ (Qp V (Qn h3 (rfl)) U)
 ·exact sn Qa [0,1,4,7,8,9] [] (pe 0 (zC ((k0:Int)<(s_.length:Int))) p0) <| Qc <| ckF <| Q9 <| xw _ (Xt hk0 (rfl) U)
 exact sn Qa [4] [] p0 <| Qh <| pi [] (Uc hD0 (rfl))
def Vx (s_:List Int) (v:Int):Bool:=decide ((Cl s_ v)>=(0:Int))
theorem Iv (s_:List Int) (v:Int):ACalls Tryz.prog 236 [.h s_,.i v] (.b (Vx s_ v)):=by
 refine en Qa Tryz.func236 λw0 F0 hG=> ?_
 exact sn Qa [0,1,4] [] p0 <| tn Qa [4] [] (pc 2 (YJ s_ v) p0) <| Qh <| pb [] (show Vx s_ v=decide ((Cl s_ v)>=(0:Int)) from rfl)
def Uj (ids:List Int) (id:Int):Bool:=(Vx ids id)
theorem Pc (ids:List Int) (id:Int):ACalls Tryz.prog 304 [.h ids,.i id] (.b (Uj ids id)):=by
 refine en Qa Tryz.func304 λw0 F0 hG=> ?_
 exact sn Qa [0,1,4] [] p0 <| tn Qa [4] [] (pc 2 (Iv ids id) p0) <| Qh <| pb [] (show Uj ids id=(Vx ids id) from rfl)
def Ze (n_:Nat) (q:List Yz) (at_:Int) (f:Xx) (r:List Qj):Bool:=match n_ with
 | 0=>default
 | n_+1=>(bif ((nth q at_.toNat).1==(2:Int)) then ((Xv f ((nth q at_.toNat).2.2.2.1)).1 !=(0:Int)) else (bif ((nth q at_.toNat).1==(3:Int)) then (((Xv f ((nth q at_.toNat).2.2.2.1)).1==(nth q at_.toNat).2.2.2.2.1)&&(((Xv f ((nth q at_.toNat).2.2.2.1)).2.1==(nth q at_.toNat).2.2.2.2.2.1)&&((((Xv f ((nth q at_.toNat).2.2.2.1)).2.2).toList==((nth q at_.toNat).2.2.2.2.2.2).toList)&&true))) else (bif ((nth q at_.toNat).1==(4:Int)) then (((U2 f ((nth q at_.toNat).2.2.2.1))).2&&decide (((U2 f ((nth q at_.toNat).2.2.2.1))).1<(nth q at_.toNat).2.2.2.2.2.1)) else (bif ((nth q at_.toNat).1==(5:Int)) then (!(Ze n_ q ((nth q at_.toNat).2.1) f r)) else (bif ((nth q at_.toNat).1==(6:Int)) then ((Ze n_ q ((nth q at_.toNat).2.1) f r)&&(Ze n_ q ((nth q at_.toNat).2.2.1) f r)) else (bif ((nth q at_.toNat).1==(7:Int)) then ((Ze n_ q ((nth q at_.toNat).2.1) f r)|| (Ze n_ q ((nth q at_.toNat).2.2.1) f r)) else (bif ((nth q at_.toNat).1==(8:Int)) then (Uj (Xl r ((nth q at_.toNat).2.2.2.1)) f.1) else (bif ((nth q at_.toNat).1==(9:Int)) then ((f.2.2.2.1 !=(0:Int))&&(Uj (Xl r ((nth q at_.toNat).2.2.2.1)) f.2.2.2.1)) else true))))))))
theorem VY:∀(n_:Nat) (q:List Yz) (at_:Int) (f:Xx) (r:List Qj) (hv:Q8 q=true) (ha:0<=at_) (hb:at_<(q.length:Int)) (hn:at_<((n_:Nat):Int)),ACalls Tryz.prog 282 [.h q,.i at_,.a [.i f.1,.i f.2.1,.b f.2.2.1,.i f.2.2.2.1,.h f.2.2.2.2],.h r] (.b (Ze n_ q at_ f r)):=by
 intro n_
 induction n_ with
 | zero=>intro q at_ f r hv ha hb hn;exact (by omega:False).elim
 | succ n_ ih=>
  intro q at_ f r hv ha hb hn
  refine en Qa Tryz.func282 λw0 F0 hG=> ?_
  refine sn Qa [0,1,3,6,8] [6] p0 <| wT 0 0 .sh q (λhw2 hl3=> ?_)
  have hx1:=ng q at_.toNat;refine tn Qa [0,3,6,8,9] [6,9] (pg 2 at_ hx1 p0) <| Qc <| tu Qa [(6,.p 6 0),(8,.b false),(9,.p 9 0),(17,.i ((nth q at_.toNat).1))] [1,2] [(6, [.i f.1,.i f.2.1,.b f.2.2.1,.i f.2.2.2.1,.h f.2.2.2.2]),(9, [.i ((nth q at_.toNat).1),.i ((nth q at_.toNat).2.1),.i ((nth q at_.toNat).2.2.1),.s ((nth q at_.toNat).2.2.2.1),.i ((nth q at_.toNat).2.2.2.2.1),.i ((nth q at_.toNat).2.2.2.2.2.1),.s ((nth q at_.toNat).2.2.2.2.2.2)])] [] p0 <| Qt <| sn Qa [0,3,6,8,9,17,18] [6,9] p0 <| ck ((nth q at_.toNat).1==(2:Int)) (λh4=> ?_) (λh4=> ?_)
  ·exact tn Qa [8] [] (pc 3 (Fq f ((nth q at_.toNat).2.2.2.1)) p0) <| Qh <| pb [] (Xm h4 (rfl))
  have h4d:=Z7 h4;refine tn Qa [0,3,6,8,9,17,26] [6,9] p0 <| ck ((nth q at_.toNat).1==(3:Int)) (λh5=> ?_) (λh5=> ?_)
  ·exact tU Qa Zt [(8,.b (((Xv f ((nth q at_.toNat).2.2.2.1)).1==(nth q at_.toNat).2.2.2.2.1)&&(((Xv f ((nth q at_.toNat).2.2.2.1)).2.1==(nth q at_.toNat).2.2.2.2.2.1)&&((((Xv f ((nth q at_.toNat).2.2.2.1)).2.2).toList==((nth q at_.toNat).2.2.2.2.2.2).toList)&&true))))] [0,3,6,8,9,17] [] [6,9] (pc 3 (Fq f ((nth q at_.toNat).2.2.2.1)) p0) <| Qh <| pb [] (Qn h4 (Xm h5 (rfl)))
  have h5d:=Z7 h5;refine tu Qa [(35,.b ((nth q at_.toNat).1==(4:Int)))] [] [] [] p0 <| ck ((nth q at_.toNat).1==(4:Int)) (λh6=> ?_) (λh6=> ?_)
  ·refine sn Qa [8,9,10,11] [9] (pc 3 (DI f ((nth q at_.toNat).2.2.2.1)) p0) <| Qc <| mz [(10,.i (((U2 f ((nth q at_.toNat).2.2.2.1))).1)),(11,.b (((U2 f ((nth q at_.toNat).2.2.2.1))).2))] [0,3,6,17,35] [] [6] <| jn [(8,.b (((U2 f ((nth q at_.toNat).2.2.2.1))).2&&decide (((U2 f ((nth q at_.toNat).2.2.2.1))).1<(nth q at_.toNat).2.2.2.2.2.1)))] [8,9,10,11] [] [9] (((U2 f ((nth q at_.toNat).2.2.2.1))).2) (λh7=> ?_) (λh7=> ?_) ?_
   ·refine rn Qa [8] [] (pt 0 h7 p0) ?_;exact zA (by rw[h7]<;>kernel_rfl)
   ·refine rn Qa [8] [] (pf 0 h7 p0) ?_;exact zA (by rw[h7]<;>kernel_rfl)
   exact Qh <| pb [] (Qn h4 (Qn h5 (Xm h6 (rfl))))
  have h6d:=Z7 h6;refine sn Qa [0,3,6,8,9,17,52] [6,9] p0 <| ck ((nth q at_.toNat).1==(5:Int)) (λh8=> ?_) (λh8=> ?_)
  ·have h8d:=eq_of_beq h8;exact tn Qa [8] [] (pc 5 (ih q ((nth q at_.toNat).2.1) f r hv (by have hz:=Qh0 hv ha hb h8;omega) (by have hz:=Qh0 hv ha hb h8;omega) (by have hz:=Qh0 hv ha hb h8;omega)) p0) <| Qh <| pb [] (Qn h4 (Qn h5 (Qn h6 (Xm h8 (rfl)))))
  have h8d:=Z7 h8;refine tn Qa [0,3,6,8,9,17,61] [6,9] p0 <| ck ((nth q at_.toNat).1==(6:Int)) (λh9=> ?_) (λh9=> ?_)
  ·have h9d:=eq_of_beq h9;refine Qc <| mz [(61,.b ((nth q at_.toNat).1==(6:Int)))] [35] [] [] <| jn [(8,.b ((Ze n_ q ((nth q at_.toNat).2.1) f r)&&(Ze n_ q ((nth q at_.toNat).2.2.1) f r)))] [0,3,6,8,9,17,61] [] [6,9] (Ze n_ q ((nth q at_.toNat).2.1) f r) (λh10=> ?_) (λh10=> ?_) ?_
   ·refine rn Qa [8] [] (pc 5 (cb h10 (ih q ((nth q at_.toNat).2.1) f r hv (by have hz:=PB hv ha hb h9;omega) (by have hz:=PB hv ha hb h9;omega) (by have hz:=PB hv ha hb h9;omega))) (pc 12 (ih q ((nth q at_.toNat).2.2.1) f r hv (by have hz:=Qh1 hv ha hb h9;omega) (by have hz:=Qh1 hv ha hb h9;omega) (by have hz:=Qh1 hv ha hb h9;omega)) p0)) ?_;exact zA (by rw[h10]<;>kernel_rfl)
   ·refine rn Qa [8] [] (pc 5 (cb h10 (ih q ((nth q at_.toNat).2.1) f r hv (by have hz:=PB hv ha hb h9;omega) (by have hz:=PB hv ha hb h9;omega) (by have hz:=PB hv ha hb h9;omega))) p0) ?_;exact zA (by rw[h10]<;>kernel_rfl)
   exact Qh <| pb [] (Qn h4 (Qn h5 (Qn h6 (Qn h8 (Xm h9 (rfl))))))
  have h9d:=Z7 h9;refine tu Qa [(77,.b ((nth q at_.toNat).1==(7:Int)))] [35] [] [] p0 <| ck ((nth q at_.toNat).1==(7:Int)) (λh11=> ?_) (λh11=> ?_)
  ·have h11d:=eq_of_beq h11;refine Qc <| jn [(8,.b ((Ze n_ q ((nth q at_.toNat).2.1) f r)|| (Ze n_ q ((nth q at_.toNat).2.2.1) f r)))] [0,3,6,8,9,17,77] [] [6,9] (Ze n_ q ((nth q at_.toNat).2.1) f r) (λh12=> ?_) (λh12=> ?_) ?_
   ·refine rn Qa [8] [] (pc 5 (cb h12 (ih q ((nth q at_.toNat).2.1) f r hv (by have hz:=SS hv ha hb h11;omega) (by have hz:=SS hv ha hb h11;omega) (by have hz:=SS hv ha hb h11;omega))) p0) ?_;exact zA (by rw[h12]<;>kernel_rfl)
   ·refine rn Qa [8] [] (pc 5 (cb h12 (ih q ((nth q at_.toNat).2.1) f r hv (by have hz:=SS hv ha hb h11;omega) (by have hz:=SS hv ha hb h11;omega) (by have hz:=SS hv ha hb h11;omega))) (pc 12 (ih q ((nth q at_.toNat).2.2.1) f r hv (by have hz:=Qjs hv ha hb h11;omega) (by have hz:=Qjs hv ha hb h11;omega) (by have hz:=Qjs hv ha hb h11;omega)) p0)) ?_;exact zA (by rw[h12]<;>kernel_rfl)
   exact Qh <| pb [] (Qn h4 (Qn h5 (Qn h6 (Qn h8 (Qn h9 (Xm h11 (rfl)))))))
  refine sn Qa [3,6,8,9,17,93] [6,9] p0 <| ck ((nth q at_.toNat).1==(8:Int)) (λh13=> ?_) (λh13=> ?_)
  ·exact tN Qa Zt [8] [] (pc 3 (Fr r ((nth q at_.toNat).2.2.2.1)) (pc 6 (Pc (Xl r ((nth q at_.toNat).2.2.2.1)) f.1) p0)) <| Qh <| pb [] (Qn h4 (Qn h5 (Qn h6 (Qn h8 (Qn h9 (Qn h11 (Xm h13 (rfl))))))))
  refine tn Qa [3,6,8,9,102] [6,9] p0 <| ck ((nth q at_.toNat).1==(9:Int)) (λh14=> ?_) (λh14=> ?_)
  ·refine Qc <| mz [(102,.b ((nth q at_.toNat).1==(9:Int)))] [0,17,77] [] [] <| jn [(8,.b ((f.2.2.2.1 !=(0:Int))&&(Uj (Xl r ((nth q at_.toNat).2.2.2.1)) f.2.2.2.1)))] [3,6,8,9,102] [] [6,9] (f.2.2.2.1 !=(0:Int)) (λh15=> ?_) (λh15=> ?_) ?_
   ·refine rN Qa Zt [8] [] (pt 2 h15 (pc 7 (Fr r ((nth q at_.toNat).2.2.2.1)) (pc 10 (Pc (Xl r ((nth q at_.toNat).2.2.2.1)) f.2.2.2.1) p0))) ?_;exact zA (by rw[h15]<;>kernel_rfl)
   ·refine rN Qa Zt [8] [] (pf 2 h15 p0) ?_;exact zA (by rw[h15]<;>kernel_rfl)
   exact Qh <| pb [] (Qn h4 (Qn h5 (Qn h6 (Qn h8 (Qn h9 (Qn h11 (Qn h13 (Xm h14 (rfl)))))))))
  exact Qe <| tu Qa [(8,.b true)] [0,3,6,8,9,17,77] [] [6,9] p0 <| Qh <| pb [] (Qn h4 (Qn h5 (Qn h6 (Qn h8 (Qn h9 (Qn h11 (Qn h13 (Qn h14 (rfl)))))))))
def U3 (q:List Yz) (f:Xx) (r:List Qj):Bool:=((Q8 q)&&(Ze (zD q) q ((q.length:Int)-1) f r))
theorem DJ (q:List Yz) (f:Xx) (r:List Qj):ACalls Tryz.prog 252 [.h q,.a [.i f.1,.i f.2.1,.b f.2.2.1,.i f.2.2.2.1,.h f.2.2.2.2],.h r] (.b (U3 q f r)):=by
 refine en Qa Tryz.func252 λw0 F0 hG=> ?_
 refine sn Qa [0,2,4,6] [4] p0 <| Qc <| mz [(4,.p 4 0),(6,.b false)] [1] [(4, [.i f.1,.i f.2.1,.b f.2.2.1,.i f.2.2.2.1,.h f.2.2.2.2])] [] <| jn [(6,.b ((Q8 q)&&(Ze (zD q) q ((q.length:Int)-1) f r)))] [0,2,4,6] [] [4] (Q8 q) (λh1=> ?_) (λh1=> ?_) ?_
 ·refine wT 0 0 .sh q (λhw2 hl3=> ?_);refine rn Qa [6] [] (pc 1 (cb h1 (An q)) (pl 5 q (pe 6 (J6 (IntWalk.i64_in ((q.length:Int)-1) (by omega))) (pc 9 (VY (zD q) q ((q.length:Int)-1) f r h1 (by have:=VI h1;omega) (by omega) (by omega)) p0)))) ?_;exact zA (by rw[h1]<;>kernel_rfl)
 ·refine rn Qa [6] [] (pc 1 (cb h1 (An q)) p0) ?_;exact zA (by rw[h1]<;>kernel_rfl)
 exact Qh <| pb [] (show U3 q f r=((Q8 q)&&(Ze (zD q) q ((q.length:Int)-1) f r)) from rfl)
def Ap (q:List Yz) (r:List Qj) (_:Nat) (a0:Xx) (s0:List Int):Rd (List Int) (List Int) (List Int):=(bif (U3 q a0 r) then (.next (s0++ [a0.1])) else (.next s0))
def Fs (_:Nat) (s0:List Int):(List Int):=s0
def Zo (s_:Xr) (q:List Yz) (r:List Qj):(List Int):=(Out.on (X7 (Ap q r) Fs s_.2.1 0 []) (λy0=>y0))
theorem YK (s_:Xr) (q:List Yz) (r:List Qj):ACalls Tryz.prog 216 [.a [.h s_.1,.h s_.2.1,.i s_.2.2],.h q,.h r] (.o 0 (Zo s_ q r)):=by
 refine en Qa Tryz.func216 λw0 F0 hG=> ?_
 refine sn Qa [1,2,3,6] [3] p0 <| tn Qa [1,2,3,6,7] [3] p0 <| Qc <| tu Qa [(6,.e 0),(7,.one (.slc (.own true 640) 1 [])),(12,.h s_.2.1),(13,.i (s_.2.1.length:Int)),(14,.i 0)] [0] [] [] (pl 2 s_.2.1 p0) <| wT 12 0 .sh s_.2.1 (λhw1 hl2=> ?_)
 refine ZQ (Ap q r) Fs s_.2.1 [] (λk0 s0=> [(7,.o 147203 s0),(14,.i (k0:Int))]) [7,14] (λy0=> [(7,.o 147353 y0)]) [1,2,7,12,13,14] (λk0 s0=>zD s0<=k0) (X4 [(640,147203)] (by kernel_rfl)) (by simp) (λk0 s0 hk0 U=> ?_) (λk0 s0 hk0 U=> ?_) (λy0 hD0=> ?_)
 ·have hA0_0:=U.2;obtain ⟨a0,V⟩:=Xs (l:=s_.2.1) (i:=k0) hk0;refine su Qa [(15,.b true)] [] [] [] (pe 0 (zB ((k0:Int)<(s_.2.1.length:Int))) p0) <| Qc <| ckT <| Qe <| Qc <| Qt <| sn Qa [1,2,6,7,9,12,13,14] [9] (pn 0 V p0) <| tn Qa [1,2,6,7,9,12,13,14,21] [9] (pc 3 (DJ q a0 r) p0) <| ck (U3 q a0 r) (λh3=> ?_) (λh3=> ?_)
  ·refine wT 7 0 (.own true 147203) s0 (λhw4 hl5=> ?_);refine qu Qa [(7,.one (.slc (.own true 1664) 1 ((eL s0)++ [[.i a0.1]])))] [7,15] [] [] (pa s0 [a0.1] p0) ?_;refine eqn [(7,.o 1664 (s0++ [a0.1]))] [7] [] [] (by rw[show ((eL s0)++ [[.i a0.1]])=(eL (s0++ [a0.1])) from We (rfl) (rfl)];first | done | kernel_rfl) ?_;refine rn Qa [1,2,6,7,12,13,14] [] (pe 0 (J6 (Ql k0 (by omega))) p0) ?_;exact zZ (s0++ [a0.1]) (yN (X4 [(1664,147203)] (by kernel_rfl)) ⟨Qp V (Xm h3 (rfl)) U.1,by first|omega|(simp;omega) | simp⟩)
  refine Qe <| qu Qa [(14,.i ((k0+1:Nat):Int))] [14,15] [] [] (pe 0 (J6 (Ql k0 (by omega))) p0) ?_
  exact xw s0 ⟨Qp V (Qn h3 (rfl)) U.1,by first|omega|(simp;omega) | simp⟩
 ·have hA0_0:=U.2;exact su Qa [(15,.b false)] [] [] [] (pe 0 (zC ((k0:Int)<(s_.2.1.length:Int))) p0) <| Qc <| ckF <| Q9 <| zZ _ (yN (X4 [(147203,147353)] (by kernel_rfl)) (Xt hk0 (rfl) U.1))
 exact sn Qa [6] [] p0 <| Qh <| po0 [] (Uc hD0 (rfl))
def M6 (name:ByteArray) (_:Nat) (a0:Ee) (_:Unit):Rd (Dr) (Unit) (Unit):=(bif (a0.1.toList==name.toList) then (.ret a0.2) else (.next ()))
def M7 (_:Nat) (_:Unit):Unit:=()
def Yb (f:Xx) (name:ByteArray):Dr:=(Out.on (X7 (M6 name) M7 f.2.2.2.2 0 ()) (λ_=>(0,0,⟨#[]⟩)))
theorem On (f:Xx) (name:ByteArray):ACalls Tryz.prog 276 [.a [.i f.1,.i f.2.1,.b f.2.2.1,.i f.2.2.2.1,.h f.2.2.2.2],.s name] (.a [.i ((Yb f name).1),.i ((Yb f name).2.1),.s ((Yb f name).2.2)]):=by
 refine en Qa Tryz.func276 λw0 F0 hG=> ?_
 refine sn Qa [1,2,4] [2,4] p0 <| Qc <| tn Qa [1,2,4,5] [2,4] p0 <| mz [(2,.p 2 0),(4,.p 4 0),(5,.i 0)] [0] [(2, [.i f.1,.i f.2.1,.b f.2.2.1,.i f.2.2.2.1,.h f.2.2.2.2]),(4, [.i 0,.i 0,.s ⟨#[]⟩])] [] <| wB 2 4 .sh f.2.2.2.2 (λhw1 hl2=> ?_)
 refine Qcd (M6 name) M7 f.2.2.2.2 () (λk0 _=> [(5,.i (k0:Int))]) [5] (λ_ _=> []) [] (λ_=> []) [1,2,5] (λ_=> []) [2] wf0 (λk0 s0 hk0 U=> ?_) (λk0 s0 hk0 U=> ?_) (λy0 hD0=> ?_)
 ·obtain ⟨a0,V⟩:=Xs (l:=f.2.2.2.2) (i:=k0) hk0;refine Qc <| sn Qa [1,2,4,5,10] [2,4] (pl 3 f.2.2.2.2 (pe 4 (zB ((k0:Int)<(f.2.2.2.2.length:Int))) p0)) <| ckT <| Qe <| Qc <| Qt <| tn Qa [1,2,4,5,20] [2,4] (pn 3 V p0) <| ck (a0.1.toList==name.toList) (λh3=> ?_) (λh3=> ?_)
  ·refine tu Qa [] [] [(4, [.i a0.2.1,.i a0.2.2.1,.s a0.2.2.2])] [4] (pn 3 V p0) <| Qh ?_
   have hr4:(X7 (M6 name) M7 f.2.2.2.2 0 ())= .ret a0.2:=Jr V (Xm h3 (rfl)) U;exact pz [] (show Yb f name=_ from Nk hr4) (λz=> .a [.i z.1,.i z.2.1,.s z.2.2])
  refine Qe <| qu Qa [(5,.i ((k0+1:Nat):Int))] [5] [] [] (pe 1 (J6 (Ql k0 (by omega))) p0) ?_
  exact xw _ (Qp V (Qn h3 (rfl)) U)
 ·exact Qc <| sn Qa [1,2,4,5,10] [2,4] (pl 3 f.2.2.2.2 (pe 4 (zC ((k0:Int)<(f.2.2.2.2.length:Int))) p0)) <| ckF <| Q9 <| xw _ (Xt hk0 (rfl) U)
 exact sn Qa [4] [4] p0 <| Qh <| pz [] (show Yb f name=_ from Uc hD0 (rfl)) (λz=> .a [.i z.1,.i z.2.1,.s z.2.2])
def Ij (name:ByteArray) (_:Nat) (a0:Qj) (_:Unit):Rd (List Int) (Unit) (Unit):=(bif (a0.1.toList==name.toList) then (.ret a0.2) else (.next ()))
def Ik (_:Nat) (_:Unit):Unit:=()
def Xq (a_:List Qj) (name:ByteArray):(List Int):=(Out.on (X7 (Ij name) Ik a_ 0 ()) (λ_=> []))
theorem Ft (a_:List Qj) (name:ByteArray):ACalls Tryz.prog 111 [.h a_,.s name] (.o 0 (Xq a_ name)):=by
 refine en Qa Tryz.func111 λw0 F0 hG=> ?_
 refine sn Qa [0,1,4] [] p0 <| Qc <| tn Qa [0,1,4,5] [] p0 <| mz [(4,.e 0),(5,.i 0)] [] [] [] <| wT 0 0 .sh a_ (λhw1 hl2=> ?_)
 refine Pa (Ij name) Ik a_ () (λk0 _=> [(5,.i (k0:Int))]) [5] (λ_=> []) [0,1,5] wf0 (λk0 s0 hk0 U=> ?_) (λk0 s0 hk0 U=> ?_) (λy0 hD0=> ?_)
 ·obtain ⟨a0,V⟩:=Xs (l:=a_) (i:=k0) hk0;refine Qc <| sn Qa [0,1,4,5,9] [] (pl 2 a_ (pe 3 (zB ((k0:Int)<(a_.length:Int))) p0)) <| ckT <| Qe <| Qc <| Qt <| tn Qa [0,1,4,5,18] [] (pn 2 V p0) <| ck (a0.1.toList==name.toList) (λh3=> ?_) (λh3=> ?_)
  ·have hl4:zD a0.2<=1073741824:=Iz (CX (CW V (hw1)));refine tu Qa [(4,.o 1600 a0.2)] [4] [] [] (pn 3 V (po 6 (.flat) (px (Ga (n:=(([]:List (List PV)).length+((eL a0.2):List (List PV)).length)) (Iu (rfl) (Zs a0.2) (by first|omega|(simp only[zL,yT];omega) | (simp;omega) | simp))) (px (Ec (Df a0.2)) p0)))) <| Qh ?_
   have hr5:(X7 (Ij name) Ik a_ 0 ())= .ret a0.2:=Jr V (Xm h3 (rfl)) U;exact po0 [] (Nk hr5)
  refine Qe <| qu Qa [(5,.i ((k0+1:Nat):Int))] [5] [] [] (pe 1 (J6 (Ql k0 (by omega))) p0) ?_
  exact xw _ (Qp V (Qn h3 (rfl)) U)
 ·exact Qc <| sn Qa [0,1,4,5,9] [] (pl 2 a_ (pe 3 (zC ((k0:Int)<(a_.length:Int))) p0)) <| ckF <| Q9 <| xw _ (Xt hk0 (rfl) U)
 exact sn Qa [4] [] p0 <| Qh <| po0 [] (Uc hD0 (rfl))
def Hq (id:Int) (_:Nat) (a0:Int) (_:Unit):Rd (Bool) (Unit) (Unit):=(bif (a0==id) then (.ret true) else (.next ()))
def C0 (_:Nat) (_:Unit):Unit:=()
def Wi (ids:List Int) (id:Int):Bool:=(Out.on (X7 (Hq id) C0 ids 0 ()) (λ_=>false))
theorem D2 (ids:List Int) (id:Int):ACalls Tryz.prog 163 [.h ids,.i id] (.b (Wi ids id)):=by
 refine en Qa Tryz.func163 λw0 F0 hG=> ?_
 refine sn Qa [0,1,4] [] p0 <| Qc <| tn Qa [0,1,4,5] [] p0 <| mz [(4,.b false),(5,.i 0)] [] [] [] <| wT 0 0 .sh ids (λhw1 hl2=> ?_)
 refine Pa (Hq id) C0 ids () (λk0 _=> [(5,.i (k0:Int))]) [5] (λ_=> []) [0,1,5] wf0 (λk0 s0 hk0 U=> ?_) (λk0 s0 hk0 U=> ?_) (λy0 hD0=> ?_)
 ·obtain ⟨a0,V⟩:=Xs (l:=ids) (i:=k0) hk0;refine Qc <| sn Qa [0,1,4,5,9] [] (pl 2 ids (pe 3 (zB ((k0:Int)<(ids.length:Int))) p0)) <| ckT <| Qe <| Qc <| Qt <| tn Qa [0,1,4,5,17] [] (pn 2 V p0) <| ck (a0==id) (λh3=> ?_) (λh3=> ?_)
  ·refine tu Qa [(4,.b true)] [4] [] [] p0 <| Qh ?_
   have hr4:(X7 (Hq id) C0 ids 0 ())= .ret true:=Jr V (Xm h3 (rfl)) U;exact pb [] (Nk hr4)
  have h3d:=Z7 h3;refine Qe <| qu Qa [(5,.i ((k0+1:Nat):Int))] [5] [] [] (pe 1 (J6 (Ql k0 (by omega))) p0) ?_
  exact xw _ (Qp V (Qn h3 (rfl)) U)
 ·exact Qc <| sn Qa [0,1,4,5,9] [] (pl 2 ids (pe 3 (zC ((k0:Int)<(ids.length:Int))) p0)) <| ckF <| Q9 <| xw _ (Xt hk0 (rfl) U)
 exact sn Qa [4] [] p0 <| Qh <| pb [] (Uc hD0 (rfl))
def Vk (n_:Nat) (q:List Yz) (at_:Int) (f:Xx) (a_:List Qj):Bool:=match n_ with
 | 0=>default
 | n_+1=>(bif ((nth q at_.toNat).1==(1:Int)) then true else (bif ((nth q at_.toNat).1==(2:Int)) then ((Yb f ((nth q at_.toNat).2.2.2.1)).1 !=(0:Int)) else (bif ((nth q at_.toNat).1==(3:Int)) then (((Yb f ((nth q at_.toNat).2.2.2.1)).1==(nth q at_.toNat).2.2.2.2.1)&&(((Yb f ((nth q at_.toNat).2.2.2.1)).2.1==(nth q at_.toNat).2.2.2.2.2.1)&&((((Yb f ((nth q at_.toNat).2.2.2.1)).2.2).toList==((nth q at_.toNat).2.2.2.2.2.2).toList)&&true))) else (bif ((nth q at_.toNat).1==(4:Int)) then (((Yb f ((nth q at_.toNat).2.2.2.1)).1==(1:Int))&&decide ((Yb f ((nth q at_.toNat).2.2.2.1)).2.1<(nth q at_.toNat).2.2.2.2.2.1)) else (bif ((nth q at_.toNat).1==(5:Int)) then (!(Vk n_ q ((nth q at_.toNat).2.1) f a_)) else (bif ((nth q at_.toNat).1==(6:Int)) then ((Vk n_ q ((nth q at_.toNat).2.1) f a_)&&(Vk n_ q ((nth q at_.toNat).2.2.1) f a_)) else (bif ((nth q at_.toNat).1==(7:Int)) then ((Vk n_ q ((nth q at_.toNat).2.1) f a_)|| (Vk n_ q ((nth q at_.toNat).2.2.1) f a_)) else (bif ((nth q at_.toNat).1==(8:Int)) then (Wi (Xq a_ ((nth q at_.toNat).2.2.2.1)) f.1) else ((f.2.2.2.1 !=(0:Int))&&(Wi (Xq a_ ((nth q at_.toNat).2.2.2.1)) f.2.2.2.1))))))))))
theorem DK:∀(n_:Nat) (q:List Yz) (at_:Int) (f:Xx) (a_:List Qj) (hv:Q8 q=true) (ha:0<=at_) (hb:at_<(q.length:Int)) (hn:at_<((n_:Nat):Int)),ACalls Tryz.prog 272 [.h q,.i at_,.a [.i f.1,.i f.2.1,.b f.2.2.1,.i f.2.2.2.1,.h f.2.2.2.2],.h a_] (.b (Vk n_ q at_ f a_)):=by
 intro n_
 induction n_ with
 | zero=>intro q at_ f a_ hv ha hb hn;exact (by omega:False).elim
 | succ n_ ih=>
  intro q at_ f a_ hv ha hb hn
  refine en Qa Tryz.func272 λw0 F0 hG=> ?_
  refine sn Qa [0,1,3,6,8] [6] p0 <| wT 0 0 .sh q (λhw2 hl3=> ?_)
  have hx1:=ng q at_.toNat;refine tn Qa [0,3,6,8,9] [6,9] (pg 2 at_ hx1 p0) <| tu Qa [(6,.p 6 0),(8,.b false),(9,.p 9 0),(10,.p 10 0)] [1,2] [(6, [.i f.1,.i f.2.1,.b f.2.2.1,.i f.2.2.2.1,.h f.2.2.2.2]),(9, [.i ((nth q at_.toNat).1),.i ((nth q at_.toNat).2.1),.i ((nth q at_.toNat).2.2.1),.s ((nth q at_.toNat).2.2.2.1),.i ((nth q at_.toNat).2.2.2.2.1),.i ((nth q at_.toNat).2.2.2.2.2.1),.s ((nth q at_.toNat).2.2.2.2.2.2)]),(10, [.i ((Yb f ((nth q at_.toNat).2.2.2.1)).1),.i ((Yb f ((nth q at_.toNat).2.2.2.1)).2.1),.s ((Yb f ((nth q at_.toNat).2.2.2.1)).2.2)])] [] (pc 3 (On f ((nth q at_.toNat).2.2.2.1)) p0) <| Qc <| sn Qa [0,3,6,8,9,10,20] [6,9,10] p0 <| Qt <| tn Qa [0,3,6,8,9,10,20,21] [6,9,10] p0 <| ck ((nth q at_.toNat).1==(1:Int)) (λh4=> ?_) (λh4=> ?_)
  ·exact tu Qa [(8,.b true)] [0,8,10] [] [10] p0 <| Qh <| pb [] (Xm h4 (rfl))
  have h4d:=Z7 h4;refine tu Qa [(20,.i ((nth q at_.toNat).1)),(23,.b ((nth q at_.toNat).1==(2:Int)))] [] [] [] p0 <| ck ((nth q at_.toNat).1==(2:Int)) (λh5=> ?_) (λh5=> ?_)
  ·exact sn Qa [3,6,8,9] [6,9] p0 <| Qh <| pb [] (Qn h4 (Xm h5 (rfl)))
  have h5d:=Z7 h5;refine sn Qa [0,3,6,8,9,10,20,28] [6,9,10] p0 <| ck ((nth q at_.toNat).1==(3:Int)) (λh6=> ?_) (λh6=> ?_)
  ·exact tn Qa [3,6,8,9] [6,9] p0 <| Qh <| pb [] (Qn h4 (Qn h5 (Xm h6 (rfl))))
  have h6d:=Z7 h6;refine tn Qa [0,3,6,8,9,10,20,34] [6,9,10] p0 <| ck ((nth q at_.toNat).1==(4:Int)) (λh7=> ?_) (λh7=> ?_)
  ·refine Qc <| mz [(34,.b ((nth q at_.toNat).1==(4:Int)))] [23] [] [] <| jn [(8,.b (((Yb f ((nth q at_.toNat).2.2.2.1)).1==(1:Int))&&decide ((Yb f ((nth q at_.toNat).2.2.2.1)).2.1<(nth q at_.toNat).2.2.2.2.2.1)))] [0,8,10,20,34] [] [10] ((Yb f ((nth q at_.toNat).2.2.2.1)).1==(1:Int)) (λh8=> ?_) (λh8=> ?_) ?_
   ·refine rn Qa [3,6,8,9] [6,9] (pt 2 h8 p0) ?_;exact zA (by rw[h8]<;>kernel_rfl)
   ·refine rn Qa [3,6,8,9] [6,9] (pf 2 h8 p0) ?_;exact zA (by rw[h8]<;>kernel_rfl)
   exact Qh <| pb [] (Qn h4 (Qn h5 (Qn h6 (Xm h7 (rfl)))))
  have h7d:=Z7 h7;refine tu Qa [(47,.b ((nth q at_.toNat).1==(5:Int)))] [10,23] [] [10] p0 <| ck ((nth q at_.toNat).1==(5:Int)) (λh9=> ?_) (λh9=> ?_)
  ·have h9d:=eq_of_beq h9;exact sn Qa [3,6,8,9] [6,9] (pc 5 (ih q ((nth q at_.toNat).2.1) f a_ hv (by have hz:=Qh0 hv ha hb h9;omega) (by have hz:=Qh0 hv ha hb h9;omega) (by have hz:=Qh0 hv ha hb h9;omega)) p0) <| Qh <| pb [] (Qn h4 (Qn h5 (Qn h6 (Qn h7 (Xm h9 (rfl))))))
  have h9d:=Z7 h9;refine sn Qa [0,3,6,8,9,20,56] [6,9] p0 <| ck ((nth q at_.toNat).1==(6:Int)) (λh10=> ?_) (λh10=> ?_)
  ·have h10d:=eq_of_beq h10;refine Qc <| mz [(56,.b ((nth q at_.toNat).1==(6:Int)))] [47] [] [] <| jn [(8,.b ((Vk n_ q ((nth q at_.toNat).2.1) f a_)&&(Vk n_ q ((nth q at_.toNat).2.2.1) f a_)))] [0,8,20,56] [] [] (Vk n_ q ((nth q at_.toNat).2.1) f a_) (λh11=> ?_) (λh11=> ?_) ?_
   ·refine rn Qa [3,6,8,9] [6,9] (pc 5 (cb h11 (ih q ((nth q at_.toNat).2.1) f a_ hv (by have hz:=PB hv ha hb h10;omega) (by have hz:=PB hv ha hb h10;omega) (by have hz:=PB hv ha hb h10;omega))) (pc 12 (ih q ((nth q at_.toNat).2.2.1) f a_ hv (by have hz:=Qh1 hv ha hb h10;omega) (by have hz:=Qh1 hv ha hb h10;omega) (by have hz:=Qh1 hv ha hb h10;omega)) p0)) ?_;exact zA (by rw[h11]<;>kernel_rfl)
   ·refine rn Qa [3,6,8,9] [6,9] (pc 5 (cb h11 (ih q ((nth q at_.toNat).2.1) f a_ hv (by have hz:=PB hv ha hb h10;omega) (by have hz:=PB hv ha hb h10;omega) (by have hz:=PB hv ha hb h10;omega))) p0) ?_;exact zA (by rw[h11]<;>kernel_rfl)
   exact Qh <| pb [] (Qn h4 (Qn h5 (Qn h6 (Qn h7 (Qn h9 (Xm h10 (rfl)))))))
  have h10d:=Z7 h10;refine tn Qa [0,3,6,8,9,20,72] [6,9] p0 <| ck ((nth q at_.toNat).1==(7:Int)) (λh12=> ?_) (λh12=> ?_)
  ·have h12d:=eq_of_beq h12;refine Qc <| mz [(72,.b ((nth q at_.toNat).1==(7:Int)))] [47] [] [] <| jn [(8,.b ((Vk n_ q ((nth q at_.toNat).2.1) f a_)|| (Vk n_ q ((nth q at_.toNat).2.2.1) f a_)))] [0,8,20,72] [] [] (Vk n_ q ((nth q at_.toNat).2.1) f a_) (λh13=> ?_) (λh13=> ?_) ?_
   ·refine rn Qa [3,6,8,9] [6,9] (pc 5 (cb h13 (ih q ((nth q at_.toNat).2.1) f a_ hv (by have hz:=SS hv ha hb h12;omega) (by have hz:=SS hv ha hb h12;omega) (by have hz:=SS hv ha hb h12;omega))) p0) ?_;exact zA (by rw[h13]<;>kernel_rfl)
   ·refine rn Qa [3,6,8,9] [6,9] (pc 5 (cb h13 (ih q ((nth q at_.toNat).2.1) f a_ hv (by have hz:=SS hv ha hb h12;omega) (by have hz:=SS hv ha hb h12;omega) (by have hz:=SS hv ha hb h12;omega))) (pc 12 (ih q ((nth q at_.toNat).2.2.1) f a_ hv (by have hz:=Qjs hv ha hb h12;omega) (by have hz:=Qjs hv ha hb h12;omega) (by have hz:=Qjs hv ha hb h12;omega)) p0)) ?_;exact zA (by rw[h13]<;>kernel_rfl)
   exact Qh <| pb [] (Qn h4 (Qn h5 (Qn h6 (Qn h7 (Qn h9 (Qn h10 (Xm h12 (rfl))))))))
  refine tu Qa [(88,.b ((nth q at_.toNat).1==(8:Int)))] [0,20,47] [] [] p0 <| ck ((nth q at_.toNat).1==(8:Int)) (λh14=> ?_) (λh14=> ?_)
  ·exact sN Qa Zt [3,6,8,9] [6,9] (pc 3 (Ft a_ ((nth q at_.toNat).2.2.2.1)) (pc 6 (D2 (Xq a_ ((nth q at_.toNat).2.2.2.1)) f.1) p0)) <| Qh <| pb [] (Qn h4 (Qn h5 (Qn h6 (Qn h7 (Qn h9 (Qn h10 (Qn h12 (Xm h14 (rfl)))))))))
  refine Qe <| Qc <| jn [(8,.b ((f.2.2.2.1 !=(0:Int))&&(Wi (Xq a_ ((nth q at_.toNat).2.2.2.1)) f.2.2.2.1)))] [3,6,8,9,88] [] [6,9] (f.2.2.2.1 !=(0:Int)) (λh15=> ?_) (λh15=> ?_) ?_
  ·refine rN Qa Zt [8] [] (pt 2 h15 (pc 7 (Ft a_ ((nth q at_.toNat).2.2.2.1)) (pc 10 (D2 (Xq a_ ((nth q at_.toNat).2.2.2.1)) f.2.2.2.1) p0))) ?_;exact zA (by rw[h15]<;>kernel_rfl)
  ·refine rN Qa Zt [8] [] (pf 2 h15 p0) ?_;exact zA (by rw[h15]<;>kernel_rfl)
  exact Qh <| pb [] (Qn h4 (Qn h5 (Qn h6 (Qn h7 (Qn h9 (Qn h10 (Qn h12 (Qn h14 (rfl)))))))))
def Gj (q:List Yz) (f:Xx) (a_:List Qj):Bool:=((Zq q)&&(Vk (zD q) q ((q.length:Int)-1) f a_))
theorem DL (q:List Yz) (f:Xx) (a_:List Qj):ACalls Tryz.prog 240 [.h q,.a [.i f.1,.i f.2.1,.b f.2.2.1,.i f.2.2.2.1,.h f.2.2.2.2],.h a_] (.b (Gj q f a_)):=by
 refine en Qa Tryz.func240 λw0 F0 hG=> ?_
 refine sn Qa [0,2,4,6] [4] p0 <| Qc <| mz [(4,.p 4 0),(6,.b false)] [1] [(4, [.i f.1,.i f.2.1,.b f.2.2.1,.i f.2.2.2.1,.h f.2.2.2.2])] [] <| jn [(6,.b ((Zq q)&&(Vk (zD q) q ((q.length:Int)-1) f a_)))] [0,2,4,6] [] [4] (Zq q) (λh1=> ?_) (λh1=> ?_) ?_
 ·refine wT 0 0 .sh q (λhw2 hl3=> ?_);refine rn Qa [6] [] (pc 1 (cb h1 (Ut q)) (pl 5 q (pe 6 (J6 (IntWalk.i64_in ((q.length:Int)-1) (by omega))) (pc 9 (DK (zD q) q ((q.length:Int)-1) f a_ (S9 h1) (by have:=VI (S9 h1);omega) (by omega) (by omega)) p0)))) ?_;exact zA (by rw[h1]<;>kernel_rfl)
 ·refine rn Qa [6] [] (pc 1 (cb h1 (Ut q)) p0) ?_;exact zA (by rw[h1]<;>kernel_rfl)
 exact Qh <| pb [] (show Gj q f a_=((Zq q)&&(Vk (zD q) q ((q.length:Int)-1) f a_)) from rfl)
def B5 (q:List Yz) (a_:List Qj) (_:Nat) (a0:Xx) (s0:List Int):Rd (List Int) (List Int) (List Int):=(bif (Gj q a0 a_) then (.next (s0++ [a0.1])) else (.next s0))
def Fu (_:Nat) (s0:List Int):(List Int):=s0
def Yw (s_:Xr) (q:List Yz) (a_:List Qj):(List Int):=(Out.on (X7 (B5 q a_) Fu s_.2.1 0 []) (λy0=>y0))
theorem Ns (s_:Xr) (q:List Yz) (a_:List Qj):ACalls Tryz.prog 203 [.a [.h s_.1,.h s_.2.1,.i s_.2.2],.h q,.h a_] (.o 0 (Yw s_ q a_)):=by
 refine en Qa Tryz.func203 λw0 F0 hG=> ?_
 refine sn Qa [1,2,3,6] [3] p0 <| tn Qa [1,2,3,6,7] [3] p0 <| Qc <| tu Qa [(3,.p 3 0),(6,.e 0),(7,.one (.slc (.own true 576) 1 [])),(8,.i 0)] [0] [(3, [.h s_.1,.h s_.2.1,.i s_.2.2])] [] p0 <| wB 3 1 .sh s_.2.1 (λhw1 hl2=> ?_)
 refine SK (B5 q a_) Fu s_.2.1 [] (λk0 s0=> [(7,.o 147204 s0),(8,.i (k0:Int))]) [7,8] (λ_ _=> []) [] (λy0=> [(7,.o 147354 y0)]) [1,2,3,7,8] (λ_=> []) [3] (λk0 s0=>zD s0<=k0) (X4 [(576,147204)] (by kernel_rfl)) (by simp) (λk0 s0 hk0 U=> ?_) (λk0 s0 hk0 U=> ?_) (λy0 hD0=> ?_)
 ·have hA0_0:=U.2;obtain ⟨a0,V⟩:=Xs (l:=s_.2.1) (i:=k0) hk0;refine Qc <| su Qa [(14,.b true)] [] [] [] (pl 3 s_.2.1 (pe 4 (zB ((k0:Int)<(s_.2.1.length:Int))) p0)) <| ckT <| Qe <| Qc <| Qt <| sn Qa [1,2,3,6,7,8,24] [3] (pn 4 V (pc 7 (DL q a0 a_) p0)) <| ck (Gj q a0 a_) (λh3=> ?_) (λh3=> ?_)
  ·refine wT 7 0 (.own true 147204) s0 (λhw4 hl5=> ?_);refine qu Qa [(7,.one (.slc (.own true 2112) 1 ((eL s0)++ [[.i a0.1]])))] [7,14] [] [] (pn 4 V (pa s0 [a0.1] p0)) ?_;refine eqn [(7,.o 2112 (s0++ [a0.1]))] [7] [] [] (by rw[show ((eL s0)++ [[.i a0.1]])=(eL (s0++ [a0.1])) from We (rfl) (rfl)];first | done | kernel_rfl) ?_;refine rn Qa [1,2,3,6,7,8] [3] (pe 1 (J6 (Ql k0 (by omega))) p0) ?_;exact zZ (s0++ [a0.1]) (yN (X4 [(2112,147204)] (by kernel_rfl)) ⟨Qp V (Xm h3 (rfl)) U.1,by first|omega|(simp;omega) | simp⟩)
  refine Qe <| qn Qa [1,2,3,6,7,8] [3] (pe 1 (J6 (Ql k0 (by omega))) p0) ?_
  exact xw s0 ⟨Qp V (Qn h3 (rfl)) U.1,by first|omega|(simp;omega) | simp⟩
 ·have hA0_0:=U.2;exact Qc <| su Qa [(14,.b false)] [] [] [] (pl 3 s_.2.1 (pe 4 (zC ((k0:Int)<(s_.2.1.length:Int))) p0)) <| ckF <| Q9 <| zZ _ (yN (X4 [(147204,147354)] (by kernel_rfl)) (Xt hk0 (rfl) U.1))
 exact sn Qa [6] [] p0 <| Qh <| po0 [] (Uc hD0 (rfl))
theorem Qk9 (l:List Int) (x:Int):Uj l x=Wi l x:=by
 unfold Uj Vx Cl Wi
 have key:∀(l:List Int) (k:Nat),decide (((X7 (Vb x) Uv l k ()).on λ_=> -1)>=0)=((X7 (Hq x) C0 l k ()).on λ_=>false):=by
  intro l
  induction l with
  | nil=>intro k;rfl
  | cons a l ih=>
    intro k;by_cases h:x=a
    . subst h;simp[X7,Vb,Hq,Out.on]
    have e1:(x==a)=false:=beq_eq_false_iff_ne.2 h;have e2:(a==x)=false:=beq_eq_false_iff_ne.2 (xS h);simp only[X7,Vb,Hq,e1,e2,cond_false];exact ih (k+1)
 exact key l 0
theorem Qc0 (r:List Qj) (s:ByteArray):Xl r s=Xq r s:=rfl
theorem Qjz (f:Xx) (s:ByteArray):Xv f s=Yb f s:=rfl
theorem Qla {n:Yz} {k:Int} (h:Jj n k=true):n.1=1\/n.1=2\/n.1=3\/n.1=4\/n.1=5\/n.1=6\/n.1=7\/n.1=8\/n.1=9:=by
 refine zS λhn=> ?_
 simp only[not_or] at hn;obtain ⟨h1,h2,h3,h4,h5,h6,h7,h8,h9⟩:=hn;unfold Jj at h;simp only[beq_eq_false_iff_ne.2 h1,beq_eq_false_iff_ne.2 h2,beq_eq_false_iff_ne.2 h3,beq_eq_false_iff_ne.2 h4,beq_eq_false_iff_ne.2 h5,beq_eq_false_iff_ne.2 h6,beq_eq_false_iff_ne.2 h7,beq_eq_false_iff_ne.2 h8,beq_eq_false_iff_ne.2 h9,cond_false] at h;cases h
theorem PP {q:List Yz} (hv:Q8 q=true) (f:Xx) (r:List Qj):∀(n:Nat) (k:Int),0<=k->k<(q.length:Int)->Ze n q k f r=Vk n q k f r
 | 0,_,_,_=>rfl
 | n +1,k,h0,h1=>by
   have hn:=MH hv (Hb (l:=q) (i:=zH k) (by omega));rw[Int.toNat_of_nonneg h0] at hn;obtain ⟨hl,hr⟩:=Ig hv h0 h1;unfold Ze Vk;have ih:=PP hv f r n;unfold U2;simp only[Qjz,Qc0,Qk9];generalize nth q (zH k)=m at hn hl hr⊢;rcases Qla hn with h | h | h | h | h | h | h | h | h
   . simp[h]
   . simp[h]
   . simp[h]
   . rw[h];cases hz:((Yb f m.2.2.2.1).1==(1:Int)) with
     | true=>simp[bne,hz]
     | false=>simp[bne,hz]
   . simp[h,ih _ (hl (by simp[h])).1 (by have:=(hl (by simp[h])).2;omega)]
   . simp[h,ih _ (hl (by simp[h])).1 (by have:=(hl (by simp[h])).2;omega),ih _ (hr (by simp[h])).1 (by have:=(hr (by simp[h])).2;omega)]
   . simp[h,ih _ (hl (by simp[h])).1 (by have:=(hl (by simp[h])).2;omega),ih _ (hr (by simp[h])).1 (by have:=(hr (by simp[h])).2;omega)]
   . simp[h]
   simp[h]
theorem SY (q:List Yz) (f:Xx) (r:List Qj):U3 q f r=Gj q f r:=by
 unfold U3 Gj;rw[←Qf5];cases hv:Q8 q with
 | false=>rfl
 | true=>rw[PP hv f r _ _ (by have:=VI hv;omega) (by omega)]
theorem VZ (s:Xr) (q:List Yz) (r:List Qj):Zo s q r=Yw s q r:=by
 unfold Zo Yw
 rw[Gv (f:=Ap q r) (g:=B5 q r) (e:=Fs) (e':=Fu) (λi a s=>by
  unfold Ap B5;rw[SY]) (λ_ _=>rfl)]
end
section
section
variable {φ:Type} (fs:List φ) (idOf:φ->Int)
def sel (p:φ->Bool):List Int:=(fs.filter p).map idOf
theorem WA {p q:φ->Bool}:∀(l:List φ),(∀f,f∈l->p f=true->q f=true)->(l.filter p).length<=(l.filter q).length/\((l.filter q).length<=(l.filter p).length->l.filter p=l.filter q)
 | [],_=>⟨yZ _,λ_=>rfl⟩
 | f :: l,h=>by
   obtain ⟨h1,h2⟩:=WA l λg hg=>h g (zJ _ hg)
   have h0:=h f (zM ..);cases hp:p f with
   | true=>
     have hq:=h0 hp;simp only[yO,hp,hq,if_true,zL];exact ⟨by omega,λhl=>by rw[h2 (by omega)]⟩
   | false=>
     cases hq:q f with
     | true=>
       simp only[yO,hp,hq,if_true,zL,zY,if_false];exact ⟨by omega,λhl=>absurd hl (by omega)⟩
     | false=>
       simp only[yO,hp,hq,zY,if_false];exact ⟨h1,h2⟩
theorem Qj0 (p:φ->Bool):(sel fs idOf p).length<=fs.length:=by
 unfold sel;rw[zK];exact xI _ _
variable {fs idOf}
theorem Qge {p q:φ->Bool} (h:∀f,f∈fs->p f=true->q f=true) (hn:sel fs idOf p≠sel fs idOf q):(sel fs idOf p).length+1<=(sel fs idOf q).length:=by
 obtain ⟨h1,h2⟩:=WA fs h;unfold sel at hn⊢;rw[zK,zK];refine Nat.lt_of_le_of_ne h1 λe=>hn ?_
 rw[h2 (by omega)]
theorem Qj1 {p q:φ->Bool} (h:∀f,f∈fs->p f=true->q f=true) {x:Int} (hx:x∈sel fs idOf p):x∈sel fs idOf q:=by
 unfold sel at hx⊢;obtain ⟨f,hf,rfl⟩:=zW.1 hx;obtain ⟨h1,h2⟩:=yF.1 hf;exact zW.2 ⟨f,yF.2 ⟨h1,h f h1 h2⟩,rfl⟩
end
abbrev CD:=ByteArray×List Int
def Qc1 (out:List CD) (k:Nat) (ids:List Int):List CD:=out.set k ((nth out k).1,ids)
theorem JS {out:List CD} {k:Nat} (x:CD) (hk:k<out.length) (j:Nat):nth (out.set k x) j=if j=k then x else nth out j:=by
 unfold nth;simp only[yW,xA];by_cases h:k=j
 . subst h;simp[hk]
 simp[h,xS h]
theorem SZ {out:List CD} {k:Nat} (ids:List Int) (hk:k<out.length):(Qc1 out k ids).map (·.1)=out.map (·.1):=by
 unfold Qc1;rw[List.map_set];refine List.ext_getElem (by simp) λi h1 h2=> ?_
 rw[List.getElem_set];split
 . rename_i h;subst h;simp[nth,zT,hk]
 rfl
def WB (B:Nat) (act:Nat->Bool):Nat->List CD->Nat
 | _, []=>0
 | k,r::l=>(bif act k then B-r.2.length else 0)+WB B act (k+1) l
theorem Qc2 (B:Nat) (act:Nat->Bool):∀(l:List CD) (k:Nat),WB B act k l<=l.length*B
 | [],k=>by simp[WB]
 | r::l,k=>by
   have:=Qc2 B act l (k+1);simp only[WB,zL,Nat.add_mul,Nat.one_mul];cases act k with
   | true=>simp only[cond_true];omega
   | false=>simp only[cond_false];omega
theorem PQ (B:Nat) (act:Nat->Bool) (x:CD):∀(l:List CD) (k i:Nat),i<l.length->act (k+i)=true->(nth l i).2.length+1<=x.2.length->x.2.length<=B->WB B act k (l.set i x)+1<=WB B act k l
 | [],k,i,hi,_,_,_=>by simp at hi
 | r::l,k,0,_,ha,h1,h2=>by
   have e:nth (r::l) 0=r:=rfl;rw[e] at h1;rw[Nat.add_zero] at ha;simp only[zE,WB,ha,cond_true];omega
 | r::l,k,i+1,hi,ha,h1,h2=>by
   have:=PQ B act x l (k+1) i (by simpa using hi) (by rwa [show k+1+i=k+(i+1) by omega]) h1 h2;simp only[zE,WB];omega
section
variable {φ:Type} {fs:List φ} {idOf:φ->Int} (m:Nat->List CD->φ->Bool) (act:Nat->Bool)
def LeC (a b:List CD):Prop:=∀j,(∀x,x∈(nth a j).2->x∈(nth b j).2)/\(act j=false->(nth a j).2=(nth b j).2)
variable (fs idOf)
def Qma (out:List CD):Prop:=∀k,k<out.length->act k=true->∃p:φ->Bool,(nth out k).2=sel fs idOf p/\∀f,f∈fs->p f=true->m k out f=true
def Qgf (nm:List ByteArray):Prop:=∀a b:List CD,a.map (·.1)=nm->b.map (·.1)=nm->LeC act a b->∀k,k<nm.length->act k=true->∀f,f∈fs->m k a f=true->m k b f=true
def GF (s:List CD×Bool) (k:Nat):List CD×Bool:=bif act k then (if sel fs idOf (m k s.1)=(nth s.1 k).2 then s else (Qc1 s.1 k (sel fs idOf (m k s.1)),true)) else s
def DM (ks:List Nat) (s:List CD×Bool):List CD×Bool:=ks.foldl (GF fs idOf m act) s
variable {fs idOf m act} {nm:List ByteArray}
structure StateC (fs:List φ) (idOf:φ->Int) (m:Nat->List CD->φ->Bool) (act:Nat->Bool) (nm:List ByteArray) (o out:List CD):Prop where
 names:out.map (·.1)=nm
 good:Qma fs idOf m act out
 rest:∀j,act j=false->nth out j=nth o j
theorem Qgg (hm:Qgf fs m act nm) {o:List CD} {s:List CD×Bool} (h:StateC fs idOf m act nm o s.1) {k:Nat} (hk:k<nm.length):
 StateC fs idOf m act nm o (GF fs idOf m act s k).1/\WB fs.length act 0 (GF fs idOf m act s k).1<=WB fs.length act 0 s.1/\((GF fs idOf m act s k).2=true->s.2=true\/WB fs.length act 0 (GF fs idOf m act s k).1+1<=WB fs.length act 0 s.1):=by
 unfold GF;cases ha:act k with
 | false=>exact ⟨h,yZ _,.inl⟩
 | true=>
   simp only[cond_true];split
   . exact ⟨h,yZ _,.inl⟩
   rename_i hne;have hlen:nm.length=s.1.length:=by rw[←h.names,zK]
   have hk':k<s.1.length:=by omega
   obtain ⟨p,hp1,hp2⟩:=h.good k hk' ha;rw[hp1] at hne;have hgrow:=Qge (idOf:=idOf) hp2 (xS hne);have hnames:(Qc1 s.1 k (sel fs idOf (m k s.1))).map (·.1)=nm:=by rw[SZ _ hk',h.names]
   have hle:LeC act s.1 (Qc1 s.1 k (sel fs idOf (m k s.1))):=λj=>by
    unfold Qc1;rw[JS _ hk'];by_cases hj:j=k
    . subst hj;rw[if_pos rfl];exact ⟨λx hx=>Qj1 hp2 (hp1▸hx),λhf=>absurd ha (by simp[hf])⟩
    rw[if_neg hj];exact ⟨λ_ hx=>hx,λ_=>rfl⟩
   have hmono:=hm _ _ h.names hnames hle
   have hr:WB fs.length act 0 (Qc1 s.1 k (sel fs idOf (m k s.1)))+1<=WB fs.length act 0 s.1:=
    PQ _ _ _ _ 0 k hk' (by rw[zV];exact ha) (by rw[hp1];exact hgrow) (Qj0 _ _ _)
   refine ⟨⟨hnames,λj hj hja=> ?_,λj hj=> ?_⟩,Nat.le_of_succ_le hr,λ_=> .inr hr⟩
   . have hj':j<s.1.length:=by unfold Qc1 at hj;rwa [zG] at hj
     by_cases e:j=k
     . subst e;refine ⟨m j s.1, ?_,λf hf hmf=>hmono j (by omega) hja f hf hmf⟩;unfold Qc1;rw[JS _ hk',if_pos rfl]
     obtain ⟨p',h1,h2⟩:=h.good j hj' hja;refine ⟨p', ?_,λf hf hpf=>hmono j (by omega) hja f hf (h2 f hf hpf)⟩;unfold Qc1;rw[JS _ hk',if_neg e];exact h1
   have e:j≠k:=λe=>absurd ha (by simp[←e,hj])
   unfold Qc1;rw[JS _ hk',if_neg e];exact h.rest j hj
theorem PR (hm:Qgf fs m act nm) {o:List CD}:∀(ks:List Nat) (s:List CD×Bool),(∀k,k∈ks->k<nm.length)->StateC fs idOf m act nm o s.1->
 StateC fs idOf m act nm o (DM fs idOf m act ks s).1/\WB fs.length act 0 (DM fs idOf m act ks s).1<=WB fs.length act 0 s.1/\((DM fs idOf m act ks s).2=true->s.2=true\/WB fs.length act 0 (DM fs idOf m act ks s).1+1<=WB fs.length act 0 s.1)
 | [],s,_,h=>⟨h,yZ _,.inl⟩
 | k ::ks,s,hks,h=>by
   obtain ⟨h1,h2,h3⟩:=Qgg hm h (hks k (zM ..));obtain ⟨g1,g2,g3⟩:=PR hm ks _ (λj hj=>hks j (zJ _ hj)) h1;refine ⟨g1,yV g2 h2,λhc=> ?_⟩;rcases g3 hc with hc | hc
   . rcases h3 hc with hc | hc
     . exact .inl hc
     exact .inr (yV (Nat.add_le_add_right g2 1) hc)
   exact .inr (yV hc h2)
theorem Qml {R S T:Type} {F:S->Rd R S T} {out:S->List CD} {ch:S->Bool} {n:Nat} (hn:n=nm.length)
 (hF:∀s,ch s=true->∃s',F s= .next s'/\(out s',ch s')=DM fs idOf m act (zO n) (out s,false))
 (hE:∀s,ch s=false->∃t,F s= .brk t)
 (hm:Qgf fs m act nm) {o:List CD}:∀(k:Nat) (s:S),StateC fs idOf m act nm o (out s)->WB fs.length act 0 (out s)+(bif ch s then 2 else 1)<=k->
 ∃s',StateC fs idOf m act nm o (out s')/\ch s'=false/\∃t,F s'= .brk t/\whl F k s=some (.brk t)
 | 0,s,_,hk=>by cases hc:ch s<;>simp[hc] at hk
 | k +1,s,h,hk=>by
   cases hc:ch s with
   | false=>
     obtain ⟨t,ht⟩:=hE s hc;exact ⟨s,h,hc,t,ht,by simp only[whl,ht]⟩
   | true=>
     rw[hc] at hk;simp only[cond_true] at hk;obtain ⟨s',h1,h2⟩:=hF s hc;obtain ⟨g1,g2,g3⟩:=PR hm (o:=o) (zO n) (out s,false) (λj hj=>by rw[←hn];exact yI.1 hj) h;rw[←h2] at g1 g2 g3;simp only[whl,h1];refine Qml hn hF hE hm k s' g1 ?_;simp only[zY,false_or] at g3;cases hc':ch s' with
     | false=>simp only[cond_false];have:WB fs.length act 0 (out s')<=WB fs.length act 0 (out s):=g2;omega
     | true=>simp only[cond_true];have:WB fs.length act 0 (out s')+1<=WB fs.length act 0 (out s):=g3 hc';omega
end
open Go.RowKit in
def ArgLe (a b:AV):Prop:=∀(J:Inj) (w:World) (v:Value),AR J w v a->AR J w v b
theorem ArgLe.rfl (a:AV):ArgLe a a:=λ_ _ _ h=>h
theorem ArgLe.nil (n:Nat):ArgLe (.one (.slc .sh 0 [])) (.one (.slc .sh n [])):=λJ w v h=>by
 have h':VV J.F w v (.slc 0 []):=h;show VV J.F w v (.slc n []);generalize hp:PV.slc 0 ([]:List (List PV))=p at h';cases h' with
 | int | bool | str | any=>cases hp
 | emp oa m hc=>exact .emp oa n hc
 | @slc b off cap m cs l hx hcells hr hle hcap=>
   cases hp
   exact .emp _ n hcap.1
theorem MQ {P:Program} {f:Nat} {r:AV} {args args':List AV} (h:All2 ArgLe args args') (c:ACalls P f args' r):ACalls P f args r:=⟨c.1,λw hg F vals hF hall=>c.2 w hg F vals hF (by
 clear c
 induction h generalizing vals with
 | nil=>exact hall
 | cons h1 h2 ih=>
   cases hall with
   | cons g1 g2=>exact .cons (h1 _ _ _ g1) (ih _ g2))⟩
end
section
open Go.RowKit
def Ej (n:Yz) (c:Int):Bool:=((n.2.1==c)&&(n.1==6|| n.1==7|| n.1==5))|| ((n.2.2.1==c)&&(n.1==6|| n.1==7))
theorem Qc3 (c:Int) (k:Nat) (a:Yz) (s:Int) (h0:0<=s) (h1:s<=1000):∃s',K8 c k a s= .next s'/\s+(bif Ej a c then 1 else 0)<=s'/\s'<=s+2:=by
 have w1:IntKind.i64.wrap (s+1)=s+1:=IntWalk.i64_in _ (by omega);have w2:IntKind.i64.wrap (s+1+1)=s+1+1:=IntWalk.i64_in _ (by omega);unfold K8 Ej;rw[w1,w2];cases (a.2.1==c)<;>cases (a.2.2.1==c)<;>cases (a.1==6)<;>cases (a.1==7)<;>cases (a.1==5)<;>exact ⟨_,rfl,by first | (simp;done) | (simp;omega) | omega,by omega⟩
theorem GG (c:Int):∀(l:List Yz) (k:Nat) (s:Int),0<=s->s+2*l.length<=1000->∃s',X7 (K8 c) H8 l k s= .brk s'/\s+(l.filter λn=>Ej n c).length<=s'
 | [],k,s,_,_=>⟨s,rfl,by simp⟩
 | a::l,k,s,h0,h1=>by
   rw[zL] at h1;obtain ⟨s1,e1,g1,g2⟩:=Qc3 c k a s h0 (by omega);have hp:0<=s1:=by cases hb:Ej a c<;>(rw[hb] at g1;simp at g1;omega)
   obtain ⟨s2,e2,g3⟩:=GG c l (k+1) s1 hp (by omega);refine ⟨s2,by simp only[X7,e1];exact e2, ?_⟩;rw[yO];cases hb:Ej a c with
   | true=>rw[hb] at g1;simp only[cond_true] at g1;simp only[if_true,zL];omega
   | false=>rw[hb] at g1;simp only[cond_false] at g1;simp only[zY,if_false];omega
theorem Qlb {α:Type} {p:α->Bool} {l:List α} {i j:Nat} {a b:α} (hij:i<j) (hi:l[i]? =some a) (hj:l[j]? =some b) (ha:p a=true) (hb:p b=true):2<=(l.filter p).length:=by
 have e:l=l.take j++l.drop j:=(List.take_append_drop j l).symm;rw[e,List.filter_append,List.length_append];have h1:1<=((l.take j).filter p).length:=yK (a:=a) (yF.2 ⟨xM (i:=i) (by rw[List.getElem?_take,if_pos hij];exact hi),ha⟩);have h2:1<=((l.drop j).filter p).length:=yK (a:=b) (yF.2 ⟨xM (i:=0) (by rw[List.getElem?_drop];exact hj),hb⟩);omega
theorem Qj2 {q:List Yz} (h:Q8 q=true) {i:Nat} (hi:i+1<q.length):Ko q (i:Int)=1:=by
 obtain ⟨⟨t,ht⟩,_⟩:=Qch h;have:=Og (λk a t=>by unfold Z1;generalize (_|| _:Bool)=c;cases c<;>simp) ht i (nth q i) (Hb (by omega));unfold Z1 at this;rw[zV] at this;have hd:decide (((i:Nat):Int)<((q.length:Int)-1))=true:=decide_eq_true (by omega);rw[hd,yP] at this;cases hn:(Ko q ((i:Nat):Int) !=(1:Int)) with
 | false=>exact U8 hn
 | true=>rw[hn,Bool.or_true] at this;simp at this
theorem Qgh {q:List Yz} (h:Q8 q=true) {c i j:Nat} (hc:c+1<q.length) (hij:i<j) (hj:j<q.length) (h1:Ej (nth q i) (c:Int)=true) (h2:Ej (nth q j) (c:Int)=true):False:=by
 have hr:=Qj2 h hc;have hl:=(VI h).2;obtain ⟨s,e,g⟩:=GG (c:Int) q 0 0 (by omega) (by omega);unfold Ko at hr;rw[e] at hr;have:=Qlb (p:=λn=>Ej n (c:Int)) hij (Hb (by omega)) (Hb hj) h1 h2;simp only[Out.on] at hr;omega
theorem Qc4 {q:List Yz} (h:Q8 q=true) {c i:Nat} (hi:i<q.length) (hr:Ej (nth q i) (c:Int)=true):c<i:=by
 obtain ⟨h1,h2⟩:=Ig h (k:=(i:Int)) (by omega) (by omega);rw[zN] at h1 h2;unfold Ej at hr;simp only[yR,xD,beq_iff_eq] at hr;rcases hr with ⟨e,hop⟩ | ⟨e,hop⟩
 . have:=h1 (by omega);omega
 have:=h2 (by omega);omega
theorem DN {L:List Bool} {i:Nat} (x:Bool) (hi:i<L.length) (j:Nat):nth (L.set i x) j=if j=i then x else nth L j:=by
 unfold nth;simp only[yW,xA];by_cases h:i=j
 . subst h;simp[hi]
 simp[h,xS h]
theorem Qgi {q:List Yz} (h:Q8 q=true) {k:Nat} (hk:k<q.length) (s:List Bool) (hs:s.length=q.length):∃s',Ja q k s= .next s'/\s'.length=q.length/\
 (∀j:Nat,Ej (nth q (q.length-1-k)) (j:Int)=false->nth s' j=nth s j)/\
 (∀j:Nat,Ej (nth q (q.length-1-k)) (j:Int)=true->nth s' j=(nth s (q.length-1-k)|| ((nth q (q.length-1-k)).1==5))):=by
 have hdn:zH (dn ((q.length:Int)-1) k)=q.length-1-k:=by rw[LW];omega
 obtain ⟨hl,hr⟩:=Ig h (k:=((q.length-1-k:Nat):Int)) (by omega) (by omega);rw[zN] at hl hr;have hlt:q.length-1-k<s.length:=by omega
 unfold Ja;rw[hdn];generalize q.length-1-k=i at hl hr hlt⊢;generalize nth q i=n at hl hr⊢;generalize (nth s i|| (n.1==5))=b
 have both:∀(e5:(n.1==(5:Int))=false),(n.1=6\/n.1=7)->(zE (zE s (zH n.2.1) b) (zH n.2.2.1) b).length=q.length/\(∀j:Nat,Ej n (j:Int)=false->nth (zE (zE s (zH n.2.1) b) (zH n.2.2.1) b) j=nth s j)/\(∀j:Nat,Ej n (j:Int)=true->nth (zE (zE s (zH n.2.1) b) (zH n.2.2.1) b) j=b):=λe5 h67=>by
  obtain ⟨g1,g2⟩:=hl (.inr h67);obtain ⟨g3,g4⟩:=hr h67;have hop:(n.1==6|| n.1==7)=true:=by rcases h67 with e | e<;>simp[e]
  have hlen:(zE s (zH n.2.1) b).length=s.length:=zG ..;refine ⟨by rw[zG,hlen,hs],λj hj=> ?_,λj hj=> ?_⟩
  . simp only[Ej,hop,Bool.true_or,Bool.and_true,Bool.or_eq_false_iff,beq_eq_false_iff_ne,ne_eq] at hj;rw[Nq _ (by omega),Nq _ (by omega)]
  simp only[Ej,hop,Bool.true_or,Bool.and_true,yR,beq_iff_eq] at hj;rw[DN _ (by omega),DN _ (by omega)];split
  . rfl
  rw[if_pos (by omega)]
 by_cases h5:n.1=5
 . obtain ⟨g1,g2⟩:=hl (.inl h5);simp only[h5,beq_self_eq_true,cond_true];refine ⟨_,rfl,by rw[zG,hs],λj hj=> ?_,λj hj=> ?_⟩
   . have:n.2.1≠(j:Int):=by simpa [Ej,h5] using hj
     exact Nq _ (by omega)
   have:n.2.1=(j:Int):=by simpa [Ej,h5] using hj
   rw[DN _ (by omega),if_pos (by omega)]
 have e5:(n.1==(5:Int))=false:=beq_eq_false_iff_ne.2 h5;rw[e5,cond_false];by_cases h6:n.1=6
 . simp only[h6,beq_self_eq_true,cond_true];exact ⟨_,rfl,both e5 (.inl h6)⟩
 by_cases h7:n.1=7
 . simp only[h7,beq_self_eq_true,cond_true];exact ⟨_,rfl,both e5 (.inr h7)⟩
 have e6:(n.1==(6:Int))=false:=beq_eq_false_iff_ne.2 h6;have e7:(n.1==(7:Int))=false:=beq_eq_false_iff_ne.2 h7;rw[e6,e7,cond_false,cond_false];refine ⟨_,rfl,hs,λ_ _=>rfl,λj hj=> ?_⟩;simp[Ej,e5,e6,e7] at hj
def Qc5 (q:List Yz) (k:Nat) (s:List Bool):Prop:=s.length=q.length/\∀i,q.length<=i+k->i<q.length->∀c:Nat,Ej (nth q i) (c:Int)=true->nth s c=(nth s i|| ((nth q i).1==5))
theorem Qgj {q:List Yz} (h:Q8 q=true) {k:Nat} (hk:k<q.length) {s:List Bool} (hs:Qc5 q k s):∃s',Ja q k s= .next s'/\Qc5 q (k+1) s':=by
 obtain ⟨s',h1,h2,h3,h4⟩:=Qgi h hk s hs.1
 have hself:nth s' (q.length-1-k)=nth s (q.length-1-k):=h3 _ (by
  cases hr:Ej (nth q (q.length-1-k)) ((q.length-1-k:Nat):Int) with
  | false=>rfl
  | true=>have:=Qc4 h (by omega) hr;omega)
 refine ⟨s',h1,h2,λi hi1 hi2 c hc=> ?_⟩;by_cases e:i=q.length-1-k
 . subst e;rw[h4 c hc,hself]
 have hci:=Qc4 h hi2 hc
 have n1:Ej (nth q (q.length-1-k)) (c:Int)=false:=by
  cases hr:Ej (nth q (q.length-1-k)) (c:Int) with
  | false=>rfl
  | true=>exact (Qgh h (c:=c) (i:=q.length-1-k) (j:=i) (by omega) (by omega) hi2 hr hc).elim
 have n2:Ej (nth q (q.length-1-k)) (i:Int)=false:=by
  cases hr:Ej (nth q (q.length-1-k)) (i:Int) with
  | false=>rfl
  | true=>have:=Qc4 h (by omega) hr;omega
 rw[h3 c n1,h3 i n2];exact hs.2 i (by omega) hi2 c hc
theorem PS {q:List Yz} (h:Q8 q=true):∀(n k:Nat) (s:List Bool),k+n=q.length->Qc5 q k s->∃s',U1 (Ja q) Hz n k s= .brk s'/\Qc5 q q.length s'
 | 0,k,s,hk,hs=>⟨s,rfl,by rw[show k=q.length by omega] at hs;exact hs⟩
 | n+1,k,s,hk,hs=>by
   obtain ⟨s1,h1,h2⟩:=Qgj h (by omega) hs;obtain ⟨s2,h3,h4⟩:=PS h n (k+1) s1 (by omega) h2;exact ⟨s2,by simp only[U1,h1];exact h3,h4⟩
theorem Qgk {q:List Yz} (h:Q8 q=true):Qc5 q q.length (Ym q):=by
 unfold Ym;obtain ⟨s,h1,h2⟩:=PS h (zD q) 0 (zF (zH (q.length:Int)) false) (by omega) ⟨by simp,λi h1 h2=>by omega⟩;rw[h];simp only[yD,cond_false,h1,Out.on];exact h2
theorem Qgl {q:List Yz} {i:Nat} (hi:i<(Ym q).length) (hn:nth (Ym q) i=true) (hd:Jp (nth q i)=true):(nth q i).2.2.2.1∈Yh q:=by
 have key:∀(l:List Bool) (k:Nat) (s:List ByteArray),∃t,X7 (W4 q true) Ag l k s= .brk t/\(∀x,x∈s->x∈t)/\∀j,l[j]? =some true->Jp (nth q (k+j))=true->(nth q (k+j)).2.2.2.1∈t:=by
  intro l
  induction l with
  | nil=>intro k s;exact ⟨s,rfl,λ_ h=>h,λj h=>by simp at h⟩
  | cons a l ih=>
    intro k s;simp only[X7,W4];cases hc:(Jp (nth q k)&&(a==true)) with
    | true=>
      obtain ⟨t,h1,h2,h3⟩:=ih (k+1) (s++ [(nth q k).2.2.2.1]);refine ⟨t,h1,λx hx=>h2 x (xK _ hx),λj hj hnm=> ?_⟩;cases j with
      | zero=>exact h2 _ (yM _ (by simp))
      | succ j=>
        have:=h3 j (by simpa using hj) (by rwa [show k+1+j=k+(j+1) by omega])
        rwa [show k+1+j=k+(j+1) by omega] at this
    | false=>
      obtain ⟨t,h1,h2,h3⟩:=ih (k+1) s;refine ⟨t,h1,h2,λj hj hnm=> ?_⟩;cases j with
      | zero=>
        obtain rfl:a=true:=by simpa using hj
        rw[Nat.add_zero] at hnm;rw[hnm] at hc;cases hc
      | succ j=>
        have:=h3 j (by simpa using hj) (by rwa [show k+1+j=k+(j+1) by omega])
        rwa [show k+1+j=k+(j+1) by omega] at this
 unfold Yh Ui;obtain ⟨t,h1,_,h3⟩:=key (Ym q) 0 [];rw[h1];simp only[Out.on];have:=h3 i (by rw[Hb hi,hn]) (by rwa [zV]);rw[zV] at this;exact ((VL t).2 _).2 this
theorem DO (l:List Int) (x:Int):Uj l x=true↔x∈l:=by
 unfold Uj Vx Cl
 have key:∀(l:List Int) (k:Nat),decide (((X7 (Vb x) Uv l k ()).on λ_=> -1)>=0)=true↔x∈l:=by
  intro l
  induction l with
  | nil=>intro k;simp[X7,Out.on,Uv]
  | cons a l ih=>
    intro k;by_cases h:x=a
    . subst h;simp[X7,Vb,Out.on]
    have e1:(x==a)=false:=beq_eq_false_iff_ne.2 h;simp only[X7,Vb,e1,cond_false];rw[ih (k+1)];simp[h]
 exact key l 0
structure Seen (q:List Yz) (a b:List Qj):Prop where
 grow:∀nm x,x∈Xl a nm->x∈Xl b nm
 same:∀nm,nm∈Yh q->Xl a nm=Xl b nm
theorem BO {q:List Yz} (hv:Q8 q=true) {a b:List Qj} (hs:Seen q a b) (f:Xx):∀(n:Nat) (k:Nat),k<n->k<q.length->
 (nth (Ym q) k=true->Ze n q (k:Int) f a=Ze n q (k:Int) f b)/\(Ze n q (k:Int) f a=true->Ze n q (k:Int) f b=true)
 | 0,_,h,_=>absurd h (by omega)
 | n +1,k,hkn,hk=>by
   obtain ⟨hl,hr⟩:=Ig hv (k:=(k:Int)) (by omega) (by omega);rw[zN] at hl hr;obtain ⟨hlen,hneg⟩:=Qgk hv;have hneg:=hneg k (by omega) hk;have hop:=Qla (MH hv (Hb hk));have hnm:=Qgl (q:=q) (i:=k) (by omega);have ih:=BO hv hs f n;unfold Ze;rw[zN];generalize nth q k=m at hl hr hneg hop hnm⊢
   have kid:∀c:Int,0<=c->c<(k:Int)->Ej m c=true->((nth (Ym q) k|| (m.1==5))=true->Ze n q c f a=Ze n q c f b)/\(Ze n q c f a=true->Ze n q c f b=true):=λc h0 h1 hrf=>by
    obtain ⟨j,rfl⟩:∃j:Nat,c=(j:Int):=⟨zH c,by omega⟩;obtain ⟨g1,g2⟩:=ih j (by omega) (by omega);exact ⟨λhn=>g1 ((hneg j hrf).trans hn),g2⟩
   rcases hop with h | h | h | h | h | h | h | h | h
   . simp[h]
   . simp[h]
   . simp[h]
   . simp[h]
   . obtain ⟨k1,k2⟩:=hl (.inl h);obtain ⟨g1,_⟩:=kid m.2.1 k1 k2 (by simp[Ej,h]);have:=g1 (by simp[h]);simp[h,this]
   . obtain ⟨k1,k2⟩:=hl (.inr (.inl h));obtain ⟨k3,k4⟩:=hr (.inl h);obtain ⟨g1,g2⟩:=kid m.2.1 k1 k2 (by simp[Ej,h]);obtain ⟨g3,g4⟩:=kid m.2.2.1 k3 k4 (by simp[Ej,h]);refine ⟨λhn=> ?_,λhm=> ?_⟩
     . simp[h,g1 (by simp[hn]),g3 (by simp[hn])]
     simp[h] at hm⊢;exact ⟨g2 hm.1,g4 hm.2⟩
   . obtain ⟨k1,k2⟩:=hl (.inr (.inr h));obtain ⟨k3,k4⟩:=hr (.inr h);obtain ⟨g1,g2⟩:=kid m.2.1 k1 k2 (by simp[Ej,h]);obtain ⟨g3,g4⟩:=kid m.2.2.1 k3 k4 (by simp[Ej,h]);refine ⟨λhn=> ?_,λhm=> ?_⟩
     . simp[h,g1 (by simp[hn]),g3 (by simp[hn])]
     simp[h] at hm⊢;exact hm.imp g2 g4
   . refine ⟨λhn=> ?_,λhm=> ?_⟩
     . simp[h,hs.same _ (hnm hn (by simp[Jp,h]))]
     simp[h] at hm⊢;exact (DO _ _).2 (hs.grow _ _ ((DO _ _).1 hm))
   refine ⟨λhn=> ?_,λhm=> ?_⟩
   . simp[h,hs.same _ (hnm hn (by simp[Jp,h]))]
   simp[h] at hm⊢;exact ⟨hm.1,(DO _ _).2 (hs.grow _ _ ((DO _ _).1 hm.2))⟩
theorem GH {q:List Yz} {a b:List Qj} (hs:Seen q a b) (f:Xx) (h:U3 q f a=true):U3 q f b=true:=by
 unfold U3 at h⊢;cases hv:Q8 q with
 | false=>rw[hv] at h;cases h
 | true=>
   rw[hv,yP] at h;rw[yP];have hl:=VI hv;have e:((q.length:Int)-1)=((q.length-1:Nat):Int):=by omega
   rw[e] at h⊢;exact (BO hv hs f q.length (q.length-1) (by omega) (by omega)).2 h
theorem TA (s:Xr) (q:List Yz) (r:List Qj):Zo s q r=sel s.2.1 (λf=>f.1) λf=>U3 q f r:=by
 unfold Zo;rw[Cd (f:=Ap q r) (p:=λf=>U3 q f r) (g:=λf=>f.1) (λ_ _ _=>rfl)];rfl
theorem QR {d:List Yc} {L:List Int} (h:Qq d=(L,true)):Qk d=true/\L.length=d.length/\Sat (Jq d) d.length L/\∀j,0<=nth L j:=by
 unfold Qq at h;cases hv:Qk d with
 | false=>rw[hv] at h;simp at h
 | true=>
   rw[hv] at h;simp only[yD,cond_false] at h;have h5:=Ub hv;have hw:=L7 (d:=d) (f:=Hc d) (e:=Hd) (F:=Wo d) (λ_ _ _=>rfl) (λ_ _=>rfl) (λ_=>rfl) (by omega) (d.length*d.length+3) (zF d.length 0) true (B4 _).1 (B4 _).2
   have hsome:(QG (Jq d) d.length d.length (d.length*d.length+3) (true,zF d.length 0)).isSome=true:=by
    have:=Ey d h5;rw[zN,hw,yL] at this;exact this
   obtain ⟨r,hr⟩:=yE.1 hsome;unfold N1 at h;rw[zN,hw,hr] at h;have hw':∀i e,e∈Jq d i->e.2<=1/\e.1<d.length:=λi e he=>⟨(L6 d i e he).1,(L6 d i e he).2.1⟩
   obtain ⟨h1,_⟩:=QI hw' _ 0 true r (λe=>by cases e) hr;cases r with
   | none=>simp[Qkr,Out.on] at h
   | some M=>
     have e:M=L:=by simpa [Qkr,Out.on] using h
     subst e;obtain ⟨hrest,hM⟩:=h1 M rfl;rw[hM];exact ⟨rfl,Un _ _ _,QH (Un _ _ _) hrest,λj=>Cf _ _ j _⟩
theorem Qc6 {d:List Yc} {L:List Int} (h:Qq d=(L,true)):∀j,nth L j<=(d.length:Int):=by
 obtain ⟨hv,hlen,_,_⟩:=QR h;have h5:=Ub hv;unfold Qq at h;rw[hv] at h;simp only[yD,cond_false] at h;have hw:=L7 (d:=d) (f:=Hc d) (e:=Hd) (F:=Wo d) (λ_ _ _=>rfl) (λ_ _=>rfl) (λ_=>rfl) (by omega) (d.length*d.length+3) (zF d.length 0) true (B4 _).1 (B4 _).2
 have hsome:(QG (Jq d) d.length d.length (d.length*d.length+3) (true,zF d.length 0)).isSome=true:=by
  have:=Ey d h5;rw[zN,hw,yL] at this;exact this
 obtain ⟨r,hr⟩:=yE.1 hsome;unfold N1 at h;rw[zN,hw,hr] at h;have hw':∀i e,e∈Jq d i->e.2<=1/\e.1<d.length:=λi e he=>⟨(L6 d i e he).1,(L6 d i e he).2.1⟩
 obtain ⟨h1,_⟩:=QI hw' _ 0 true r (λe=>by cases e) hr;cases r with
 | none=>simp[Qkr,Out.on] at h
 | some M=>
   have e:M=L:=by simpa [Qkr,Out.on] using h
   subst e;obtain ⟨hrest,hM⟩:=h1 M rfl;intro j;by_cases hj:j<d.length
   . rw[hM];exact Int.le_of_lt (MM hw' hrest j hj)
   have:nth M j=0:=Te (by omega);omega
theorem G8 {d:List Yc} {w:Int} {nm:ByteArray}:∀{l:List ByteArray},nm∈l->0<=Qz d nm->(zH (Qz d nm),w)∈Vf d w l
 | x::l,h,h0=>by
   simp only[Vf];rcases zP.1 h with rfl | h
   . rw[if_pos h0];exact zM ..
   split
   . exact zJ _ (G8 h h0)
   exact G8 h h0
theorem TB {d:List Yc} {L:List Int} (h:Qq d=(L,true)) {i:Nat} (hi:i<d.length) {nm:ByteArray} (hn:nm∈Yh (nth d i).2) (h0:0<=Qz d nm):nth L (zH (Qz d nm))<nth L i:=by
 obtain ⟨_,_,hs,_⟩:=QR h
 have hm:(zH (Qz d nm),(1:Int))∈Jq d i:=by
  unfold Jq;rw[if_pos hi];exact yM _ (G8 hn h0)
 have:=(Ce.1 (hs i hi)).2 _ hm;simp only at this;omega
theorem Qc7 (nm:ByteArray):∀(d:List Yc) (o:List Qj) (k:Nat),o.map (·.1)=d.map (·.1)->
 (X7 (X3 nm) Yy d k ()= .brk ()/\X7 (Ah nm) Br o k ()= .brk ())\/
 ∃i:Nat,i<d.length/\X7 (X3 nm) Yy d k ()= .ret (((k+i:Nat)):Int)/\X7 (Ah nm) Br o k ()= .ret (nth o i).2
 | [], [],_,_=> .inl ⟨rfl,rfl⟩
 | [],_::_,_,h=>by simp at h
 | _::_, [],_,h=>by simp at h
 | a ::d,b::o,k,h=>by
   simp only[List.map_cons,List.cons.injEq] at h;obtain ⟨h1,h2⟩:=h;simp only[X7,X3,Ah,Ci,h1];cases (a.1.toList==nm.toList) with
   | true=>exact .inr ⟨0,by simp,rfl,rfl⟩
   | false=>
     simp only[cond_false];rcases Qc7 nm d o (k+1) h2 with h | ⟨i,hi,h3,h4⟩
     . exact .inl h
     exact .inr ⟨i+1,by simpa using hi,by rw[h3,show k+1+i=k+(i+1) by omega],h4⟩
theorem WC {d:List Yc} {o:List Qj} (h:o.map (·.1)=d.map (·.1)) (nm:ByteArray):(Qz d nm<0/\Xl o nm= [])\/(0<=Qz d nm/\zH (Qz d nm)<d.length/\Xl o nm=(nth o (zH (Qz d nm))).2):=by
 unfold Qz Ji Xl;rcases Qc7 nm d o 0 h with ⟨h1,h2⟩ | ⟨i,hi,h1,h2⟩
 . rw[h1,h2];refine .inl ⟨?_, ?_⟩
   . show (-1:Int)<0;omega
   rfl
 rw[h1,h2];simp only[Out.on,zV,zN];exact .inr ⟨by omega,hi,trivial⟩
abbrev DP (d:List Yc) (k:Nat) (o:List Qj) (f:Xx):Bool:=U3 (nth d k).2 f o
theorem Qj3 {d:List Yc} {L:List Int} (h:Qq d=(L,true)) (fs:List Xx) {act:Nat->Bool} {level:Int} (ha:∀k,act k=true->nth L k=level):Qgf fs (DP d) act (d.map (·.1)):=by
 intro a b hna hnb hle k hk hact f _ hm;rw[zK] at hk;refine GH (⟨λnm x hx=> ?_,λnm hn=> ?_⟩:Seen (nth d k).2 a b) f hm
 . rcases WC hna nm with ⟨h1,h2⟩ | ⟨h1,h2,h3⟩
   . rw[h2] at hx;simp at hx
   rcases WC hnb nm with ⟨g1,_⟩ | ⟨_,_,g3⟩
   . omega
   rw[h3] at hx;rw[g3];exact (hle _).1 x hx
 rcases WC hna nm with ⟨h1,h2⟩ | ⟨h1,h2,h3⟩
 . rcases WC hnb nm with ⟨_,g2⟩ | ⟨g1,_,_⟩
   . rw[h2,g2]
   omega
 rcases WC hnb nm with ⟨g1,_⟩ | ⟨_,_,g3⟩
 . omega
 rw[h3,g3];refine (hle _).2 ?_;have hlt:=TB h hk hn h1;cases hp:act (zH (Qz d nm)) with
 | false=>rfl
 | true=>have:=ha _ hp;have:=ha _ hact;omega
structure EvS (d:List Yc) (L:List Int) (on:Nat->Bool) (fs:List Xx) (k:Int) (o:List Qj):Prop where
 names:o.map (·.1)=d.map (·.1)
 none:∀j,k<=nth L j->on j=true->(nth o j).2= []
 some_:∀j,j<d.length->on j=true->∃p:Xx->Bool,(nth o j).2=sel fs (λf=>f.1) p
def GI (L:List Int) (on:Nat->Bool) (k:Int) (j:Nat):Bool:=(nth L j==k)&&on j
theorem Qc8 {d:List Yc} {L:List Int} {on:Nat->Bool} {fs:List Xx} {k:Int} {o:List Qj} (h:EvS d L on fs k o):StateC fs (λf:Xx=>f.1) (DP d) (GI L on k) (d.map (·.1)) o o:=
 ⟨h.names,λj _ hj=>⟨λ_=>false,by
  unfold GI at hj;simp only[xD,beq_iff_eq] at hj;rw[h.none j (by omega) hj.2];simp[sel],λf _ hf=>by cases hf⟩,λ_ _=>rfl⟩
theorem Qgm {d:List Yc} {L:List Int} {on:Nat->Bool} {k:Int} {o o':List Qj} {fs:List Xx} (h:EvS d L on fs k o) (h':StateC fs (λf:Xx=>f.1) (DP d) (GI L on k) (d.map (·.1)) o o'):EvS d L on fs (k+1) o':=
 ⟨h'.names,λj hj hon=>by
  rw[h'.rest j (by unfold GI;rw[Bool.and_eq_false_iff];exact .inl (beq_eq_false_iff_ne.2 (by omega)))];exact h.none j (by omega) hon,λj hj hon=>by
  cases ha:GI L on k j with
  | false=>rw[h'.rest j ha];exact h.some_ j hj hon
  | true=>
    have hlen:o'.length=d.length:=by have:=congrArg zD h'.names;simpa using this
    obtain ⟨p,hp,_⟩:=h'.good j (by omega) ha;exact ⟨p,hp⟩⟩
theorem Bx {d:List Yc} {L:List Int} {on:Nat->Bool} {fs:List Xx} {k:Int} {o:List Qj} (h:EvS d L on fs k o):zD o=zD d:=by have:=congrArg zD h.names;simpa using this
theorem JT (a b:List Int):Kp a b=decide (a=b):=by
 by_cases h:a.length=b.length
 . exact Qcz a b h
 have hb:((a.length:Int) !=(b.length:Int))=true:=by simpa using λe:(a.length:Int)=(b.length:Int)=>h (by omega)
 unfold Kp;rw[hb,decide_eq_false (λe=>h (congrArg zD e))];rfl
def Qc9 (s:Xr) (d:List Yc) (L:List Int) (on:Nat->Bool) (lv:Int) {R T:Type} (f:Nat->Yc->List Qj×Bool->Rd R (List Qj×Bool) T):Prop:=
 ∀k a o c,d[k]? =some a->f k a (o,c)=bif GI L on lv k then (bif !(decide (Zo s a.2 o=(nth o k).2)) then .next (zE o k ((nth o k).1,Zo s a.2 o),true) else .next (o,c)) else .next (o,c)
theorem YL {R:Type} {s:Xr} {d:List Yc} {L:List Int} {on:Nat->Bool} {lv:Int} {f:Nat->Yc->List Qj×Bool->Rd R (List Qj×Bool) (List Qj×Bool)} {e:Nat->List Qj×Bool->List Qj×Bool}
 (hf:Qc9 s d L on lv f) (he:∀k s,e k s=s):∀(l:List Yc) (k:Nat) (o:List Qj) (c:Bool),d.drop k=l->X7 f e l k (o,c)= .brk (DM s.2.1 (λf:Xx=>f.1) (DP d) (GI L on lv) (yB k l.length) (o,c))
 | [],k,o,c,_=>by simp[X7,DM,he]
 | a ::l,k,o,c,hl=>by
   have hk:d[k]? =some a:=by
    have:=congrArg (·[0]?) hl;simpa using this
   have ha:nth d k=a:=O9 hk;have hrest:d.drop (k+1)=l:=by rw[←xL,hl];rfl
   have hp:DM s.2.1 (λf:Xx=>f.1) (DP d) (GI L on lv) (yB k (a::l).length) (o,c)=DM s.2.1 (λf:Xx=>f.1) (DP d) (GI L on lv) (yB (k+1) l.length) (GF s.2.1 (λf:Xx=>f.1) (DP d) (GI L on lv) (o,c) k):=by
    rw[zL,xC];rfl
   have hsel:sel s.2.1 (λf:Xx=>f.1) (DP d k o)=Zo s a.2 o:=by rw[TA,←ha]
   rw[hp];simp only[X7,hf k a o c hk];unfold GF;cases GI L on lv k with
   | false=>simp only[cond_false];exact YL hf he l (k+1) o c hrest
   | true=>
     simp only[cond_true,hsel];by_cases hq:Zo s a.2 o=(nth o k).2
     . rw[decide_eq_true hq,if_pos hq];exact YL hf he l (k+1) o c hrest
     rw[decide_eq_false hq,if_neg hq];exact YL hf he l (k+1) _ true hrest
theorem Qh6 {R':Type} {s:Xr} {d:List Yc} {L:List Int} {on:Nat->Bool} {lv:Int} {f:Nat->Yc->List Qj×Bool->Rd (Rd R' (List Qj×Int×Bool) (List Qj×Int)) (List Qj×Bool) (List Qj×Bool)} {e:Nat->List Qj×Bool->List Qj×Bool} {F:List Qj×Int×Bool->Rd R' (List Qj×Int×Bool) (List Qj×Int)}
 (hf:Qc9 s d L on lv f) (he:∀k s,e k s=s) (hF:∀x,F x=bif x.2.2 then (Out.on (X7 f e d 0 (x.1,false)) λy=> .next (y.1,IntKind.i64.wrap (x.2.1+1),y.2)) else .brk (x.1,x.2.1))
 (hS:Qq d=(L,true)) {o:List Qj} (h:EvS d L on s.2.1 lv o) (p:Int):
 ∃o' p',whl F (zD d*zD s.2.1+2) (o,p,true)=some (.brk (o',p'))/\EvS d L on s.2.1 (lv+1) o':=by
 have hlen:o.length=d.length:=by have:=congrArg zD h.names;simpa using this
 have hroom:=Qc2 s.2.1.length (GI L on lv) o 0;rw[hlen] at hroom
 obtain ⟨s',h1,hc,t,h2,h3⟩:=Qml (fs:=s.2.1) (idOf:=λf:Xx=>f.1) (m:=DP d) (act:=GI L on lv) (nm:=d.map (·.1)) (F:=F) (out:=λx=>x.1) (ch:=λx=>x.2.2) (n:=d.length) (by simp)
  (λx hx=>⟨_,by rw[hF,hx,cond_true,YL hf he d 0 x.1 false rfl];rfl,by rw[yQ]⟩)
  (λx hx=>⟨_,by rw[hF,hx,cond_false]⟩) (Qj3 hS s.2.1 λk hk=>by unfold GI at hk;simp only[xD,beq_iff_eq] at hk;exact hk.1) (o:=o) (zD d*zD s.2.1+2) (o,p,true) (Qc8 h) (by simp only[cond_true];omega)
 have hc':s'.2.2=false:=hc;have hb:F s'= .brk (s'.1,s'.2.1):=by rw[hF,hc'];rfl
 rw[hb] at h2;cases h2
 exact ⟨s'.1,s'.2.1,h3,Qgm h h1⟩
theorem R8 {R T:Type} {d:List Yc} {L:List Int} {on:Nat->Bool} {fs:List Xx} {g:Yc->List Int} {f:Nat->Yc->List Qj->Rd R (List Qj) T} {e:Nat->List Qj->T} (hf:∀k a s,f k a s= .next (s++ [(a.1,g a)])) (hg:∀j,j<d.length->on j=true->g (nth d j)= []):
 X7 f e d 0 []= .brk (e d.length (d.map λa=>(a.1,g a)))/\EvS d L on fs 0 (d.map λa=>(a.1,g a)):=by
 refine ⟨by rw[A7 (g:=λa=>((a.1,g a):Qj)) hf];simp, ?_,λj _ hj=> ?_,λj hj hon=> ?_⟩
 . rw[List.map_map];rfl
 . by_cases hjl:j<d.length
   . have:nth (d.map λa=>((a.1,g a):Qj)) j=((nth d j).1,g (nth d j)):=by simp[nth,zT,hjl]
     rw[this];exact hg j hjl hj
   have:nth (d.map λa=>((a.1,g a):Qj)) j=default:=by simp[nth,zT,hjl]
   rw[this];rfl
 have:nth (d.map λa=>((a.1,g a):Qj)) j=((nth d j).1,g (nth d j)):=by simp[nth,zT,hj]
 exact ⟨λ_=>false,by rw[this,hg j hj hon];simp[sel]⟩
theorem Ez {d:List Yc} (h:((Qq d)).2=true):zD ((Qq d)).1=zD d/\zD d<=5/\∀x,x∈((Qq d)).1->0<=x/\x<=5:=by
 have hS:Qq d=((Qq d).1,true):=Prod.ext rfl h;obtain ⟨hv,hlen,hs,h0⟩:=QR hS;have h5:=Ub hv;refine ⟨hlen,h5,λx hx=> ?_⟩;obtain ⟨i,hi,rfl⟩:=VM hx;refine ⟨h0 i, ?_⟩;have hb:=Qc6 hS i;omega
end
end Go.Proofs.YtnnhlokdfkajnaaGreat
