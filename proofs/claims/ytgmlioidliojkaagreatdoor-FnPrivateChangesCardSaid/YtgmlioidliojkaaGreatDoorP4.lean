/- Texts of this proof, put together by a program: Nga, Ngb, Zd, Sh, Ts, Dpa, Dpb, Dpc, Dpd, Sta, Stb, Stc, Stg, Sth, Std, Ste, Isa, Isb, Ckc, Slb, Ev, Ex, Ey. -/
import Derived.Test.YtgmlioidliojkaaGreatDoorP3
import Derived.KernelRfl
import Derived.Sort.EncStr
import Derived.Sort.Grow
import Derived.Lib.SlicesCompact
import Derived.Sort.Walk0
import Derived.Shelf.Small.Bits
import Derived.Shelf.Strconv.Itoa0
import Derived.Shelf.Strconv.Itoa1
import Derived.Shelf.LaysM
import Derived.Shelf.Strconv.Itoa2
import Derived.Shelf.Strconv.Itoa3
import Derived.Shelf.Sort.Plain
import Derived.Shelf.Slices.Turned
import Derived.Shelf.Slices.CompactS
import Derived.Shelf.Slices.In.SortNone
import Derived.Ground.SlgnProg
import Derived.Shelf.SlicesE.Equal
import Derived.Shelf.SlicesE.Compact
import Derived.Ground.SlgfProg
import Derived.Shelf.SlicesE.IndexFunc
import Derived.Shelf.SlicesE.DeleteFunc
import Derived.Test.YtgmlioidliojkaaGreatDoorProg
set_option linter.unusedVariables false
set_option linter.unusedSimpArgs false
namespace Go.Proofs.YtgmlioidliojkaaGreatDoor
open _root_.And renaming intro → yM
open _root_.Array renaming getElem?_toList → zZ, getElem?_eq_getElem → yW, getElem?_append → xF, getElem?_modify → xG
open _root_.Bool renaming false_eq_true → zX, not_true → yC, true_and → yO, or_eq_true → yQ, eq_iff_iff → yT, and_eq_true → xC
open _root_.Classical renaming byContradiction → zR
open _root_.Exists renaming intro → zY
open _root_.Function renaming comp_def → yG
open _root_.Int renaming toNat → zH, toNat_natCast → zM, le_refl → zQ, le_trans → yI, natCast_add → xE
open _root_.List renaming length → zD, set → zE, replicate → zF, length_set → zG, mem_cons_of_mem → zI, length_map → zJ, length_cons → zK, mem_cons_self → zL, range → zN, mem_cons → zO, take → zP, getD → zS, pairwise_cons → zT, mem_map → zV, eq_nil_of_length_eq_zero → zW, range' → yA, drop → yB, mem_filter → yE, mem_range → yH, length_pos_of_mem → yJ, mem_append_right → yL, filter_cons → yN, range_eq_range' → yP, length_nil → yS, getD_eq_getElem?_getD → yV, getElem?_eq_some_iff → yX, getElem?_set → yZ, getElem_mem → xA, range'_succ → xB, mem_append → xD, length_filter_le → xH, length_mergeSort → xI, mem_append_left → xJ, drop_drop → xK, mem_of_getElem? → xL, mergeSort_perm → xM, getElem_of_mem → xN, sum_cons → xO, map → xP
open _root_.Nat renaming zero_add → zU, mul_one → yF, le_trans → yU, le_refl → yY, zero_le → xQ
open _root_.Ne renaming symm → xR
open _root_.Option renaming isSome_iff_exists → yD, isSome_map → yK
open _root_.Option.some renaming inj → yR
section
open Go.RowKit
open GoE (enc wide)
def Jp (q:List Yw) (k0:Nat) (s0:List Bool):Rd (List Bool) (List Bool) (List Bool):=(bif ((nth q (dn ((q.length:Int)-1) k0).toNat).1==(5:Int)) then (.next (zE s0 ((nth q (dn ((q.length:Int)-1) k0).toNat).2.1).toNat ((nth s0 (dn ((q.length:Int)-1) k0).toNat)|| ((nth q (dn ((q.length:Int)-1) k0).toNat).1==(5:Int))))) else (bif ((nth q (dn ((q.length:Int)-1) k0).toNat).1==(6:Int)) then (.next (zE (zE s0 ((nth q (dn ((q.length:Int)-1) k0).toNat).2.1).toNat ((nth s0 (dn ((q.length:Int)-1) k0).toNat)|| ((nth q (dn ((q.length:Int)-1) k0).toNat).1==(5:Int)))) ((nth q (dn ((q.length:Int)-1) k0).toNat).2.2.1).toNat ((nth s0 (dn ((q.length:Int)-1) k0).toNat)|| ((nth q (dn ((q.length:Int)-1) k0).toNat).1==(5:Int))))) else (bif ((nth q (dn ((q.length:Int)-1) k0).toNat).1==(7:Int)) then (.next (zE (zE s0 ((nth q (dn ((q.length:Int)-1) k0).toNat).2.1).toNat ((nth s0 (dn ((q.length:Int)-1) k0).toNat)|| ((nth q (dn ((q.length:Int)-1) k0).toNat).1==(5:Int)))) ((nth q (dn ((q.length:Int)-1) k0).toNat).2.2.1).toNat ((nth s0 (dn ((q.length:Int)-1) k0).toNat)|| ((nth q (dn ((q.length:Int)-1) k0).toNat).1==(5:Int))))) else (.next s0))))
def Aq (_:Nat) (s0:List Bool):(List Bool):=s0
def Yq (q:List Yw):(List Bool):=(bif (!(Xb q)) then [] else (Out.on (Uy (Jp q) Aq (zD q) 0 (zF (q.length:Int).toNat false)) (λy0=>y0)))
theorem YS (q:List Yw):ACalls Tryz.prog 255 [.h q] (.o 0 (Yq q)):=by
 refine en Qb Tryz.func255 λw0 F0 hG=> ?_
 refine sn Qb [0,2] [] p0 <| Qc <| tn Qb [0,2,8] [] (pc 1 (Bm q) p0) <| ck (!(Xb q)) (λh1=> ?_) (λh1=> ?_)
 ·refine tu Qb [(2,.e 0)] [] [] [] p0 <| opn [(false,2,0,true,384000,1)] ?_
  exact Qe <| po0 [] (Q4 h1 (rfl))
 have h1n:(Xb q)=true:=Za h1;refine Qg <| wT 0 0 .sh q (λhw2 hl3=> ?_)
 refine tu Qb [(2,.e 0),(3,.one (.slc (.own true 704) 1 (zF (q.length:Int).toNat [.b false])))] [] [] [] (pl 1 q (px (Ph (lo:=0) (hi:=(q.length:Int)) (n:=1073741824) (⟨by omega,by omega,by omega⟩)) p0)) <| eqn [(3,.o 704 (zF (q.length:Int).toNat false))] [3] [] [] (by rw[show (zF (q.length:Int).toNat [.b false])=(eL (zF (q.length:Int).toNat false)) from Qgg _ false];first | done | kernel_rfl) ?_
 refine Qc <| sn Qb [0,2,3,4] [] (pl 1 q (pe 2 (Jl (IntWalk.i64_in ((q.length:Int)-1) (by omega))) p0)) <| mz [(4,.i ((q.length:Int)-1))] [] [] [] <| Qma (Jp q) Aq (zD q) (zF (q.length:Int).toNat false) (λk0 s0=> [(3,.o 704 s0),(4,.i (dn ((q.length:Int)-1) k0))]) [3,4] (λy0=> [(3,.o 704 y0)]) [0,3,4] (λ_ s0=>zD s0=(q.length:Int).toNat) (λy0=>zD y0=(q.length:Int).toNat) wf0 (by simp) (λk0 s0 hk0 U=> ?_) (λk0 s0 hk0 U=> ?_) (λy0 hD0=> ?_)
 ·have hA0_0:=U.2;have hdn0:=OO ((q.length:Int)-1) k0;refine Qc <| sn Qb [0,2,3,4,16] [] (pe 1 (zB ((dn ((q.length:Int)-1) k0)>=(0:Int))) p0) <| ckT <| Qg <| Qc <| Qv <| Qc <| mz [(16,.b true)] [] [] [] <| jn [(5,.b ((nth s0 (dn ((q.length:Int)-1) k0).toNat)|| ((nth q (dn ((q.length:Int)-1) k0).toNat).1==(5:Int))))] [16] [] [] (nth s0 (dn ((q.length:Int)-1) k0).toNat) (λh4=> ?_) (λh4=> ?_) ?_
  ·refine wT 3 0 (.own true 704) s0 (λhw6 hl7=> ?_);have hx5:=ng s0 (dn ((q.length:Int)-1) k0).toNat;refine rn Qb [0,2,3,4,5] [] (pG 2 (dn ((q.length:Int)-1) k0) hx5 (pt 3 h4 p0)) ?_;exact zA (by rw[h4]<;>kernel_rfl)
  ·refine wT 3 0 (.own true 704) s0 (λhw9 hl10=> ?_);have hx8:=ng s0 (dn ((q.length:Int)-1) k0).toNat;have hx11:=ng q (dn ((q.length:Int)-1) k0).toNat;refine rn Qb [0,2,3,4,5] [] (pG 2 (dn ((q.length:Int)-1) k0) hx8 (pf 3 h4 (pg 7 (dn ((q.length:Int)-1) k0) hx11 p0))) ?_;exact zA (by rw[h4]<;>kernel_rfl)
  have hx12:=ng q (dn ((q.length:Int)-1) k0).toNat;refine sn Qb [0,2,3,4,5,35] [] (pg 2 (dn ((q.length:Int)-1) k0) hx12 p0) <| Qv <| tn Qb [0,2,3,4,5,35,36] [] p0 <| ck ((nth q (dn ((q.length:Int)-1) k0).toNat).1==(5:Int)) (λh13=> ?_) (λh13=> ?_)
  ·have h13k:=Qif h1n (by omega) (by omega) h13;have h13d:=eq_of_beq h13;refine wT 3 0 (.own true 704) s0 (λhw15 hl16=> ?_);have hx14:=ng s0 ((nth q (dn ((q.length:Int)-1) k0).toNat).2.1).toNat;refine qu Qb [(3,.one (.slc (.own true 704) 1 (setRow (eL s0) ((nth q (dn ((q.length:Int)-1) k0).toNat).2.1).toNat 0 [.b ((nth s0 (dn ((q.length:Int)-1) k0).toNat)|| ((nth q (dn ((q.length:Int)-1) k0).toNat).1==(5:Int)))])))] [3,5] [] [] (pg 3 (dn ((q.length:Int)-1) k0) hx12 (pG 7 ((nth q (dn ((q.length:Int)-1) k0).toNat).2.1) hx14 p0)) ?_;refine eqn [(3,.o 704 (zE s0 ((nth q (dn ((q.length:Int)-1) k0).toNat).2.1).toNat ((nth s0 (dn ((q.length:Int)-1) k0).toNat)|| ((nth q (dn ((q.length:Int)-1) k0).toNat).1==(5:Int)))))] [3] [] [] (by rw[Jm (y:=((nth s0 (dn ((q.length:Int)-1) k0).toNat)|| ((nth q (dn ((q.length:Int)-1) k0).toNat).1==(5:Int)))) hx14 rfl]<;>kernel_rfl) ?_;refine rn Qb [0,2,3,4] [] (pe 1 (show .i (IntKind.i64.wrap ((dn ((q.length:Int)-1) k0)-1))= .i (dn ((q.length:Int)-1) (k0+1)) from Jl (show IntKind.i64.wrap ((dn ((q.length:Int)-1) k0)-1)=(dn ((q.length:Int)-1) (k0+1)) from IntWalk.i64_in ((dn ((q.length:Int)-1) k0)-1) (by omega))) p0) ?_;exact xw (zE s0 ((nth q (dn ((q.length:Int)-1) k0).toNat).2.1).toNat ((nth s0 (dn ((q.length:Int)-1) k0).toNat)|| ((nth q (dn ((q.length:Int)-1) k0).toNat).1==(5:Int)))) ⟨V2 hk0 (Q4 h13 (rfl)) U.1,(by first|omega|(simp only[zG];omega))⟩
  have h13d:=Y4 h13;refine Qc <| tu Qb [(35,.i ((nth q (dn ((q.length:Int)-1) k0).toNat).1)),(46,.b ((nth q (dn ((q.length:Int)-1) k0).toNat).1==(6:Int)))] [] [] [] p0 <| ck ((nth q (dn ((q.length:Int)-1) k0).toNat).1==(6:Int)) (λh17=> ?_) (λh17=> ?_)
  ·have h17k:=SP h1n (by omega) (by omega) h17;have h17m:=Qig h1n (by omega) (by omega) h17;have h17d:=eq_of_beq h17;refine Qg <| ckt h17 ?_
   refine wT 3 0 (.own true 704) s0 (λhw19 hl20=> ?_);have hx18:=ng s0 ((nth q (dn ((q.length:Int)-1) k0).toNat).2.1).toNat;have hx21:(zE s0 ((nth q (dn ((q.length:Int)-1) k0).toNat).2.1).toNat ((nth s0 (dn ((q.length:Int)-1) k0).toNat)|| ((nth q (dn ((q.length:Int)-1) k0).toNat).1==(5:Int))))[((nth q (dn ((q.length:Int)-1) k0).toNat).2.2.1).toNat]? =some (nth (zE s0 ((nth q (dn ((q.length:Int)-1) k0).toNat).2.1).toNat ((nth s0 (dn ((q.length:Int)-1) k0).toNat)|| ((nth q (dn ((q.length:Int)-1) k0).toNat).1==(5:Int)))) ((nth q (dn ((q.length:Int)-1) k0).toNat).2.2.1).toNat):=Wg (by first|omega|(simp only[zG];omega));refine rU Qb Zg [(3,.one (.slc (.own true 704) 1 (setRow (setRow (eL s0) ((nth q (dn ((q.length:Int)-1) k0).toNat).2.1).toNat 0 [.b ((nth s0 (dn ((q.length:Int)-1) k0).toNat)|| ((nth q (dn ((q.length:Int)-1) k0).toNat).1==(5:Int)))]) ((nth q (dn ((q.length:Int)-1) k0).toNat).2.2.1).toNat 0 [.b ((nth s0 (dn ((q.length:Int)-1) k0).toNat)|| ((nth q (dn ((q.length:Int)-1) k0).toNat).1==(5:Int)))])))] [3,5,35,46] [] [] (pg 3 (dn ((q.length:Int)-1) k0) hx12 (pg 9 (dn ((q.length:Int)-1) k0) hx12 (pG 14 ((nth q (dn ((q.length:Int)-1) k0).toNat).2.1) hx18 (pR 16 (l:=(setRow (eL s0) ((nth q (dn ((q.length:Int)-1) k0).toNat).2.1).toNat 0 [.b ((nth s0 (dn ((q.length:Int)-1) k0).toNat)|| ((nth q (dn ((q.length:Int)-1) k0).toNat).1==(5:Int)))])) (j:=((nth q (dn ((q.length:Int)-1) k0).toNat).2.2.1)) (r:= [.b (nth (zE s0 ((nth q (dn ((q.length:Int)-1) k0).toNat).2.1).toNat ((nth s0 (dn ((q.length:Int)-1) k0).toNat)|| ((nth q (dn ((q.length:Int)-1) k0).toNat).1==(5:Int)))) ((nth q (dn ((q.length:Int)-1) k0).toNat).2.2.1).toNat)]) (by rw[Jm (y:=((nth s0 (dn ((q.length:Int)-1) k0).toNat)|| ((nth q (dn ((q.length:Int)-1) k0).toNat).1==(5:Int)))) hx18 rfl];exact Qap (by omega) rfl hx21) p0)))) ?_;refine eqn [(3,.o 704 (zE (zE s0 ((nth q (dn ((q.length:Int)-1) k0).toNat).2.1).toNat ((nth s0 (dn ((q.length:Int)-1) k0).toNat)|| ((nth q (dn ((q.length:Int)-1) k0).toNat).1==(5:Int)))) ((nth q (dn ((q.length:Int)-1) k0).toNat).2.2.1).toNat ((nth s0 (dn ((q.length:Int)-1) k0).toNat)|| ((nth q (dn ((q.length:Int)-1) k0).toNat).1==(5:Int)))))] [3] [] [] (by rw[Jm (y:=((nth s0 (dn ((q.length:Int)-1) k0).toNat)|| ((nth q (dn ((q.length:Int)-1) k0).toNat).1==(5:Int)))) hx18 rfl,Jm (y:=((nth s0 (dn ((q.length:Int)-1) k0).toNat)|| ((nth q (dn ((q.length:Int)-1) k0).toNat).1==(5:Int)))) hx21 rfl]<;>kernel_rfl) ?_;refine rn Qb [0,2,3,4] [] (pe 1 (show .i (IntKind.i64.wrap ((dn ((q.length:Int)-1) k0)-1))= .i (dn ((q.length:Int)-1) (k0+1)) from Jl (show IntKind.i64.wrap ((dn ((q.length:Int)-1) k0)-1)=(dn ((q.length:Int)-1) (k0+1)) from IntWalk.i64_in ((dn ((q.length:Int)-1) k0)-1) (by omega))) p0) ?_;exact xw (zE (zE s0 ((nth q (dn ((q.length:Int)-1) k0).toNat).2.1).toNat ((nth s0 (dn ((q.length:Int)-1) k0).toNat)|| ((nth q (dn ((q.length:Int)-1) k0).toNat).1==(5:Int)))) ((nth q (dn ((q.length:Int)-1) k0).toNat).2.2.1).toNat ((nth s0 (dn ((q.length:Int)-1) k0).toNat)|| ((nth q (dn ((q.length:Int)-1) k0).toNat).1==(5:Int)))) ⟨V2 hk0 (Qi h13 (Q4 h17 (rfl))) U.1,(by first|omega|(simp only[zG];omega))⟩
  have h17d:=Y4 h17;refine rn Qb [0,2,3,4,5,46] [] p0 ?_;refine ck ((nth q (dn ((q.length:Int)-1) k0).toNat).1==(7:Int)) (λh22=> ?_) (λh22=> ?_)
  ·have h22k:=Qav h1n (by omega) (by omega) h22;have h22m:=Qj8 h1n (by omega) (by omega) h22;have h22d:=eq_of_beq h22;refine wT 3 0 (.own true 704) s0 (λhw24 hl25=> ?_);have hx23:=ng s0 ((nth q (dn ((q.length:Int)-1) k0).toNat).2.1).toNat;have hx26:(zE s0 ((nth q (dn ((q.length:Int)-1) k0).toNat).2.1).toNat ((nth s0 (dn ((q.length:Int)-1) k0).toNat)|| ((nth q (dn ((q.length:Int)-1) k0).toNat).1==(5:Int))))[((nth q (dn ((q.length:Int)-1) k0).toNat).2.2.1).toNat]? =some (nth (zE s0 ((nth q (dn ((q.length:Int)-1) k0).toNat).2.1).toNat ((nth s0 (dn ((q.length:Int)-1) k0).toNat)|| ((nth q (dn ((q.length:Int)-1) k0).toNat).1==(5:Int)))) ((nth q (dn ((q.length:Int)-1) k0).toNat).2.2.1).toNat):=Wg (by first|omega|(simp only[zG];omega));refine qU Qb Zg [(3,.one (.slc (.own true 704) 1 (setRow (setRow (eL s0) ((nth q (dn ((q.length:Int)-1) k0).toNat).2.1).toNat 0 [.b ((nth s0 (dn ((q.length:Int)-1) k0).toNat)|| ((nth q (dn ((q.length:Int)-1) k0).toNat).1==(5:Int)))]) ((nth q (dn ((q.length:Int)-1) k0).toNat).2.2.1).toNat 0 [.b ((nth s0 (dn ((q.length:Int)-1) k0).toNat)|| ((nth q (dn ((q.length:Int)-1) k0).toNat).1==(5:Int)))])))] [3,5,35,46] [] [] (pg 3 (dn ((q.length:Int)-1) k0) hx12 (pg 9 (dn ((q.length:Int)-1) k0) hx12 (pG 14 ((nth q (dn ((q.length:Int)-1) k0).toNat).2.1) hx23 (pR 16 (l:=(setRow (eL s0) ((nth q (dn ((q.length:Int)-1) k0).toNat).2.1).toNat 0 [.b ((nth s0 (dn ((q.length:Int)-1) k0).toNat)|| ((nth q (dn ((q.length:Int)-1) k0).toNat).1==(5:Int)))])) (j:=((nth q (dn ((q.length:Int)-1) k0).toNat).2.2.1)) (r:= [.b (nth (zE s0 ((nth q (dn ((q.length:Int)-1) k0).toNat).2.1).toNat ((nth s0 (dn ((q.length:Int)-1) k0).toNat)|| ((nth q (dn ((q.length:Int)-1) k0).toNat).1==(5:Int)))) ((nth q (dn ((q.length:Int)-1) k0).toNat).2.2.1).toNat)]) (by rw[Jm (y:=((nth s0 (dn ((q.length:Int)-1) k0).toNat)|| ((nth q (dn ((q.length:Int)-1) k0).toNat).1==(5:Int)))) hx23 rfl];exact Qap (by omega) rfl hx26) p0)))) ?_;refine eqn [(3,.o 704 (zE (zE s0 ((nth q (dn ((q.length:Int)-1) k0).toNat).2.1).toNat ((nth s0 (dn ((q.length:Int)-1) k0).toNat)|| ((nth q (dn ((q.length:Int)-1) k0).toNat).1==(5:Int)))) ((nth q (dn ((q.length:Int)-1) k0).toNat).2.2.1).toNat ((nth s0 (dn ((q.length:Int)-1) k0).toNat)|| ((nth q (dn ((q.length:Int)-1) k0).toNat).1==(5:Int)))))] [3] [] [] (by rw[Jm (y:=((nth s0 (dn ((q.length:Int)-1) k0).toNat)|| ((nth q (dn ((q.length:Int)-1) k0).toNat).1==(5:Int)))) hx23 rfl,Jm (y:=((nth s0 (dn ((q.length:Int)-1) k0).toNat)|| ((nth q (dn ((q.length:Int)-1) k0).toNat).1==(5:Int)))) hx26 rfl]<;>kernel_rfl) ?_;refine rn Qb [0,2,3,4] [] (pe 1 (show .i (IntKind.i64.wrap ((dn ((q.length:Int)-1) k0)-1))= .i (dn ((q.length:Int)-1) (k0+1)) from Jl (show IntKind.i64.wrap ((dn ((q.length:Int)-1) k0)-1)=(dn ((q.length:Int)-1) (k0+1)) from IntWalk.i64_in ((dn ((q.length:Int)-1) k0)-1) (by omega))) p0) ?_;exact xw (zE (zE s0 ((nth q (dn ((q.length:Int)-1) k0).toNat).2.1).toNat ((nth s0 (dn ((q.length:Int)-1) k0).toNat)|| ((nth q (dn ((q.length:Int)-1) k0).toNat).1==(5:Int)))) ((nth q (dn ((q.length:Int)-1) k0).toNat).2.2.1).toNat ((nth s0 (dn ((q.length:Int)-1) k0).toNat)|| ((nth q (dn ((q.length:Int)-1) k0).toNat).1==(5:Int)))) ⟨V2 hk0 (Qi h13 (Qi h17 (Q4 h22 (rfl)))) U.1,(by first|omega|(simp only[zG];omega))⟩
  have h22d:=Y4 h22;refine Qg <| qn Qb [0,2,3,4] [] (pe 1 (show .i (IntKind.i64.wrap ((dn ((q.length:Int)-1) k0)-1))= .i (dn ((q.length:Int)-1) (k0+1)) from Jl (show IntKind.i64.wrap ((dn ((q.length:Int)-1) k0)-1)=(dn ((q.length:Int)-1) (k0+1)) from IntWalk.i64_in ((dn ((q.length:Int)-1) k0)-1) (by omega))) p0) ?_
  exact xw s0 ⟨V2 hk0 (Qi h13 (Qi h17 (Qi h22 (rfl)))) U.1,(by first|omega|(simp only[zG];omega))⟩
 ·have hA0_0:=U.2;have hdn0:=OO ((q.length:Int)-1) k0;exact Qc <| sn Qb [0,2,3,4,16] [] (pe 1 (zC ((dn ((q.length:Int)-1) k0)>=(0:Int))) p0) <| ckF <| Q3 <| xw s0 ⟨Dc hk0 (rfl) U.1,by first|omega|(simp only[zG];omega)⟩
 have hD0_0:=hD0.2;exact sn Qb [2] [] p0 <| Qe <| po0 [] (Qi h1 (Wk hD0.1 (rfl)))
def Ar (q:List Yw) (k0:Nat) (s0:List Bool):Rd (List Bool) (List Bool) (List Bool):=(bif ((nth q (dn ((q.length:Int)-1) k0).toNat).1==(5:Int)) then (bif (((nth q (dn ((q.length:Int)-1) k0).toNat).1==(6:Int))|| ((nth q (dn ((q.length:Int)-1) k0).toNat).1==(7:Int))) then (.next (zE (zE (zE s0 ((nth q (dn ((q.length:Int)-1) k0).toNat).2.1).toNat true) ((nth q (dn ((q.length:Int)-1) k0).toNat).2.1).toNat (nth (zE s0 ((nth q (dn ((q.length:Int)-1) k0).toNat).2.1).toNat true) (dn ((q.length:Int)-1) k0).toNat)) ((nth q (dn ((q.length:Int)-1) k0).toNat).2.2.1).toNat (nth (zE (zE s0 ((nth q (dn ((q.length:Int)-1) k0).toNat).2.1).toNat true) ((nth q (dn ((q.length:Int)-1) k0).toNat).2.1).toNat (nth (zE s0 ((nth q (dn ((q.length:Int)-1) k0).toNat).2.1).toNat true) (dn ((q.length:Int)-1) k0).toNat)) (dn ((q.length:Int)-1) k0).toNat))) else (.next (zE s0 ((nth q (dn ((q.length:Int)-1) k0).toNat).2.1).toNat true))) else (bif (((nth q (dn ((q.length:Int)-1) k0).toNat).1==(6:Int))|| ((nth q (dn ((q.length:Int)-1) k0).toNat).1==(7:Int))) then (.next (zE (zE s0 ((nth q (dn ((q.length:Int)-1) k0).toNat).2.1).toNat (nth s0 (dn ((q.length:Int)-1) k0).toNat)) ((nth q (dn ((q.length:Int)-1) k0).toNat).2.2.1).toNat (nth (zE s0 ((nth q (dn ((q.length:Int)-1) k0).toNat).2.1).toNat (nth s0 (dn ((q.length:Int)-1) k0).toNat)) (dn ((q.length:Int)-1) k0).toNat))) else (.next s0)))
def Fz (_:Nat) (s0:List Bool):(List Bool):=s0
def Ke (q:List Yw):(List Bool):=(bif (!(Z5 q)) then [] else (Out.on (Uy (Ar q) Fz (zD q) 0 (zF (q.length:Int).toNat false)) (λy0=>y0)))
theorem YT (q:List Yw):ACalls Tryz.prog 265 [.h q] (.o 0 (Ke q)):=by
 refine en Qb Tryz.func265 λw0 F0 hG=> ?_
 refine sn Qb [0,2] [] p0 <| Qc <| tn Qb [0,2,9] [] (pc 1 (Hm q) p0) <| ck (!(Z5 q)) (λh1=> ?_) (λh1=> ?_)
 ·exact tu Qb [(2,.one (.slc (.own true 640) 1 []))] [] [] [] p0 <| Qe <| po0 [] (Q4 h1 (rfl))
 have h1n:(Z5 q)=true:=Za h1;refine Qg <| wT 0 0 .sh q (λhw2 hl3=> ?_)
 refine tu Qb [(2,.e 0),(3,.one (.slc (.own true 832) 1 (zF (q.length:Int).toNat [.b false])))] [] [] [] (pl 1 q (px (Ph (lo:=0) (hi:=(q.length:Int)) (n:=1073741824) (⟨by omega,by omega,by omega⟩)) p0)) <| eqn [(3,.o 832 (zF (q.length:Int).toNat false))] [3] [] [] (by rw[show (zF (q.length:Int).toNat [.b false])=(eL (zF (q.length:Int).toNat false)) from Qgg _ false];first | done | kernel_rfl) ?_
 refine Qc <| sn Qb [0,2,3,4] [] (pl 1 q (pe 2 (Jl (IntWalk.i64_in ((q.length:Int)-1) (by omega))) p0)) <| mz [(4,.i ((q.length:Int)-1))] [] [] [] <| Qma (Ar q) Fz (zD q) (zF (q.length:Int).toNat false) (λk0 s0=> [(3,.o 832 s0),(4,.i (dn ((q.length:Int)-1) k0))]) [3,4] (λy0=> [(3,.o 832 y0)]) [0,3,4] (λ_ s0=>zD s0=(q.length:Int).toNat) (λy0=>zD y0=(q.length:Int).toNat) wf0 (by simp) (λk0 s0 hk0 U=> ?_) (λk0 s0 hk0 U=> ?_) (λy0 hD0=> ?_)
 ·have hA0_0:=U.2;have hdn0:=OO ((q.length:Int)-1) k0;refine Qc <| sn Qb [0,2,3,4,18] [] (pe 1 (zB ((dn ((q.length:Int)-1) k0)>=(0:Int))) p0) <| ckT <| Qg <| Qc <| Qv ?_
  have hx4:=ng q (dn ((q.length:Int)-1) k0).toNat;refine tn Qb [0,2,3,4,5] [5] (pg 2 (dn ((q.length:Int)-1) k0) hx4 p0) <| Qc <| mz [(5,.p 5 0)] [] [(5, [.i ((nth q (dn ((q.length:Int)-1) k0).toNat).1),.i ((nth q (dn ((q.length:Int)-1) k0).toNat).2.1),.i ((nth q (dn ((q.length:Int)-1) k0).toNat).2.2.1),.s ((nth q (dn ((q.length:Int)-1) k0).toNat).2.2.2.1),.i ((nth q (dn ((q.length:Int)-1) k0).toNat).2.2.2.2.1),.i ((nth q (dn ((q.length:Int)-1) k0).toNat).2.2.2.2.2.1),.s ((nth q (dn ((q.length:Int)-1) k0).toNat).2.2.2.2.2.2)])] [] <| jn [(6,.b (((nth q (dn ((q.length:Int)-1) k0).toNat).1==(6:Int))|| ((nth q (dn ((q.length:Int)-1) k0).toNat).1==(7:Int))))] [] [] [] ((nth q (dn ((q.length:Int)-1) k0).toNat).1==(6:Int)) (λh5=> ?_) (λh5=> ?_) ?_
  ·have h5k:=SP (XB h1n) (by omega) (by omega) h5;have h5m:=Qig (XB h1n) (by omega) (by omega) h5;refine rn Qb [0,2,3,4,5,6] [5] (pt 2 h5 p0) ?_;exact zA (by rw[h5]<;>kernel_rfl)
  ·refine rn Qb [0,2,3,4,5,6] [5] (pf 2 h5 p0) ?_;exact zA (by rw[h5]<;>kernel_rfl)
  refine Qc <| sn Qb [0,2,3,4,5,6,35] [5] p0 <| ck ((nth q (dn ((q.length:Int)-1) k0).toNat).1==(5:Int)) (λh6=> ?_) (λh6=> ?_)
  ·have h6k:=Qif (XB h1n) (by omega) (by omega) h6;have h6d:=eq_of_beq h6;refine wT 3 0 (.own true 832) s0 (λhw8 hl9=> ?_);have hx7:=ng s0 ((nth q (dn ((q.length:Int)-1) k0).toNat).2.1).toNat;refine qu Qb [(3,.one (.slc (.own true 832) 1 (setRow (eL s0) ((nth q (dn ((q.length:Int)-1) k0).toNat).2.1).toNat 0 [.b true])))] [3] [] [] (pG 3 ((nth q (dn ((q.length:Int)-1) k0).toNat).2.1) hx7 p0) ?_;refine eqn [(3,.o 832 (zE s0 ((nth q (dn ((q.length:Int)-1) k0).toNat).2.1).toNat true))] [3] [] [] (by rw[Jm (y:=true) hx7 rfl]<;>kernel_rfl) ?_;refine sn Qb [0,2,3,4,5,40] [5] p0 <| ck (((nth q (dn ((q.length:Int)-1) k0).toNat).1==(6:Int))|| ((nth q (dn ((q.length:Int)-1) k0).toNat).1==(7:Int))) (λh10=> ?_) (λh10=> ?_)
   ·have h10k:=Qih (XB h1n) (by omega) (by omega) h10;refine wT 3 0 (.own true 832) (zE s0 ((nth q (dn ((q.length:Int)-1) k0).toNat).2.1).toNat true) (λhw12 hl13=> ?_);have hx11:=ng (zE s0 ((nth q (dn ((q.length:Int)-1) k0).toNat).2.1).toNat true) (dn ((q.length:Int)-1) k0).toNat (by first|omega|(simp only[zG];omega));have hx14:=ng (zE s0 ((nth q (dn ((q.length:Int)-1) k0).toNat).2.1).toNat true) ((nth q (dn ((q.length:Int)-1) k0).toNat).2.1).toNat (by first|omega|(simp only[zG];omega));refine tU Qb Zg [(3,.one (.slc (.own true 832) 1 (setRow (eL (zE s0 ((nth q (dn ((q.length:Int)-1) k0).toNat).2.1).toNat true)) ((nth q (dn ((q.length:Int)-1) k0).toNat).2.1).toNat 0 [.b (nth (zE s0 ((nth q (dn ((q.length:Int)-1) k0).toNat).2.1).toNat true) (dn ((q.length:Int)-1) k0).toNat)])))] [3,6] [] [] (pG 5 (dn ((q.length:Int)-1) k0) hx11 (pG 7 ((nth q (dn ((q.length:Int)-1) k0).toNat).2.1) hx14 p0)) <| eqn [(3,.o 832 (zE (zE s0 ((nth q (dn ((q.length:Int)-1) k0).toNat).2.1).toNat true) ((nth q (dn ((q.length:Int)-1) k0).toNat).2.1).toNat (nth (zE s0 ((nth q (dn ((q.length:Int)-1) k0).toNat).2.1).toNat true) (dn ((q.length:Int)-1) k0).toNat)))] [3] [] [] (by rw[Jm (y:=(nth (zE s0 ((nth q (dn ((q.length:Int)-1) k0).toNat).2.1).toNat true) (dn ((q.length:Int)-1) k0).toNat)) hx14 rfl]<;>kernel_rfl) ?_
    refine wT 3 0 (.own true 832) (zE (zE s0 ((nth q (dn ((q.length:Int)-1) k0).toNat).2.1).toNat true) ((nth q (dn ((q.length:Int)-1) k0).toNat).2.1).toNat (nth (zE s0 ((nth q (dn ((q.length:Int)-1) k0).toNat).2.1).toNat true) (dn ((q.length:Int)-1) k0).toNat)) (λhw16 hl17=> ?_);have hx15:=ng (zE (zE s0 ((nth q (dn ((q.length:Int)-1) k0).toNat).2.1).toNat true) ((nth q (dn ((q.length:Int)-1) k0).toNat).2.1).toNat (nth (zE s0 ((nth q (dn ((q.length:Int)-1) k0).toNat).2.1).toNat true) (dn ((q.length:Int)-1) k0).toNat)) (dn ((q.length:Int)-1) k0).toNat (by first|omega|(simp only[zG];omega));have hx18:=ng (zE (zE s0 ((nth q (dn ((q.length:Int)-1) k0).toNat).2.1).toNat true) ((nth q (dn ((q.length:Int)-1) k0).toNat).2.1).toNat (nth (zE s0 ((nth q (dn ((q.length:Int)-1) k0).toNat).2.1).toNat true) (dn ((q.length:Int)-1) k0).toNat)) ((nth q (dn ((q.length:Int)-1) k0).toNat).2.2.1).toNat (by first|omega|(simp only[zG];omega));refine rU Qb Zg [(3,.one (.slc (.own true 832) 1 (setRow (eL (zE (zE s0 ((nth q (dn ((q.length:Int)-1) k0).toNat).2.1).toNat true) ((nth q (dn ((q.length:Int)-1) k0).toNat).2.1).toNat (nth (zE s0 ((nth q (dn ((q.length:Int)-1) k0).toNat).2.1).toNat true) (dn ((q.length:Int)-1) k0).toNat))) ((nth q (dn ((q.length:Int)-1) k0).toNat).2.2.1).toNat 0 [.b (nth (zE (zE s0 ((nth q (dn ((q.length:Int)-1) k0).toNat).2.1).toNat true) ((nth q (dn ((q.length:Int)-1) k0).toNat).2.1).toNat (nth (zE s0 ((nth q (dn ((q.length:Int)-1) k0).toNat).2.1).toNat true) (dn ((q.length:Int)-1) k0).toNat)) (dn ((q.length:Int)-1) k0).toNat)])))] [3,5] [] [5] (pG 5 (dn ((q.length:Int)-1) k0) hx15 (pG 7 ((nth q (dn ((q.length:Int)-1) k0).toNat).2.2.1) hx18 p0)) ?_;refine eqn [(3,.o 832 (zE (zE (zE s0 ((nth q (dn ((q.length:Int)-1) k0).toNat).2.1).toNat true) ((nth q (dn ((q.length:Int)-1) k0).toNat).2.1).toNat (nth (zE s0 ((nth q (dn ((q.length:Int)-1) k0).toNat).2.1).toNat true) (dn ((q.length:Int)-1) k0).toNat)) ((nth q (dn ((q.length:Int)-1) k0).toNat).2.2.1).toNat (nth (zE (zE s0 ((nth q (dn ((q.length:Int)-1) k0).toNat).2.1).toNat true) ((nth q (dn ((q.length:Int)-1) k0).toNat).2.1).toNat (nth (zE s0 ((nth q (dn ((q.length:Int)-1) k0).toNat).2.1).toNat true) (dn ((q.length:Int)-1) k0).toNat)) (dn ((q.length:Int)-1) k0).toNat)))] [3] [] [] (by rw[Jm (y:=(nth (zE (zE s0 ((nth q (dn ((q.length:Int)-1) k0).toNat).2.1).toNat true) ((nth q (dn ((q.length:Int)-1) k0).toNat).2.1).toNat (nth (zE s0 ((nth q (dn ((q.length:Int)-1) k0).toNat).2.1).toNat true) (dn ((q.length:Int)-1) k0).toNat)) (dn ((q.length:Int)-1) k0).toNat)) hx18 rfl]<;>kernel_rfl) ?_;refine rn Qb [0,2,3,4] [] (pe 1 (show .i (IntKind.i64.wrap ((dn ((q.length:Int)-1) k0)-1))= .i (dn ((q.length:Int)-1) (k0+1)) from Jl (show IntKind.i64.wrap ((dn ((q.length:Int)-1) k0)-1)=(dn ((q.length:Int)-1) (k0+1)) from IntWalk.i64_in ((dn ((q.length:Int)-1) k0)-1) (by omega))) p0) ?_;exact xw (zE (zE (zE s0 ((nth q (dn ((q.length:Int)-1) k0).toNat).2.1).toNat true) ((nth q (dn ((q.length:Int)-1) k0).toNat).2.1).toNat (nth (zE s0 ((nth q (dn ((q.length:Int)-1) k0).toNat).2.1).toNat true) (dn ((q.length:Int)-1) k0).toNat)) ((nth q (dn ((q.length:Int)-1) k0).toNat).2.2.1).toNat (nth (zE (zE s0 ((nth q (dn ((q.length:Int)-1) k0).toNat).2.1).toNat true) ((nth q (dn ((q.length:Int)-1) k0).toNat).2.1).toNat (nth (zE s0 ((nth q (dn ((q.length:Int)-1) k0).toNat).2.1).toNat true) (dn ((q.length:Int)-1) k0).toNat)) (dn ((q.length:Int)-1) k0).toNat)) ⟨V2 hk0 (Q4 h6 (Q4 h10 (rfl))) U.1,(by first|omega|(simp only[zG];omega))⟩
   have h10l:(((nth q (dn ((q.length:Int)-1) k0).toNat).1==(6:Int)))=false:=Re h10;have h10ld:=Y4 h10l;have h10r:(((nth q (dn ((q.length:Int)-1) k0).toNat).1==(7:Int)))=false:=Pz h10;have h10rd:=Y4 h10r;refine Qg <| qn Qb [0,2,3,4] [] (pe 1 (show .i (IntKind.i64.wrap ((dn ((q.length:Int)-1) k0)-1))= .i (dn ((q.length:Int)-1) (k0+1)) from Jl (show IntKind.i64.wrap ((dn ((q.length:Int)-1) k0)-1)=(dn ((q.length:Int)-1) (k0+1)) from IntWalk.i64_in ((dn ((q.length:Int)-1) k0)-1) (by omega))) p0) ?_
   exact xw (zE s0 ((nth q (dn ((q.length:Int)-1) k0).toNat).2.1).toNat true) ⟨V2 hk0 (Q4 h6 (Qi h10 (rfl))) U.1,(by first|omega|(simp only[zG];omega))⟩
  have h6d:=Y4 h6;refine Qg <| tn Qb [0,2,3,4,5,40] [5] p0 <| ck (((nth q (dn ((q.length:Int)-1) k0).toNat).1==(6:Int))|| ((nth q (dn ((q.length:Int)-1) k0).toNat).1==(7:Int))) (λh19=> ?_) (λh19=> ?_)
  ·have h19k:=Qih (XB h1n) (by omega) (by omega) h19;refine wT 3 0 (.own true 832) s0 (λhw21 hl22=> ?_);have hx20:=ng s0 (dn ((q.length:Int)-1) k0).toNat;have hx23:=ng s0 ((nth q (dn ((q.length:Int)-1) k0).toNat).2.1).toNat;refine tU Qb Zg [(3,.one (.slc (.own true 832) 1 (setRow (eL s0) ((nth q (dn ((q.length:Int)-1) k0).toNat).2.1).toNat 0 [.b (nth s0 (dn ((q.length:Int)-1) k0).toNat)])))] [3,6] [] [] (pG 5 (dn ((q.length:Int)-1) k0) hx20 (pG 7 ((nth q (dn ((q.length:Int)-1) k0).toNat).2.1) hx23 p0)) <| eqn [(3,.o 832 (zE s0 ((nth q (dn ((q.length:Int)-1) k0).toNat).2.1).toNat (nth s0 (dn ((q.length:Int)-1) k0).toNat)))] [3] [] [] (by rw[Jm (y:=(nth s0 (dn ((q.length:Int)-1) k0).toNat)) hx23 rfl]<;>kernel_rfl) ?_
   refine wT 3 0 (.own true 832) (zE s0 ((nth q (dn ((q.length:Int)-1) k0).toNat).2.1).toNat (nth s0 (dn ((q.length:Int)-1) k0).toNat)) (λhw25 hl26=> ?_);have hx24:=ng (zE s0 ((nth q (dn ((q.length:Int)-1) k0).toNat).2.1).toNat (nth s0 (dn ((q.length:Int)-1) k0).toNat)) (dn ((q.length:Int)-1) k0).toNat (by first|omega|(simp only[zG];omega));have hx27:=ng (zE s0 ((nth q (dn ((q.length:Int)-1) k0).toNat).2.1).toNat (nth s0 (dn ((q.length:Int)-1) k0).toNat)) ((nth q (dn ((q.length:Int)-1) k0).toNat).2.2.1).toNat (by first|omega|(simp only[zG];omega));refine rU Qb Zg [(3,.one (.slc (.own true 832) 1 (setRow (eL (zE s0 ((nth q (dn ((q.length:Int)-1) k0).toNat).2.1).toNat (nth s0 (dn ((q.length:Int)-1) k0).toNat))) ((nth q (dn ((q.length:Int)-1) k0).toNat).2.2.1).toNat 0 [.b (nth (zE s0 ((nth q (dn ((q.length:Int)-1) k0).toNat).2.1).toNat (nth s0 (dn ((q.length:Int)-1) k0).toNat)) (dn ((q.length:Int)-1) k0).toNat)])))] [3,5] [] [5] (pG 5 (dn ((q.length:Int)-1) k0) hx24 (pG 7 ((nth q (dn ((q.length:Int)-1) k0).toNat).2.2.1) hx27 p0)) ?_;refine eqn [(3,.o 832 (zE (zE s0 ((nth q (dn ((q.length:Int)-1) k0).toNat).2.1).toNat (nth s0 (dn ((q.length:Int)-1) k0).toNat)) ((nth q (dn ((q.length:Int)-1) k0).toNat).2.2.1).toNat (nth (zE s0 ((nth q (dn ((q.length:Int)-1) k0).toNat).2.1).toNat (nth s0 (dn ((q.length:Int)-1) k0).toNat)) (dn ((q.length:Int)-1) k0).toNat)))] [3] [] [] (by rw[Jm (y:=(nth (zE s0 ((nth q (dn ((q.length:Int)-1) k0).toNat).2.1).toNat (nth s0 (dn ((q.length:Int)-1) k0).toNat)) (dn ((q.length:Int)-1) k0).toNat)) hx27 rfl]<;>kernel_rfl) ?_;refine rn Qb [0,2,3,4] [] (pe 1 (show .i (IntKind.i64.wrap ((dn ((q.length:Int)-1) k0)-1))= .i (dn ((q.length:Int)-1) (k0+1)) from Jl (show IntKind.i64.wrap ((dn ((q.length:Int)-1) k0)-1)=(dn ((q.length:Int)-1) (k0+1)) from IntWalk.i64_in ((dn ((q.length:Int)-1) k0)-1) (by omega))) p0) ?_;exact xw (zE (zE s0 ((nth q (dn ((q.length:Int)-1) k0).toNat).2.1).toNat (nth s0 (dn ((q.length:Int)-1) k0).toNat)) ((nth q (dn ((q.length:Int)-1) k0).toNat).2.2.1).toNat (nth (zE s0 ((nth q (dn ((q.length:Int)-1) k0).toNat).2.1).toNat (nth s0 (dn ((q.length:Int)-1) k0).toNat)) (dn ((q.length:Int)-1) k0).toNat)) ⟨V2 hk0 (Qi h6 (Q4 h19 (rfl))) U.1,(by first|omega|(simp only[zG];omega))⟩
  have h19l:(((nth q (dn ((q.length:Int)-1) k0).toNat).1==(6:Int)))=false:=Re h19;have h19ld:=Y4 h19l;have h19r:(((nth q (dn ((q.length:Int)-1) k0).toNat).1==(7:Int)))=false:=Pz h19;have h19rd:=Y4 h19r;refine Qg <| qu Qb [(4,.i (dn ((q.length:Int)-1) (k0+1)))] [4,5,6] [] [5] (pe 1 (show .i (IntKind.i64.wrap ((dn ((q.length:Int)-1) k0)-1))= .i (dn ((q.length:Int)-1) (k0+1)) from Jl (show IntKind.i64.wrap ((dn ((q.length:Int)-1) k0)-1)=(dn ((q.length:Int)-1) (k0+1)) from IntWalk.i64_in ((dn ((q.length:Int)-1) k0)-1) (by omega))) p0) ?_
  exact xw s0 ⟨V2 hk0 (Qi h6 (Qi h19 (rfl))) U.1,(by first|omega|(simp only[zG];omega))⟩
 ·have hA0_0:=U.2;have hdn0:=OO ((q.length:Int)-1) k0;exact Qc <| sn Qb [0,2,3,4,18] [] (pe 1 (zC ((dn ((q.length:Int)-1) k0)>=(0:Int))) p0) <| ckF <| Q3 <| xw s0 ⟨Dc hk0 (rfl) U.1,by first|omega|(simp only[zG];omega)⟩
 have hD0_0:=hD0.2;exact sn Qb [2] [] p0 <| Qe <| po0 [] (Qi h1 (Wk hD0.1 (rfl)))
theorem Po {α:Type} [Inhabited α] {l:List α} {i j:Nat} (x:α) (h:j≠i):nth (l.set j x) i=nth l i:=by
 simp[nth,zS,List.getElem?_set_ne h]
theorem Qdd {q:List Yw} (hv:Xb q=true) {k:Nat} (hk:k<q.length) (s:List Bool):Jp q k s=Ar q k s:=by
 have hdn:=OO ((q.length:Int)-1) k;obtain ⟨hl,hr⟩:=Mh hv (k:=dn ((q.length:Int)-1) k) (by omega) (by omega);unfold Jp Ar;generalize hi:dn ((q.length:Int)-1) k=i at hl hr⊢;generalize nth q (zH i)=n at hl hr⊢;by_cases h5:n.1=5
 . simp[h5]
 by_cases h6:n.1=6
 . have:=hl (.inr (.inl h6));simp[h6];rw[Po _ (by omega)]
 by_cases h7:n.1=7
 . have:=hl (.inr (.inr h7));simp[h7];rw[Po _ (by omega)]
 simp only[beq_eq_false_iff_ne.2 h5,beq_eq_false_iff_ne.2 h6,beq_eq_false_iff_ne.2 h7,Bool.or_false,cond_false]
theorem DK (q:List Yw):Ke q=Yq q:=by
 unfold Ke Yq;rw[←Qgm];cases hv:Xb q with
 | false=>rfl
 | true=>
   simp only[yC,cond_false];rw[DJ (f:=Ar q) (g:=Jp q) (e:=Fz) (e':=Aq) (λ_ _=>rfl) _ _ _ λi s _ hi=>(Qdd hv (by omega) s).symm]
theorem IW (q:List Yw) (k:Nat) (s:List Bool):∃s',Jp q k s= .next s'/\s'.length=s.length:=by
 unfold Jp;generalize ((nth q (zH (dn ((q.length:Int)-1) k))).1==(5:Int))=a;generalize ((nth q (zH (dn ((q.length:Int)-1) k))).1==(6:Int))=b;generalize ((nth q (zH (dn ((q.length:Int)-1) k))).1==(7:Int))=c;cases a<;>cases b<;>cases c<;>exact ⟨_,rfl,by simp⟩
theorem VN (q:List Yw):∀(n k:Nat) (s:List Bool),∃s',Uy (Jp q) Aq n k s= .brk s'/\s'.length=s.length
 | 0,k,s=>⟨s,rfl,rfl⟩
 | n+1,k,s=>by
   obtain ⟨s1,h1,h2⟩:=IW q k s;obtain ⟨s2,h3,h4⟩:=VN q n (k+1) s1;refine ⟨s2, ?_,h4.trans h2⟩;simp only[Uy,h1];exact h3
theorem XC (q:List Yw):zD (Yq q)<=zD q:=by
 unfold Yq;cases Xb q with
 | false=>exact xQ _
 | true=>
   obtain ⟨s,h1,h2⟩:=VN q (zD q) 0 (zF (zH (q.length:Int)) false);simp only[yC,cond_false,h1,Out.on];rw[h2];simp
theorem IX (q:List Yw):zD (Ke q)<=zD q:=by rw[DK];exact XC q
end
section
open Go.RowKit Go.Sort
open GoE (enc)
structure OneC (α σ:Type) [GoE α] where
 to:α->σ
 of:σ->α
 cell:σ->Value
 pv:α->PV
 ok:α->Prop
 of_to:∀a,of (to a)=a
 to_of:∀s,to (of s)=s
 enc_eq:∀a,enc a= [pv a]
 flat:∀a,(pv a).flat
 vv:∀(X:Nat->Prop) (w:World) v a,VV X w v (pv a)↔v=cell (to a)/\ok a
def oneS:OneC ByteArray (List UInt8) where
 to b:=b.data.toList
 of s:=⟨s.toArray⟩
 cell:=encStr
 pv:= .str
 ok b:=b.size<=maxLen
 of_to b:=by cases b;simp
 to_of s:=by simp
 enc_eq _:=rfl
 flat _:=trivial
 vv X w v a:=by
  have e:encStr a.data.toList= .string a:=by cases a;simp[encStr]
  rw[e];exact ⟨λh=>by cases h with | str h=>exact ⟨rfl,h⟩,λ⟨h1,h2⟩=>by subst h1;exact .str h2⟩
section
variable {α σ:Type} [GoE α] (C:OneC α σ)
theorem Qde {X:Nat->Prop} {w:World}:∀{l:List α} {cs:List Value},VR X w 1 cs (eL l)->cs=(l.map C.to).map C.cell/\∀a,a∈l->C.ok a
 | [],cs,h=>by
   generalize hr:eL ([]:List α)=r at h;cases h with
   | nil=>exact ⟨rfl,λa ha=>by simp at ha⟩
   | cons=>cases hr
 | a :: l,cs,h=>by
   generalize hr:eL (a::l)=r at h;cases h with
   | nil=>cases hr
   | cons h1 h2 h3=>
     rw[ES,C.enc_eq] at hr;obtain ⟨rfl,rfl⟩: [C.pv a]=_/\eL l=_:=by simpa using hr
     obtain ⟨e,hok⟩:=Qde h3;cases h1 with
     | cons h4 h5=>
       cases h5
       obtain ⟨rfl,ha⟩:=(C.vv X w _ a).1 h4;exact ⟨by rw[e];rfl,λb hb=>(zO.1 hb).elim (λe=>e▸ha) (hok b)⟩
theorem Qdf {X:Nat->Prop} {w:World}:∀{l:List α},(∀a,a∈l->C.ok a)->VR X w 1 ((l.map C.to).map C.cell) (eL l)
 | [],_=> .nil 1
 | a::l,h=>by
   rw[ES,C.enc_eq];exact VR.cons (ce:= [C.cell (C.to a)]) (.cons ((C.vv X w _ a).2 ⟨rfl,h a zL⟩) .nil) rfl (Qdf λb hb=>h b (zI _ hb))
theorem Qj9 (l:List α):(eL l).flatten=l.map C.pv:=by
 induction l with
 | nil=>rfl
 | cons a l ih=>rw[ES,C.enc_eq,List.flatten_cons,ih];rfl
theorem Qmq (l:List α):eL l=(l.map C.pv).map λc=> [c]:=by
 simp[eL,C.enc_eq,yG]
theorem SQ (e:σ->Value) [Inhabited σ] (d:Array σ) (cur:Array Value) (h:d.size<=cur.size):(Go.Sort.putCells e 0 d cur).toList=d.toList.map e++cur.toList.drop d.size:=by
 apply List.ext_getElem?;intro j;unfold Go.Sort.putCells;rw[zZ,Array.getElem?_mapIdx];by_cases hj:j<d.size
 . rw[List.getElem?_append_left (by simpa using hj),yW (by omega:j<cur.size),List.getElem?_map,zZ,yW hj];simp only[Option.map_some];rw[if_pos ⟨xQ _,by omega⟩,Nat.sub_zero,getElem!_pos d j hj]
 rw[List.getElem?_append_right (by simpa using Nat.le_of_not_lt hj),List.getElem?_drop];have e1:d.size+(j-(d.toList.map e).length)=j:=by simp;omega
 rw[e1,zZ];cases cur[j]? with
 | none=>rfl
 | some x=>simp;omega
theorem XD {e:σ->Value} [Inhabited σ] {w:World} {g:Nat} {cur:Array Value} {ty:TypeId} (hg:w.heap[g]? =some (.cells cur ty (0,0))) (q:Nat) (d:Array σ) (os:Array Obj):
 (grow (putRow e (Sort.ahead w q) g 0 d) os).heap[g]? =some (.cells (Go.Sort.putCells e 0 d cur) ty (0,0)):=by
 have hlt:g<w.heap.size:=Ye hg;unfold grow putRow mapBlock Sort.ahead;simp only[xF,Array.size_modify];rw[if_pos hlt,xG,if_pos rfl,hg];rfl
theorem VO {e:σ->Value} [Inhabited σ] (w:World) (g q:Nat) (d:Array σ) (os:Array Obj):(∀b,b<w.heap.size->b≠g->(grow (putRow e (Sort.ahead w q) g 0 d) os).heap[b]? =w.heap[b]?)/\∀m,m<=g->m<=w.heap.size->Below m w (grow (putRow e (Sort.ahead w q) g 0 d) os):=by
 have h:∀b,b<w.heap.size->b≠g->(grow (putRow e (Sort.ahead w q) g 0 d) os).heap[b]? =w.heap[b]? :=λb hb hn=>by
  unfold grow putRow mapBlock Sort.ahead;simp only[xF,Array.size_modify];rw[if_pos hb,xG,if_neg (λe=>hn e.symm)]
 refine ⟨h,λm hm hs=>⟨rfl,rfl,rfl, ?_,λb hb=>h b (by omega) (by omega)⟩⟩;unfold grow putRow mapBlock Sort.ahead;simp
theorem SR {e:σ->Value} [Inhabited σ] {g:Nat} {w:World} {cur:Array Value} {ty:TypeId} {l:List σ} (hg:w.heap[g]? =some (.cells cur ty (0,0))) (ht:cur.toList.take l.length=l.map e):Holds e w g 0 l.toArray:=by
 intro j hj;have hjl:j<l.length:=by simpa using hj
 have hc:cur[j]? =some (e l[j]):=by
  have h5:(cur.toList.take l.length)[j]? =(l.map e)[j]? :=by rw[ht]
  rw[List.getElem?_take,if_pos hjl,List.getElem?_map,List.getElem?_eq_getElem hjl,zZ] at h5;exact h5
 refine ⟨?_, ?_⟩
 . rw[zU];simp[World.cell?,hg,hc,getElem!_pos,hjl]
 simp[World.frozen?,hg]
variable {P:Program} [Inhabited σ]
theorem Qdg (F:Nat->Prop) (L:List Nat) (w:World) (oa:Option Addr):Ql7 F L w 1 true [] (.returned (.tuple #[])) w:=
 ⟨_,rfl,λm _ _=>Below.refl _ _,λ_ _ _=>rfl,rfl,λv2 l2 h=>by simpa [UK] using h⟩
theorem Qaw {f:Nat} (hok:E9 P f) (srt:List σ->List σ) (hlen:∀l,(srt l).length=l.length) (hmem:∀l x,x∈srt l->x∈l)
 (h0:∀oa cap w,Calls P f #[.slice oa 0 cap] w λe w'=>e= .returned (.tuple #[])/\w'=w)
 (h1:∀g cap (l:List σ) w,Holds C.cell w g 0 l.toArray->g<w.heap.size->l.length<4611686018427387904->Calls P f #[.slice (some ⟨g,0,none⟩) l.length cap] w λe w'=>e= .returned (.tuple #[])/\∃n os,w'=grow (putRow C.cell (Sort.ahead w n) g 0 (srt l).toArray) os)
 (l:List α):ATake P f 1 (eL l) [] false true (eL ((srt (l.map C.to)).map C.of)):=by
 refine ⟨hok,λw F G L v vals _ hFG _ hGs _ hLG hrow hargs=> ?_⟩;cases hargs
 rcases hrow with ⟨hl,oa,rfl⟩ | ⟨g,cap,cur,ty,rfl,rfl,hg,hs,hr,h5,h6⟩
 . obtain rfl:l= []:=by simpa [eL] using hl
   have hs0:srt []= []:=zW (by rw[hlen];rfl);refine (h0 oa 0 w).mono ?_
   rintro e w' ⟨rfl,rfl⟩
   rw[List.map_nil,hs0];exact Qdg F L w' oa
 have hll:(eL l).length=l.length:=by simp[eL]
 rw[hll] at hr h5 h6⊢;rw[yF] at hr hs;obtain ⟨hcs,hok'⟩:=Qde C hr;have hH:Holds C.cell w g 0 (l.map C.to).toArray:=SR hg (by rw[zJ];exact hcs);have hc:=h1 g cap (l.map C.to) w hH (Ye hg) (by rw[zJ];have:=h6.2;omega);rw[zJ] at hc;refine hc.mono ?_
 rintro e w' ⟨rfl,n,os,rfl⟩
 have hother:=VO (e:=C.cell) w g n (srt (l.map C.to)).toArray os;have hgl:=Ye hg;refine ⟨_,rfl,λm hm hL=>hother.2 m (hL g (by simp)) hm,λb hb hn=>hother.1 b hb (by simpa using hn),rfl,λv2 l2 h2=> ?_⟩;rcases h2 with ⟨rfl,oa,rfl⟩ | ⟨g2,cap2,cur2,ty2,hL2,rfl,hg2,hs2,hr2,h7,h8⟩
 . exact .inl ⟨by simp[UK],oa,rfl⟩
 obtain rfl:g=g2:=by simpa using hL2
 rw[hg] at hg2;cases hg2
 rw[Qj9 C,UK];have hd:(srt (l.map C.to)).toArray.size<=cur.size:=by simp only[List.size_toArray,hlen,zJ];omega
 have hlen2:(xP (λc=> [c]) (zP l2.length (xP C.pv (xP C.of (srt (l.map C.to)))))++yB (xP C.pv (xP C.of (srt (l.map C.to)))).length l2).length=l2.length:=by
  simp only[List.length_append,zJ,List.length_take,List.length_drop];omega
 refine .inr ⟨g,cap2,_,ty,rfl,by rw[hlen2],XD hg n _ os, ?_, ?_,by rw[hlen2];exact h7,by rw[hlen2];exact h8⟩
 . simp[Go.Sort.putCells,hs2]
 rw[hlen2,yF,SQ C.cell _ cur hd,List.take_append];rw[yF] at hr2;refine VR.append ?_ ?_
 . have hk:VR F (grow (putRow C.cell (Sort.ahead w n) g 0 (srt (l.map C.to)).toArray) os) 1 (cur.toList.take l2.length) l2:=by
    refine hr2.keep λb hb=>⟨hb,hother.1 b (hGs b (hFG b hb)) λe=>(hLG g (by simp)).2 (hFG g (e▸hb))⟩
   have:=VR.drop (srt (l.map C.to)).length hk;rw[yF,List.drop_take] at this;simpa using this
 have hm:∀a,a∈(srt (l.map C.to)).map C.of->C.ok a:=λa ha=>by
  obtain ⟨x,hx,rfl⟩:=zV.1 ha;obtain ⟨b,hb,rfl⟩:=zV.1 (hmem _ _ hx);rw[C.of_to];exact hok' b hb
 have:=VR.take l2.length (Qdf C (X:=F) (w:=grow (putRow C.cell (Sort.ahead w n) g 0 (srt (l.map C.to)).toArray) os) hm);rw[yF,Qmq C] at this;simpa [List.map_take,yG,C.to_of] using this
theorem Qax {f:Nat} (hok:E9 P f) (cmp:List σ->List σ) (hlen:∀l,(cmp l).length<=l.length) (hmem:∀l x,x∈cmp l->x∈l)
 (h0:∀oa cap w,Calls P f #[.slice oa 0 cap] w λe w'=>e= .returned (.slice oa 0 cap)/\w'=w)
 (h1:∀g cap (l:List σ) w,Holds C.cell w g 0 l.toArray->l.length<=9223372036854775807->l.length<=cap->Calls P f #[.slice (some ⟨g,0,none⟩) l.length cap] w λe w'=>e= .returned (.slice (some ⟨g,0,none⟩) (cmp l).length cap)/\∃q pad,(cmp l++pad).length=l.length/\w'=putRow C.cell (Sort.ahead w q) g 0 (cmp l++pad).toArray)
 (l:List α):ATake P f 1 (eL l) [] false false (eL ((cmp (l.map C.to)).map C.of)):=by
 refine ⟨hok,λw F G L v vals _ hFG _ hGs _ hLG hrow hargs=> ?_⟩;cases hargs
 rcases hrow with ⟨hl,oa,rfl⟩ | ⟨g,cap,cur,ty,rfl,rfl,hg,hs,hr,h5,h6⟩
 . obtain rfl:l= []:=by simpa [eL] using hl
   have hs0:cmp []= []:=zW (by have:=hlen [];simpa using this);refine (h0 oa 0 w).mono ?_
   rintro e w' ⟨rfl,rfl⟩
   rw[List.map_nil,hs0];exact ⟨_,rfl,λm _ _=>Below.refl _ _,λ_ _ _=>rfl, [],List.nodup_nil,λb hb=>(by simp at hb),.inl ⟨rfl,oa,rfl⟩⟩
 have hll:(eL l).length=l.length:=by simp[eL]
 rw[hll] at hr h5 h6⊢;rw[yF] at hr hs;obtain ⟨hcs,hok'⟩:=Qde C hr;have hH:Holds C.cell w g 0 (l.map C.to).toArray:=SR hg (by rw[zJ];exact hcs);have hc:=h1 g cap (l.map C.to) w hH (by rw[zJ];have:=h6.2;omega) (by rw[zJ];exact h5);rw[zJ] at hc;refine hc.mono ?_
 rintro e w' ⟨rfl,q,pad,hpad,rfl⟩
 have hw:putRow C.cell (Sort.ahead w q) g 0 (cmp (l.map C.to)++pad).toArray=grow (putRow C.cell (Sort.ahead w q) g 0 (cmp (l.map C.to)++pad).toArray) #[]:=(grow_empty _).symm;rw[hw];have hother:=VO (e:=C.cell) w g q (cmp (l.map C.to)++pad).toArray #[];have hgl:=Ye hg;have hd:(cmp (l.map C.to)++pad).toArray.size<=cur.size:=by rw[List.size_toArray,hpad];omega
 have hle:=hlen (l.map C.to);rw[zJ] at hle;have hel:(eL ((cmp (l.map C.to)).map C.of)).length=(cmp (l.map C.to)).length:=by simp[eL]
 have hsz:g<(grow (putRow C.cell (Sort.ahead w q) g 0 (cmp (l.map C.to)++pad).toArray) #[]).heap.size:=Ye (XD hg q _ #[]);refine ⟨_,rfl,λm hm hL=>hother.2 m (hL g (by simp)) hm,λb hb hn=>hother.1 b hb (by simpa using hn), [g],by simp,λb hb=> ?_,.inr ⟨g,cap,_,ty,rfl,by rw[hel],XD hg q _ #[], ?_, ?_,by rw[hel];omega,h6.1,by rw[hel];have:=h6.2;omega⟩⟩
 . obtain rfl:=List.mem_singleton.1 hb;exact ⟨hsz,.inr (by simp)⟩
 . simp[Go.Sort.putCells,hs]
 rw[hel,yF,SQ C.cell _ cur hd]
 have hm:∀a,a∈(cmp (l.map C.to)).map C.of->C.ok a:=λa ha=>by
  obtain ⟨x,hx,rfl⟩:=zV.1 ha;obtain ⟨b,hb,rfl⟩:=zV.1 (hmem _ _ hx);rw[C.of_to];exact hok' b hb
 have:=Qdf C (X:=F) (w:=grow (putRow C.cell (Sort.ahead w q) g 0 (cmp (l.map C.to)++pad).toArray) #[]) hm;have e1:((cmp (l.map C.to)).map C.of).map C.to=cmp (l.map C.to):=by simp[yG,C.to_of]
 rw[e1] at this;rw[List.map_append,List.append_assoc,List.take_left' (by simp)];exact VR.keep (λb hb=>⟨.inl hb,rfl⟩) this
end
def Su (l:List ByteArray):List ByteArray:=((l.map oneS.to).mergeSort λx y=>decide (x<=y)).map oneS.of
def HR (l:List ByteArray):List ByteArray:=(Lib.compact (l.map oneS.to)).map oneS.of
theorem Qgn {σ:Type} [Inhabited σ] [DecidableEq σ] (l:List σ) (x:σ) (h:x∈Lib.compact l):x∈l:=by
 unfold Lib.compact Lib.compactUpTo at h;simp only[zV,yE,yH] at h;obtain ⟨j,⟨hj,_⟩,e⟩:=h;have e1:l.toArray[j]! =l[j]:=by rw[getElem!_pos l.toArray j (by simpa using hj)];simp
 rw[e1] at e;exact e▸xA hj
theorem FA {σ:Type} [Inhabited σ] [DecidableEq σ] (l:List σ):(Lib.compact l).length<=l.length:=by
 unfold Lib.compact Lib.compactUpTo;rw[zJ];exact yU (xH _ _) (by rw[List.length_range];exact yY _)
theorem IY (l:List ByteArray):(Su l).length=l.length:=by simp[Su,xI]
theorem Qdh (l:List ByteArray):(HR l).length<=l.length:=by
 have:=FA (l.map oneS.to);rw[zJ] at this;simpa [HR] using this
theorem Qgo {α:Type} [GoE α] {l k:List α} (h1:∀a:α,(enc a).length=1) (h:k.length=l.length):Qi2 (eL l) 0 4294967296 (eL k).flatten=eL k:=by
 have hk:∀k:List α,((eL k).flatten.map λc=> [c])=eL k:=λk=>by
  induction k with
  | nil=>rfl
  | cons a k ih=>
    rw[ES,List.flatten_cons,List.map_append,ih];have:=h1 a
    match enc a,this with
    | [p],_=>rfl
 have hf:(eL k).flatten.length=k.length:=by
  have:=congrArg zD (hk k);rw[zJ] at this;rw[this];simp[eL]
 show UK (eL l) (eL k).flatten=eL k;unfold UK;have e1:(eL l).length=l.length:=by simp[eL]
 rw[e1,List.take_of_length_le (by omega),hk,List.drop_of_length_le (by omega),List.append_nil]
end
section
open Go.RowKit
section
variable {σ:Type} (lt:σ->σ->Prop)
theorem SS (irr:∀a,¬lt a a) (tr:∀a b c,lt a b->lt b c->lt a c):∀(a b:List σ),a.Pairwise lt->b.Pairwise lt->(∀x,x∈a↔x∈b)->a=b
 | [], [],_,_,_=>rfl
 | [],y::b,_,_,h=>by have:=(h y).2 (by simp);simp at this
 | x::a, [],_,_,h=>by have:=(h x).1 (by simp);simp at this
 | x ::a,y::b,ha,hb,h=>by
   rw[zT] at ha hb
   have h1:x=y:=by
    have hx:=(h x).1 (by simp);have hy:=(h y).2 (by simp);simp only[zO] at hx hy;rcases hx with e | hx
    . exact e
    rcases hy with e | hy
    . exact e.symm
    exact (irr x (tr _ _ _ (ha.1 y hy) (hb.1 x hx))).elim
   subst h1
   congr 1
   refine SS irr tr a b ha.2 hb.2 λz=> ?_
   have hz:=h z;simp only[zO] at hz;constructor
   . intro hm;have hlt:=ha.1 z hm;rcases hz.1 (.inr hm) with e | e
     . subst e;exact (irr z hlt).elim
     exact e
   intro hm;have hlt:=hb.1 z hm;rcases hz.2 (.inr hm) with e | e
   . subst e;exact (irr z hlt).elim
   exact e
theorem ST [Inhabited σ] [DecidableEq σ] (d:Array σ) (tr:∀a b c,¬lt b a->lt b c->lt a c) (tri:∀a b,¬lt b a->a≠b->lt a b) (hs:∀i j,i<=j->j<d.size->¬lt d[j]! d[i]!):
 ∀m,m<=d.size->(Lib.compactUpTo d m).Pairwise lt/\∀x,x∈Lib.compactUpTo d m↔∃j,j<m/\d[j]! =x
 | 0,_=>by simp[Lib.compactUpTo]
 | m + 1,hm=>by
   obtain ⟨h1,h2⟩:=ST d tr tri hs m (by omega);rw[Lib.compactUpTo_succ];by_cases hk:Lib.keeps d m=true
   . rw [if_pos hk];refine ⟨?_,λx=> ?_⟩
     . rw[List.pairwise_append];refine ⟨h1,by simp,λa ha b hb=> ?_⟩;obtain ⟨j,hj,rfl⟩:=(h2 a).1 ha;obtain rfl:b=d[m]! :=by simpa using hb
       have hle:=hs j (m-1) (by omega) (by omega);have hle2:=hs (m-1) m (by omega) (by omega)
       have hne:d[m]! ≠d[m-1]! :=by
        unfold Lib.keeps at hk;simp only[yQ,beq_iff_eq,bne_iff_ne,decide_eq_true_eq] at hk;rcases hk with h | h
        . omega
        exact h
       exact tr _ _ _ hle (tri _ _ hle2 λe=>hne e.symm)
     rw[xD,h2 x];constructor
     . rintro (⟨j,hj,e⟩ | h)
       . exact ⟨j,by omega,e⟩
       exact ⟨m,by omega,by simpa using (by simpa using h:x=d[m]!).symm⟩
     rintro ⟨j,hj,e⟩
     by_cases hjm:j=m
     . subst hjm;exact .inr (by simp[e])
     exact .inl ⟨j,by omega,e⟩
   rw[if_neg hk,List.append_nil];refine ⟨h1,λx=> ?_⟩;rw[h2 x]
   have hm0:m≠0/\d[m]! =d[m-1]! :=by
    unfold Lib.keeps at hk;simp only[yQ,beq_iff_eq,bne_iff_ne,decide_eq_true_eq,not_or,Decidable.not_not] at hk;exact hk
   constructor
   . rintro ⟨j,hj,e⟩;exact ⟨j,by omega,e⟩
   rintro ⟨j,hj,e⟩
   by_cases hjm:j=m
   . subst hjm;exact ⟨j-1,by omega,hm0.2▸e⟩
   exact ⟨j,by omega,e⟩
end
def bl (a b:ByteArray):Bool:=Op.bytesLess a.toList b.toList
theorem IZ {a b c:List UInt8} (h:a<b) (h':b<c):a<c:=List.lt_trans h h'
theorem Qdi (a:List UInt8):¬a<a:=List.lt_irrefl a
theorem OZ {a b:List UInt8} (h:¬b<a) (hn:a≠b):a<b:=zR λh'=>hn (List.le_antisymm h h')
theorem HS (a b:ByteArray):bl a b=true↔a.data.toList<b.data.toList:=by
 unfold bl;rw[bytesLess_eq,ByteArray.toList_eq,ByteArray.toList_eq,decide_eq_true_iff]
theorem SU (a:ByteArray):bl a a=false:=by
 cases h:bl a a with
 | false=>rfl
 | true=>exact (Qdi _ ((HS a a).1 h)).elim
theorem UA {a b c:ByteArray} (h:bl a b=true) (h':bl b c=true):bl a c=true:=(HS _ _).2 (IZ ((HS _ _).1 h) ((HS _ _).1 h'))
theorem Qii {a b:ByteArray} (h:bl b a=false) (hn:a≠b):bl a b=true:=(HS _ _).2 (OZ (λhb=>by rw[(HS _ _).2 hb] at h;cases h) λe=>hn (by cases a;cases b;simp at e;rw[e]))
def FB:List ByteArray->ByteArray->List ByteArray
 | [],s=> [s]
 | x::l,s=>if bl x s then x::FB l s else if x=s then x::l else s::x::l
def KF (l:List ByteArray):Prop:=l.Pairwise λa b=>bl a b=true
theorem Oe (s x:ByteArray):∀l,x∈FB l s↔x=s\/x∈l
 | []=>by simp[FB]
 | y ::l=>by
   simp only[FB];split
   . rw[zO,Oe s x l,zO];constructor
     . rintro (h | h | h)<;>simp[h]
     rintro (h | h | h)<;>simp[h]
   split
   . rename_i e;subst e;simp
   simp
theorem YU (s:ByteArray):∀l,KF l->KF (FB l s)
 | [],_=>by simp[KF,FB]
 | y ::l,h=>by
   have h:=zT.1 h;simp only[FB];split
   . rename_i hl;refine zT.2 ⟨λz hz=> ?_,YU s l h.2⟩;rcases (Oe s z l).1 hz with e | hz
     . exact e▸hl
     exact h.1 z hz
   split
   . exact zT.2 h
   rename_i hl hn;have hs:bl s y=true:=Qii (by simpa using hl) λe=>hn e.symm
   refine zT.2 ⟨λz hz=> ?_,zT.2 h⟩;rcases zO.1 hz with rfl | hz
   . exact hs
   exact UA hs (h.1 z hz)
theorem SV (s:ByteArray):∀l,(FB l s).length<=l.length+1
 | []=>by simp[FB]
 | y::l=>by
   have:=SV s l;simp only[FB];split
   . simp only[zK];omega
   split<;>simp
def E4 (l xs:List ByteArray):List ByteArray:=xs.foldl FB l
theorem Rh (x:ByteArray):∀xs l,x∈E4 l xs↔x∈xs\/x∈l
 | [],l=>by simp[E4]
 | y::xs,l=>by
   show x∈E4 (FB l y) xs↔_;rw[Rh x xs,Oe,zO];constructor
   . rintro (h | h | h)<;>simp[h]
   rintro ((h | h) | h)<;>simp[h]
theorem Ri:∀xs l,KF l->KF (E4 l xs)
 | [],_,h=>h
 | y::xs,l,h=>Ri xs (FB l y) (YU y l h)
theorem FC (a b:List ByteArray) (ha:KF a) (hb:KF b) (h:∀x,x∈a↔x∈b):a=b:=
 SS (λa b=>bl a b=true) (λa h=>by rw[SU] at h;cases h) (λ_ _ _=>UA) a b ha hb h
theorem HT (l:List ByteArray):KF (HR (Su l))/\∀x,x∈HR (Su l)↔x∈l:=by
 have hto:(Su l).map oneS.to=(l.map oneS.to).mergeSort λx y=>decide (x<=y):=by simp[Su,yG,oneS.to_of]
 unfold HR;rw[hto];generalize hm:l.map oneS.to=m;have hp:=xM m (λx y=>decide (x<=y))
 have hs:=List.pairwise_mergeSort (le:=λ(x y:List UInt8)=>decide (x<=y)) (λa b c h1 h2=>by
  simp only[decide_eq_true_eq] at h1 h2⊢;exact List.le_trans h1 h2) (λa b=>by
  have:=List.le_total a b;simpa using this) m
 generalize (m.mergeSort λx y=>decide (x<=y))=s at hp hs;have hget:∀j,j<s.length->s.toArray[j]! =s[j]! :=λj hj=>by simp
 have hmono:∀i j,i<=j->j<s.toArray.size->¬s.toArray[j]! <s.toArray[i]! :=λi j hij hj=>by
  have hj:j<s.length:=by simpa using hj
  rw[hget i (by omega),hget j hj,getElem!_pos s i (by omega),getElem!_pos s j hj];by_cases e:i=j
  . subst e;exact Qdi _
  have:=List.pairwise_iff_getElem.1 hs i j (by omega) hj (by omega);simpa using this
 obtain ⟨h1,h2⟩:=ST (λa b:List UInt8=>a<b) s.toArray (λa b c hab hbc=>by
  by_cases e:a=b
  . exact e▸hbc
  exact IZ (OZ hab e) hbc) (λa b h hn=>OZ h hn) hmono s.length (by simp)
 refine ⟨?_,λx=> ?_⟩
 . refine List.pairwise_map.2 (h1.imp λ{a b} h=>(HS _ _).2 ?_);simpa [oneS] using h
 have hmem:x∈l↔oneS.to x∈m:=by
  rw[←hm,zV];refine ⟨λh=>⟨x,h,rfl⟩,λ⟨y,h,e⟩=> ?_⟩;have:=congrArg oneS.of e;rw[oneS.of_to,oneS.of_to] at this;exact this▸h
 rw[hmem,←hp.mem_iff,zV];constructor
 . rintro ⟨y,hy,rfl⟩
   obtain ⟨j,hj,e⟩:=(h2 y).1 hy;rw[hget j hj,getElem!_pos s j hj] at e;rw[oneS.to_of];exact e▸xA hj
 intro h;obtain ⟨j,hj,e⟩:=xN h;exact ⟨oneS.to x,(h2 _).2 ⟨j,hj,by rw[hget j hj,getElem!_pos s j hj];exact e⟩,oneS.of_to x⟩
theorem SW (l:List ByteArray):HR (Su l)=E4 [] l:=
 FC _ _ (HT l).1 (Ri l [] List.Pairwise.nil) λx=>by rw[(HT l).2,Rh];simp
end
section
abbrev Ha:=List (Nat×Int)
def Og (E:Ha) (L:List Int):Int:=E.foldl (λm e=>max m (nth L e.1+e.2)) 0
theorem Rj (L:List Int) (x:Int):∀(E:Ha) (m:Int),E.foldl (λm e=>max m (nth L e.1+e.2)) m<=x↔m<=x/\∀e,e∈E->nth L e.1+e.2<=x
 | [],m=>by simp
 | e ::E,m=>by
   rw[List.foldl_cons,Rj L x E];constructor
   . rintro ⟨h1,h2⟩
     refine ⟨by omega,λe' he=> ?_⟩;rcases zO.1 he with rfl | he
     . omega
     exact h2 e' he
   rintro ⟨h1,h2⟩
   have:=h2 e zL;exact ⟨by omega,λe' he=>h2 e' (zI _ he)⟩
theorem Ds {E:Ha} {L:List Int} {x:Int}:Og E L<=x↔0<=x/\∀e,e∈E->nth L e.1+e.2<=x:=Rj L x E 0
theorem XE (E:Ha) (L:List Int):0<=Og E L:=(Ds.1 (zQ _)).1
theorem LA {E:Ha} {L M:List Int} (h:∀j,nth L j<=nth M j):Og E L<=Og E M:=
 Ds.2 ⟨XE E M,λe he=>by
  have:=(Ds.1 (zQ (Og E M))).2 e he;have:=h e.1;omega⟩
theorem XF {L:List Int} {i:Nat} (x:Int) (j:Nat) (hi:i<L.length):nth (L.set i x) j=if j=i then x else nth L j:=by
 unfold nth;by_cases h:j=i
 . subst h;simp[zS,hi]
 rw[if_neg h];simp[zS,yZ,xR h]
theorem XG {L:List Int} {i:Nat} (h:L.length<=i):nth L i=0:=by
 unfold nth;simp[zS,List.getElem?_eq_none h]
def B4 (E:Nat->Ha) (L:List Int) (i:Nat):List Int:=if nth L i<Og (E i) L then L.set i (Og (E i) L) else L
theorem Np (E:Nat->Ha) (L:List Int) (i:Nat):(B4 E L i).length=L.length:=by unfold B4;split<;>simp
theorem FD (E:Nat->Ha) (L:List Int) (i j:Nat):nth L j<=nth (B4 E L i) j:=by
 unfold B4;split
 . rename_i h;by_cases hi:i<L.length
   . rw[XF _ _ hi];split
     . rename_i e;subst e;omega
     omega
   rw[List.set_eq_of_length_le (by omega)];omega
 omega
def rounds (E:Nat->Ha) (is:List Nat) (L:List Int):List Int:=is.foldl (B4 E) L
theorem Tl (E:Nat->Ha):∀(is:List Nat) (L:List Int),(rounds E is L).length=L.length
 | [],_=>rfl
 | i::is,L=>(Tl E is (B4 E L i)).trans (Np E L i)
theorem YV (E:Nat->Ha) (j:Nat):∀(is:List Nat) (L:List Int),nth L j<=nth (rounds E is L) j
 | [],_=>zQ _
 | i::is,L=>yI (FD E L i j) (YV E j is (B4 E L i))
theorem Qdj {L M:List Int} (hl:L.length=M.length) (h:∀j,nth L j=nth M j):L=M:=by
 apply List.ext_getElem hl;intro i h1 h2;have:=h i;simpa [nth,zS,h1,h2] using this
theorem DL (E:Nat->Ha):∀(is:List Nat) (L:List Int),rounds E is L=L->∀i,i∈is->B4 E L i=L
 | [],_,_,i,hi=>by simp at hi
 | a ::is,L,h,i,hi=>by
   have h1:B4 E L a=L:=Qdj (Np E L a) λj=>by
    have h2:=FD E L a j;have h3:=YV E j is (B4 E L a);have h4:nth (rounds E is (B4 E L a)) j=nth L j:=congrArg (nth · j) h;omega
   rcases zO.1 hi with rfl | hi
   . exact h1
   refine DL E is L ?_ i hi;have:rounds E is (B4 E L a)=L:=h
   rwa [h1] at this
theorem DM {E:Nat->Ha} {L:List Int} {i:Nat} (hi:i<L.length):B4 E L i=L↔Og (E i) L<=nth L i:=by
 unfold B4;constructor
 . intro h;split at h
   . rename_i hlt;have h2:nth (L.set i (Og (E i) L)) i=nth L i:=by rw[h]
     rw[XF _ _ hi,if_pos rfl] at h2;omega
   omega
 intro h;rw[if_neg (by omega)]
def Sat (E:Nat->Ha) (n:Nat) (g:List Int):Prop:=∀i,i<n->Og (E i) g<=nth g i
theorem PA {E:Nat->Ha} {n:Nat} {L g:List Int} {i:Nat} (hi:i<n) (hn:L.length=n) (hs:Sat E n g) (h:∀j,nth L j<=nth g j):∀j,nth (B4 E L i) j<=nth g j:=by
 intro j;unfold B4;split
 . rw[XF _ _ (by omega)];split
   . rename_i e;subst e;exact yI (LA h) (hs j hi)
   exact h j
 exact h j
theorem Sv {E:Nat->Ha} {n:Nat} {g:List Int} (hs:Sat E n g):∀(is:List Nat) (L:List Int),(∀i,i∈is->i<n)->L.length=n->(∀j,nth L j<=nth g j)->∀j,nth (rounds E is L) j<=nth g j
 | [],_,_,_,h=>h
 | i::is,L,hi,hn,h=>Sv hs is (B4 E L i) (λk hk=>hi k (zI _ hk)) ((Np E L i).trans hn) (PA (hi i zL) hn hs h)
theorem Qij:∀(m:Nat) (l:List Int),(∀v:Nat,v<m->((v:Nat):Int)∈l)->m<=l.length
 | 0,_,_=>xQ _
 | m+1,l,h=>by
   have hm:=h m (by omega);have:=Qij m (l.erase (m:Int)) λv hv=>(List.mem_erase_of_ne (by omega)).2 (h v (by omega))
   rw[List.length_erase_of_mem hm] at this;have:0<l.length:=yJ hm;omega
theorem PB {L:List Int} {i:Nat} (h:i<L.length):nth L i∈L:=by
 have:nth L i=L[i]:=by simp[nth,zS,h]
 rw[this];exact xA h
theorem HU {L:List Int} {x:Int} (h:x∈L):∃i,i<L.length/\nth L i=x:=by
 obtain ⟨i,hi,e⟩:=xN h;exact ⟨i,hi,by rw[←e];simp[nth,zS,hi]⟩
theorem Qka {L:List Int} {f:Int->Int} {i:Nat} (h:i<L.length):nth (L.map f) i=f (nth L i):=by simp[nth,zS,h]
theorem Qay {E:Nat->Ha} {n:Nat} {f:List Int} (hw:∀i e,e∈E i->e.2<=1/\e.1<n) (hlen:f.length=n) (hs:Sat E n f) (hleast:∀g:List Int,g.length=n->Sat E n g->(∀j,0<=nth g j)->∀j,nth f j<=nth g j) (h0:∀j,0<=nth f j):
 ∀i,i<n->nth f i<(n:Int):=by
 intro i hi
 have hall:∀v:Nat,(v:Int)<=nth f i->((v:Nat):Int)∈f:=λv hv=>by
  refine zR λhno=> ?_
  have hne:∀j,j<n->nth f j≠v:=λj hj e=>hno (e▸PB (by omega))
  have hvi:(v:Int)<nth f i:=by have:=hne i hi;omega
  let g:=f.map λx=>if (v:Int)<x then x-1 else x
  have hg:∀j,j<n->nth g j=if (v:Int)<nth f j then nth f j-1 else nth f j:=λj hj=>Qka (by omega)
  have hg0:∀j,¬j<n->nth g j=0:=λj hj=>XG (by simp only[g,zJ];omega)
  have hf0:∀j,¬j<n->nth f j=0:=λj hj=>XG (by omega)
  have hpos:∀j,0<=nth g j:=λj=>by
   by_cases hj:j<n
   . rw[hg j hj];have:=h0 j;split<;>omega
   rw[hg0 j hj];omega
  have:=hleast g (by simp only[g,zJ];exact hlen) (λk hk=>Ds.2 ⟨hpos k,λe he=> ?_⟩) hpos i
  . rw[hg i hi,if_pos hvi] at this;omega
  have h1:=(Ds.1 (hs k hk)).2 e he;obtain ⟨h2,hj⟩:=hw k e he;have h3:=hne k hk;rw[hg k hk];have h4:=hne e.1 hj;rw[hg e.1 hj];split<;>split<;>omega
 have hp:=Qij ((nth f i).toNat+1) f λv hv=>hall v (by have:=h0 i;omega)
 have:=h0 i;omega
theorem Qdk:∀(L:List Int) (i:Nat) (x:Int),i<L.length->(L.set i x).sum=L.sum+(x-nth L i)
 | [],i,x,h=>by simp at h
 | a::L,0,x,_=>by simp[nth];omega
 | a::L,i+1,x,h=>by
   have:=Qdk L i x (by simpa using h);have e:nth (a::L) (i+1)=nth L i:=rfl;rw[e,List.set_cons_succ,xO,xO,this];omega
theorem LB:∀(L:List Int) (N:Int),(∀x,x∈L->x<=N)->L.sum<=(L.length:Int)*N
 | [],N,_=>by simp
 | a::L,N,h=>by
   have h1:=LB L N λx hx=>h x (zI _ hx)
   have h2:=h a zL;rw[xO,zK,xE,Int.add_mul];omega
theorem LC {E:Nat->Ha} {L:List Int} {i:Nat} (hi:i<L.length):L.sum<=(B4 E L i).sum/\(B4 E L i≠L->L.sum+1<=(B4 E L i).sum):=by
 unfold B4;split
 . rename_i h;have:=Qdk L i (Og (E i) L) hi;omega
 exact ⟨zQ _,λh=>(h rfl).elim⟩
theorem Tm {E:Nat->Ha}:∀(is:List Nat) (L:List Int),(∀i,i∈is->i<L.length)->L.sum<=(rounds E is L).sum/\(rounds E is L≠L->L.sum+1<=(rounds E is L).sum)
 | [],L,_=>⟨zQ _,λh=>(h rfl).elim⟩
 | i::is,L,h=>by
   obtain ⟨h1,h2⟩:=LC (E:=E) (h i zL);obtain ⟨h3,h4⟩:=Tm (E:=E) is (B4 E L i) λk hk=>by rw[Np];exact h k (zI _ hk)
   show L.sum<=(rounds E is (B4 E L i)).sum/\(rounds E is (B4 E L i)≠L->L.sum+1<=(rounds E is (B4 E L i)).sum);refine ⟨by omega,λhn=> ?_⟩;by_cases e:B4 E L i=L
   . have:=h4 (by rw[e] at hn⊢;exact hn);omega
   have:=h2 e;omega
def I9 (E:Nat->Ha) (N:Int):List Nat->Bool×List Int->Option (Bool×List Int)
 | [],s=>some s
 | i::is,s=>if N<Og (E i) s.2 then none else I9 E N is (if nth s.2 i<Og (E i) s.2 then (true,s.2.set i (Og (E i) s.2)) else s)
theorem Mb {E:Nat->Ha} {N:Int}:∀(is:List Nat) (c:Bool) (L:List Int) (s:Bool×List Int),(∀i,i∈is->i<L.length)->I9 E N is (c,L)=some s->s.2=rounds E is L/\(s.1=true->c=true\/rounds E is L≠L)/\(s.1=false->c=false/\rounds E is L=L)/\((∀j,nth L j<=N)->∀j,nth s.2 j<=N)
 | [],c,L,s,_,h=>by
   obtain rfl:=yR h;exact ⟨rfl,λh=> .inl h,λh=>⟨h,rfl⟩,λh=>h⟩
 | i :: is,c,L,s,hi,h=>by
   have hil:=hi i zL;have hlen:∀k,k∈is->k<(B4 E L i).length:=λk hk=>by rw[Np];exact hi k (zI _ hk)
   simp only[I9] at h;split at h
   . cases h
   rename_i hN;split at h
   . rename_i hlt;have er:B4 E L i=L.set i (Og (E i) L):=by unfold B4;rw[if_pos hlt]
     rw[←er] at h;obtain ⟨h1,h2,h3,h4⟩:=Mb is true (B4 E L i) s hlen h
     have hne:rounds E (i::is) L≠L:=λe=>by
      have:=(Tm (E:=E) is (B4 E L i) hlen).1
      have h5:=(LC (E:=E) hil).2 λe'=>by
       have:=(DM hil).1 e';omega
      have h6:(rounds E is (B4 E L i)).sum=L.sum:=congrArg List.sum e;omega
     refine ⟨h1,λ_=> .inr hne,λh=>(by have:=(h3 h).1;cases this),λhb j=>h4 (λj=> ?_) j⟩;rw[er,XF _ _ hil];split
     . omega
     exact hb j
   rename_i hlt;have er:B4 E L i=L:=by unfold B4;rw[if_neg hlt]
   have e2:rounds E (i::is) L=rounds E is L:=by show rounds E is (B4 E L i)=_;rw[er]
   rw[e2];exact Mb is c L s (λk hk=>hi k (zI _ hk)) h
theorem VP {E:Nat->Ha} {N:Int}:∀(is:List Nat) (c:Bool) (L:List Int),I9 E N is (c,L)=none->∃pre i,(∀k,k∈pre->k∈is)/\i∈is/\N<Og (E i) (rounds E pre L)
 | [],c,L,h=>by cases h
 | i ::is,c,L,h=>by
   simp only[I9] at h;split at h
   . rename_i hN;exact ⟨[],i,λk hk=>by simp at hk,zL,hN⟩
   have key:∀c' L',L'=B4 E L i->I9 E N is (c',L')=none->∃pre k,(∀x,x∈pre->x∈i::is)/\k∈i::is/\N<Og (E k) (rounds E pre L):=λc' L' e h=>by
    obtain ⟨pre,k,h1,h2,h3⟩:=VP is c' L' h;subst e;refine ⟨i::pre,k,λx hx=> ?_,zI _ h2,h3⟩;rcases zO.1 hx with rfl | hx
    . exact zL
    exact zI _ (h1 x hx)
   split at h
   . rename_i hlt;exact key true _ (by unfold B4;rw[if_pos hlt]) h
   rename_i hlt;exact key c _ (by unfold B4;rw[if_neg hlt]) h
def YW (E:Nat->Ha) (N:Int) (n:Nat):Nat->Bool×List Int->Option (Option (List Int))
 | 0,_=>none
 | k +1,s=>match s.1 with
   | true=>(match I9 E N (zN n) (false,s.2) with
     | none=>some none
     | some s'=>YW E N n k s')
   | false=>some (some s.2)
theorem Fm {n i:Nat} (h:i∈zN n):i<n:=yH.1 h
theorem DN {E:Nat->Ha} {n:Nat}:∀(k:Nat) (c:Bool) (L:List Int),L.length=n->(∀j,nth L j<=(n:Int))->(n:Int)*(n:Int)-L.sum+2<=(k:Int)->(YW E n n k (c,L)).isSome=true
 | 0,c,L,hl,hb,hk=>by
   have:=LB L n λx hx=>by obtain ⟨i,_,e⟩:=HU hx;exact e▸hb i
   rw[hl] at this;omega
 | k+1,false,L,hl,hb,hk=>rfl
 | k + 1, true,L,hl,hb,hk=>by
   simp only[YW];cases hc:I9 E n (zN n) (false,L) with
   | none=>rfl
   | some s=>
     obtain ⟨h1,h2,h3,h4⟩:=Mb (zN n) false L s (λi hi=>by rw[hl];exact Fm hi) hc;obtain ⟨c',L'⟩:=s;simp only at h1 h2 h3 h4⊢;have hl':L'.length=n:=by rw[h1,Tl,hl]
     have hs:=Tm (E:=E) (zN n) L λi hi=>by rw[hl];exact Fm hi
     rw[←h1] at hs;cases c' with
     | false=>
       cases k with
       | zero=>
         have:=LB L n λx hx=>by obtain ⟨i,_,e⟩:=HU hx;exact e▸hb i
         rw[hl] at this;omega
       | succ k=>rfl
     | true=>
       have hne:L'≠L:=by
        rcases h2 rfl with h | h
        . cases h
        rw[h1];exact h
       have:=hs.2 hne;exact DN k true L' hl' (h4 hb) (by omega)
def after (E:Nat->Ha) (n:Nat):Nat->List Int
 | 0=>zF n 0
 | k+1=>rounds E (zN n) (after E n k)
theorem He (E:Nat->Ha) (n:Nat):∀k,(after E n k).length=n
 | 0=>by simp[after]
 | k+1=>by rw[after,Tl,He E n k]
def SX (E:Nat->Ha) (n:Nat) (L:List Int):Prop:=rounds E (zN n) L=L
theorem UB (n j:Nat):nth (zF n (0:Int)) j=0:=by
 by_cases h:j<n
 . simp[nth,zS,h]
 exact XG (by simp;omega)
theorem Dt (E:Nat->Ha) (n j:Nat):∀k,0<=nth (after E n k) j
 | 0=>by rw[after,UB];omega
 | k+1=>yI (Dt E n j k) (YV E j _ _)
theorem YX {E:Nat->Ha} {n:Nat} {L:List Int} (hl:L.length=n) (h:SX E n L):Sat E n L:=λi hi=>(DM (by omega)).1 (DL E _ L h i (yH.2 hi))
theorem Nq {E:Nat->Ha} {n:Nat} {g:List Int} (hs:Sat E n g) (h0:∀j,0<=nth g j):∀k j,nth (after E n k) j<=nth g j
 | 0,j=>by rw[after,UB];exact h0 j
 | k+1,j=>Sv hs _ _ (λi hi=>Fm hi) (He E n k) (Nq hs h0 k) j
theorem Tn {E:Nat->Ha} {n k:Nat} (h:SX E n (after E n k)):∀d,after E n (k+d)=after E n k
 | 0=>rfl
 | d+1=>by
   show rounds E (zN n) (after E n (k+d))=_;rw[Tn h d];exact h
theorem Qdl {E:Nat->Ha} {n k m:Nat} (hk:SX E n (after E n k)) (hm:SX E n (after E n m)):after E n k=after E n m:=by
 rcases Nat.le_total k m with h | h
 . have:=Tn hk (m-k);rw[show k+(m-k)=m by omega] at this;exact this.symm
 have:=Tn hm (k-m)
 rwa [show m+(k-m)=k by omega] at this
theorem XH {E:Nat->Ha} {n:Nat}:∀k,(∀j,j<k->¬SX E n (after E n j))->(k:Int)<=(after E n k).sum
 | 0,_=>by
   have:∀n:Nat,(zF n (0:Int)).sum=0:=λn=>by simp
   rw[after,this];omega
 | k+1,h=>by
   have h1:=XH k λj hj=>h j (by omega)
   have h2:=(Tm (E:=E) (zN n) (after E n k) λi hi=>by rw[He];exact Fm hi).2 (h k (by omega));show ((k+1:Nat):Int)<=(rounds E (zN n) (after E n k)).sum;omega
variable {E:Nat->Ha} {n:Nat} (hw:∀i e,e∈E i->e.2<=1/\e.1<n)
include hw in
theorem PC {k:Nat} (h:SX E n (after E n k)):∀i,i<n->nth (after E n k) i<(n:Int):=
 Qay hw (He E n k) (YX (He E n k) h) (λ_ _ hs h0=>Nq hs h0 k) λj=>Dt E n j k
include hw in
theorem LD {k:Nat} (h:SX E n (after E n k)):SX E n (after E n (n*n+2)):=by
 have hex:∃j,j<=n*n+1/\SX E n (after E n j):=zR λhno=>by
  have h1:=XH (E:=E) (n:=n) (n*n+2) λj hj hr=>hno ⟨j,by omega,hr⟩
  have h2:=LB (after E n (n*n+2)) n λx hx=>by
   obtain ⟨i,hi,e⟩:=HU hx;rw[He] at hi;have h3:=Nq (YX (He E n k) h) (λj=>Dt E n j k) (n*n+2) i;have:=PC hw h i hi;omega
  rw[He] at h2;have h3:((n*n+2:Nat):Int)=(n:Int)*(n:Int)+2:=by rw[xE,Int.natCast_mul];rfl
  omega
 obtain ⟨j,hj,hr⟩:=hex;have:=Tn hr (n*n+2-j);rw[show j+(n*n+2-j)=n*n+2 by omega] at this;rw[this];exact hr
include hw in
theorem YY:∀(k m:Nat) (c:Bool) (r:Option (List Int)),(c=false->SX E n (after E n m))->YW E n n k (c,after E n m)=some r->
 (∀L,r=some L->SX E n (after E n (n*n+2))/\L=after E n (n*n+2))/\(r=none->¬SX E n (after E n (n*n+2)))
 | 0,m,c,r,_,h=>by cases h
 | k+1,m,false,r,hc,h=>by
   obtain rfl:=yR h;have hr:=hc rfl;have hs:=LD hw hr;refine ⟨λL e=>⟨hs, ?_⟩,λe=>by cases e⟩;obtain rfl:=yR e;exact Qdl hr hs
 | k +1,m,true,r,_,h=>by
   simp only[YW] at h;have hlt:∀i,i∈zN n->i<(after E n m).length:=λi hi=>by rw[He];exact Fm hi
   cases hcr:I9 E n (zN n) (false,after E n m) with
   | none=>
     rw[hcr] at h;obtain rfl:=yR h;refine ⟨λL e=>(by cases e),λ_ hr=> ?_⟩;obtain ⟨pre,i,h1,h2,h3⟩:=VP _ _ _ hcr;have hsat:=YX (He E n _) hr;have h4:=Sv hsat pre (after E n m) (λi hi=>Fm (h1 i hi)) (He E n m) (Nq hsat (λj=>Dt E n j _) m);have h5:=LA (E:=E i) h4;have h6:=hsat i (Fm h2);have h7:=PC hw hr i (Fm h2);omega
   | some s=>
     rw[hcr] at h;obtain ⟨h1,_,h3,_⟩:=Mb _ _ _ s hlt hcr;obtain ⟨c',L'⟩:=s;simp only at h1 h3 h;have e:L'=after E n (m+1):=h1;subst e;refine YY k (m+1) c' r (λhc=> ?_) h;have h5:=(h3 hc).2;show rounds E (zN n) (after E n (m+1))=after E n (m+1);have e2:after E n (m+1)=after E n m:=h5;rw[e2];exact h5
omit hw
def JN (i:Nat) (L:List Int) (e:Nat×Int):List Int:=if nth L i<nth L e.1+e.2 then L.set i (nth L e.1+e.2) else L
def F1 (i:Nat) (E:Ha) (L:List Int):List Int:=E.foldl (JN i) L
theorem Rk (i:Nat) (L:List Int) (e:Nat×Int):(JN i L e).length=L.length:=by unfold JN;split<;>simp
theorem Nr (i:Nat):∀(E:Ha) (L:List Int),(F1 i E L).length=L.length
 | [],_=>rfl
 | e::E,L=>(Nr i E (JN i L e)).trans (Rk i L e)
theorem UC {i:Nat} {L:List Int} (e:Nat×Int) (hi:i<L.length) (j:Nat):nth (JN i L e) j=if j=i then max (nth L i) (nth L e.1+e.2) else nth L j:=by
 unfold JN;split
 . rw[XF _ _ hi];split<;>omega
 split
 . rename_i h;subst h;omega
 rfl
theorem LE {i:Nat}:∀(E:Ha) {L M:List Int},i<M.length->(∀j,j≠i->nth M j=nth L j)->nth L i<=nth M i->(∀e,e∈E->e.1=i->e.2<=0)->∀j,nth (F1 i E M) j=if j=i then E.foldl (λm e=>max m (nth L e.1+e.2)) (nth M i) else nth L j
 | [],L,M,hi,hj,h0,hs,j=>by
   show nth M j=_;split
   . rename_i e;subst e;rfl
   rename_i e;exact hj j e
 | e ::E,L,M,hi,hj,h0,hs,j=>by
   show nth (F1 i E (JN i M e)) j=_;have hb:=UC e hi
   have hmax:nth (JN i M e) i=max (nth M i) (nth L e.1+e.2):=by
    rw[hb,if_pos rfl];by_cases he:e.1=i
    . have:=hs e zL he;rw[he];omega
    rw[hj e.1 he]
   rw[LE E (L:=L) (M:=JN i M e) (by rw[Rk];exact hi) (λk hk=>by rw[hb,if_neg hk];exact hj k hk) (by rw[hmax];omega) (λe' he'=>hs e' (zI _ he')) j,hmax,List.foldl_cons]
theorem Qgp (L:List Int):∀(E:Ha) (m:Int),0<=m->E.foldl (λm e=>max m (nth L e.1+e.2)) m=max m (Og E L):=λE m hm=>by
 have h1:=Rj L (E.foldl (λm e=>max m (nth L e.1+e.2)) m) E m;have h2:=h1.1 (zQ _);have h3:Og E L<=E.foldl (λm e=>max m (nth L e.1+e.2)) m:=Ds.2 ⟨by omega,h2.2⟩;have h4:=(Rj L (max m (Og E L)) E m).2 ⟨by omega,λe he=>by have:=(Ds.1 (zQ (Og E L))).2 e he;omega⟩;omega
theorem Qgq {E:Nat->Ha} {L:List Int} {i:Nat} (hi:i<L.length) (h0:0<=nth L i) (hs:∀e,e∈E i->e.1=i->e.2<=0):F1 i (E i) L=B4 E L i:=
 Qdj ((Nr i (E i) L).trans (Np E L i).symm) λj=>by
  rw[LE (E i) hi (λ_ _=>rfl) (zQ _) hs,Qgp _ _ _ h0];unfold B4;by_cases hlt:nth L i<Og (E i) L
  . rw[if_pos hlt,XF _ _ hi];split<;>omega
  rw[if_neg hlt];split
  . rename_i e;subst e;omega
  rfl
theorem UD {i:Nat}:∀(E:Ha) {L:List Int},i<L.length->∀j,nth L j<=nth (F1 i E L) j
 | [],_,_,_=>zQ _
 | e::E,L,hi,j=>by
   have h1:=UD E (L:=JN i L e) (by rw[Rk];exact hi) j;have h2:=UC e hi j;show _<=nth (F1 i E (JN i L e)) j;split at h2
   . rename_i h;subst h;omega
   omega
theorem DO {i:Nat}:∀(E:Ha) {L:List Int},i<L.length->(∃e,e∈E/\e.1=i/\1<=e.2)->nth L i+1<=nth (F1 i E L) i
 | [],_,_,⟨e,he,_⟩=>by simp at he
 | e::E,L,hi,⟨e',he,h1,h2⟩=>by
   have h3:=UC e hi i;rw[if_pos rfl] at h3;have hb:=UD E (L:=JN i L e) (by rw[Rk];exact hi) i;show _<=nth (F1 i E (JN i L e)) i;rcases zO.1 he with rfl | he
   . rw[h1] at h3;omega
   have:=DO E (L:=JN i L e) (by rw[Rk];exact hi) ⟨e',he,h1,h2⟩;omega
def E5 (E:Nat->Ha) (is:List Nat) (L:List Int):List Int:=is.foldl (λL i=>F1 i (E i) L) L
theorem XI (E:Nat->Ha):∀(is:List Nat) (L:List Int),(E5 E is L).length=L.length
 | [],_=>rfl
 | i::is,L=>(XI E is (F1 i (E i) L)).trans (Nr i _ L)
theorem KG {E:Nat->Ha} (hs:∀i e,e∈E i->e.1=i->e.2<=0):∀(is:List Nat) (L:List Int),(∀i,i∈is->i<L.length)->(∀j,0<=nth L j)->E5 E is L=rounds E is L
 | [],_,_,_=>rfl
 | i::is,L,hi,h0=>by
   have hil:=hi i zL;show E5 E is (F1 i (E i) L)=rounds E is (B4 E L i);rw[Qgq hil (h0 i) (hs i)];exact KG hs is _ (λk hk=>by rw[Np];exact hi k (zI _ hk)) λj=>yI (h0 j) (FD E L i j)
theorem DP {E:Nat->Ha}:∀(is:List Nat) (L:List Int),(∀i,i∈is->i<L.length)->∀j,nth L j<=nth (E5 E is L) j
 | [],_,_,_=>zQ _
 | i::is,L,hi,j=>yI (UD (E i) (hi i zL) j) (DP is (F1 i (E i) L) (λk hk=>by rw[Nr];exact hi k (zI _ hk)) j)
theorem VQ {E:Nat->Ha} {i:Nat} (he:∃e,e∈E i/\e.1=i/\1<=e.2):∀(is:List Nat) (L:List Int),(∀i,i∈is->i<L.length)->i∈is->nth L i+1<=nth (E5 E is L) i
 | [],_,_,h=>by simp at h
 | k::is,L,hi,h=>by
   have hk:=hi k zL;have hl:∀x,x∈is->x<(F1 k (E k) L).length:=λx hx=>by rw[Nr];exact hi x (zI _ hx)
   show _<=nth (E5 E is (F1 k (E k) L)) i;have h1:=UD (E k) hk i;have h2:=DP (E:=E) is (F1 k (E k) L) hl i;rcases zO.1 h with rfl | h
   . have:=DO (E i) hk he;omega
   have:=VQ he is (F1 k (E k) L) hl h;omega
def Du (E:Nat->Ha) (n:Nat):Nat->List Int
 | 0=>zF n 0
 | k+1=>E5 E (zN n) (Du E n k)
theorem To (E:Nat->Ha) (n:Nat):∀k,(Du E n k).length=n
 | 0=>by simp[Du]
 | k+1=>by rw[Du,XI,To E n k]
theorem LF {E:Nat->Ha} {n:Nat} (hs:∀i e,e∈E i->e.1=i->e.2<=0):∀k,Du E n k=after E n k
 | 0=>rfl
 | k+1=>by
   rw[Du,after,LF hs k];exact KG hs _ _ (λi hi=>by rw[He];exact Fm hi) λj=>Dt E n j k
theorem Qdm {E:Nat->Ha} {n:Nat} (hw:∀i e,e∈E i->e.2<=1/\e.1<n/\i<n) {k:Nat} {r:Option (List Int)} (h:YW E n n k (true,zF n 0)=some r):
 (E5 E (zN n) (Du E n (n*n+2))=Du E n (n*n+2)->r=some (Du E n (n*n+2)))/\(E5 E (zN n) (Du E n (n*n+2))≠Du E n (n*n+2)->r=none):=by
 have hw':∀i e,e∈E i->e.2<=1/\e.1<n:=λi e he=>⟨(hw i e he).1,(hw i e he).2.1⟩
 obtain ⟨h1,h2⟩:=YY hw' k 0 true r (λe=>by cases e) h;by_cases hself:∃i,∃e,e∈E i/\e.1=i/\1<=e.2
 . obtain ⟨i,e,he,hei,h3⟩:=hself;have hi:i<n:=(hw i e he).2.2
   have hne:E5 E (zN n) (Du E n (n*n+2))≠Du E n (n*n+2):=λheq=>by
    have:=VQ (E:=E) ⟨e,he,hei,h3⟩ (zN n) (Du E n (n*n+2)) (λk hk=>by rw[To];exact Fm hk) (yH.2 hi);rw[heq] at this;omega
   refine ⟨λh=>(hne h).elim,λ_=> ?_⟩;cases r with
   | none=>rfl
   | some L=>
     obtain ⟨hr,_⟩:=h1 L rfl;have h4:=YX (He E n _) hr i hi;have h5:=(Ds.1 h4).2 e he;rw[hei] at h5;omega
 have hs:∀i e,e∈E i->e.1=i->e.2<=0:=λi e he hei=>zR λhn=>hself ⟨i,e,he,hei,by omega⟩
 rw[LF hs,KG hs _ _ (λi hi=>by rw[He];exact Fm hi) λj=>Dt E n j _];refine ⟨λhr=> ?_,λhr=> ?_⟩
 . cases r with
   | none=>exact (h2 rfl hr).elim
   | some L=>rw[(h1 L rfl).2]
 cases r with
 | none=>rfl
 | some L=>exact (hr (h1 L rfl).1).elim
end
section
open Go.Shelf
def Sh.laysM171_ren:Go.Shelf.Ren:=⟨λ| 171=>211 | 243=>250 | 246=>264 | 283=>269 | 284=>270 | 285=>271 | 286=>272 | 129=>249 | 317=>273 | 318=>274 | 319=>275 | 320=>276 | 337=>277 | 338=>278 | n=>n,λ| 3=>3 | 9=>9 | 2=>2 | 4=>4 | 171=>242 | 0=>0 | 53=>224 | 37=>22 | 5=>5 | 173=>244 | 212=>248 | 51=>222 | 20=>20 | 213=>249 | 46=>152 | 232=>250 | 233=>251 | n=>n,λ| 17=>0 | 18=>1 | 19=>2 | n=>n⟩
theorem Sh.laysM171:Go.Proofs.LaysM.n171 Tryz.prog Sh.laysM171_ren:={
 mixed:=by kernel_rfl
 f129:=Tryz.func249.trans (congrArg some (by kernel_rfl))
 f171:=Tryz.func211.trans (congrArg some (by kernel_rfl))
 f243:=Tryz.func250.trans (congrArg some (by kernel_rfl))
 f246:=Tryz.func264.trans (congrArg some (by kernel_rfl))
 f283:=Tryz.func269.trans (congrArg some (by kernel_rfl))
 f284:=Tryz.func270.trans (congrArg some (by kernel_rfl))
 f285:=Tryz.func271.trans (congrArg some (by kernel_rfl))
 f286:=Tryz.func272.trans (congrArg some (by kernel_rfl))
 f317:=Tryz.func273.trans (congrArg some (by kernel_rfl))
 f318:=Tryz.func274.trans (congrArg some (by kernel_rfl))
 f319:=Tryz.func275.trans (congrArg some (by kernel_rfl))
 f320:=Tryz.func276.trans (congrArg some (by kernel_rfl))
 f337:=Tryz.func277.trans (congrArg some (by kernel_rfl))
 f338:=Tryz.func278.trans (congrArg some (by kernel_rfl))
 t0:=Tryz.underlying0
 a0:=Tryz.isAgg0
 z0:=Tryz.sizeOf0
 v0:=Tryz.zeroValue0
 t2:=Tryz.underlying2
 a2:=Tryz.isAgg2
 z2:=Tryz.sizeOf2
 v2:=Tryz.zeroValue2
 t3:=Tryz.underlying3
 a3:=Tryz.isAgg3
 z3:=Tryz.sizeOf3
 v3:=Tryz.zeroValue3
 t4:=Tryz.underlying4
 a4:=Tryz.isAgg4
 z4:=Tryz.sizeOf4
 v4:=Tryz.zeroValue4
 t5:=Tryz.underlying5
 a5:=Tryz.isAgg5
 z5:=Tryz.sizeOf5
 v5:=Tryz.zeroValue5
 t9:=Tryz.underlying9
 a9:=Tryz.isAgg9
 z9:=Tryz.sizeOf9
 v9:=Tryz.zeroValue9
 t20:=Tryz.underlying20
 a20:=Tryz.isAgg20
 z20:=Tryz.sizeOf20
 v20:=Tryz.zeroValue20
 t37:=Tryz.underlying22
 a37:=Tryz.isAgg22
 z37:=Tryz.sizeOf22
 v37:=Tryz.zeroValue22
 t46:=Tryz.underlying152
 a46:=Tryz.isAgg152
 z46:=Tryz.sizeOf152
 v46:=Tryz.zeroValue152
 t51:=Tryz.underlying222
 a51:=Tryz.isAgg222
 z51:=Tryz.sizeOf222
 v51:=Tryz.zeroValue222
 t53:=Tryz.underlying224
 a53:=Tryz.isAgg224
 z53:=Tryz.sizeOf224
 v53:=Tryz.zeroValue224
 t171:=Tryz.underlying242
 a171:=Tryz.isAgg242
 z171:=Tryz.sizeOf242
 v171:=Tryz.zeroValue242
 t173:=Tryz.underlying244
 a173:=Tryz.isAgg244
 z173:=Tryz.sizeOf244
 v173:=Tryz.zeroValue244
 t212:=Tryz.underlying248
 a212:=Tryz.isAgg248
 z212:=Tryz.sizeOf248
 v212:=Tryz.zeroValue248
 t213:=Tryz.underlying249
 a213:=Tryz.isAgg249
 z213:=Tryz.sizeOf249
 t232:=Tryz.underlying250
 a232:=Tryz.isAgg250
 z232:=Tryz.sizeOf250
 v232:=Tryz.zeroValue250
 t233:=Tryz.underlying251
 a233:=Tryz.isAgg251
 z233:=Tryz.sizeOf251
 v233:=Tryz.zeroValue251
 g17:=by kernel_rfl
 g18:=by kernel_rfl
 g19:=by kernel_rfl
 i0:=by kernel_rfl
 i2:=by kernel_rfl
 i3:=by kernel_rfl
 i4:=by kernel_rfl
 i5:=by kernel_rfl
 i9:=by kernel_rfl
 i20:=by kernel_rfl
 i37:=by kernel_rfl
 i46:=by kernel_rfl
 i51:=by kernel_rfl
 i53:=by kernel_rfl
 i171:=by kernel_rfl
 i173:=by kernel_rfl
 i212:=by kernel_rfl
 i232:=by kernel_rfl
 i233:=by kernel_rfl
 m17:=by kernel_rfl
 m18:=by kernel_rfl
 m19:=by kernel_rfl}
open Go.RowKit Go.Sort Go.Lib in
theorem Sh.strconv_Itoa (n : Int) (h0 : -9223372036854775808 ≤ n) (h1 : n ≤ 9223372036854775807) (w : World) (htab : Lib.TabIs Tryz.prog w "internal/strconv.uint64pow10" .u64 Lib.pow10Tab) :
 Calls Tryz.prog 211 #[.int .i64 n] w λe w'=>e= .returned (.string ⟨(Lib.itoa n).toArray⟩)/\∃k os,w'=grow (w.drewN k) os:=Any.strconv_Itoa Sh.laysM171 n h0 h1 w htab
def Sh.lays190_ren:Go.Shelf.Ren:=⟨λ| 190=>165 | 125=>208 | 258=>207 | 128=>248 | 129=>249 | 302=>239 | 303=>240 | 304=>241 | 305=>242 | 306=>243 | 307=>244 | 308=>245 | 309=>246 | 310=>247 | 333=>258 | 329=>259 | 330=>260 | 334=>261 | 335=>262 | 336=>263 | 344=>268 | n=>n,λ| 31=>55 | 9=>9 | 3=>3 | 46=>152 | 0=>0 | 51=>222 | 53=>224 | 4=>4 | 183=>214 | 182=>213 | 131=>219 | 5=>5 | 218=>231 | 222=>235 | 228=>239 | 229=>240 | n=>n,λ| n=>n⟩
theorem Sh.lays190:Go.Proofs.Lays.n190 Tryz.prog Sh.lays190_ren:={
 mixed:=by kernel_rfl
 f125:=Tryz.func208.trans (congrArg some (by kernel_rfl))
 f128:=Tryz.func248.trans (congrArg some (by kernel_rfl))
 f129:=Tryz.func249.trans (congrArg some (by kernel_rfl))
 f190:=Tryz.func165.trans (congrArg some (by kernel_rfl))
 f258:=Tryz.func207.trans (congrArg some (by kernel_rfl))
 f302:=Tryz.func239.trans (congrArg some (by kernel_rfl))
 f303:=Tryz.func240.trans (congrArg some (by kernel_rfl))
 f304:=Tryz.func241.trans (congrArg some (by kernel_rfl))
 f305:=Tryz.func242.trans (congrArg some (by kernel_rfl))
 f306:=Tryz.func243.trans (congrArg some (by kernel_rfl))
 f307:=Tryz.func244.trans (congrArg some (by kernel_rfl))
 f308:=Tryz.func245.trans (congrArg some (by kernel_rfl))
 f309:=Tryz.func246.trans (congrArg some (by kernel_rfl))
 f310:=Tryz.func247.trans (congrArg some (by kernel_rfl))
 f329:=Tryz.func259.trans (congrArg some (by kernel_rfl))
 f330:=Tryz.func260.trans (congrArg some (by kernel_rfl))
 f333:=Tryz.func258.trans (congrArg some (by kernel_rfl))
 f334:=Tryz.func261.trans (congrArg some (by kernel_rfl))
 f335:=Tryz.func262.trans (congrArg some (by kernel_rfl))
 f336:=Tryz.func263.trans (congrArg some (by kernel_rfl))
 f344:=Tryz.func268.trans (congrArg some (by kernel_rfl))
 t0:=Tryz.underlying0
 a0:=Tryz.isAgg0
 z0:=Tryz.sizeOf0
 v0:=Tryz.zeroValue0
 t3:=Tryz.underlying3
 a3:=Tryz.isAgg3
 z3:=Tryz.sizeOf3
 v3:=Tryz.zeroValue3
 t4:=Tryz.underlying4
 a4:=Tryz.isAgg4
 z4:=Tryz.sizeOf4
 v4:=Tryz.zeroValue4
 t5:=Tryz.underlying5
 a5:=Tryz.isAgg5
 z5:=Tryz.sizeOf5
 v5:=Tryz.zeroValue5
 t9:=Tryz.underlying9
 a9:=Tryz.isAgg9
 z9:=Tryz.sizeOf9
 v9:=Tryz.zeroValue9
 t31:=Tryz.underlying55
 a31:=Tryz.isAgg55
 z31:=Tryz.sizeOf55
 v31:=Tryz.zeroValue55
 t46:=Tryz.underlying152
 a46:=Tryz.isAgg152
 z46:=Tryz.sizeOf152
 v46:=Tryz.zeroValue152
 t51:=Tryz.underlying222
 a51:=Tryz.isAgg222
 z51:=Tryz.sizeOf222
 v51:=Tryz.zeroValue222
 t53:=Tryz.underlying224
 a53:=Tryz.isAgg224
 z53:=Tryz.sizeOf224
 v53:=Tryz.zeroValue224
 t131:=Tryz.underlying219
 a131:=Tryz.isAgg219
 z131:=Tryz.sizeOf219
 v131:=Tryz.zeroValue219
 t182:=Tryz.underlying213
 a182:=Tryz.isAgg213
 z182:=Tryz.sizeOf213
 v182:=Tryz.zeroValue213
 t183:=Tryz.underlying214
 a183:=Tryz.isAgg214
 z183:=Tryz.sizeOf214
 v183:=Tryz.zeroValue214
 t218:=Tryz.underlying231
 a218:=Tryz.isAgg231
 z218:=Tryz.sizeOf231
 v218:=Tryz.zeroValue231
 t222:=Tryz.underlying235
 a222:=Tryz.isAgg235
 z222:=Tryz.sizeOf235
 v222:=Tryz.zeroValue235
 t228:=Tryz.underlying239
 a228:=Tryz.isAgg239
 z228:=Tryz.sizeOf239
 v228:=Tryz.zeroValue239
 t229:=Tryz.underlying240
 a229:=Tryz.isAgg240
 z229:=Tryz.sizeOf240
 v229:=Tryz.zeroValue240}
open Go.Sort Go.RowKit in
theorem Sh.slices_Sort_string (blk off cap:Nat) (ss:List (List UInt8)) (w:World) (hH:Holds encStr w blk off ss.toArray) (hblk:blk<w.heap.size) (hsz:ss.length<4611686018427387904):
 Calls Tryz.prog 165 #[.slice (some ⟨blk,off,none⟩) ss.length cap] w λe w'=>
  e= .returned (.tuple #[])/\∃n os,w'=grow (putRow encStr (Sort.ahead w n) blk off (ss.mergeSort λx y=>decide (x<=y)).toArray) os:=Any.slices_Sort_string Sh.lays190 blk off cap ss w hH hblk hsz
def Sh.lays194_ren:Go.Shelf.Ren:=⟨λ| 194=>166 | n=>n,λ| 31=>55 | 9=>9 | 3=>3 | 4=>4 | 0=>0 | n=>n,λ| n=>n⟩
theorem Sh.lays194:Go.Proofs.Lays.n194 Tryz.prog Sh.lays194_ren:={
 mixed:=by kernel_rfl
 f194:=Tryz.func166.trans (congrArg some (by kernel_rfl))
 t0:=Tryz.underlying0
 a0:=Tryz.isAgg0
 z0:=Tryz.sizeOf0
 v0:=Tryz.zeroValue0
 t3:=Tryz.underlying3
 a3:=Tryz.isAgg3
 z3:=Tryz.sizeOf3
 v3:=Tryz.zeroValue3
 t4:=Tryz.underlying4
 a4:=Tryz.isAgg4
 z4:=Tryz.sizeOf4
 v4:=Tryz.zeroValue4
 t9:=Tryz.underlying9
 a9:=Tryz.isAgg9
 z9:=Tryz.sizeOf9
 v9:=Tryz.zeroValue9
 t31:=Tryz.underlying55
 a31:=Tryz.isAgg55
 z31:=Tryz.sizeOf55
 v31:=Tryz.zeroValue55}
open Go.RowKit Go.Lib Go.Sort in
theorem Sh.slices_Compact_string (blk off cap:Nat) (zs:List (List UInt8)) (w:World) (hH:Holds encStr w blk off zs.toArray) (hsz:zs.length<=9223372036854775807) (hcap:zs.length<=cap):
 Calls Tryz.prog 166 #[.slice (some ⟨blk,off,none⟩) zs.length cap] w λe w'=>e= .returned (.slice (some ⟨blk,off,none⟩) (Lib.compact zs).length cap)/\∃q,w'=putRow encStr (Sort.ahead w q) blk off (Lib.compact zs++zF (zs.length-(Lib.compact zs).length) []).toArray:=Any.slices_Compact_string Sh.lays194 blk off cap zs w hH hsz hcap
open Go.RowKit Go.Lib Go.Sort in
theorem Sh.slices_Compact_string_empty (a:Option Addr) (cap:Nat) (w:World):
 Calls Tryz.prog 166 #[.slice a 0 cap] w λe w'=>e= .returned (.slice a 0 cap)/\w'=w:=Any.slices_Compact_string_empty Sh.lays194 a cap w
open Go.RowKit Go.Sort in
theorem Sh.slices_Sort_string_none (p:Option Addr) (cap:Nat) (w:World):
 Calls Tryz.prog 165 #[.slice p 0 cap] w λe w'=>e= .returned (.tuple #[])/\w'=w:=Any.slices_Sort_string_none Sh.lays190 p cap w
end
section
open Go.RowKit
theorem Qkb (l:List ByteArray):ATake Tryz.prog 165 1 (eL l) [] false true (eL (Su l)):=by
 have h:=Qaw oneS (P:=Tryz.prog) (f:=165) (by unfold E9;kernel_rfl) (λl=>l.mergeSort λx y=>decide (x<=y)) (λl=>xI _) (λl x h=>(xM l _).mem_iff.1 h) (λoa cap w=>Sh.slices_Sort_string_none oa cap w) (λg cap l w h h2 h3=>Sh.slices_Sort_string g 0 cap l w h h2 h3) l;exact h
theorem Qkc (l:List ByteArray):ATake Tryz.prog 166 1 (eL l) [] false false (eL (HR l)):=by
 have h:=Qax oneS (P:=Tryz.prog) (f:=166) (by unfold E9;kernel_rfl) Lib.compact FA Qgn (λoa cap w=>Sh.slices_Compact_string_empty oa cap w) (λg cap l w h h2 h3=>(Sh.slices_Compact_string g 0 cap l w h h2 h3).mono (by rintro e w' ⟨h4,q,h5⟩;exact ⟨h4,q,_,by have:=FA l;simp;omega,h5⟩)) l;exact h
open GoE (enc wide)
def M0 (s_:ByteArray) (k0:Nat) (a0:ByteArray) (_:Unit):Rd Z (Unit) (Int):=(bif (Op.bytesLess a0.toList s_.toList) then (.next ()) else (.brk (k0:Int)))
def M1 (k0:Nat) (_:Unit):Int:=(k0:Int)
def K0 (list:Z) (s_:ByteArray):Z:=(Out.on (Xz (M0 s_) M1 list 0 ()) (λy0=>(bif (decide (y0<(list.length:Int))&&((nth list y0.toNat).toList==s_.toList)) then list else zP y0.toNat list++ [s_]++(yB y0.toNat list))))
theorem Gk (list:Z) (s_:ByteArray) (hp:list.length<1073741824):ACalls Tryz.prog 129 [.h list,.s s_] (.h (K0 list s_)):=by
 refine en Qb Tryz.func129 λw0 F0 hG=> ?_
 refine sn Qb [0,1,4] [] p0 <| tn Qb [0,1,4,5] [] p0 <| Qc <| mz [(4,.e 0),(5,.i 0)] [] [] [] <| wT 0 0 .sh list (λhw1 hl2=> ?_)
 refine Qmy (M0 s_) M1 list () (λk0 _=> [(5,.i (k0:Int))]) [5] (λy0=> [(5,.i y0)]) [5] (λy0=>0<=y0/\y0<=(list.length:Int)) wf0 (λk0 s0 hk0 U=> ?_) (λk0 s0 hk0 U=> ?_) (λy0 hD0=> ?_)
 ·obtain ⟨a0,hx0⟩:=Xm (l:=list) (i:=k0) hk0;refine Qc <| sn Qb [0,1,4,5,18] [] (pl 2 list (pe 3 (zB ((k0:Int)<(list.length:Int))) (pn 7 hx0 p0))) <| ck (Op.bytesLess a0.toList s_.toList) (λh3=> ?_) (λh3=> ?_)
  ·refine Qg <| Qv <| qn Qb [0,1,4,5] [] (pe 1 (Jl (Qo k0 (by omega))) p0) ?_
   exact xw _ (Qt hx0 (Q4 h3 (rfl)) U)
  exact Q3 <| xw (k0:Int) ⟨EY hx0 (Qi h3 (rfl)) U,by first|omega|(simp only[zG];omega)⟩
 ·exact Qc <| sn Qb [0,1,4,5,18] [] (pl 2 list (pe 3 (zC ((k0:Int)<(list.length:Int))) p0)) <| ckF <| Q3 <| xw (k0:Int) ⟨Xn hk0 (rfl) U,by first|omega|(simp only[zG];omega)⟩
 have hD0_0:=hD0.2;refine Qc <| Qc <| jn [(32,.b (decide (y0<(list.length:Int))&&((nth list y0.toNat).toList==s_.toList)))] [] [] [] (decide (y0<(list.length:Int))) (λh4=> ?_) (λh4=> ?_) ?_
 ·have h4d:=of_decide_eq_true h4;have hx5:=ng list y0.toNat;refine rn Qb [0,1,4,5,32] [] (pl 2 list (pt 3 h4 (pg 7 y0 hx5 p0))) ?_;exact zA (by rw[h4]<;>kernel_rfl)
 ·refine rn Qb [0,1,4,5,32] [] (pl 2 list (pf 3 h4 p0)) ?_;exact zA (by rw[h4]<;>kernel_rfl)
 refine ck (decide (y0<(list.length:Int))&&((nth list y0.toNat).toList==s_.toList)) (λh6=> ?_) (λh6=> ?_)
 ·exact sn Qb [0,1,4,5] [] p0 <| Qe <| ph0 [] (Wk hD0.1 (Q4 h6 (rfl)))
 refine Qg ?_;have hl7:zD (zP y0.toNat list)<=1073741824:=Gz (HO y0.toNat (hw1));refine su Qb [(6,.one (.slc (.own true 2624) 1 (([]++(eL (zP y0.toNat list)))++ [[.s s_]])))] [1,32] [] [] (pe 3 (KB .sh 1 y0.toNat y0 list rfl) (px (Ph (lo:=0) (hi:=y0) (n:=(zD (eL list))) (IT (by omega) (by omega) (by omega))) (po 4 (.flat) (px (Ey (n:=(([]:List (List PV)).length+((eL (zP y0.toNat list)):List (List PV)).length)) (G0 (rfl) (Zu (zP y0.toNat list)) (by first|omega|(simp only[zK,yS];omega) | (simp;omega) | simp))) (px (Cp (B8 (zP y0.toNat list))) (px (Ey (n:=((([]++(eL (zP y0.toNat list))):List (List PV)).length+([[.s s_]]:List (List PV)).length)) (by simp[Zu];omega)) p0)))))) <| eqn [(6,.o 2624 (zP y0.toNat list++ [s_]))] [6] [] [] (by rw[show (([]++(eL (zP y0.toNat list)))++ [[.s s_]])=(eL (zP y0.toNat list++ [s_])) from Ju (rfl) (rfl)];first | done | kernel_rfl) ?_
 refine wT 6 0 (.own true 2624) (zP y0.toNat list++ [s_]) (λhw8 hl9=> ?_);have hl10:zD (yB y0.toNat list)<=1073741824:=Gz (HP y0.toNat (hw1));refine su Qb [(4,.one (.slc (.own true 2944) 1 ((eL (zP y0.toNat list++ [s_]))++(eL (yB y0.toNat list)))))] [0,4,5,6] [] [] (pe 3 (OP .sh 1 y0.toNat y0 list rfl) (px (Ph (lo:=y0) (hi:=(((eL list):List (List PV)).length:Int)) (n:=(zD (eL list))) (OQ (by omega) (by omega))) (po 4 (.flat) (pa (zP y0.toNat list++ [s_]) (yB y0.toNat list) (px (Cp (B8 (yB y0.toNat list))) p0))))) <| eqn [(4,.o 2944 (zP y0.toNat list++ [s_]++(yB y0.toNat list)))] [4] [] [] (by rw[show ((eL (zP y0.toNat list++ [s_]))++(eL (yB y0.toNat list)))=(eL (zP y0.toNat list++ [s_]++(yB y0.toNat list))) from Ju (rfl) (rfl)];first | done | kernel_rfl) ?_
 exact Qe <| ph0 [2944] (Wk hD0.1 (Qi h6 (rfl)))
theorem toList_inj {a b:ByteArray}:(a.toList==b.toList)=decide (a=b):=by
 rw[ByteArray.toList_eq,ByteArray.toList_eq,yT];simp only[beq_iff_eq,decide_eq_true_eq];exact ⟨λh=>ByteArray.ext (Array.ext' h),λh=>h▸rfl⟩
def I1 (l:List ByteArray) (s:ByteArray):Nat:=(l.takeWhile λx=>bl x s).length
theorem HV (a:ByteArray) (l:List ByteArray) (s:ByteArray):I1 (a::l) s=if bl a s=true then I1 l s+1 else 0:=by
 unfold I1;rw[List.takeWhile_cons];cases bl a s<;>simp
theorem DQ (s:ByteArray):∀(l:List ByteArray) (k:Nat),Xz (M0 s) M1 l k ()= .brk (((k+I1 l s:Nat)):Int)
 | [],k=>by simp[Xz,M1,I1]
 | a ::l,k=>by
   rw[HV];simp only[Xz,M0];cases h:Op.bytesLess a.toList s.toList with
   | true=>
     have h':bl a s=true:=h;simp only[cond_true,h',if_true];rw[DQ s l (k+1),show k+1+I1 l s=k+(I1 l s+1) by omega]
   | false=>
     have h':bl a s=false:=h;simp[h']
theorem Qdn (s:ByteArray):∀l:List ByteArray,FB l s=bif (decide (((I1 l s:Nat):Int)<(l.length:Int))&&((nth l (I1 l s)).toList==s.toList)) then l else zP (I1 l s) l++ [s]++yB (I1 l s) l
 | []=>by simp[FB,I1]
 | a ::l=>by
   rw[HV,FB];cases h:bl a s with
   | true=>
     simp only[if_true];rw[Qdn s l];have e:nth (a::l) (I1 l s+1)=nth l (I1 l s):=rfl
     rw[e,show decide ((((I1 l s+1:Nat)):Int)<((a::l).length:Int))=decide (((I1 l s:Nat):Int)<(l.length:Int)) by
      rw[yT];simp only[decide_eq_true_eq,zK];omega]
     generalize (decide (((I1 l s:Nat):Int)<(l.length:Int))&&((nth l (I1 l s)).toList==s.toList))=c;cases c<;>simp
   | false=>
     have e:nth (a::l) 0=a:=rfl;simp only[zX,if_false];rw[e,toList_inj];by_cases hs:a=s
     . simp[hs]
     simp[hs]
theorem Sw (l:List ByteArray) (s:ByteArray):K0 l s=FB l s:=by
 unfold K0;rw[DQ,Qdn];simp only[Out.on,zU,zM]
theorem Sx (l:List ByteArray) (s:ByteArray):zD (K0 l s)<=zD l+1:=by rw[Sw];exact SV s l
open GoE (enc wide)
def J9 (n:Yw):Bool:=((n.1==(8:Int))|| (n.1==(9:Int)))
theorem O2 (n:Yw):ACalls Tryz.prog 206 [.a [.i n.1,.i n.2.1,.i n.2.2.1,.s n.2.2.2.1,.i n.2.2.2.2.1,.i n.2.2.2.2.2.1,.s n.2.2.2.2.2.2]] (.b (J9 n)):=by
 refine en Qb Tryz.func206 λw0 F0 hG=> ?_
 refine sn Qb [1,2] [1] p0 <| Qc <| mz [(1,.p 1 0),(2,.b false)] [0] [(1, [.i n.1,.i n.2.1,.i n.2.2.1,.s n.2.2.2.1,.i n.2.2.2.2.1,.i n.2.2.2.2.2.1,.s n.2.2.2.2.2.2])] [] <| jn [(2,.b ((n.1==(8:Int))|| (n.1==(9:Int))))] [1,2] [] [1] (n.1==(8:Int)) (λh1=> ?_) (λh1=> ?_) ?_
 ·refine rn Qb [2] [] (pt 2 h1 p0) ?_;exact zA (by rw[h1]<;>kernel_rfl)
 ·refine rn Qb [2] [] (pf 2 h1 p0) ?_;exact zA (by rw[h1]<;>kernel_rfl)
 exact Qe <| pb [] (show J9 n=((n.1==(8:Int))|| (n.1==(9:Int))) from rfl)
def Lq (l:Z):Z:=HR (Su l)
theorem Rz (l:Z):ACalls Tryz.prog 113 [.h l] (.h (Lq l)):=by
 refine en Qb Tryz.func113 λw0 F0 hG=> ?_
 refine sn Qb [0,2] [] p0 <| tn Qb [2,3] [] (pc 1 (YQ l) p0) <| mz [(2,.e 0),(3,.o 320 l)] [0] [] [] <| Hr [320] rfl ?_
 refine su Qb [(3,.one (.slc (.own false 320) 1 (Qi2 (eL l) 0 4294967296 (List.flatten (eL (Su l))))))] [3] [] [] (po 1 (.take false true (eL (Su l))) (px (QV (Qkb l)) p0)) <| eqn [(3,.q 320 (Su l))] [3] [] [] (by rw[Qgo (λ_=>rfl) (IY _)]<;>kernel_rfl) ?_
 exact sn Qb [2] [] (po 1 (.take false false (eL (HR (Su l)))) (px (QV (Qkc (Su l))) p0)) <| Qe <| ph0 [576] (show Lq l=HR (Su l) from rfl)
def Uv (q:List Yw) (negated:Bool) (k0:Nat) (a0:Bool) (s0:Z):Rd Z Z Z:=(bif ((J9 (nth q k0))&&(a0==negated)) then (.next (s0++ [(nth q k0).2.2.2.1])) else (.next s0))
def Bc (_:Nat) (s0:Z):Z:=s0
def Hb (q:List Yw) (negated:Bool):Z:=(Out.on (Xz (Uv q negated) Bc (Yq q) 0 []) (λy0=>(Lq y0)))
theorem Sy (q:List Yw) (negated:Bool):ACalls Tryz.prog 235 [.h q,.b negated] (.h (Hb q negated)):=by
 refine en Qb Tryz.func235 λw0 F0 hG=> ?_
 have hnl:=XC q;refine sn Qb [0,1,4] [] p0 <| tn Qb [0,1,4,5] [] p0 <| Qc <| tu Qb [(4,.e 0),(5,.one (.slc (.own true 512) 1 [])),(10,.o 640 (Yq q)),(11,.i ((Yq q).length:Int)),(12,.i 0)] [] [] [] (pc 1 (YS q) (pl 2 (Yq q) p0)) <| wT 10 0 (.own true 640) (Yq q) (λhw1 hl2=> ?_)
 refine KD (Uv q negated) Bc (Yq q) [] (λk0 s0=> [(5,.o 147203 s0),(12,.i (k0:Int))]) [5,12] (λy0=> [(5,.o 147353 y0)]) [0,1,5,10,11,12] (λk0 s0=>zD s0<=k0) (Xg [(512,147203)] (by kernel_rfl)) (by simp) (λk0 s0 hk0 U=> ?_) (λk0 s0 hk0 U=> ?_) (λy0 hD0=> ?_)
 ·have hA0_0:=U.2;obtain ⟨a0,hx0⟩:=Xm (l:=Yq q) (i:=k0) hk0;refine su Qb [(13,.b true)] [] [] [] (pe 0 (zB ((k0:Int)<((Yq q).length:Int))) p0) <| Qc <| ckT <| Qg <| Qc <| Qv <| sn Qb [0,1,4,5,6,7,10,11,12] [] (pN 1 hx0 p0) <| Qc <| mz [(6,.i (k0:Int)),(7,.b a0)] [13] [] [] <| jn [(26,.b ((J9 (nth q k0))&&(a0==negated)))] [7] [] [] (J9 (nth q k0)) (λh3=> ?_) (λh3=> ?_) ?_
  ·refine wT 0 0 .sh q (λhw5 hl6=> ?_);have hx4:=ng q k0;refine rn Qb [0,1,4,5,6,10,11,12,26] [] (pn 2 hx4 (pc 4 (cb h3 (O2 (nth q k0))) p0)) ?_;exact zA (by rw[h3]<;>kernel_rfl)
  ·refine wT 0 0 .sh q (λhw8 hl9=> ?_);have hx7:=ng q k0;refine ru Qb [(26,.b false)] [7] [] [] (pn 2 hx7 (pc 4 (cb h3 (O2 (nth q k0))) p0)) ?_;exact zA (by rw[h3]<;>kernel_rfl)
  refine ck ((J9 (nth q k0))&&(a0==negated)) (λh10=> ?_) (λh10=> ?_)
  ·have h10r:((a0==negated))=true:=KC h10;have h10rd:=eq_of_beq h10r;refine wT 0 0 .sh q (λhw12 hl13=> ?_);have hx11:=ng q k0;refine wT 5 0 (.own true 147203) s0 (λhw14 hl15=> ?_);refine ru Qb [(5,.one (.slc (.own true 2176) 1 ((eL s0)++ [[.s ((nth q k0).2.2.2.1)]])))] [5,6,26] [] [] (pn 3 hx11 (pa s0 [(nth q k0).2.2.2.1] p0)) ?_;refine eqn [(5,.o 2176 (s0++ [(nth q k0).2.2.2.1]))] [5] [] [] (by rw[show ((eL s0)++ [[.s ((nth q k0).2.2.2.1)]])=(eL (s0++ [(nth q k0).2.2.2.1])) from Ju (rfl) (rfl)];first | done | kernel_rfl) ?_;refine rn Qb [0,1,4,5,10,11,12] [] (pe 0 (Jl (Qo k0 (by omega))) p0) ?_;exact zY (s0++ [(nth q k0).2.2.2.1]) (yM (Xg [(2176,147203)] (by kernel_rfl)) ⟨Qt hx0 (Q4 h10 (rfl)) U.1,by first|omega|(simp;omega) | simp⟩)
  refine Qg <| rn Qb [0,1,4,5,10,11,12] [] (pe 0 (Jl (Qo k0 (by omega))) p0) ?_
  exact xw s0 ⟨Qt hx0 (Qi h10 (rfl)) U.1,by first|omega|(simp;omega) | simp⟩
 ·have hA0_0:=U.2;exact su Qb [(13,.b false)] [] [] [] (pe 0 (zC ((k0:Int)<((Yq q).length:Int))) p0) <| Qc <| ckF <| Q3 <| zY _ (yM (Xg [(147203,147353)] (by kernel_rfl)) (Xn hk0 (rfl) U.1))
 exact sn Qb [4] [] (pc 1 (Rz y0) p0) <| Qe <| ph0 [] (Wk hD0 (rfl))
def Y8 (q:List Yw):Z:=(Hb q false)
theorem YZ (q:List Yw):ACalls Tryz.prog 201 [.h q] (.h (Y8 q)):=by
 refine en Qb Tryz.func201 λw0 F0 hG=> ?_
 exact sn Qb [0,2] [] p0 <| tn Qb [2] [] (pc 1 (Sy q false) p0) <| Qe <| ph0 [] (show Y8 q=(Hb q false) from rfl)
def Yl (q:List Yw):Z:=(Hb q true)
theorem ZA (q:List Yw):ACalls Tryz.prog 202 [.h q] (.h (Yl q)):=by
 refine en Qb Tryz.func202 λw0 F0 hG=> ?_
 exact sn Qb [0,2] [] p0 <| tn Qb [2] [] (pc 1 (Sy q true) p0) <| Qe <| ph0 [] (show Yl q=(Hb q true) from rfl)
def G4 (q:List Yw) (under:Bool) (k0:Nat) (a0:Bool) (s0:Z):Rd Z Z Z:=(bif ((Xf ((nth q k0).1) 8 9)&&(a0==under)) then (.next (K0 s0 ((nth q k0).2.2.2.1))) else (.next s0))
def G5 (_:Nat) (s0:Z):Z:=s0
def Dv (q:List Yw) (under:Bool):Z:=(Out.on (Xz (G4 q under) G5 (Ke q) 0 []) (λy0=>y0))
theorem T0 (q:List Yw) (under:Bool):ACalls Tryz.prog 252 [.h q,.b under] (.o 0 (Dv q under)):=by
 refine en Qb Tryz.func252 λw0 F0 hG=> ?_
 have hnl:=IX q;refine sn Qb [0,1,4] [] p0 <| tn Qb [0,1,4,5] [] p0 <| tu Qb [(4,.e 0),(5,.one (.slc (.own true 512) 1 [])),(6,.o 640 (Ke q))] [] [] [] (pc 1 (YT q) p0) <| Qc <| su Qb [(7,.i 0)] [] [] [] p0 <| wT 6 0 (.own true 640) (Ke q) (λhw1 hl2=> ?_)
 refine KD (G4 q under) G5 (Ke q) [] (λk0 s0=> [(5,.h s0),(7,.i (k0:Int))]) [5,7] (λy0=> [(5,.h y0)]) [0,1,5,6,7] (λk0 s0=>zD s0<=k0) (Ao [] [512] [] [] (by kernel_rfl)) (by simp) (λk0 s0 hk0 U=> ?_) (λk0 s0 hk0 U=> ?_) (λy0 hD0=> ?_)
 ·have hA0_0:=U.2;obtain ⟨a0,hx0⟩:=Xm (l:=Ke q) (i:=k0) hk0;refine Qc <| su Qb [(14,.b true)] [] [] [] (pl 2 (Ke q) (pe 3 (zB ((k0:Int)<((Ke q).length:Int))) p0)) <| ckT <| Qg <| Qc <| Qv <| Qc <| jn [(30,.b ((Xf ((nth q k0).1) 8 9)&&(a0==under)))] [14] [] [] (Xf ((nth q k0).1) 8 9) (λh3=> ?_) (λh3=> ?_) ?_
  ·refine wT 0 0 .sh q (λhw5 hl6=> ?_);have hx4:=ng q k0;refine rn Qb [0,1,4,5,6,7,30] [] (pn 2 hx4 (pc 5 (cb h3 (Z8 ((nth q k0).1) 8 9)) (pN 9 hx0 p0))) ?_;exact zA (by rw[h3]<;>kernel_rfl)
  ·refine wT 0 0 .sh q (λhw8 hl9=> ?_);have hx7:=ng q k0;refine rn Qb [0,1,4,5,6,7,30] [] (pn 2 hx7 (pc 5 (cb h3 (Z8 ((nth q k0).1) 8 9)) p0)) ?_;exact zA (by rw[h3]<;>kernel_rfl)
  refine ck ((Xf ((nth q k0).1) 8 9)&&(a0==under)) (λh10=> ?_) (λh10=> ?_)
  ·have h10r:((a0==under))=true:=KC h10;have h10rd:=eq_of_beq h10r;refine wT 0 0 .sh q (λhw12 hl13=> ?_);have hx11:=ng q k0;refine rn Qb [0,1,4,5,6,7] [] (pn 3 hx11 (pc 6 (Gk s0 ((nth q k0).2.2.2.1) (by omega)) p0)) ?_;refine qn Qb [0,1,4,5,6,7] [] (pe 1 (Jl (Qo k0 (by omega))) p0) ?_;exact xw (K0 s0 ((nth q k0).2.2.2.1)) ⟨Qt hx0 (Q4 h10 (rfl)) U.1,(by first|omega|(have hz:=Sx s0 (nth q k0).2.2.2.1;omega))⟩
  refine Qg <| rn Qb [0,1,4,5,6,7] [] (pe 1 (Jl (Qo k0 (by omega))) p0) ?_
  exact xw s0 ⟨Qt hx0 (Qi h10 (rfl)) U.1,(by first|omega|(have hz:=Sx s0 (nth q k0).2.2.2.1;omega))⟩
 ·have hA0_0:=U.2;exact Qc <| su Qb [(14,.b false)] [] [] [] (pl 2 (Ke q) (pe 3 (zC ((k0:Int)<((Ke q).length:Int))) p0)) <| ckF <| Q3 <| xw _ (Xn hk0 (rfl) U.1)
 refine wT 5 0 .sh y0 (λhw14 hl15=> ?_);exact sn Qb [4] [] (po 2 (.flat) (px (Ey (n:=(([]:List (List PV)).length+((eL y0):List (List PV)).length)) (G0 (rfl) (Zu y0) (by first|omega|(simp only[zK,yS];omega) | (simp;omega) | simp))) (px (Cp (B8 y0)) p0))) <| Qe <| po0 [] (Wk hD0 (rfl))
def Kf (q:List Yw):Z:=(Dv q false)
theorem ZB (q:List Yw):ACalls Tryz.prog 224 [.h q] (.o 0 (Kf q)):=by
 refine en Qb Tryz.func224 λw0 F0 hG=> ?_
 exact sn Qb [0,2] [] p0 <| tn Qb [2] [] (pc 1 (T0 q false) p0) <| Qe <| po0 [] (show Kf q=(Dv q false) from rfl)
def Kg (q:List Yw):Z:=(Dv q true)
theorem ZC (q:List Yw):ACalls Tryz.prog 225 [.h q] (.o 0 (Kg q)):=by
 refine en Qb Tryz.func225 λw0 F0 hG=> ?_
 exact sn Qb [0,2] [] p0 <| tn Qb [2] [] (pc 1 (T0 q true) p0) <| Qe <| po0 [] (show Kg q=(Dv q true) from rfl)
theorem HW (n:Yw):Xf n.1 8 9=J9 n:=by
 unfold Xf J9;rw[yT];simp;omega
theorem HX (q:List Yw) (b:Bool):∀(l:List Bool) (k:Nat) (s:List ByteArray),∃m,Xz (Uv q b) Bc l k s= .brk (s++m)/\∀t,Xz (G4 q b) G5 l k t= .brk (E4 t m)
 | [],k,s=>⟨[],by simp[Xz,Bc],λt=>by simp[Xz,G5,E4]⟩
 | a ::l,k,s=>by
   simp only[Xz,Uv,G4,HW];cases h:(J9 (nth q k)&&(a==b)) with
   | true=>
     obtain ⟨m,h1,h2⟩:=HX q b l (k+1) (s++ [(nth q k).2.2.2.1]);refine ⟨(nth q k).2.2.2.1::m, ?_,λt=> ?_⟩
     . simp only[cond_true];rw[h1,List.append_assoc];rfl
     simp only[cond_true];rw[h2,Sw];rfl
   | false=>
     obtain ⟨m,h1,h2⟩:=HX q b l (k+1) s;exact ⟨m,by simp only[cond_false];exact h1,λt=>by simp only[cond_false];exact h2 t⟩
theorem Qdo (q:List Yw) (b:Bool):Dv q b=Hb q b:=by
 unfold Dv Hb;obtain ⟨m,h1,h2⟩:=HX q b (Yq q) 0 [];rw[DK,h1,h2];simp only[Out.on,List.nil_append];exact (SW m).symm
theorem Qaz (q:List Yw):Kf q=Y8 q:=Qdo q false
theorem Qa0 (q:List Yw):Kg q=Yl q:=Qdo q true
open GoE (enc wide)
def Zl (d:List X0) (k0:Nat) (a0:X0) (_:Unit):Rd (Bool) (Unit) (Unit):=(bif ((!(Zd a0.1))|| (bif decide ((k0:Int)>(0:Int)) then ((!(Op.bytesLess ((nth d ((k0:Int)-1).toNat).1).toList a0.1.toList))|| (!(Xb a0.2))) else (!(Xb a0.2)))) then (.ret false) else (.next ()))
def Wl (_:Nat) (_:Unit):Unit:=()
def Qw (d:List X0):Bool:=(Out.on (Xz (Zl d) Wl d 0 ()) (λ_=>decide ((d.length:Int)<=(5:Int))))
theorem Kh (d:List X0):ACalls Tryz.prog 106 [.h d] (.b (Qw d)):=by
 refine en Qb Tryz.func106 λw0 F0 hG=> ?_
 refine sn Qb [0,2] [] p0 <| Qc <| tn Qb [0,2,5,6,7] [] (pl 1 d p0) <| mz [(2,.b false),(5,.h d),(6,.i (d.length:Int)),(7,.i 0)] [] [] [] <| wT 0 0 .sh d (λhw1 hl2=> ?_)
 refine P0 (Zl d) Wl d () (λk0 _=> [(7,.i (k0:Int))]) [7] (λ_=> []) [5,6,7] wf0 (λk0 s0 hk0 U=> ?_) (λk0 s0 hk0 U=> ?_) (λy0 hD0=> ?_)
 ·obtain ⟨a0,hx0⟩:=Xm (l:=d) (i:=k0) hk0;refine sn Qb [0,2,5,6,7,8] [] (pe 0 (zB ((k0:Int)<(d.length:Int))) p0) <| Qc <| ckT <| Qg <| Qc <| Qv <| tn Qb [0,2,3,4,5,6,7] [4] (pn 1 hx0 p0) <| Qc <| mz [(3,.i (k0:Int)),(4,.p 4 0)] [] [(4, [.s a0.1,.h a0.2])] [] <| jn [(36,.b ((!(Zd a0.1))|| (bif decide ((k0:Int)>(0:Int)) then ((!(Op.bytesLess ((nth d ((k0:Int)-1).toNat).1).toList a0.1.toList))|| (!(Xb a0.2))) else (!(Xb a0.2)))))] [3,4] [] [4] (!(Zd a0.1)) (λh3=> ?_) (λh3=> ?_) ?_
  ·have h3n:(Zd a0.1)=false:=Vj h3;refine rN Qb Zg [0,2,5,6,7,36] [] (pc 2 (cb h3n (V7 a0.1)) (pe 3 (show .b (!false)= .b true from rfl) p0)) ?_;exact zA (by rw[h3]<;>kernel_rfl)
  ·have h3n:(Zd a0.1)=true:=Za h3;refine Xu (decide ((k0:Int)>(0:Int))) (λh4=> ?_) (λh4=> ?_)
   ·have h4d:=of_decide_eq_true h4;refine Xu (!(Op.bytesLess ((nth d ((k0:Int)-1).toNat).1).toList a0.1.toList)) (λh5=> ?_) (λh5=> ?_)
    ·have hx6:=ng d ((k0:Int)-1).toNat;refine rN Qb Zg [0,2,5,6,7,36] [] (pc 2 (cb h3n (V7 a0.1)) (pe 3 (show .b (!true)= .b false from rfl) (pt 6 h4 (pe 10 (Jl (IntWalk.i64_in ((k0:Int)-1) (by omega))) (pg 11 ((k0:Int)-1) hx6 (pt 16 h5 p0)))))) ?_;exact zA (by rw[h3,h4,h5]<;>kernel_rfl)
    have hx7:=ng d ((k0:Int)-1).toNat;refine rN Qb Zg [0,2,5,6,7,36] [] (pc 2 (cb h3n (V7 a0.1)) (pe 3 (show .b (!true)= .b false from rfl) (pt 6 h4 (pe 10 (Jl (IntWalk.i64_in ((k0:Int)-1) (by omega))) (pg 11 ((k0:Int)-1) hx7 (pf 16 h5 (pc 22 (Bm a0.2) p0))))))) ?_;exact zA (by rw[h3,h4,h5]<;>kernel_rfl)
   refine rN Qb Zg [0,2,5,6,7,36] [] (pc 2 (cb h3n (V7 a0.1)) (pe 3 (show .b (!true)= .b false from rfl) (pf 6 h4 (pc 22 (Bm a0.2) p0)))) ?_;exact zA (by rw[h3,h4]<;>kernel_rfl)
  refine ck ((!(Zd a0.1))|| (bif decide ((k0:Int)>(0:Int)) then ((!(Op.bytesLess ((nth d ((k0:Int)-1).toNat).1).toList a0.1.toList))|| (!(Xb a0.2))) else (!(Xb a0.2)))) (λh8=> ?_) (λh8=> ?_)
  ·refine su Qb [] [36] [] [] p0 <| Qe ?_
   have hr9:(Xz (Zl d) Wl d 0 ())= .ret false:=Jv hx0 (Q4 h8 (rfl)) U;exact pb [] (Pd hr9)
  refine Qg <| rn Qb [0,2,5,6,7] [] (pe 0 (Jl (Qo k0 (by omega))) p0) ?_
  exact xw _ (Qt hx0 (Qi h8 (rfl)) U)
 ·exact sn Qb [0,2,5,6,7,8] [] (pe 0 (zC ((k0:Int)<(d.length:Int))) p0) <| Qc <| ckF <| Q3 <| xw _ (Xn hk0 (rfl) U)
 exact sn Qb [2] [] (pl 1 d p0) <| Qe <| pb [] (Wk hD0 (rfl))
def Bn (d:List X0) (k0:Nat) (a0:X0) (_:Unit):Rd (Bool) (Unit) (Unit):=(bif ((!(Zm a0.1))|| ((!(Z5 a0.2))|| (decide ((k0:Int)>(0:Int))&&(!(Op.bytesLess ((nth d ((k0:Int)-1).toNat).1).toList a0.1.toList))))) then (.ret false) else (.next ()))
def Dd (_:Nat) (_:Unit):Unit:=()
def Ys (d:List X0):Bool:=(Out.on (Xz (Bn d) Dd d 0 ()) (λ_=>decide ((d.length:Int)<=(5:Int))))
theorem Ae (d:List X0):ACalls Tryz.prog 127 [.h d] (.b (Ys d)):=by
 refine en Qb Tryz.func127 λw0 F0 hG=> ?_
 refine sn Qb [0,2] [] p0 <| Qc <| tn Qb [0,2,3] [] p0 <| mz [(2,.b false),(3,.i 0)] [] [] [] <| wT 0 0 .sh d (λhw1 hl2=> ?_)
 refine P0 (Bn d) Dd d () (λk0 _=> [(3,.i (k0:Int))]) [3] (λ_=> []) [3] wf0 (λk0 s0 hk0 U=> ?_) (λk0 s0 hk0 U=> ?_) (λy0 hD0=> ?_)
 ·obtain ⟨a0,hx0⟩:=Xm (l:=d) (i:=k0) hk0;refine Qc <| sn Qb [0,2,3,7] [] (pl 2 d (pe 3 (zB ((k0:Int)<(d.length:Int))) p0)) <| ckT <| Qg <| Qc <| Qv <| Qc <| mz [(7,.b true)] [] [] [] <| jn [(43,.b ((!(Zm a0.1))|| ((!(Z5 a0.2))|| (decide ((k0:Int)>(0:Int))&&(!(Op.bytesLess ((nth d ((k0:Int)-1).toNat).1).toList a0.1.toList))))))] [7] [] [] (!(Zm a0.1)) (λh3=> ?_) (λh3=> ?_) ?_
  ·have h3n:(Zm a0.1)=false:=Vj h3;refine rN Qb Zg [0,2,3,43] [] (pn 2 hx0 (pc 5 (cb h3n (Kp a0.1)) (pe 6 (show .b (!false)= .b true from rfl) p0))) ?_;exact zA (by rw[h3]<;>kernel_rfl)
  ·have h3n:(Zm a0.1)=true:=Za h3;refine Xu (!(Z5 a0.2)) (λh4=> ?_) (λh4=> ?_)
   ·have h4n:(Z5 a0.2)=false:=Vj h4;refine rN Qb Zg [0,2,3,43] [] (pn 2 hx0 (pc 5 (cb h3n (Kp a0.1)) (pe 6 (show .b (!true)= .b false from rfl) (pn 10 hx0 (pc 13 (cb h4n (Hm a0.2)) (pe 14 (show .b (!false)= .b true from rfl) p0)))))) ?_;exact zA (by rw[h3,h4]<;>kernel_rfl)
   have h4n:(Z5 a0.2)=true:=Za h4;refine Xu (decide ((k0:Int)>(0:Int))) (λh5=> ?_) (λh5=> ?_)
   ·have h5d:=of_decide_eq_true h5;have hx6:=ng d ((k0:Int)-1).toNat;refine rN Qb Zg [0,2,3,43] [] (pn 2 hx0 (pc 5 (cb h3n (Kp a0.1)) (pe 6 (show .b (!true)= .b false from rfl) (pn 10 hx0 (pc 13 (cb h4n (Hm a0.2)) (pe 14 (show .b (!true)= .b false from rfl) (pt 18 h5 (pe 22 (Jl (IntWalk.i64_in ((k0:Int)-1) (by omega))) (pg 23 ((k0:Int)-1) hx6 (pn 28 hx0 p0)))))))))) ?_;exact zA (by rw[h3,h4,h5]<;>kernel_rfl)
   refine rN Qb Zg [0,2,3,43] [] (pn 2 hx0 (pc 5 (cb h3n (Kp a0.1)) (pe 6 (show .b (!true)= .b false from rfl) (pn 10 hx0 (pc 13 (cb h4n (Hm a0.2)) (pe 14 (show .b (!true)= .b false from rfl) (pf 18 h5 p0))))))) ?_;exact zA (by rw[h3,h4,h5]<;>kernel_rfl)
  refine ck ((!(Zm a0.1))|| ((!(Z5 a0.2))|| (decide ((k0:Int)>(0:Int))&&(!(Op.bytesLess ((nth d ((k0:Int)-1).toNat).1).toList a0.1.toList))))) (λh7=> ?_) (λh7=> ?_)
  ·refine sn Qb [0,2,3] [] p0 <| Qe ?_
   have hr8:(Xz (Bn d) Dd d 0 ())= .ret false:=Jv hx0 (Q4 h7 (rfl)) U;exact pb [] (Pd hr8)
  refine Qg <| rn Qb [0,2,3] [] (pe 1 (Jl (Qo k0 (by omega))) p0) ?_
  exact xw _ (Qt hx0 (Qi h7 (rfl)) U)
 ·exact Qc <| sn Qb [0,2,3,7] [] (pl 2 d (pe 3 (zC ((k0:Int)<(d.length:Int))) p0)) <| ckF <| Q3 <| xw _ (Xn hk0 (rfl) U)
 exact sn Qb [2] [] (pl 1 d p0) <| Qe <| pb [] (Wk hD0 (rfl))
def Dw (x:X0) (q0:ByteArray):Bool:=(x.1.toList==q0.toList)
theorem FE (x:X0) (q0:ByteArray):ACalls Tryz.prog 158 [.a [.s x.1,.h x.2],.one (.rptr .sh [.s q0])] (.b (Dw x q0)):=by
 refine en Qb Tryz.func158 λw0 F0 hG=> ?_
 exact sn Qb [1,2,3] [2] p0 <| tn Qb [3] [] p0 <| Qe <| pb [] (show Dw x q0=(x.1.toList==q0.toList) from rfl)
def X9 (c0:ByteArray) (k0:Nat) (a0:X0) (_:Unit):Rd (Int) (Unit) (Unit):=(bif (Dw a0 c0) then (.ret (k0:Int)) else (.next ()))
def Y2 (_:Nat) (_:Unit):Unit:=()
def Jx (s_:List X0) (c0:ByteArray):Int:=(Out.on (Xz (X9 c0) Y2 s_ 0 ()) (λ_=> -1))
theorem G6 (s_:List X0) (c0:ByteArray):ACalls Tryz.prog 154 [.h s_,.one (.fnr 158 [[.s c0]])] (.i (Jx s_ c0)):=by
 refine en Qb Tryz.func154 λw0 F0 hG=> ?_
 refine sn Qb [0,1,4] [] p0 <| Qc <| tn Qb [0,1,4,7,8] [] (pl 1 s_ p0) <| mz [(4,.i 0),(7,.i (s_.length:Int)),(8,.i 0)] [] [] [] <| wT 0 0 .sh s_ (λhw1 hl2=> ?_)
 refine P0 (X9 c0) Y2 s_ () (λk0 _=> [(8,.i (k0:Int))]) [8] (λ_=> []) [0,1,7,8] wf0 (λk0 s0 hk0 U=> ?_) (λk0 s0 hk0 U=> ?_) (λy0 hD0=> ?_)
 ·obtain ⟨a0,hx0⟩:=Xm (l:=s_) (i:=k0) hk0;refine sn Qb [0,1,4,7,8,9] [] (pe 0 (zB ((k0:Int)<(s_.length:Int))) p0) <| Qc <| ckT <| Qg <| Qc <| Qv <| tn Qb [0,1,4,5,7,8] [] p0 <| tu Qb [(5,.i (k0:Int)),(16,.b (Dw a0 c0))] [] [] [] (pn 3 hx0 (pc 5 (FE a0 c0) p0)) <| ck (Dw a0 c0) (λh3=> ?_) (λh3=> ?_)
  ·refine sn Qb [0,1,4,7,8] [] p0 <| Qe ?_
   have hr4:(Xz (X9 c0) Y2 s_ 0 ())= .ret (k0:Int):=Jv hx0 (Q4 h3 (rfl)) U;exact pi [] (Pd hr4)
  refine Qg <| rn Qb [0,1,4,7,8] [] (pe 0 (Jl (Qo k0 (by omega))) p0) ?_
  exact xw _ (Qt hx0 (Qi h3 (rfl)) U)
 ·exact sn Qb [0,1,4,7,8,9] [] (pe 0 (zC ((k0:Int)<(s_.length:Int))) p0) <| Qc <| ckF <| Q3 <| xw _ (Xn hk0 (rfl) U)
 exact sn Qb [4] [] p0 <| Qe <| pi [] (Wk hD0 (rfl))
def Q8 (d:List X0) (name:ByteArray):Int:=(Jx d name)
theorem XJ (d:List X0) (name:ByteArray):ACalls Tryz.prog 105 [.h d,.s name] (.i (Q8 d name)):=by
 refine en Qb Tryz.func105 λw0 F0 hG=> ?_
 exact sn Qb [0,3,4] [3] p0 <| tn Qb [4] [] (pc 2 (G6 d name) p0) <| Qe <| pi [] (show Q8 d name=(Jx d name) from rfl)
def Ns (name:ByteArray) (k0:Nat) (a0:X0) (_:Unit):Rd (Int) (Unit) (Unit):=(bif (a0.1.toList==name.toList) then (.ret (k0:Int)) else (.next ()))
def Nt (_:Nat) (_:Unit):Unit:=()
def Xs (d:List X0) (name:ByteArray):Int:=(Out.on (Xz (Ns name) Nt d 0 ()) (λ_=> -1))
theorem O3 (d:List X0) (name:ByteArray):ACalls Tryz.prog 132 [.h d,.s name] (.i (Xs d name)):=by
 refine en Qb Tryz.func132 λw0 F0 hG=> ?_
 refine sn Qb [0,1,4] [] p0 <| Qc <| tn Qb [0,1,4,5] [] p0 <| mz [(4,.i 0),(5,.i 0)] [] [] [] <| wT 0 0 .sh d (λhw1 hl2=> ?_)
 refine P0 (Ns name) Nt d () (λk0 _=> [(5,.i (k0:Int))]) [5] (λ_=> []) [0,1,5] wf0 (λk0 s0 hk0 U=> ?_) (λk0 s0 hk0 U=> ?_) (λy0 hD0=> ?_)
 ·obtain ⟨a0,hx0⟩:=Xm (l:=d) (i:=k0) hk0;refine Qc <| sn Qb [0,1,4,5,9] [] (pl 2 d (pe 3 (zB ((k0:Int)<(d.length:Int))) p0)) <| ckT <| Qg <| Qc <| Qv <| tn Qb [0,1,4,5,18] [] (pn 2 hx0 p0) <| ck (a0.1.toList==name.toList) (λh3=> ?_) (λh3=> ?_)
  ·refine tu Qb [(4,.i (k0:Int))] [4] [] [] p0 <| Qe ?_
   have hr4:(Xz (Ns name) Nt d 0 ())= .ret (k0:Int):=Jv hx0 (Q4 h3 (rfl)) U;exact pi [] (Pd hr4)
  refine Qg <| qu Qb [(5,.i ((k0+1:Nat):Int))] [5] [] [] (pe 1 (Jl (Qo k0 (by omega))) p0) ?_
  exact xw _ (Qt hx0 (Qi h3 (rfl)) U)
 ·exact Qc <| sn Qb [0,1,4,5,9] [] (pl 2 d (pe 3 (zC ((k0:Int)<(d.length:Int))) p0)) <| ckF <| Q3 <| xw _ (Xn hk0 (rfl) U)
 exact sn Qb [4] [] p0 <| Qe <| pi [] (Wk hD0 (rfl))
theorem De (d:List X0):Qw d=Ys d:=by
 unfold Qw Ys
 rw[Ed (f:=Zl d) (g:=Bn d) (e:=Wl) (e':=Dd) (λk a s=>by
  unfold Zl Bn;rw[Qgm,Qda];cases Zm a.1<;>cases Z5 a.2<;>cases decide (((k:Nat):Int)>(0:Int))<;>simp) (λ_ _=>rfl)]
theorem Qgr (d:List X0) (s:ByteArray):Xs d s=Q8 d s:=rfl
theorem SY (s:ByteArray):∀(l:List X0) (k:Nat),Xz (X9 s) Y2 l k ()= .brk ()\/∃i:Nat,i<l.length/\Xz (X9 s) Y2 l k ()= .ret (((k+i:Nat)):Int)
 | [],_=> .inl rfl
 | a ::l,k=>by
   simp only[Xz,X9];unfold Dw;cases (a.1.toList==s.toList) with
   | true=>exact .inr ⟨0,by simp,rfl⟩
   | false=>
     simp only[cond_false];rcases SY s l (k+1) with h | ⟨i,hi,h⟩
     . exact .inl h
     exact .inr ⟨i+1,by simpa using hi,by rw[h,show k+1+i=k+(i+1) by omega]⟩
theorem ZD (d:List X0) (s:ByteArray): -1<=Q8 d s/\Q8 d s<(zD d:Int):=by
 unfold Q8 Jx;rcases SY s d 0 with h | ⟨i,hi,h⟩
 . rw[h];simp only[Out.on];omega
 rw[h];simp only[Out.on];omega
theorem ZE (d:List X0) (s:ByteArray): -1<=Xs d s/\Xs d s<(zD d:Int):=ZD d s
open GoE (enc wide)
def Df (d:List X0) (strata:List Int) (more:Int) (_:Nat) (a0:ByteArray) (s0:Int):Rd (Int) (Int) (Int):=(bif decide ((Q8 d a0)>=(0:Int)) then (.next (max s0 (IntKind.i64.wrap ((nth strata (Q8 d a0).toNat)+more)))) else (.next s0))
def G7 (_:Nat) (s0:Int):Int:=s0
def Yi (d:List X0) (strata:List Int) (names:Z) (more:Int):Int:=(Out.on (Xz (Df d strata more) G7 names 0 0) (λy0=>y0))
theorem Pp (d:List X0) (strata:List Int) (names:Z) (more:Int) (hp:zD d<=zD strata):ACalls Tryz.prog 200 [.h d,.h strata,.h names,.i more] (.i (Yi d strata names more)):=by
 refine en Qb Tryz.func200 λw0 F0 hG=> ?_
 refine sn Qb [0,1,2,3,8] [] p0 <| tn Qb [0,1,2,3,8,9] [] p0 <| Qc <| tu Qb [(8,.i 0),(9,.i 0),(13,.h names),(14,.i (names.length:Int)),(15,.i 0)] [2] [] [] (pl 1 names p0) <| wT 13 0 .sh names (λhw1 hl2=> ?_)
 refine P0 (Df d strata more) G7 names 0 (λk0 s0=> [(9,.i s0),(15,.i (k0:Int))]) [9,15] (λy0=> [(9,.i y0)]) [0,1,3,9,13,14,15] wf0 (λk0 s0 hk0 U=> ?_) (λk0 s0 hk0 U=> ?_) (λy0 hD0=> ?_)
 ·obtain ⟨a0,hx0⟩:=Xm (l:=names) (i:=k0) hk0;refine su Qb [(16,.b true)] [] [] [] (pe 0 (zB ((k0:Int)<(names.length:Int))) p0) <| Qc <| ckT <| Qg <| Qc <| Qv <| su Qb [(11,.s a0)] [16] [] [] (pn 0 hx0 p0) <| sn Qb [0,1,3,8,9,12,13,14,15] [] (pc 2 (XJ d a0) p0) <| tn Qb [0,1,3,8,9,12,13,14,15,23] [] p0 <| ck (decide ((Q8 d a0)>=(0:Int))) (λh3=> ?_) (λh3=> ?_)
  ·have h3p:=ZD d a0;have h3d:=of_decide_eq_true h3;refine wT 1 0 .sh strata (λhw5 hl6=> ?_);have hx4:=ng strata (Q8 d a0).toNat;refine qu Qb [(9,.i (max s0 (IntKind.i64.wrap ((nth strata (Q8 d a0).toNat)+more))))] [9,11] [] [] (pg 3 (Q8 d a0) hx4 p0) ?_;refine rn Qb [0,1,3,8,9,13,14,15] [] (pe 0 (Jl (Qo k0 (by omega))) p0) ?_;exact xw _ (Qt hx0 (Q4 h3 (rfl)) U)
  have h3d:=of_decide_eq_false h3;refine Qg <| qu Qb [(15,.i ((k0+1:Nat):Int))] [11,15] [] [] (pe 0 (Jl (Qo k0 (by omega))) p0) ?_
  exact xw _ (Qt hx0 (Qi h3 (rfl)) U)
 ·exact su Qb [(16,.b false)] [] [] [] (pe 0 (zC ((k0:Int)<(names.length:Int))) p0) <| Qc <| ckF <| Q3 <| xw _ (Xn hk0 (rfl) U)
 exact sn Qb [8] [] p0 <| Qe <| pi [] (Wk hD0 (rfl))
def Ca (d:List X0) (k0:Nat) (_:Nat) (a1:ByteArray) (s1:List Int):Rd (Rd (List Int) (List Int) (List Int)) (List Int) (List Int):=(bif (decide ((Xs d a1)>=(0:Int))&&decide ((nth s1 (Xs d a1).toNat)>(nth s1 k0))) then (.next (zE s1 k0 (nth s1 (Xs d a1).toNat))) else (.next s1))
def Dx (_:Nat) (s1:List Int):(List Int):=s1
def Cb (d:List X0) (k0:Nat) (_:Nat) (a2:ByteArray) (s2:List Int):Rd (Rd (List Int) (List Int) (List Int)) (List Int) (List Int):=(bif (decide ((Xs d a2)>=(0:Int))&&decide (IntKind.i64.wrap ((nth s2 (Xs d a2).toNat)+1)>(nth s2 k0))) then (.next (zE s2 k0 (IntKind.i64.wrap ((nth s2 (Xs d a2).toNat)+1)))) else (.next s2))
def G8 (_:Nat) (s2:List Int):(List Int):=s2
def Au (d:List X0) (k0:Nat) (a0:X0) (s0:List Int):Rd (List Int) (List Int) (List Int):=(Out.on (Xz (Ca d k0) Dx (Kf a0.2) 0 s0) (λy1=>(Out.on (Xz (Cb d k0) G8 (Kg a0.2) 0 y1) (λy2=>(.next y2)))))
def G9 (_:Nat) (s0:List Int):(List Int):=s0
def Hf (d:List X0) (lev:List Int):(List Int):=(Out.on (Xz (Au d) G9 d 0 lev) (λy0=>y0))
theorem T1 (d:List X0) (lev:List Int) (hp:zD d<=zD lev):ACalls Tryz.prog 184 [.h d,.h lev] (.o 0 (Hf d lev)):=by
 refine en Qb Tryz.func184 λw0 F0 hG=> ?_
 refine sn Qb [0,1,4] [] p0 <| wT 1 0 .sh lev (λhw1 hl2=> ?_)
 refine tn Qb [0,4,5] [] (po 2 (.flat) (px (Ey (n:=(([]:List (List PV)).length+((eL lev):List (List PV)).length)) (G0 (rfl) (Zu lev) (by first|omega|(simp only[zK,yS];omega) | (simp;omega) | simp))) (px (Cp (B8 lev)) p0))) <| Qc <| tu Qb [(4,.e 0),(5,.o 960 lev),(6,.i 0)] [1] [] [] p0 <| wT 0 0 .sh d (λhw3 hl4=> ?_)
 refine Qbq (Au d) G9 d lev (λk0 s0=> [(5,.o 960 s0),(6,.i (k0:Int))]) [5,6] (λy0=> [(5,.o 960 y0)]) [0,5,6] (λ_ s0=>zD s0=zD lev) (λy0=>zD y0=zD lev) wf0 (by simp) (λk0 s0 hk0 U=> ?_) (λk0 s0 hk0 U=> ?_) (λy0 hD0=> ?_)
 ·have hA0_0:=U.2;obtain ⟨a0,hx0⟩:=Xm (l:=d) (i:=k0) hk0;refine Qc <| sn Qb [0,4,5,6,19] [] (pl 2 d (pe 3 (zB ((k0:Int)<(d.length:Int))) p0)) <| ckT <| Qg <| Qc <| Qv <| tn Qb [0,4,5,6,7] [] (pn 2 hx0 (pc 5 (ZB a0.2) p0)) <| Qc <| tu Qb [(7,.o 1728 (Kf a0.2)),(8,.i 0)] [] [] [] p0 <| wT 7 0 (.own true 1728) (Kf a0.2) (λhw5 hl6=> ?_)
  refine Qbq (Ca d k0) Dx (Kf a0.2) s0 (λk1 s1=> [(5,.o 960 s1),(8,.i (k1:Int))]) [5,8] (λy1=> [(5,.o 960 y1)]) [5,7,8] (λ_ s1=>zD s1=zD s0) (λy1=>zD y1=zD s0) wf0 (by simp) (λk1 s1 hk1 hI1=> ?_) (λk1 s1 hk1 hI1=> ?_) (λy1 hD1=> ?_)
  ·have hA1_0:=hI1.2;obtain ⟨a1,hx1⟩:=Xm (l:=Kf a0.2) (i:=k1) hk1;refine Qc <| su Qb [(31,.b true)] [] [] [] (pl 2 (Kf a0.2) (pe 3 (zB ((k1:Int)<((Kf a0.2).length:Int))) p0)) <| ckT <| Qg <| Qc <| Qv <| sn Qb [0,4,5,6,7,8,9] [] (pN 3 hx1 (pc 5 (O3 d a1) p0)) <| Qc <| mz [(9,.i (Xs d a1))] [31] [] [] <| jn [(52,.b (decide ((Xs d a1)>=(0:Int))&&decide ((nth s1 (Xs d a1).toNat)>(nth s1 k0))))] [] [] [] (decide ((Xs d a1)>=(0:Int))) (λh7=> ?_) (λh7=> ?_) ?_
   ·have h7p:=ZE d a1;have h7d:=of_decide_eq_true h7;refine wT 5 0 (.own true 960) s1 (λhw9 hl10=> ?_);have hx8:=ng s1 (Xs d a1).toNat;have hx11:=ng s1 k0;refine rN Qb Zg [0,4,5,6,7,8,9,52] [] (pt 1 h7 (pG 5 (Xs d a1) hx8 (pN 9 hx11 p0))) ?_;exact zA (by rw[h7]<;>kernel_rfl)
   ·refine rU Qb Zg [(52,.b false)] [] [] [] (pf 1 h7 p0) ?_;exact zA (by rw[h7]<;>kernel_rfl)
   refine ck (decide ((Xs d a1)>=(0:Int))&&decide ((nth s1 (Xs d a1).toNat)>(nth s1 k0))) (λh12=> ?_) (λh12=> ?_)
   ·have h12l:(decide ((Xs d a1)>=(0:Int)))=true:=XA h12;have h12lp:=ZE d a1;have h12ld:=of_decide_eq_true h12l;have h12r:(decide ((nth s1 (Xs d a1).toNat)>(nth s1 k0)))=true:=KC h12;have h12rd:=of_decide_eq_true h12r;refine wT 5 0 (.own true 960) s1 (λhw14 hl15=> ?_);have hx13:=ng s1 (Xs d a1).toNat;have hx16:=ng s1 k0;refine ru Qb [(5,.one (.slc (.own true 960) 1 (setRow (eL s1) k0 0 [.i (nth s1 (Xs d a1).toNat)])))] [5,9,52] [] [] (pG 4 (Xs d a1) hx13 (pN 6 hx16 p0)) ?_;refine eqn [(5,.o 960 (zE s1 k0 (nth s1 (Xs d a1).toNat)))] [5] [] [] (by rw[Jm (y:=(nth s1 (Xs d a1).toNat)) hx16 rfl]<;>kernel_rfl) ?_;refine rn Qb [0,4,5,6,7,8] [] (pe 1 (Jl (Qo k1 (by omega))) p0) ?_;exact xw (zE s1 k0 (nth s1 (Xs d a1).toNat)) ⟨Qt hx1 (Q4 h12 (rfl)) hI1.1,(by first|omega|(simp only[zG];omega))⟩
   refine Qg <| rn Qb [0,4,5,6,7,8] [] (pe 1 (Jl (Qo k1 (by omega))) p0) ?_
   exact xw s1 ⟨Qt hx1 (Qi h12 (rfl)) hI1.1,(by first|omega|(simp only[zG];omega))⟩
  ·have hA1_0:=hI1.2;exact Qc <| su Qb [(31,.b false)] [] [] [] (pl 2 (Kf a0.2) (pe 3 (zC ((k1:Int)<((Kf a0.2).length:Int))) p0)) <| ckF <| Q3 <| xw s1 ⟨Xn hk1 (rfl) hI1.1,by first|omega|(simp only[zG];omega)⟩
  have hD1_0:=hD1.2;refine sn Qb [0,4,5,6,10] [] (pn 2 hx0 (pc 5 (ZC a0.2) p0)) <| tn Qb [0,4,5,6,10,11] [] p0 <| mz [(10,.o 4160 (Kg a0.2)),(11,.i 0)] [] [] [] <| wT 10 0 (.own true 4160) (Kg a0.2) (λhw17 hl18=> ?_)
  refine Qbq (Cb d k0) G8 (Kg a0.2) y1 (λk2 s2=> [(5,.o 960 s2),(11,.i (k2:Int))]) [5,11] (λy2=> [(5,.o 960 y2)]) [5,10,11] (λ_ s2=>zD s2=zD y1) (λy2=>zD y2=zD y1) wf0 (by simp) (λk2 s2 hk2 hI2=> ?_) (λk2 s2 hk2 hI2=> ?_) (λy2 hD2=> ?_)
  ·have hA2_0:=hI2.2;obtain ⟨a2,hx2⟩:=Xm (l:=Kg a0.2) (i:=k2) hk2;refine Qc <| su Qb [(69,.b true)] [] [] [] (pl 2 (Kg a0.2) (pe 3 (zB ((k2:Int)<((Kg a0.2).length:Int))) p0)) <| ckT <| Qg <| Qc <| Qv <| sn Qb [0,4,5,6,10,11,12] [] (pN 3 hx2 (pc 5 (O3 d a2) p0)) <| Qc <| mz [(12,.i (Xs d a2))] [69] [] [] <| jn [(91,.b (decide ((Xs d a2)>=(0:Int))&&decide (IntKind.i64.wrap ((nth s2 (Xs d a2).toNat)+1)>(nth s2 k0))))] [] [] [] (decide ((Xs d a2)>=(0:Int))) (λh19=> ?_) (λh19=> ?_) ?_
   ·have h19p:=ZE d a2;have h19d:=of_decide_eq_true h19;refine wT 5 0 (.own true 960) s2 (λhw21 hl22=> ?_);have hx20:=ng s2 (Xs d a2).toNat;have hx23:=ng s2 k0;refine rN Qb Zg [0,4,5,6,10,11,12,91] [] (pt 1 h19 (pG 5 (Xs d a2) hx20 (pN 10 hx23 p0))) ?_;exact zA (by rw[h19]<;>kernel_rfl)
   ·refine rU Qb Zg [(91,.b false)] [] [] [] (pf 1 h19 p0) ?_;exact zA (by rw[h19]<;>kernel_rfl)
   refine ck (decide ((Xs d a2)>=(0:Int))&&decide (IntKind.i64.wrap ((nth s2 (Xs d a2).toNat)+1)>(nth s2 k0))) (λh24=> ?_) (λh24=> ?_)
   ·have h24l:(decide ((Xs d a2)>=(0:Int)))=true:=XA h24;have h24lp:=ZE d a2;have h24ld:=of_decide_eq_true h24l;have h24r:(decide (IntKind.i64.wrap ((nth s2 (Xs d a2).toNat)+1)>(nth s2 k0)))=true:=KC h24;have h24rd:=of_decide_eq_true h24r;refine wT 5 0 (.own true 960) s2 (λhw26 hl27=> ?_);have hx25:=ng s2 (Xs d a2).toNat;have hx28:=ng s2 k0;refine ru Qb [(5,.one (.slc (.own true 960) 1 (setRow (eL s2) k0 0 [.i (IntKind.i64.wrap ((nth s2 (Xs d a2).toNat)+1))])))] [5,12,91] [] [] (pG 4 (Xs d a2) hx25 (pN 7 hx28 p0)) ?_;refine eqn [(5,.o 960 (zE s2 k0 (IntKind.i64.wrap ((nth s2 (Xs d a2).toNat)+1))))] [5] [] [] (by rw[Jm (y:=IntKind.i64.wrap ((nth s2 (Xs d a2).toNat)+1)) hx28 rfl]<;>kernel_rfl) ?_;refine rn Qb [0,4,5,6,10,11] [] (pe 1 (Jl (Qo k2 (by omega))) p0) ?_;exact xw (zE s2 k0 (IntKind.i64.wrap ((nth s2 (Xs d a2).toNat)+1))) ⟨Qt hx2 (Q4 h24 (rfl)) hI2.1,(by first|omega|(simp only[zG];omega))⟩
   refine Qg <| rn Qb [0,4,5,6,10,11] [] (pe 1 (Jl (Qo k2 (by omega))) p0) ?_
   exact xw s2 ⟨Qt hx2 (Qi h24 (rfl)) hI2.1,(by first|omega|(simp only[zG];omega))⟩
  ·have hA2_0:=hI2.2;exact Qc <| su Qb [(69,.b false)] [] [] [] (pl 2 (Kg a0.2) (pe 3 (zC ((k2:Int)<((Kg a0.2).length:Int))) p0)) <| ckF <| Q3 <| xw s2 ⟨Xn hk2 (rfl) hI2.1,by first|omega|(simp only[zG];omega)⟩
  have hD2_0:=hD2.2;refine rn Qb [0,4,5,6] [] (pe 1 (Jl (Qo k0 (by omega))) p0) ?_;exact xw y2 ⟨Qt hx0 (Wk hD1.1 (Wk hD2.1 (rfl))) U.1,(by first|omega|(simp only[zG];omega))⟩
 ·have hA0_0:=U.2;exact Qc <| sn Qb [0,4,5,6,19] [] (pl 2 d (pe 3 (zC ((k0:Int)<(d.length:Int))) p0)) <| ckF <| Q3 <| xw s0 ⟨Xn hk0 (rfl) U.1,by first|omega|(simp only[zG];omega)⟩
 have hD0_0:=hD0.2;exact sn Qb [4] [] p0 <| Qe <| po0 [] (Wk hD0.1 (rfl))
theorem ZF {α R S T:Type} {f:Nat->α->S->Rd R S T} {e:Nat->S->T} (I:S->Prop) (h:∀k a s,I s->∃s',f k a s= .next s'/\I s'):∀(l:List α) (k:Nat) (s:S),I s->∃s',Xz f e l k s= .brk (e (k+l.length) s')/\I s'
 | [],k,s,hs=>⟨s,by simp[Xz],hs⟩
 | a::l,k,s,hs=>by
   obtain ⟨s1,h1,h2⟩:=h k a s hs;obtain ⟨s2,h3,h4⟩:=ZF I h l (k+1) s1 h2;refine ⟨s2, ?_,h4⟩;simp only[Xz,h1];rw[h3,zK,show k+1+l.length=k+(l.length+1) by omega]
theorem Qlk (d:List X0) (k0 n:Nat) (k:Nat) (a:ByteArray) (s:List Int) (hs:s.length=n):∃s',Ca d k0 k a s= .next s'/\s'.length=n:=by
 unfold Ca;generalize (decide ((Xs d a)>=(0:Int))&&decide ((nth s (zH (Xs d a)))>(nth s k0)))=c;cases c<;>exact ⟨_,rfl,by simpa using hs⟩
theorem Qll (d:List X0) (k0 n:Nat) (k:Nat) (a:ByteArray) (s:List Int) (hs:s.length=n):∃s',Cb d k0 k a s= .next s'/\s'.length=n:=by
 unfold Cb;generalize (decide ((Xs d a)>=(0:Int))&&decide (IntKind.i64.wrap ((nth s (zH (Xs d a)))+1)>(nth s k0)))=c;cases c<;>exact ⟨_,rfl,by simpa using hs⟩
theorem Qlm (d:List X0) (n:Nat) (k:Nat) (a:X0) (s:List Int) (hs:s.length=n):∃s',Au d k a s= .next s'/\s'.length=n:=by
 unfold Au;obtain ⟨s1,h1,h2⟩:=ZF (e:=Dx) (λs:List Int=>s.length=n) (Qlk d k n) (Kf a.2) 0 s hs;obtain ⟨s2,h3,h4⟩:=ZF (e:=G8) (λs:List Int=>s.length=n) (Qll d k n) (Kg a.2) 0 s1 h2;refine ⟨s2, ?_,h4⟩;rw[h1];simp only[Out.on,Dx];rw[h3];rfl
theorem LG (d:List X0) (lev:List Int):zD (Hf d lev)=zD lev:=by
 unfold Hf;obtain ⟨s1,h1,h2⟩:=ZF (e:=G9) (λs:List Int=>s.length=lev.length) (Qlm d lev.length) d 0 lev rfl;rw[h1];exact h2
theorem Hg {d:List X0} (h:Qw d=true):zD d<=5:=by
 unfold Qw at h;cases hf:Xz (Zl d) Wl d 0 () with
 | brk t=>rw[hf] at h;simp only[Out.on,decide_eq_true_eq] at h;omega
 | ret r=>
   rw[hf] at h;obtain rfl:r=true:=h;exfalso
   have key:∀(l:List X0) k,Xz (Zl d) Wl l k ()≠ .ret true:=by
    intro l
    induction l with
    | nil=>intro k h;simp[Xz] at h
    | cons a l ih=>
      intro k h;simp only[Xz] at h;unfold Zl at h;split at h
      . rename_i hf;exact ih _ h
      . cases h
      rename_i r hf;cases h;revert hf;generalize (_|| _:Bool)=c;cases c<;>simp
   exact key _ _ hf
theorem Qdp {d:List X0} (h:Ys d=true):IntKind.i64.wrap (IntKind.i64.wrap ((d.length:Int)*(d.length:Int))+1)=((zD d*zD d+1:Nat):Int)/\((zD d*zD d+1:Nat):Int)<=26:=by
 have h5:=Hg ((De d).trans h);generalize zD d=n at h5⊢;have:n=0\/n=1\/n=2\/n=3\/n=4\/n=5:=by omega
 rcases this with rfl | rfl | rfl | rfl | rfl | rfl<;>decide
def V6 (d:List X0) (w:Int):List ByteArray->Ha
 | []=> []
 | s::r=>if 0<=Q8 d s then (zH (Q8 d s),w)::V6 d w r else V6 d w r
theorem XK (d:List X0) (w:Int):∀(l:List ByteArray) (e:Nat×Int),e∈V6 d w l->e.2=w/\e.1<d.length
 | [],e,h=>by simp[V6] at h
 | s ::r,e,h=>by
   simp only[V6] at h;split at h
   . rename_i h0;rcases zO.1 h with rfl | h
     . have:=(ZD d s).2;exact ⟨rfl,by show zH _<_;omega⟩
     exact XK d w r e h
   exact XK d w r e h
def Kc (d:List X0) (i:Nat):Ha:=if i<d.length then V6 d 0 (Y8 (nth d i).2)++V6 d 1 (Yl (nth d i).2) else []
theorem Nu (d:List X0) (i:Nat) (e:Nat×Int) (h:e∈Kc d i):e.2<=1/\e.1<d.length/\i<d.length:=by
 unfold Kc at h;split at h
 . rename_i hi;rcases xD.1 h with h | h<;>(have:=XK d _ _ e h;omega)
 simp at h
theorem Qgs (E1 E2:Ha) (L:List Int):Og (E1++E2) L=max (Og E1 L) (Og E2 L):=by
 have h1:Og (E1++E2) L<=max (Og E1 L) (Og E2 L):=Ds.2 ⟨by have:=XE E1 L;omega,λe he=>by
  rcases xD.1 he with he | he
  . have:=(Ds.1 (zQ (Og E1 L))).2 e he;omega
  have:=(Ds.1 (zQ (Og E2 L))).2 e he;omega⟩
 have h2:=Ds.1 (zQ (Og (E1++E2) L));have h3:Og E1 L<=Og (E1++E2) L:=Ds.2 ⟨h2.1,λe he=>h2.2 e (xJ _ he)⟩;have h4:Og E2 L<=Og (E1++E2) L:=Ds.2 ⟨h2.1,λe he=>h2.2 e (yL _ he)⟩;omega
theorem KH (d:List X0) (L:List Int) (w:Int) (hw:0<=w/\w<=1) (hL:∀j,0<=nth L j/\nth L j<=1000000):∀(l:List ByteArray) (k:Nat) (m:Int),Xz (Df d L w) G7 l k m= .brk ((V6 d w l).foldl (λm e=>max m (nth L e.1+e.2)) m)
 | [],k,m=>rfl
 | s::r,k,m=>by
   simp only[Xz,Df,V6];have hwr:∀j,IntKind.i64.wrap (nth L j+w)=nth L j+w:=λj=>IntWalk.i64_in _ (by have:=hL j;omega)
   by_cases h:0<=Q8 d s
   . have h':decide (Q8 d s>=(0:Int))=true:=decide_eq_true h;rw[h',cond_true,if_pos h,hwr];exact KH d L w hw hL r (k+1) _
   have h':decide (Q8 d s>=(0:Int))=false:=decide_eq_false h;rw[h',cond_false,if_neg h];exact KH d L w hw hL r (k+1) _
theorem SZ {d:List X0} {L:List Int} {w:Int} (hw:0<=w/\w<=1) (hL:∀j,0<=nth L j/\nth L j<=1000000) (l:List ByteArray):Yi d L l w=Og (V6 d w l) L:=by
 unfold Yi;rw[KH d L w hw hL];rfl
theorem Qgt {d:List X0} {L:List Int} (hL:∀j,0<=nth L j/\nth L j<=1000000) {i:Nat} (hi:i<d.length):max (Yi d L (Y8 (nth d i).2) 0) (Yi d L (Yl (nth d i).2) 1)=Og (Kc d i) L:=by
 rw[SZ (by omega) hL,SZ (by omega) hL];unfold Kc;rw[if_pos hi,Qgs]
abbrev TA (d:List X0) (a:X0) (L:List Int):Int:=max (Yi d L (Y8 a.2) 0) (Yi d L (Yl a.2) 1)
abbrev Qdq:=Nat->X0->List Int×Bool->Rd (Rd (List Int×Bool) (List Int×Bool) (List Int)) (List Int×Bool) (List Int×Bool)
def Qdr (d:List X0) (f:Qdq):Prop:=∀k a s,f k a s=bif decide (TA d a s.1>(d.length:Int)) then .ret (.ret ([],false)) else (bif decide (TA d a s.1>nth s.1 k) then .next (zE s.1 k (TA d a s.1),true) else .next (s.1,s.2))
theorem XL {d:List X0} {f:Qdq} {e:Nat->List Int×Bool->List Int×Bool} (hf:Qdr d f) (he:∀k s,e k s=s) (hd:d.length<=1000000):
 ∀ (l:List X0) (k:Nat) (L:List Int) (c:Bool),d.drop k=l->L.length=d.length->(∀j,0<=nth L j/\nth L j<=(d.length:Int))->
   Xz f e l k (L,c)=(match I9 (Kc d) d.length (yA k l.length) (c,L) with
    | none=> .ret (.ret ([],false))
    | some s=> .brk (s.2,s.1))
 | [],k,L,c,_,_,_=>by simp[Xz,I9,he]
 | a ::l,k,L,c,hl,hlen,hL=>by
   have hk:d[k]? =some a:=by
    have:=congrArg (·[0]?) hl;simpa using this
   have hkl:k<d.length:=(yX.1 hk).1;have ha:nth d k=a:=Od hk;have hrest:d.drop (k+1)=l:=by rw[←xK,hl];rfl
   have hb:∀j,0<=nth L j/\nth L j<=1000000:=λj=>by have:=hL j;omega
   have hM:TA d a L=Og (Kc d k) L:=by rw[←ha];exact Qgt hb hkl
   simp only[Xz,hf k a (L,c),zK,xB,I9,hM];by_cases h1:(d.length:Int)<Og (Kc d k) L
   . rw[decide_eq_true (show Og (Kc d k) L>(d.length:Int) from h1),cond_true,if_pos h1]
   rw[decide_eq_false (show¬Og (Kc d k) L>(d.length:Int) from h1),cond_false,if_neg h1];by_cases h2:nth L k<Og (Kc d k) L
   . rw[decide_eq_true (show Og (Kc d k) L>nth L k from h2),cond_true,if_pos h2];refine XL hf he hd l (k+1) _ true hrest (by rw[zG];exact hlen) λj=> ?_
     have h0:=XE (Kc d k) L;rw[XF _ _ (by omega)];split
     . omega
     exact hL j
   rw[decide_eq_false (show¬Og (Kc d k) L>nth L k from h2),cond_false,if_neg h2];exact XL hf he hd l (k+1) L c hrest hlen hL
def Qk3:Option (List Int)->Out (List Int×Bool) (List Int)
 | none=> .ret ([],false)
 | some L=> .brk L
def Qik (d:List X0) (f:Qdq) (e:Nat->List Int×Bool->List Int×Bool) (F:List Int×Bool->Rd (List Int×Bool) (List Int×Bool) (List Int)):Prop:=∀s,F s=bif s.2 then (Out.on (Xz f e d 0 (s.1,false)) λy1=> .next (y1.1,y1.2)) else .brk s.1
theorem Nv {d:List X0} {f:Qdq} {e:Nat->List Int×Bool->List Int×Bool} {F:List Int×Bool->Rd (List Int×Bool) (List Int×Bool) (List Int)} (hf:Qdr d f) (he:∀k s,e k s=s) (hF:Qik d f e F) (hd:d.length<=1000000):
 ∀(n:Nat) (L:List Int) (c:Bool),L.length=d.length->(∀j,0<=nth L j/\nth L j<=(d.length:Int))->whl F n (L,c)=(YW (Kc d) d.length d.length n (c,L)).map Qk3
 | 0,L,c,_,_=>rfl
 | n+1,L,false,_,_=>by
   simp only[whl,hF (L,false),cond_false,YW];rfl
 | n +1,L,true,hlen,hL=>by
   have hr:=XL hf he hd d 0 L false rfl hlen hL;have e1:yA 0 d.length=zN d.length:=(yP ..).symm;rw[e1] at hr;simp only[whl,hF (L,true),cond_true,hr,YW];cases hc:I9 (Kc d) d.length (zN d.length) (false,L) with
   | none=>rfl
   | some s=>
     obtain ⟨h1,_,_,h4⟩:=Mb (zN d.length) false L s (λi hi=>by rw[hlen];exact Fm hi) hc;have:=Nv hf he hF hd n s.2 s.1 (by rw[h1,Tl,hlen]) λj=>⟨by rw[h1];exact yI (hL j).1 (YV (Kc d) j _ L),h4 (λj=>(hL j).2) j⟩
     exact this
theorem Dg (n:Nat):(zF n (0:Int)).length=n/\∀j,0<=nth (zF n (0:Int)) j/\nth (zF n (0:Int)) j<=(n:Int):=
 ⟨by simp,λj=>by rw[UB];omega⟩
theorem PD {d:List X0} {f:Qdq} {e:Nat->List Int×Bool->List Int×Bool} {F:List Int×Bool->Rd (List Int×Bool) (List Int×Bool) (List Int)} (hf:Qdr d f) (he:∀k s,e k s=s) (hF:Qik d f e F) (hd:d.length<=1000000):
 (whl F (zD d*zD d+3) (zF (zH (d.length:Int)) (0:Int),true)).isSome=true:=by
 rw[zM,Nv hf he hF hd _ _ _ (Dg _).1 (Dg _).2,yK];refine DN _ _ _ (Dg _).1 (λj=>((Dg _).2 j).2) ?_;have:((zD d*zD d+3:Nat):Int)=(d.length:Int)*(d.length:Int)+3:=by rw[xE,Int.natCast_mul];rfl
 have h0:(zF d.length (0:Int)).sum=0:=by simp
 rw[this,h0];omega
open GoE (enc wide)
def Fa (b:List Int) (k0:Nat) (a0:Int) (_:Unit):Rd (Bool) (Unit) (Unit):=(bif (a0 !=(nth b k0)) then (.ret false) else (.next ()))
def Lr (_:Nat) (_:Unit):Unit:=()
def Vb (a_:List Int) (b:List Int):Bool:=(bif ((a_.length:Int) !=(b.length:Int)) then false else (Out.on (Xz (Fa b) Lr a_ 0 ()) (λ_=>true)))
theorem M2 (a_:List Int) (b:List Int):ACalls Tryz.prog 122 [.h a_,.h b] (.b (Vb a_ b)):=by
 refine en Qb Tryz.func122 λw0 F0 hG=> ?_
 refine sn Qb [0,1,4] [] p0 <| Qc <| tn Qb [0,1,4,10] [] (pl 1 a_ (pl 3 b p0)) <| ck ((a_.length:Int) !=(b.length:Int)) (λh1=> ?_) (λh1=> ?_)
 ·exact tu Qb [(4,.b false)] [] [] [] p0 <| Qe <| pb [] (Q4 h1 (rfl))
 have h1d:=Vi h1;refine Qg <| Qc <| tu Qb [(4,.b false),(5,.i 0)] [] [] [] p0 <| wT 0 0 .sh a_ (λhw2 hl3=> ?_)
 refine P0 (Fa b) Lr a_ () (λk0 _=> [(5,.i (k0:Int))]) [5] (λ_=> []) [0,1,5] wf0 (λk0 s0 hk0 U=> ?_) (λk0 s0 hk0 U=> ?_) (λy0 hD0=> ?_)
 ·obtain ⟨a0,hx0⟩:=Xm (l:=a_) (i:=k0) hk0;refine Qc <| sn Qb [0,1,4,5,14] [] (pl 2 a_ (pe 3 (zB ((k0:Int)<(a_.length:Int))) p0)) <| ckT <| Qg <| Qc <| Qv <| wT 1 0 .sh b (λhw5 hl6=> ?_)
  have hx4:=ng b k0;refine tN Qb Zg [0,1,4,5,25] [] (pn 2 hx0 (pn 6 hx4 p0)) <| ck (a0 !=(nth b k0)) (λh7=> ?_) (λh7=> ?_)
  ·refine tu Qb [] [] [] [] p0 <| Qe ?_
   have hr8:(Xz (Fa b) Lr a_ 0 ())= .ret false:=Jv hx0 (Q4 h7 (rfl)) U;exact pb [] (Qi h1 (Pd hr8))
  have h7d:=Vi h7;refine Qg <| qu Qb [(5,.i ((k0+1:Nat):Int))] [5] [] [] (pe 1 (Jl (Qo k0 (by omega))) p0) ?_
  exact xw _ (Qt hx0 (Qi h7 (rfl)) U)
 ·exact Qc <| sn Qb [0,1,4,5,14] [] (pl 2 a_ (pe 3 (zC ((k0:Int)<(a_.length:Int))) p0)) <| ckF <| Q3 <| xw _ (Xn hk0 (rfl) U)
 exact sn Qb [4] [] p0 <| Qe <| pb [] (Qi h1 (Wk hD0 (rfl)))
def M3 (d:List X0) (_:Nat) (s0:List Int):Rd ((List Int)×Bool) (List Int) (List Int):=(.next (Hf d s0))
def Rl (_:Nat) (s0:List Int):(List Int):=s0
def Xi (d:List X0):(List Int)×Bool:=(bif (!(Ys d)) then ([],false) else (Out.on (Uy (M3 d) Rl (IntKind.i64.wrap (IntKind.i64.wrap ((d.length:Int)*(d.length:Int))+1)+1).toNat 0 (zF (d.length:Int).toNat (0:Int))) (λy0=>(bif (!(Vb (Hf d y0) y0)) then ([],false) else (y0,true)))))
theorem Oh (d:List X0):ACalls Tryz.prog 128 [.h d] (.tup [(false, [.o 0 (((Xi d)).1)]),(false, [.b (((Xi d)).2)])]):=by
 refine en Qb Tryz.func128 λw0 F0 hG=> ?_
 refine sn Qb [0,2,3] [] p0 <| Qc <| tn Qb [0,2,3,8] [] (pc 1 (Ae d) p0) <| ck (!(Ys d)) (λh1=> ?_) (λh1=> ?_)
 ·exact tu Qb [(2,.one (.slc (.own true 576) 1 [])),(3,.b false)] [] [] [] p0 <| Qe <| pz [] (show Xi d=_ from Q4 h1 (rfl)) (λz=> .tup [(false, [.o 0 z.1]),(false, [.b z.2])])
 have h1n:(Ys d)=true:=Za h1;have h1nv:=Qdp h1n;refine Qg <| wT 0 0 .sh d (λhw2 hl3=> ?_)
 refine tu Qb [(2,.e 0),(3,.b false),(4,.one (.slc (.own true 768) 1 (zF (d.length:Int).toNat [.i 0])))] [] [] [] (pl 1 d (px (Ph (lo:=0) (hi:=(d.length:Int)) (n:=1073741824) (⟨by omega,by omega,by omega⟩)) p0)) <| eqn [(4,.o 768 (zF (d.length:Int).toNat (0:Int)))] [4] [] [] (by rw[show (zF (d.length:Int).toNat [.i 0])=(eL (zF (d.length:Int).toNat (0:Int))) from Qgg _ (0:Int)];first | done | kernel_rfl) ?_
 refine Qc <| sn Qb [0,2,3,4,5] [] p0 <| mz [(5,.i 0)] [] [] [] <| Qma (M3 d) Rl (IntKind.i64.wrap (IntKind.i64.wrap ((d.length:Int)*(d.length:Int))+1)+1).toNat (zF (d.length:Int).toNat (0:Int)) (λk0 s0=> [(4,.o 147203 s0),(5,.i (k0:Int))]) [4,5] (λy0=> [(4,.o 147353 y0)]) [4,5] (λ_ s0=>zD s0=zD d) (λy0=>zD y0=zD d) (Xg [(768,147203)] (by kernel_rfl)) (by simp) (λk0 s0 hk0 U=> ?_) (λk0 s0 hk0 U=> ?_) (λy0 hD0=> ?_)
 ·have hA0_0:=U.2;refine Qc <| sn Qb [0,2,3,4,5,20] [] (pl 2 d (pl 4 d (pe 7 (zB ((k0:Int)<=IntKind.i64.wrap (IntKind.i64.wrap ((d.length:Int)*(d.length:Int))+1))) p0))) <| ckT <| Qg <| Qc <| Qv <| qn Qb [0,2,3,4,5] [] (pc 2 (T1 d s0 (by omega)) p0) ?_
  refine qu Qb [(4,.o 1600 (Hf d s0)),(5,.i ((k0+1:Nat):Int))] [4,5] [] [] (pe 1 (Jl (Qo k0 (by omega))) p0) ?_;exact zY (Hf d s0) (yM (Xg [(1600,147203)] (by kernel_rfl)) ⟨V2 hk0 (rfl) U.1,(by have hz:=LG d s0;omega)⟩)
 ·have hA0_0:=U.2;exact Qc <| sn Qb [0,2,3,4,5,20] [] (pl 2 d (pl 4 d (pe 7 (zC ((k0:Int)<=IntKind.i64.wrap (IntKind.i64.wrap ((d.length:Int)*(d.length:Int))+1))) p0))) <| ckF <| Q3 <| zY s0 (yM (Xg [(147203,147353)] (by kernel_rfl)) ⟨Dc hk0 (rfl) U.1,by first|omega|(simp only[zG];omega)⟩)
 have hD0_0:=hD0.2;refine Qc <| sn Qb [2,3,4,31] [] (pc 2 (T1 d y0 (by omega)) (pc 4 (M2 (Hf d y0) y0) p0)) <| ck (!(Vb (Hf d y0) y0)) (λh4=> ?_) (λh4=> ?_)
 ·exact tn Qb [2,3,4] [] p0 <| Qe <| pz [] (show Xi d=_ from Qi h1 (Wk hD0.1 (Q4 h4 (rfl)))) (λz=> .tup [(false, [.o 0 z.1]),(false, [.b z.2])])
 exact Qg <| tn Qb [2,3] [] p0 <| Qe <| pz [] (show Xi d=_ from Qi h1 (Wk hD0.1 (Qi h4 (rfl)))) (λz=> .tup [(false, [.o 0 z.1]),(false, [.b z.2])])
def H4 (d:List X0) (k1:Nat) (a1:X0) (s1:(List Int)×Bool):Rd (Rd ((List Int)×Bool) ((List Int)×Bool) (List Int)) ((List Int)×Bool) ((List Int)×Bool):=(bif decide ((max (Yi d s1.1 (Y8 a1.2) 0) (Yi d s1.1 (Yl a1.2) 1))>(d.length:Int)) then (.ret (.ret ([],false))) else (bif decide ((max (Yi d s1.1 (Y8 a1.2) 0) (Yi d s1.1 (Yl a1.2) 1))>(nth s1.1 k1)) then (.next (zE s1.1 k1 (max (Yi d s1.1 (Y8 a1.2) 0) (Yi d s1.1 (Yl a1.2) 1)),true)) else (.next (s1.1,s1.2))))
def H5 (_:Nat) (s1:(List Int)×Bool):(List Int)×Bool:=(s1.1,s1.2)
def Uj (d:List X0) (s0:(List Int)×Bool):Rd ((List Int)×Bool) ((List Int)×Bool) (List Int):=(bif s0.2 then (Out.on (Xz (H4 d) H5 d 0 (s0.1,false)) (λy1=>(.next (y1.1,y1.2)))) else (.brk s0.1))
def Qx (d:List X0):(List Int)×Bool:=(bif (!(Qw d)) then ([],false) else (Out.on (I0 (Uj d) (zD d*zD d+3) ((zF (d.length:Int).toNat (0:Int)),true)) (λy0=>(y0,true))))
theorem Gl (d:List X0) (hd:d.length<=5):(whl (Uj d) (zD d*zD d+3) (zF (d.length:Int).toNat (0:Int),true)).isSome=true:=PD (f:=H4 d) (e:=H5) (λ_ _ _=>rfl) (λ_ _=>rfl) (λ_=>rfl) (by omega)
theorem Sz (d:List X0):ACalls Tryz.prog 157 [.h d] (.tup [(false, [.o 0 (((Qx d)).1)]),(false, [.b (((Qx d)).2)])]):=by
 refine en Qb Tryz.func157 λw0 F0 hG=> ?_
 refine sn Qb [0,2,3] [] p0 <| Qc <| tn Qb [0,2,3,11] [] (pc 1 (Kh d) p0) <| ck (!(Qw d)) (λh1=> ?_) (λh1=> ?_)
 ·refine tu Qb [(2,.e 0),(3,.b false)] [] [] [] p0 <| opn [(false,2,0,true,384000,1)] ?_
  exact Qe <| pz [] (show Qx d=_ from Q4 h1 (rfl)) (λz=> .tup [(false, [.o 0 z.1]),(false, [.b z.2])])
 have h1n:(Qw d)=true:=Za h1;refine Qg <| wT 0 0 .sh d (λhw2 hl3=> ?_)
 refine tu Qb [(2,.e 0),(3,.b false),(4,.one (.slc (.own true 896) 1 (zF (d.length:Int).toNat [.i 0])))] [] [] [] (pl 1 d (px (Ph (lo:=0) (hi:=(d.length:Int)) (n:=1073741824) (⟨by omega,by omega,by omega⟩)) p0)) <| eqn [(4,.o 896 (zF (d.length:Int).toNat (0:Int)))] [4] [] [] (by rw[show (zF (d.length:Int).toNat [.i 0])=(eL (zF (d.length:Int).toNat (0:Int))) from Qgg _ (0:Int)];first | done | kernel_rfl) ?_
 refine Qc <| sn Qb [0,2,3,4,5] [] p0 <| mz [(5,.b true)] [] [] [] <| blw (λ(s0:(List Int)×Bool)=> [(4,.o 896 s0.1),(5,.b s0.2)]) [4,5] (λs0=> []) [] (λ(y0:List Int)=> [(4,.o 896 y0)]) [0,4,5] (λy0=> []) [] (λ(k0:Nat) (s0:(List Int)×Bool)=>whl (Uj d) k0 s0=some (I0 (Uj d) (zD d*zD d+3) ((zF (d.length:Int).toNat (0:Int)),true))/\zD s0.1=zD d) (λ(y0:List Int)=>(I0 (Uj d) (zD d*zD d+3) ((zF (d.length:Int).toNat (0:Int)),true))= .brk y0) (zD d*zD d+3) ((zF (d.length:Int).toNat (0:Int)),true) wf0 ⟨Fl (Gl d (Hg (h1n))),(by simp)⟩ (λ_ h=>G1 h.1) (λk0 s0 U=> ?_) (λy0 hD0=> ?_)
 ·have hA0_0:=U.2;refine Qc <| sn Qb [0,2,3,4,5,15] [] p0 <| ck s0.2 (λh4=> ?_) (λh4=> ?_)
  ·refine Qg <| Qv <| tn Qb [0,2,3,4,5] [] p0 <| tu Qb [(5,.b false),(16,.h d),(17,.i (d.length:Int)),(18,.i 0)] [5] [] [] (pl 1 d p0) <| Qbq (H4 d) H5 d (s0.1,false) (λk1 s1=> [(4,.o 896 s1.1),(5,.b s1.2),(18,.i (k1:Int))]) [4,5,18] (λy1=> [(4,.o 896 y1.1),(5,.b y1.2)]) [4,5,16,17,18] (λ_ s1=>zD s1.1=zD s0.1) (λy1=>zD y1.1=zD s0.1) wf0 (by simp) (λk1 s1 hk1 hI1=> ?_) (λk1 s1 hk1 hI1=> ?_) (λy1 hD1=> ?_)
   ·have hA1_0:=hI1.2;obtain ⟨a1,hx1⟩:=Xm (l:=d) (i:=k1) hk1;refine su Qb [(19,.b true)] [] [] [] (pe 0 (zB ((k1:Int)<(d.length:Int))) p0) <| Qc <| ckT <| Qg <| Qc <| Qv <| sn Qb [0,2,3,4,5,6,7,16,17,18] [7] (pn 1 hx1 p0) <| tN Qb Zg [0,2,3,4,5,6,8,16,17,18] [] (pc 4 (YZ a1.2) (pc 5 (Pp d s1.1 (Y8 a1.2) 0 (by omega)) (pc 10 (ZA a1.2) (pc 11 (Pp d s1.1 (Yl a1.2) 1 (by omega)) p0)))) <| Qc <| tu Qb [(6,.i (k1:Int)),(8,.i (max (Yi d s1.1 (Y8 a1.2) 0) (Yi d s1.1 (Yl a1.2) 1))),(39,.b (decide ((max (Yi d s1.1 (Y8 a1.2) 0) (Yi d s1.1 (Yl a1.2) 1))>(d.length:Int))))] [19] [] [] (pl 2 d p0) <| ck (decide ((max (Yi d s1.1 (Y8 a1.2) 0) (Yi d s1.1 (Yl a1.2) 1))>(d.length:Int))) (λh5=> ?_) (λh5=> ?_)
    ·refine su Qb [] [39] [] [] p0 <| opn [(false,2,0,true,384000,1)] ?_
     refine Qe ?_;have hr6:(Xz (H4 d) H5 d 0 (s0.1,false))= .ret (.ret ([],false)):=Jv hx1 (Q4 h5 (rfl)) hI1.1;have hr7:(I0 (Uj d) (zD d*zD d+3) ((zF (d.length:Int).toNat (0:Int)),true))= .ret ([],false):=Qj1 (Q4 h4 (Pd hr6)) U.1;exact pz [] (show Qx d=_ from Qi h1 (Pd hr7)) (λz=> .tup [(false, [.o 0 z.1]),(false, [.b z.2])])
    have h5d:=of_decide_eq_false h5;refine Qg <| wT 4 0 (.own true 896) s1.1 (λhw9 hl10=> ?_)
    have hx8:=ng s1.1 k1;refine sn Qb [0,2,3,4,5,6,8,16,17,18,45] [] (pN 3 hx8 p0) <| ck (decide ((max (Yi d s1.1 (Y8 a1.2) 0) (Yi d s1.1 (Yl a1.2) 1))>(nth s1.1 k1))) (λh11=> ?_) (λh11=> ?_)
    ·have h11d:=of_decide_eq_true h11;refine tu Qb [(4,.one (.slc (.own true 896) 1 (setRow (eL s1.1) k1 0 [.i (max (Yi d s1.1 (Y8 a1.2) 0) (Yi d s1.1 (Yl a1.2) 1))])))] [4,6,8,39] [] [] (pN 3 hx8 p0) <| eqn [(4,.o 896 (zE s1.1 k1 (max (Yi d s1.1 (Y8 a1.2) 0) (Yi d s1.1 (Yl a1.2) 1))))] [4] [] [] (by rw[Jm (y:=(max (Yi d s1.1 (Y8 a1.2) 0) (Yi d s1.1 (Yl a1.2) 1))) hx8 rfl]<;>kernel_rfl) ?_
     refine ru Qb [(5,.b true)] [5] [] [] p0 ?_;refine rn Qb [0,2,3,4,5,16,17,18] [] (pe 0 (Jl (Qo k1 (by omega))) p0) ?_;exact xw (zE s1.1 k1 (max (Yi d s1.1 (Y8 a1.2) 0) (Yi d s1.1 (Yl a1.2) 1)),true) ⟨Qt hx1 (Qi h5 (Q4 h11 (rfl))) hI1.1,(by first|omega|(simp only[zG];omega))⟩
    have h11d:=of_decide_eq_false h11;refine Qg <| qn Qb [0,2,3,4,5,16,17,18] [] (pe 0 (Jl (Qo k1 (by omega))) p0) ?_
    exact xw (s1.1,s1.2) ⟨Qt hx1 (Qi h5 (Qi h11 (rfl))) hI1.1,(by first|omega|(simp only[zG];omega))⟩
   ·have hA1_0:=hI1.2;exact su Qb [(19,.b false)] [] [] [] (pe 0 (zC ((k1:Int)<(d.length:Int))) p0) <| Qc <| ckF <| Q3 <| xw (s1.1,s1.2) ⟨Xn hk1 (rfl) hI1.1,by first|omega|(simp only[zG];omega)⟩
   have hD1_0:=hD1.2;exact xw (y1.1,y1.2) ⟨wn U.1 (Q4 h4 (Wk hD1.1 (rfl))),(by first|omega|(simp only[zG];omega))⟩
  exact Q3 <| xw _ (wb U.1 (Qi h4 (rfl)))
 exact sn Qb [2,3] [] p0 <| Qe <| pz [] (show Qx d=_ from Qi h1 (Wk hD0 (rfl))) (λz=> .tup [(false, [.o 0 z.1]),(false, [.b z.2])])
def Low (b:Int) (L:List Int):Prop:=∀j,0<=nth L j/\nth L j<=b
theorem TB {b w:Int} {i:Nat} {L:List Int} {p:Nat} (hi:i<L.length) (hw:0<=w/\w<=1) (h:Low b L):Low (b+w) (JN i L (p,w)):=λj=>by
 rw[UC _ hi];have h1:=h j;have h2:=h p;have h3:=h i;split
 . show 0<=max (nth L i) (nth L p+w)/\max (nth L i) (nth L p+w)<=b+w;omega
 omega
theorem PE (d:List X0) (k0:Nat):∀(l:List ByteArray) (k:Nat) (s:List Int) (b:Int),k0<s.length->Low b s->Xz (Ca d k0) Dx l k s= .brk (F1 k0 (V6 d 0 l) s)/\Low b (F1 k0 (V6 d 0 l) s)
 | [],k,s,b,_,h=>⟨rfl,h⟩
 | a :: l,k,s,b,hk,h=>by
   have hf:Ca d k0 k a s=(bif (decide (0<=Q8 d a)&&decide (nth s k0<nth s (zH (Q8 d a)))) then .next (zE s k0 (nth s (zH (Q8 d a)))) else .next s):=rfl;simp only[Xz,hf,V6];by_cases h0:0<=Q8 d a
   . rw [if_pos h0,decide_eq_true h0,yO];have hb:Low b (JN k0 s (zH (Q8 d a),0)):=by have:=TB (w:=0) (p:=zH (Q8 d a)) hk (by omega) h;simpa using this
     have hbk:F1 k0 ((zH (Q8 d a),0)::V6 d 0 l) s=F1 k0 (V6 d 0 l) (JN k0 s (zH (Q8 d a),0)):=rfl;rw[hbk];have ih:=PE d k0 l (k+1) (JN k0 s (zH (Q8 d a),0)) b (by rw[Rk];exact hk) hb;by_cases h1:nth s k0<nth s (zH (Q8 d a))
     . have e:JN k0 s (zH (Q8 d a),0)=zE s k0 (nth s (zH (Q8 d a))):=by unfold JN;simp[h1]
       rw[decide_eq_true h1,cond_true];rw[e] at ih⊢;exact ih
     have e:JN k0 s (zH (Q8 d a),0)=s:=by unfold JN;simp[h1]
     rw[decide_eq_false h1,cond_false];rw[e] at ih⊢;exact ih
   rw[if_neg h0,decide_eq_false h0,Bool.false_and,cond_false];exact PE d k0 l (k+1) s b hk h
theorem PF (d:List X0) (k0:Nat):∀(l:List ByteArray) (k:Nat) (s:List Int) (b:Int),k0<s.length->Low b s->b+l.length<=1000000->Xz (Cb d k0) G8 l k s= .brk (F1 k0 (V6 d 1 l) s)/\Low (b+l.length) (F1 k0 (V6 d 1 l) s)
 | [],k,s,b,_,h,_=>⟨rfl,by show Low (b+((0:Nat):Int)) s;simpa using h⟩
 | a :: l,k,s,b,hk,h,hb=>by
   rw[zK] at hb⊢;have hf:Cb d k0 k a s=(bif (decide (0<=Q8 d a)&&decide (nth s k0<IntKind.i64.wrap (nth s (zH (Q8 d a))+1))) then .next (zE s k0 (IntKind.i64.wrap (nth s (zH (Q8 d a))+1))) else .next s):=rfl;simp only[Xz,hf,V6];have hl:b+((l.length+1:Nat):Int)=b+1+(l.length:Int):=by omega
   have hw:IntKind.i64.wrap (nth s (zH (Q8 d a))+1)=nth s (zH (Q8 d a))+1:=IntWalk.i64_in _ (by have:=h (zH (Q8 d a));omega);rw[hl] at hb⊢;by_cases h0:0<=Q8 d a
   . rw [if_pos h0,decide_eq_true h0,yO,hw];have hlow:=TB (w:=1) (p:=zH (Q8 d a)) hk (by omega) h;have hbk:F1 k0 ((zH (Q8 d a),1)::V6 d 1 l) s=F1 k0 (V6 d 1 l) (JN k0 s (zH (Q8 d a),1)):=rfl;rw[hbk];have ih:=PF d k0 l (k+1) (JN k0 s (zH (Q8 d a),1)) (b+1) (by rw[Rk];exact hk) hlow hb;by_cases h1:nth s k0<nth s (zH (Q8 d a))+1
     . have e:JN k0 s (zH (Q8 d a),1)=zE s k0 (nth s (zH (Q8 d a))+1):=by unfold JN;rw[if_pos h1]
       rw[decide_eq_true h1,cond_true];rw[e] at ih⊢;exact ih
     have e:JN k0 s (zH (Q8 d a),1)=s:=by unfold JN;rw[if_neg h1]
     rw[decide_eq_false h1,cond_false];rw[e] at ih⊢;exact ih
   rw[if_neg h0,decide_eq_false h0,Bool.false_and,cond_false];exact PF d k0 l (k+1) s (b+1) hk (λj=>by have:=h j;omega) hb
theorem HY (q:List Yw) (b:Bool):∀(l:List Bool) (k:Nat) (s:List ByteArray),∃t,Xz (Uv q b) Bc l k s= .brk t/\t.length<=s.length+l.length
 | [],k,s=>⟨s,rfl,by simp⟩
 | a ::l,k,s=>by
   simp only[Xz,Uv];cases (J9 (nth q k)&&(a==b)) with
   | true=>
     obtain ⟨t,h1,h2⟩:=HY q b l (k+1) (s++ [(nth q k).2.2.2.1]);exact ⟨t,h1,by simp at h2⊢;omega⟩
   | false=>
     obtain ⟨t,h1,h2⟩:=HY q b l (k+1) s;exact ⟨t,h1,by simp at h2⊢;omega⟩
theorem Qgu (q:List Yw):zD (Yq q)<=9:=by
 cases hv:Xb q with
 | true=>have:=XC q;have:=(HQ hv).2;omega
 | false=>unfold Yq;rw[hv];simp
theorem Qmr (q:List Yw) (b:Bool):zD (Hb q b)<=9:=by
 unfold Hb;obtain ⟨t,h1,h2⟩:=HY q b (Yq q) 0 [];rw[h1];have h3:=Qgu q;have h4:=Qdh (Su t);rw[IY] at h4;show (HR (Su t)).length<=9;simp at h2;omega
theorem Qds (i:Nat) (E1 E2:Ha) (L:List Int):F1 i (E1++E2) L=F1 i E2 (F1 i E1 L):=List.foldl_append
theorem Qkd {d:List X0} {k:Nat} {a:X0} {s:List Int} {b:Int} (hk:d[k]? =some a) (hs:s.length=d.length) (h:Low b s) (hb:b+9<=1000000):Au d k a s= .next (F1 k (Kc d k) s)/\Low (b+9) (F1 k (Kc d k) s):=by
 have hkl:k<d.length:=(yX.1 hk).1;have ha:nth d k=a:=Od hk;obtain ⟨h1,h2⟩:=PE d k (Y8 a.2) 0 s b (by omega) h;have h9:(Yl a.2).length<=9:=Qmr a.2 true;obtain ⟨h3,h4⟩:=PF d k (Yl a.2) 0 (F1 k (V6 d 0 (Y8 a.2)) s) b (by rw[Nr];omega) h2 (by omega);have he:Kc d k=V6 d 0 (Y8 a.2)++V6 d 1 (Yl a.2):=by unfold Kc;rw[if_pos hkl,ha]
 rw[he,Qds];refine ⟨?_,λj=>by have:=h4 j;omega⟩;unfold Au;rw[Qaz,Qa0,h1];simp only[Out.on];rw[h3]
theorem DR {d:List X0}:∀(l:List X0) (k:Nat) (s:List Int) (b:Int),d.drop k=l->s.length=d.length->Low b s->b+9*l.length<=1000000->Xz (Au d) G9 l k s= .brk (E5 (Kc d) (yA k l.length) s)/\Low (b+9*l.length) (E5 (Kc d) (yA k l.length) s)
 | [],k,s,b,_,_,h,_=>⟨rfl,by show Low (b+9*((0:Nat):Int)) s;simpa using h⟩
 | a ::l,k,s,b,hl,hs,h,hb=>by
   have hk:d[k]? =some a:=by
    have:=congrArg (·[0]?) hl;simpa using this
   have hrest:d.drop (k+1)=l:=by rw[←xK,hl];rfl
   rw[zK] at hb⊢;obtain ⟨h1,h2⟩:=Qkd hk hs h (by omega);have e:b+9*((l.length+1:Nat):Int)=b+9+9*(l.length:Int):=by omega
   rw[e] at hb⊢;obtain ⟨h3,h4⟩:=DR l (k+1) (F1 k (Kc d k) s) (b+9) hrest (by rw[Nr];exact hs) h2 hb;simp only[Xz,h1,xB];exact ⟨h3,h4⟩
theorem DS {d:List X0} {s:List Int} {b:Int} (hs:s.length=d.length) (h:Low b s) (hb:b+9*d.length<=1000000):Hf d s=E5 (Kc d) (zN d.length) s/\Low (b+9*d.length) (E5 (Kc d) (zN d.length) s):=by
 obtain ⟨h1,h2⟩:=DR d 0 s b rfl hs h hb;have e1:yA 0 d.length=zN d.length:=(yP ..).symm;rw[e1] at h1 h2;refine ⟨?_,h2⟩;unfold Hf;rw[h1];rfl
theorem HZ {d:List X0} (hd:d.length<=5):∀(n k m:Nat),m+n<=1000->Low (45*m) (Du (Kc d) d.length m)->Uy (M3 d) Rl n k (Du (Kc d) d.length m)= .brk (Du (Kc d) d.length (m+n))/\Low (45*(m+n)) (Du (Kc d) d.length (m+n))
 | 0,k,m,_,h=>⟨rfl,by simpa using h⟩
 | n+1,k,m,hm,h=>by
   obtain ⟨h1,h2⟩:=DS (To (Kc d) d.length m) h (by omega);have e:Du (Kc d) d.length (m+1)=E5 (Kc d) (zN d.length) (Du (Kc d) d.length m):=rfl;simp only[Uy,M3,h1];rw[←e] at h2⊢;have:=HZ hd n (k+1) (m+1) (by omega) (λj=>by have:=h2 j;omega);rw[show m+(n+1)=m+1+n by omega];refine ⟨this.1,λj=>by have:=this.2 j;omega⟩
theorem Qdt (b:List Int):∀(l:List Int) (k:Nat),l.length=(b.drop k).length->Out.on (Xz (Fa b) Lr l k ()) (λ_=>true)=decide (l=b.drop k)
 | [],k,h=>by
   have:b.drop k= []:=zW (by rw[←h];rfl);rw[this];rfl
 | a ::l,k,h=>by
   have hk:k<b.length:=by simp only[zK,List.length_drop] at h;omega
   have hd:b.drop k=nth b k::b.drop (k+1):=by
    rw[List.drop_eq_getElem_cons hk,show nth b k=b[k] by simp[nth,zS,hk]]
   rw[hd] at h⊢;simp only[Xz,Fa];by_cases e:a=nth b k
   . rw[show (a !=nth b k)=false by simp[e],cond_false,Qdt b l (k+1) (by simpa using h)];simp[e]
   rw[show (a !=nth b k)=true by simp[e],cond_true];simp[e,Out.on]
theorem Qdu (a b:List Int) (h:a.length=b.length):Vb a b=decide (a=b):=by
 unfold Vb;rw[show ((a.length:Int) !=(b.length:Int))=false by simp[h],cond_false,Qdt b a 0 (by simpa using h),List.drop_zero]
theorem W8 (d:List X0):Xi d=Qx d:=by
 unfold Xi Qx;rw[←De];cases hv:Qw d with
 | false=>rfl
 | true=>
   have h5:=Hg hv;obtain ⟨hn,_⟩:=Qdp ((De d).symm.trans hv);simp only[yC,cond_false];have hz:Du (Kc d) d.length 0=zF (zH (d.length:Int)) (0:Int):=by rw[zM];rfl
   have hnn:d.length*d.length<=25:=yU (Nat.mul_le_mul h5 h5) (by decide);obtain ⟨h1,h2⟩:=HZ (d:=d) h5 (d.length*d.length+2) 0 0 (by omega) (λj=>by rw[hz,zM,UB];omega);rw[hz,zU] at h1;rw[zU] at h2;rw[hn,show zH (((d.length*d.length+1:Nat):Int)+1)=d.length*d.length+2 by omega,h1];simp only[Out.on];have hlen:=To (Kc d) d.length (d.length*d.length+2);obtain ⟨h3,_⟩:=DS (d:=d) hlen h2 (by omega);rw[h3,Qdu _ _ (by rw[XI])];have hw:=Nv (d:=d) (f:=H4 d) (e:=H5) (F:=Uj d) (λ_ _ _=>rfl) (λ_ _=>rfl) (λ_=>rfl) (by omega) (d.length*d.length+3) (zF d.length 0) true (Dg _).1 (Dg _).2
   have hsome:(YW (Kc d) d.length d.length (d.length*d.length+3) (true,zF d.length 0)).isSome=true:=by
    have:=Gl d h5;rw[zM,hw,yK] at this;exact this
   obtain ⟨r,hr⟩:=yD.1 hsome;unfold I0;rw[zM,hw,hr];obtain ⟨h6,h7⟩:=Qdm (E:=Kc d) (n:=d.length) (λi e he=>Nu d i e he) hr;by_cases hfix:E5 (Kc d) (zN d.length) (Du (Kc d) d.length (d.length*d.length+2))=Du (Kc d) d.length (d.length*d.length+2)
   . rw[h6 hfix,decide_eq_true hfix];rfl
   rw[h7 hfix,decide_eq_false hfix];rfl
open GoE (enc wide)
def Cx (name:ByteArray) (_:Nat) (a0:Jf) (_:Unit):Rd (Int) (Unit) (Unit):=(bif (a0.1.toList==name.toList) then (.ret a0.2) else (.next ()))
def Fn (_:Nat) (_:Unit):Unit:=()
def Ia (s_:List Jf) (name:ByteArray):Int:=(Out.on (Xz (Cx name) Fn s_ 0 ()) (λ_=>0))
theorem AA (s_:List Jf) (name:ByteArray):ACalls Tryz.prog 230 [.h s_,.s name] (.i (Ia s_ name)):=by
 refine en Qb Tryz.func230 λw0 F0 hG=> ?_
 refine sn Qb [0,1,4] [] p0 <| Qc <| tn Qb [1,4,7,8,9] [] (pl 1 s_ p0) <| mz [(4,.i 0),(7,.h s_),(8,.i (s_.length:Int)),(9,.i 0)] [0] [] [] <| wT 7 0 .sh s_ (λhw1 hl2=> ?_)
 refine P0 (Cx name) Fn s_ () (λk0 _=> [(9,.i (k0:Int))]) [9] (λ_=> []) [1,7,8,9] wf0 (λk0 s0 hk0 U=> ?_) (λk0 s0 hk0 U=> ?_) (λy0 hD0=> ?_)
 ·obtain ⟨a0,hx0⟩:=Xm (l:=s_) (i:=k0) hk0;refine sn Qb [1,4,7,8,9,10] [] (pe 0 (zB ((k0:Int)<(s_.length:Int))) p0) <| Qc <| ckT <| Qg <| Qc <| Qv <| tn Qb [1,4,6,7,8,9] [6] (pn 0 hx0 p0) <| tu Qb [(6,.p 6 0),(16,.b (a0.1.toList==name.toList))] [] [(6, [.s a0.1,.i a0.2])] [] p0 <| ck (a0.1.toList==name.toList) (λh3=> ?_) (λh3=> ?_)
  ·refine sn Qb [1,4,7,8,9] [] p0 <| Qe ?_
   have hr4:(Xz (Cx name) Fn s_ 0 ())= .ret a0.2:=Jv hx0 (Q4 h3 (rfl)) U;exact pi [] (Pd hr4)
  refine Qg <| rn Qb [1,4,7,8,9] [] (pe 0 (Jl (Qo k0 (by omega))) p0) ?_
  exact xw _ (Qt hx0 (Qi h3 (rfl)) U)
 ·exact sn Qb [1,4,7,8,9,10] [] (pe 0 (zC ((k0:Int)<(s_.length:Int))) p0) <| Qc <| ckF <| Q3 <| xw _ (Xn hk0 (rfl) U)
 exact sn Qb [4] [] p0 <| Qe <| pi [] (Wk hD0 (rfl))
def Z3 (s_:List Jf) (name:ByteArray) (v:B3):Bool:=((Vk v)&&((v.1 !=(0:Int))&&(v.1==(Ia s_ name))))
theorem Nw (s_:List Jf) (name:ByteArray) (v:B3):ACalls Tryz.prog 191 [.h s_,.s name,.a [.i v.1,.i v.2.1,.s v.2.2]] (.b (Z3 s_ name v)):=by
 refine en Qb Tryz.func191 λw0 F0 hG=> ?_
 refine sn Qb [0,1,5,6] [5] p0 <| Qc <| mz [(5,.p 5 0),(6,.b false)] [2] [(5, [.i v.1,.i v.2.1,.s v.2.2])] [] <| jn [(6,.b ((Vk v)&&((v.1 !=(0:Int))&&(v.1==(Ia s_ name)))))] [0,1,5,6] [] [5] (Vk v) (λh1=> ?_) (λh1=> ?_) ?_
 ·refine Xu (v.1 !=(0:Int)) (λh2=> ?_) (λh2=> ?_)
  ·refine rN Qb Zg [6] [] (pc 1 (cb h1 (Uh v)) (pt 5 h2 (pc 12 (AA s_ name) p0))) ?_;exact zA (by rw[h1,h2]<;>kernel_rfl)
  refine rN Qb Zg [6] [] (pc 1 (cb h1 (Uh v)) (pf 5 h2 p0)) ?_;exact zA (by rw[h1,h2]<;>kernel_rfl)
 ·refine rN Qb Zg [6] [] (pc 1 (cb h1 (Uh v)) p0) ?_;exact zA (by rw[h1]<;>kernel_rfl)
 exact Qe <| pb [] (show Z3 s_ name v=((Vk v)&&((v.1 !=(0:Int))&&(v.1==(Ia s_ name)))) from rfl)
def Je (n:Int):Bool:=(Zp n 0 2)
theorem Hh (n:Int):ACalls Tryz.prog 43 [.i n] (.b (Je n)):=by
 refine en Qb Tryz.func43 λw0 F0 hG=> ?_
 exact sn Qb [0,2] [] p0 <| tn Qb [2] [] (pc 1 (Vu n 0 2) p0) <| Qe <| pb [] (show Je n=(Zp n 0 2) from rfl)
def Vv (s_:List Jf) (k0:Nat) (a0:Jf) (_:Unit):Rd (Bool) (Unit) (Unit):=(bif ((!(Zx a0.1))|| (bif (a0.2 !=(1:Int)) then ((a0.2 !=(2:Int))|| (decide ((k0:Int)>(0:Int))&&(!(Op.bytesLess ((nth s_ ((k0:Int)-1).toNat).1).toList a0.1.toList)))) else (decide ((k0:Int)>(0:Int))&&(!(Op.bytesLess ((nth s_ ((k0:Int)-1).toNat).1).toList a0.1.toList))))) then (.ret false) else (.next ()))
def Ut (_:Nat) (_:Unit):Unit:=()
def Jn (s_:List Jf):Bool:=(Out.on (Xz (Vv s_) Ut s_ 0 ()) (λ_=>decide ((s_.length:Int)<=(5:Int))))
theorem Cr (s_:List Jf):ACalls Tryz.prog 167 [.h s_] (.b (Jn s_)):=by
 refine en Qb Tryz.func167 λw0 F0 hG=> ?_
 refine sn Qb [0,2] [] p0 <| Qc <| tn Qb [0,2,5,6,7] [] (pl 1 s_ p0) <| mz [(2,.b false),(5,.h s_),(6,.i (s_.length:Int)),(7,.i 0)] [] [] [] <| wT 0 0 .sh s_ (λhw1 hl2=> ?_)
 refine P0 (Vv s_) Ut s_ () (λk0 _=> [(7,.i (k0:Int))]) [7] (λ_=> []) [5,6,7] wf0 (λk0 s0 hk0 U=> ?_) (λk0 s0 hk0 U=> ?_) (λy0 hD0=> ?_)
 ·obtain ⟨a0,hx0⟩:=Xm (l:=s_) (i:=k0) hk0;refine sn Qb [0,2,5,6,7,8] [] (pe 0 (zB ((k0:Int)<(s_.length:Int))) p0) <| Qc <| ckT <| Qg <| Qc <| Qv <| tn Qb [0,2,3,4,5,6,7] [4] (pn 1 hx0 p0) <| Qc <| mz [(3,.i (k0:Int)),(4,.p 4 0)] [] [(4, [.s a0.1,.i a0.2])] [] <| jn [(40,.b ((!(Zx a0.1))|| (bif (a0.2 !=(1:Int)) then ((a0.2 !=(2:Int))|| (decide ((k0:Int)>(0:Int))&&(!(Op.bytesLess ((nth s_ ((k0:Int)-1).toNat).1).toList a0.1.toList)))) else (decide ((k0:Int)>(0:Int))&&(!(Op.bytesLess ((nth s_ ((k0:Int)-1).toNat).1).toList a0.1.toList))))))] [3,4] [] [4] (!(Zx a0.1)) (λh3=> ?_) (λh3=> ?_) ?_
  ·have h3n:(Zx a0.1)=false:=Vj h3;refine rN Qb Zg [0,2,5,6,7,40] [] (pc 2 (cb h3n (Jc a0.1)) (pe 3 (show .b (!false)= .b true from rfl) p0)) ?_;exact zA (by rw[h3]<;>kernel_rfl)
  ·have h3n:(Zx a0.1)=true:=Za h3;refine Xu (a0.2 !=(1:Int)) (λh4=> ?_) (λh4=> ?_)
   ·have h4d:=Sq h4;refine Xu (a0.2 !=(2:Int)) (λh5=> ?_) (λh5=> ?_)
    ·refine rN Qb Zg [0,2,5,6,7,40] [] (pc 2 (cb h3n (Jc a0.1)) (pe 3 (show .b (!true)= .b false from rfl) (pt 7 h4 (pt 11 h5 p0)))) ?_;exact zA (by rw[h3,h4,h5]<;>kernel_rfl)
    have h5d:=Vi h5;refine Xu (decide ((k0:Int)>(0:Int))) (λh6=> ?_) (λh6=> ?_)
    ·have h6d:=of_decide_eq_true h6;have hx7:=ng s_ ((k0:Int)-1).toNat;refine rN Qb Zg [0,2,5,6,7,40] [] (pc 2 (cb h3n (Jc a0.1)) (pe 3 (show .b (!true)= .b false from rfl) (pt 7 h4 (pf 11 h5 (pt 16 h6 (pe 20 (Jl (IntWalk.i64_in ((k0:Int)-1) (by omega))) (pg 21 ((k0:Int)-1) hx7 p0))))))) ?_;exact zA (by rw[h3,h4,h5,h6]<;>kernel_rfl)
    refine rN Qb Zg [0,2,5,6,7,40] [] (pc 2 (cb h3n (Jc a0.1)) (pe 3 (show .b (!true)= .b false from rfl) (pt 7 h4 (pf 11 h5 (pf 16 h6 p0))))) ?_;exact zA (by rw[h3,h4,h5,h6]<;>kernel_rfl)
   have h4d:=Vi h4;refine Xu (decide ((k0:Int)>(0:Int))) (λh8=> ?_) (λh8=> ?_)
   ·have h8d:=of_decide_eq_true h8;have hx9:=ng s_ ((k0:Int)-1).toNat;refine rN Qb Zg [0,2,5,6,7,40] [] (pc 2 (cb h3n (Jc a0.1)) (pe 3 (show .b (!true)= .b false from rfl) (pf 7 h4 (pt 16 h8 (pe 20 (Jl (IntWalk.i64_in ((k0:Int)-1) (by omega))) (pg 21 ((k0:Int)-1) hx9 p0)))))) ?_;exact zA (by rw[h3,h4,h8]<;>kernel_rfl)
   refine rN Qb Zg [0,2,5,6,7,40] [] (pc 2 (cb h3n (Jc a0.1)) (pe 3 (show .b (!true)= .b false from rfl) (pf 7 h4 (pf 16 h8 p0)))) ?_;exact zA (by rw[h3,h4,h8]<;>kernel_rfl)
  refine ck ((!(Zx a0.1))|| (bif (a0.2 !=(1:Int)) then ((a0.2 !=(2:Int))|| (decide ((k0:Int)>(0:Int))&&(!(Op.bytesLess ((nth s_ ((k0:Int)-1).toNat).1).toList a0.1.toList)))) else (decide ((k0:Int)>(0:Int))&&(!(Op.bytesLess ((nth s_ ((k0:Int)-1).toNat).1).toList a0.1.toList))))) (λh10=> ?_) (λh10=> ?_)
  ·refine su Qb [] [40] [] [] p0 <| Qe ?_
   have hr11:(Xz (Vv s_) Ut s_ 0 ())= .ret false:=Jv hx0 (Q4 h10 (rfl)) U;exact pb [] (Pd hr11)
  refine Qg <| rn Qb [0,2,5,6,7] [] (pe 0 (Jl (Qo k0 (by omega))) p0) ?_
  exact xw _ (Qt hx0 (Qi h10 (rfl)) U)
 ·exact sn Qb [0,2,5,6,7,8] [] (pe 0 (zC ((k0:Int)<(s_.length:Int))) p0) <| Qc <| ckF <| Q3 <| xw _ (Xn hk0 (rfl) U)
 exact sn Qb [2] [] (pl 1 s_ p0) <| Qe <| pb [] (Wk hD0 (rfl))
def Y7 (s_:List Jf) (f:Xe) (k0:Nat) (a0:Bl) (_:Unit):Rd (Bool) (Unit) (Unit):=(bif (bif decide ((k0:Int)>(0:Int)) then ((!(Op.bytesLess ((nth f.2.2.2.2 ((k0:Int)-1).toNat).1).toList a0.1.toList))|| (!(Z3 s_ a0.1 a0.2))) else (!(Z3 s_ a0.1 a0.2))) then (.ret false) else (.next ()))
def K6 (_:Nat) (_:Unit):Unit:=()
def Yc (s_:List Jf) (f:Xe):Bool:=(Out.on (Xz (Y7 s_ f) K6 f.2.2.2.2 0 ()) (λ_=>((Zp f.1 1 60)&&((Je f.2.1)&&((Zp f.2.2.2.1 0 60)&&(Jn s_))))))
theorem Af (s_:List Jf) (f:Xe):ACalls Tryz.prog 148 [.h s_,.a [.i f.1,.i f.2.1,.b f.2.2.1,.i f.2.2.2.1,.h f.2.2.2.2]] (.b (Yc s_ f)):=by
 refine en Qb Tryz.func148 λw0 F0 hG=> ?_
 refine sn Qb [0,3,4] [3] p0 <| Qc <| tn Qb [0,3,4,8,9,10] [3] (pl 2 f.2.2.2.2 p0) <| mz [(3,.p 3 0),(4,.b false),(8,.h f.2.2.2.2),(9,.i (f.2.2.2.2.length:Int)),(10,.i 0)] [1] [(3, [.i f.1,.i f.2.1,.b f.2.2.1,.i f.2.2.2.1,.h f.2.2.2.2])] [] <| wT 8 0 .sh f.2.2.2.2 (λhw1 hl2=> ?_)
 refine P0 (Y7 s_ f) K6 f.2.2.2.2 () (λk0 _=> [(10,.i (k0:Int))]) [10] (λ_=> []) [8,9,10] wf0 (λk0 s0 hk0 U=> ?_) (λk0 s0 hk0 U=> ?_) (λy0 hD0=> ?_)
 ·obtain ⟨a0,hx0⟩:=Xm (l:=f.2.2.2.2) (i:=k0) hk0;refine su Qb [(11,.b true)] [] [] [] (pe 0 (zB ((k0:Int)<(f.2.2.2.2.length:Int))) p0) <| Qc <| ckT <| Qg <| Qc <| Qv <| sn Qb [0,3,4,5,6,8,9,10] [3,6] (pn 1 hx0 p0) <| Qc <| mz [(5,.i (k0:Int)),(6,.p 6 0)] [11] [(6, [.s a0.1,.i a0.2.1,.i a0.2.2.1,.s a0.2.2.2])] [] <| jn [(37,.b (bif decide ((k0:Int)>(0:Int)) then ((!(Op.bytesLess ((nth f.2.2.2.2 ((k0:Int)-1).toNat).1).toList a0.1.toList))|| (!(Z3 s_ a0.1 a0.2))) else (!(Z3 s_ a0.1 a0.2))))] [5,6] [] [6] (decide ((k0:Int)>(0:Int))) (λh3=> ?_) (λh3=> ?_) ?_
  ·have h3d:=of_decide_eq_true h3;refine Xu (!(Op.bytesLess ((nth f.2.2.2.2 ((k0:Int)-1).toNat).1).toList a0.1.toList)) (λh4=> ?_) (λh4=> ?_)
   ·have hx5:=ng f.2.2.2.2 ((k0:Int)-1).toNat;refine rN Qb Zg [0,3,4,8,9,10,37] [3] (pt 1 h3 (pe 6 (Jl (IntWalk.i64_in ((k0:Int)-1) (by omega))) (pg 7 ((k0:Int)-1) hx5 (pt 12 h4 p0)))) ?_;exact zA (by rw[h3,h4]<;>kernel_rfl)
   have hx6:=ng f.2.2.2.2 ((k0:Int)-1).toNat;refine rN Qb Zg [0,3,4,8,9,10,37] [3] (pt 1 h3 (pe 6 (Jl (IntWalk.i64_in ((k0:Int)-1) (by omega))) (pg 7 ((k0:Int)-1) hx6 (pf 12 h4 (pc 20 (Nw s_ a0.1 a0.2) p0))))) ?_;exact zA (by rw[h3,h4]<;>kernel_rfl)
  ·refine rN Qb Zg [0,3,4,8,9,10,37] [3] (pf 1 h3 (pc 20 (Nw s_ a0.1 a0.2) p0)) ?_;exact zA (by rw[h3]<;>kernel_rfl)
  refine ck (bif decide ((k0:Int)>(0:Int)) then ((!(Op.bytesLess ((nth f.2.2.2.2 ((k0:Int)-1).toNat).1).toList a0.1.toList))|| (!(Z3 s_ a0.1 a0.2))) else (!(Z3 s_ a0.1 a0.2))) (λh7=> ?_) (λh7=> ?_)
  ·refine su Qb [] [37] [] [] p0 <| Qe ?_
   have hr8:(Xz (Y7 s_ f) K6 f.2.2.2.2 0 ())= .ret false:=Jv hx0 (Q4 h7 (rfl)) U;exact pb [] (Pd hr8)
  refine Qg <| rn Qb [0,3,4,8,9,10] [3] (pe 0 (Jl (Qo k0 (by omega))) p0) ?_
  exact xw _ (Qt hx0 (Qi h7 (rfl)) U)
 ·exact su Qb [(11,.b false)] [] [] [] (pe 0 (zC ((k0:Int)<(f.2.2.2.2.length:Int))) p0) <| Qc <| ckF <| Q3 <| xw _ (Xn hk0 (rfl) U)
 refine Qc <| jn [(4,.b ((Zp f.1 1 60)&&((Je f.2.1)&&((Zp f.2.2.2.1 0 60)&&(Jn s_)))))] [0,3,4] [] [3] (Zp f.1 1 60) (λh9=> ?_) (λh9=> ?_) ?_
 ·have h9w:=Pn.1 h9;refine Xu (Je f.2.1) (λh10=> ?_) (λh10=> ?_)
  ·refine Xu (Zp f.2.2.2.1 0 60) (λh11=> ?_) (λh11=> ?_)
   ·have h11w:=Pn.1 h11;refine rn Qb [4] [] (pc 2 (cb h9 (Vu f.1 1 60)) (pc 6 (cb h10 (Hh f.2.1)) (pc 11 (cb h11 (Vu f.2.2.2.1 0 60)) (pc 15 (Cr s_) p0)))) ?_;exact zA (by rw[h9,h10,h11]<;>kernel_rfl)
   refine rn Qb [4] [] (pc 2 (cb h9 (Vu f.1 1 60)) (pc 6 (cb h10 (Hh f.2.1)) (pc 11 (cb h11 (Vu f.2.2.2.1 0 60)) p0))) ?_;exact zA (by rw[h9,h10,h11]<;>kernel_rfl)
  refine rn Qb [4] [] (pc 2 (cb h9 (Vu f.1 1 60)) (pc 6 (cb h10 (Hh f.2.1)) p0)) ?_;exact zA (by rw[h9,h10]<;>kernel_rfl)
 ·refine rn Qb [4] [] (pc 2 (cb h9 (Vu f.1 1 60)) p0) ?_;exact zA (by rw[h9]<;>kernel_rfl)
 exact Qe <| pb [] (Wk hD0 (rfl))
def Y6 (s_:Qz) (k0:Nat) (a0:Xe) (_:Unit):Rd (Bool) (Unit) (Unit):=(bif ((!(Yc s_.1 a0))|| (decide (a0.1>=s_.2.2)|| (decide ((k0:Int)>(0:Int))&&decide ((nth s_.2.1 ((k0:Int)-1).toNat).1>=a0.1)))) then (.ret false) else (.next ()))
def Kq (_:Nat) (_:Unit):Unit:=()
def Qj (s_:Qz):Bool:=(Out.on (Xz (Y6 s_) Kq s_.2.1 0 ()) (λ_=>((Jn s_.1)&&(decide ((s_.2.1.length:Int)<=(12:Int))&&(Zp s_.2.2 1 61)))))
theorem Kk (s_:Qz):ACalls Tryz.prog 114 [.a [.h s_.1,.h s_.2.1,.i s_.2.2]] (.b (Qj s_)):=by
 refine en Qb Tryz.func114 λw0 F0 hG=> ?_
 refine sn Qb [1,2] [1] p0 <| Qc <| tn Qb [1,2,6,7,8] [1] (pl 2 s_.2.1 p0) <| mz [(1,.p 1 0),(2,.b false),(6,.h s_.2.1),(7,.i (s_.2.1.length:Int)),(8,.i 0)] [0] [(1, [.h s_.1,.h s_.2.1,.i s_.2.2])] [] <| wT 6 0 .sh s_.2.1 (λhw1 hl2=> ?_)
 refine P0 (Y6 s_) Kq s_.2.1 () (λk0 _=> [(8,.i (k0:Int))]) [8] (λ_=> []) [6,7,8] wf0 (λk0 s0 hk0 U=> ?_) (λk0 s0 hk0 U=> ?_) (λy0 hD0=> ?_)
 ·obtain ⟨a0,hx0⟩:=Xm (l:=s_.2.1) (i:=k0) hk0;refine sn Qb [1,2,6,7,8,9] [1] (pe 0 (zB ((k0:Int)<(s_.2.1.length:Int))) p0) <| Qc <| ckT <| Qg <| Qc <| Qv <| tn Qb [1,2,3,4,6,7,8] [1,4] (pn 1 hx0 p0) <| Qc <| mz [(3,.i (k0:Int)),(4,.p 4 0)] [] [(4, [.i a0.1,.i a0.2.1,.b a0.2.2.1,.i a0.2.2.2.1,.h a0.2.2.2.2])] [] <| jn [(40,.b ((!(Yc s_.1 a0))|| (decide (a0.1>=s_.2.2)|| (decide ((k0:Int)>(0:Int))&&decide ((nth s_.2.1 ((k0:Int)-1).toNat).1>=a0.1)))))] [3,4] [] [4] (!(Yc s_.1 a0)) (λh3=> ?_) (λh3=> ?_) ?_
  ·have h3n:(Yc s_.1 a0)=false:=Vj h3;refine rN Qb Zg [1,2,6,7,8,40] [1] (pc 3 (cb h3n (Af s_.1 a0)) (pe 4 (show .b (!false)= .b true from rfl) p0)) ?_;exact zA (by rw[h3]<;>kernel_rfl)
  ·have h3n:(Yc s_.1 a0)=true:=Za h3;refine Xu (decide (a0.1>=s_.2.2)) (λh4=> ?_) (λh4=> ?_)
   ·refine rN Qb Zg [1,2,6,7,8,40] [1] (pc 3 (cb h3n (Af s_.1 a0)) (pe 4 (show .b (!true)= .b false from rfl) (pt 10 h4 p0))) ?_;exact zA (by rw[h3,h4]<;>kernel_rfl)
   have h4d:=of_decide_eq_false h4;refine Xu (decide ((k0:Int)>(0:Int))) (λh5=> ?_) (λh5=> ?_)
   ·have h5d:=of_decide_eq_true h5;have hx6:=ng s_.2.1 ((k0:Int)-1).toNat;refine rN Qb Zg [1,2,6,7,8,40] [1] (pc 3 (cb h3n (Af s_.1 a0)) (pe 4 (show .b (!true)= .b false from rfl) (pf 10 h4 (pt 14 h5 (pe 19 (Jl (IntWalk.i64_in ((k0:Int)-1) (by omega))) (pg 20 ((k0:Int)-1) hx6 p0)))))) ?_;exact zA (by rw[h3,h4,h5]<;>kernel_rfl)
   refine rN Qb Zg [1,2,6,7,8,40] [1] (pc 3 (cb h3n (Af s_.1 a0)) (pe 4 (show .b (!true)= .b false from rfl) (pf 10 h4 (pf 14 h5 p0)))) ?_;exact zA (by rw[h3,h4,h5]<;>kernel_rfl)
  refine ck ((!(Yc s_.1 a0))|| (decide (a0.1>=s_.2.2)|| (decide ((k0:Int)>(0:Int))&&decide ((nth s_.2.1 ((k0:Int)-1).toNat).1>=a0.1)))) (λh7=> ?_) (λh7=> ?_)
  ·refine su Qb [] [40] [] [] p0 <| Qe ?_
   have hr8:(Xz (Y6 s_) Kq s_.2.1 0 ())= .ret false:=Jv hx0 (Q4 h7 (rfl)) U;exact pb [] (Pd hr8)
  have h7r:((decide (a0.1>=s_.2.2)|| (decide ((k0:Int)>(0:Int))&&decide ((nth s_.2.1 ((k0:Int)-1).toNat).1>=a0.1))))=false:=Pz h7;have h7rl:(decide (a0.1>=s_.2.2))=false:=Re h7r;have h7rld:=of_decide_eq_false h7rl;refine Qg <| rn Qb [1,2,6,7,8] [1] (pe 0 (Jl (Qo k0 (by omega))) p0) ?_
  exact xw _ (Qt hx0 (Qi h7 (rfl)) U)
 ·exact sn Qb [1,2,6,7,8,9] [1] (pe 0 (zC ((k0:Int)<(s_.2.1.length:Int))) p0) <| Qc <| ckF <| Q3 <| xw _ (Xn hk0 (rfl) U)
 refine Qc <| jn [(2,.b ((Jn s_.1)&&(decide ((s_.2.1.length:Int)<=(12:Int))&&(Zp s_.2.2 1 61))))] [1,2] [] [1] (Jn s_.1) (λh9=> ?_) (λh9=> ?_) ?_
 ·refine Xu (decide ((s_.2.1.length:Int)<=(12:Int))) (λh10=> ?_) (λh10=> ?_)
  ·refine rn Qb [2] [] (pc 2 (cb h9 (Cr s_.1)) (pl 6 s_.2.1 (pt 7 h10 (pc 12 (Vu s_.2.2 1 61) p0)))) ?_;exact zA (by rw[h9,h10]<;>kernel_rfl)
  refine rn Qb [2] [] (pc 2 (cb h9 (Cr s_.1)) (pl 6 s_.2.1 (pf 7 h10 p0))) ?_;exact zA (by rw[h9,h10]<;>kernel_rfl)
 ·refine rn Qb [2] [] (pc 2 (cb h9 (Cr s_.1)) p0) ?_;exact zA (by rw[h9]<;>kernel_rfl)
 exact Qe <| pb [] (Wk hD0 (rfl))
def Mi (name:ByteArray) (_:Nat) (a0:Jf) (_:Unit):Rd (Int) (Unit) (Unit):=(bif (a0.1.toList==name.toList) then (.ret a0.2) else (.next ()))
def Mj (_:Nat) (_:Unit):Unit:=()
def Ib (s_:List Jf) (name:ByteArray):Int:=(Out.on (Xz (Mi name) Mj s_ 0 ()) (λ_=>0))
theorem AB (s_:List Jf) (name:ByteArray):ACalls Tryz.prog 217 [.h s_,.s name] (.i (Ib s_ name)):=by
 refine en Qb Tryz.func217 λw0 F0 hG=> ?_
 refine sn Qb [0,1,4] [] p0 <| Qc <| tn Qb [0,1,4,5] [] p0 <| mz [(4,.i 0),(5,.i 0)] [] [] [] <| wT 0 0 .sh s_ (λhw1 hl2=> ?_)
 refine P0 (Mi name) Mj s_ () (λk0 _=> [(5,.i (k0:Int))]) [5] (λ_=> []) [0,1,5] wf0 (λk0 s0 hk0 U=> ?_) (λk0 s0 hk0 U=> ?_) (λy0 hD0=> ?_)
 ·obtain ⟨a0,hx0⟩:=Xm (l:=s_) (i:=k0) hk0;refine Qc <| sn Qb [0,1,4,5,9] [] (pl 2 s_ (pe 3 (zB ((k0:Int)<(s_.length:Int))) p0)) <| ckT <| Qg <| Qc <| Qv <| tn Qb [0,1,4,5,18] [] (pn 2 hx0 p0) <| ck (a0.1.toList==name.toList) (λh3=> ?_) (λh3=> ?_)
  ·refine tu Qb [(4,.i a0.2)] [4] [] [] (pn 2 hx0 p0) <| Qe ?_
   have hr4:(Xz (Mi name) Mj s_ 0 ())= .ret a0.2:=Jv hx0 (Q4 h3 (rfl)) U;exact pi [] (Pd hr4)
  refine Qg <| qu Qb [(5,.i ((k0+1:Nat):Int))] [5] [] [] (pe 1 (Jl (Qo k0 (by omega))) p0) ?_
  exact xw _ (Qt hx0 (Qi h3 (rfl)) U)
 ·exact Qc <| sn Qb [0,1,4,5,9] [] (pl 2 s_ (pe 3 (zC ((k0:Int)<(s_.length:Int))) p0)) <| ckF <| Q3 <| xw _ (Xn hk0 (rfl) U)
 exact sn Qb [4] [] p0 <| Qe <| pi [] (Wk hD0 (rfl))
def Vo (s_:List Jf) (name:ByteArray) (v:B3):Bool:=((Kx v)&&((v.1 !=(0:Int))&&(v.1==(Ib s_ name))))
theorem F2 (s_:List Jf) (name:ByteArray) (v:B3):ACalls Tryz.prog 177 [.h s_,.s name,.a [.i v.1,.i v.2.1,.s v.2.2]] (.b (Vo s_ name v)):=by
 refine en Qb Tryz.func177 λw0 F0 hG=> ?_
 refine sn Qb [0,1,5,6] [5] p0 <| Qc <| mz [(5,.p 5 0),(6,.b false)] [2] [(5, [.i v.1,.i v.2.1,.s v.2.2])] [] <| jn [(6,.b ((Kx v)&&((v.1 !=(0:Int))&&(v.1==(Ib s_ name)))))] [0,1,5,6] [] [5] (Kx v) (λh1=> ?_) (λh1=> ?_) ?_
 ·refine Xu (v.1 !=(0:Int)) (λh2=> ?_) (λh2=> ?_)
  ·refine rN Qb Zg [6] [] (pc 1 (cb h1 (Kj v)) (pt 5 h2 (pc 12 (AB s_ name) p0))) ?_;exact zA (by rw[h1,h2]<;>kernel_rfl)
  refine rN Qb Zg [6] [] (pc 1 (cb h1 (Kj v)) (pf 5 h2 p0)) ?_;exact zA (by rw[h1,h2]<;>kernel_rfl)
 ·refine rN Qb Zg [6] [] (pc 1 (cb h1 (Kj v)) p0) ?_;exact zA (by rw[h1]<;>kernel_rfl)
 exact Qe <| pb [] (show Vo s_ name v=((Kx v)&&((v.1 !=(0:Int))&&(v.1==(Ib s_ name)))) from rfl)
def H2 (s_:List Jf) (k0:Nat) (a0:Jf) (_:Unit):Rd (Bool) (Unit) (Unit):=(bif ((!(Yr a0.1))|| ((!(Xf a0.2 1 2))|| (decide ((k0:Int)>(0:Int))&&(!(Op.bytesLess ((nth s_ ((k0:Int)-1).toNat).1).toList a0.1.toList))))) then (.ret false) else (.next ()))
def B6 (_:Nat) (_:Unit):Unit:=()
def K1 (s_:List Jf):Bool:=(Out.on (Xz (H2 s_) B6 s_ 0 ()) (λ_=>decide ((s_.length:Int)<=(5:Int))))
theorem W6 (s_:List Jf):ACalls Tryz.prog 171 [.h s_] (.b (K1 s_)):=by
 refine en Qb Tryz.func171 λw0 F0 hG=> ?_
 refine sn Qb [0,2] [] p0 <| Qc <| tn Qb [0,2,3] [] p0 <| mz [(2,.b false),(3,.i 0)] [] [] [] <| wT 0 0 .sh s_ (λhw1 hl2=> ?_)
 refine P0 (H2 s_) B6 s_ () (λk0 _=> [(3,.i (k0:Int))]) [3] (λ_=> []) [3] wf0 (λk0 s0 hk0 U=> ?_) (λk0 s0 hk0 U=> ?_) (λy0 hD0=> ?_)
 ·obtain ⟨a0,hx0⟩:=Xm (l:=s_) (i:=k0) hk0;refine Qc <| sn Qb [0,2,3,7] [] (pl 2 s_ (pe 3 (zB ((k0:Int)<(s_.length:Int))) p0)) <| ckT <| Qg <| Qc <| Qv <| Qc <| mz [(7,.b true)] [] [] [] <| jn [(43,.b ((!(Yr a0.1))|| ((!(Xf a0.2 1 2))|| (decide ((k0:Int)>(0:Int))&&(!(Op.bytesLess ((nth s_ ((k0:Int)-1).toNat).1).toList a0.1.toList))))))] [7] [] [] (!(Yr a0.1)) (λh3=> ?_) (λh3=> ?_) ?_
  ·have h3n:(Yr a0.1)=false:=Vj h3;refine rN Qb Zg [0,2,3,43] [] (pn 2 hx0 (pc 5 (cb h3n (Y5 a0.1)) (pe 6 (show .b (!false)= .b true from rfl) p0))) ?_;exact zA (by rw[h3]<;>kernel_rfl)
  ·have h3n:(Yr a0.1)=true:=Za h3;refine Xu (!(Xf a0.2 1 2)) (λh4=> ?_) (λh4=> ?_)
   ·have h4n:(Xf a0.2 1 2)=false:=Vj h4;refine rN Qb Zg [0,2,3,43] [] (pn 2 hx0 (pc 5 (cb h3n (Y5 a0.1)) (pe 6 (show .b (!true)= .b false from rfl) (pn 10 hx0 (pc 13 (cb h4n (Z8 a0.2 1 2)) (pe 14 (show .b (!false)= .b true from rfl) p0)))))) ?_;exact zA (by rw[h3,h4]<;>kernel_rfl)
   have h4n:(Xf a0.2 1 2)=true:=Za h4;have h4nw:=Dr.1 h4n;refine Xu (decide ((k0:Int)>(0:Int))) (λh5=> ?_) (λh5=> ?_)
   ·have h5d:=of_decide_eq_true h5;have hx6:=ng s_ ((k0:Int)-1).toNat;refine rN Qb Zg [0,2,3,43] [] (pn 2 hx0 (pc 5 (cb h3n (Y5 a0.1)) (pe 6 (show .b (!true)= .b false from rfl) (pn 10 hx0 (pc 13 (cb h4n (Z8 a0.2 1 2)) (pe 14 (show .b (!true)= .b false from rfl) (pt 18 h5 (pe 22 (Jl (IntWalk.i64_in ((k0:Int)-1) (by omega))) (pg 23 ((k0:Int)-1) hx6 (pn 28 hx0 p0)))))))))) ?_;exact zA (by rw[h3,h4,h5]<;>kernel_rfl)
   refine rN Qb Zg [0,2,3,43] [] (pn 2 hx0 (pc 5 (cb h3n (Y5 a0.1)) (pe 6 (show .b (!true)= .b false from rfl) (pn 10 hx0 (pc 13 (cb h4n (Z8 a0.2 1 2)) (pe 14 (show .b (!true)= .b false from rfl) (pf 18 h5 p0))))))) ?_;exact zA (by rw[h3,h4,h5]<;>kernel_rfl)
  refine ck ((!(Yr a0.1))|| ((!(Xf a0.2 1 2))|| (decide ((k0:Int)>(0:Int))&&(!(Op.bytesLess ((nth s_ ((k0:Int)-1).toNat).1).toList a0.1.toList))))) (λh7=> ?_) (λh7=> ?_)
  ·refine sn Qb [0,2,3] [] p0 <| Qe ?_
   have hr8:(Xz (H2 s_) B6 s_ 0 ())= .ret false:=Jv hx0 (Q4 h7 (rfl)) U;exact pb [] (Pd hr8)
  have h7r:(((!(Xf a0.2 1 2))|| (decide ((k0:Int)>(0:Int))&&(!(Op.bytesLess ((nth s_ ((k0:Int)-1).toNat).1).toList a0.1.toList)))))=false:=Pz h7;have h7rl:((!(Xf a0.2 1 2)))=false:=Re h7r;have h7rln:(Xf a0.2 1 2)=true:=Za h7rl;have h7rlnw:=Dr.1 h7rln;refine Qg <| rn Qb [0,2,3] [] (pe 1 (Jl (Qo k0 (by omega))) p0) ?_
  exact xw _ (Qt hx0 (Qi h7 (rfl)) U)
 ·exact Qc <| sn Qb [0,2,3,7] [] (pl 2 s_ (pe 3 (zC ((k0:Int)<(s_.length:Int))) p0)) <| ckF <| Q3 <| xw _ (Xn hk0 (rfl) U)
 exact sn Qb [2] [] (pl 1 s_ p0) <| Qe <| pb [] (Wk hD0 (rfl))
def Jo (s_:List Jf) (f:Xe) (k0:Nat) (a0:Bl) (_:Unit):Rd (Bool) (Unit) (Unit):=(bif ((!(Vo s_ a0.1 a0.2))|| (decide ((k0:Int)>(0:Int))&&(!(Op.bytesLess ((nth f.2.2.2.2 ((k0:Int)-1).toNat).1).toList a0.1.toList)))) then (.ret false) else (.next ()))
def V4 (_:Nat) (_:Unit):Unit:=()
def Yd (s_:List Jf) (f:Xe):Bool:=(Out.on (Xz (Jo s_ f) V4 f.2.2.2.2 0 ()) (λ_=>((K1 s_)&&((Xf f.1 1 60)&&((Xf f.2.1 0 2)&&(Xf f.2.2.2.1 0 60))))))
theorem Ag (s_:List Jf) (f:Xe):ACalls Tryz.prog 123 [.h s_,.a [.i f.1,.i f.2.1,.b f.2.2.1,.i f.2.2.2.1,.h f.2.2.2.2]] (.b (Yd s_ f)):=by
 refine en Qb Tryz.func123 λw0 F0 hG=> ?_
 refine sn Qb [0,3,4] [3] p0 <| Qc <| tn Qb [0,3,4,5] [3] p0 <| mz [(3,.p 3 0),(4,.b false),(5,.i 0)] [1] [(3, [.i f.1,.i f.2.1,.b f.2.2.1,.i f.2.2.2.1,.h f.2.2.2.2])] [] <| wB 3 4 .sh f.2.2.2.2 (λhw1 hl2=> ?_)
 refine P0 (Jo s_ f) V4 f.2.2.2.2 () (λk0 _=> [(5,.i (k0:Int))]) [5] (λ_=> []) [5] wf0 (λk0 s0 hk0 U=> ?_) (λk0 s0 hk0 U=> ?_) (λy0 hD0=> ?_)
 ·obtain ⟨a0,hx0⟩:=Xm (l:=f.2.2.2.2) (i:=k0) hk0;refine Qc <| sn Qb [0,3,4,5,10] [3] (pl 3 f.2.2.2.2 (pe 4 (zB ((k0:Int)<(f.2.2.2.2.length:Int))) p0)) <| ckT <| Qg <| Qc <| Qv <| Qc <| mz [(10,.b true)] [] [] [] <| jn [(47,.b ((!(Vo s_ a0.1 a0.2))|| (decide ((k0:Int)>(0:Int))&&(!(Op.bytesLess ((nth f.2.2.2.2 ((k0:Int)-1).toNat).1).toList a0.1.toList)))))] [10] [] [] (!(Vo s_ a0.1 a0.2)) (λh3=> ?_) (λh3=> ?_) ?_
  ·have h3n:(Vo s_ a0.1 a0.2)=false:=Vj h3;refine rN Qb Zg [0,3,4,5,47] [3] (pn 4 hx0 (pn 10 hx0 (pc 13 (cb h3n (F2 s_ a0.1 a0.2)) (pe 14 (show .b (!false)= .b true from rfl) p0)))) ?_;exact zA (by rw[h3]<;>kernel_rfl)
  ·have h3n:(Vo s_ a0.1 a0.2)=true:=Za h3;refine Xu (decide ((k0:Int)>(0:Int))) (λh4=> ?_) (λh4=> ?_)
   ·have h4d:=of_decide_eq_true h4;have hx5:=ng f.2.2.2.2 ((k0:Int)-1).toNat;refine rN Qb Zg [0,3,4,5,47] [3] (pn 4 hx0 (pn 10 hx0 (pc 13 (cb h3n (F2 s_ a0.1 a0.2)) (pe 14 (show .b (!true)= .b false from rfl) (pt 17 h4 (pe 22 (Jl (IntWalk.i64_in ((k0:Int)-1) (by omega))) (pg 23 ((k0:Int)-1) hx5 (pn 29 hx0 p0)))))))) ?_;exact zA (by rw[h3,h4]<;>kernel_rfl)
   refine rN Qb Zg [0,3,4,5,47] [3] (pn 4 hx0 (pn 10 hx0 (pc 13 (cb h3n (F2 s_ a0.1 a0.2)) (pe 14 (show .b (!true)= .b false from rfl) (pf 17 h4 p0))))) ?_;exact zA (by rw[h3,h4]<;>kernel_rfl)
  refine ck ((!(Vo s_ a0.1 a0.2))|| (decide ((k0:Int)>(0:Int))&&(!(Op.bytesLess ((nth f.2.2.2.2 ((k0:Int)-1).toNat).1).toList a0.1.toList)))) (λh6=> ?_) (λh6=> ?_)
  ·refine su Qb [] [47] [] [] p0 <| Qe ?_
   have hr7:(Xz (Jo s_ f) V4 f.2.2.2.2 0 ())= .ret false:=Jv hx0 (Q4 h6 (rfl)) U;exact pb [] (Pd hr7)
  refine Qg <| rn Qb [0,3,4,5] [3] (pe 1 (Jl (Qo k0 (by omega))) p0) ?_
  exact xw _ (Qt hx0 (Qi h6 (rfl)) U)
 ·exact Qc <| sn Qb [0,3,4,5,10] [3] (pl 3 f.2.2.2.2 (pe 4 (zC ((k0:Int)<(f.2.2.2.2.length:Int))) p0)) <| ckF <| Q3 <| xw _ (Xn hk0 (rfl) U)
 refine Qc <| jn [(4,.b ((K1 s_)&&((Xf f.1 1 60)&&((Xf f.2.1 0 2)&&(Xf f.2.2.2.1 0 60)))))] [0,3,4] [] [3] (K1 s_) (λh8=> ?_) (λh8=> ?_) ?_
 ·refine Xu (Xf f.1 1 60) (λh9=> ?_) (λh9=> ?_)
  ·have h9w:=Dr.1 h9;refine Xu (Xf f.2.1 0 2) (λh10=> ?_) (λh10=> ?_)
   ·have h10w:=Dr.1 h10;refine rn Qb [4] [] (pc 1 (cb h8 (W6 s_)) (pc 5 (cb h9 (Z8 f.1 1 60)) (pc 10 (cb h10 (Z8 f.2.1 0 2)) (pc 15 (Z8 f.2.2.2.1 0 60) p0)))) ?_;exact zA (by rw[h8,h9,h10]<;>kernel_rfl)
   refine rn Qb [4] [] (pc 1 (cb h8 (W6 s_)) (pc 5 (cb h9 (Z8 f.1 1 60)) (pc 10 (cb h10 (Z8 f.2.1 0 2)) p0))) ?_;exact zA (by rw[h8,h9,h10]<;>kernel_rfl)
  refine rn Qb [4] [] (pc 1 (cb h8 (W6 s_)) (pc 5 (cb h9 (Z8 f.1 1 60)) p0)) ?_;exact zA (by rw[h8,h9]<;>kernel_rfl)
 ·refine rn Qb [4] [] (pc 1 (cb h8 (W6 s_)) p0) ?_;exact zA (by rw[h8]<;>kernel_rfl)
 exact Qe <| pb [] (Wk hD0 (rfl))
def J0 (s_:Qz) (k0:Nat) (a0:Xe) (_:Unit):Rd (Bool) (Unit) (Unit):=(bif ((!(Yd s_.1 a0))|| (decide (a0.1>=s_.2.2)|| (decide ((k0:Int)>(0:Int))&&decide ((nth s_.2.1 ((k0:Int)-1).toNat).1>=a0.1)))) then (.ret false) else (.next ()))
def U4 (_:Nat) (_:Unit):Unit:=()
def Xc (s_:Qz):Bool:=(Out.on (Xz (J0 s_) U4 s_.2.1 0 ()) (λ_=>((K1 s_.1)&&(decide ((s_.2.1.length:Int)<=(12:Int))&&(Xf s_.2.2 1 61)))))
theorem Kl (s_:Qz):ACalls Tryz.prog 118 [.a [.h s_.1,.h s_.2.1,.i s_.2.2]] (.b (Xc s_)):=by
 refine en Qb Tryz.func118 λw0 F0 hG=> ?_
 refine sn Qb [1,2] [1] p0 <| Qc <| tn Qb [1,2,3] [1] p0 <| mz [(1,.p 1 0),(2,.b false),(3,.i 0)] [0] [(1, [.h s_.1,.h s_.2.1,.i s_.2.2])] [] <| wB 1 1 .sh s_.2.1 (λhw1 hl2=> ?_)
 refine P0 (J0 s_) U4 s_.2.1 () (λk0 _=> [(3,.i (k0:Int))]) [3] (λ_=> []) [3] wf0 (λk0 s0 hk0 U=> ?_) (λk0 s0 hk0 U=> ?_) (λy0 hD0=> ?_)
 ·obtain ⟨a0,hx0⟩:=Xm (l:=s_.2.1) (i:=k0) hk0;refine Qc <| sn Qb [1,2,3,8] [1] (pl 3 s_.2.1 (pe 4 (zB ((k0:Int)<(s_.2.1.length:Int))) p0)) <| ckT <| Qg <| Qc <| Qv <| Qc <| mz [(8,.b true)] [] [] [] <| jn [(50,.b ((!(Yd s_.1 a0))|| (decide (a0.1>=s_.2.2)|| (decide ((k0:Int)>(0:Int))&&decide ((nth s_.2.1 ((k0:Int)-1).toNat).1>=a0.1)))))] [8] [] [] (!(Yd s_.1 a0)) (λh3=> ?_) (λh3=> ?_) ?_
  ·have h3n:(Yd s_.1 a0)=false:=Vj h3;refine rN Qb Zg [1,2,3,50] [1] (pn 5 hx0 (pc 7 (cb h3n (Ag s_.1 a0)) (pe 8 (show .b (!false)= .b true from rfl) p0))) ?_;exact zA (by rw[h3]<;>kernel_rfl)
  ·have h3n:(Yd s_.1 a0)=true:=Za h3;refine Xu (decide (a0.1>=s_.2.2)) (λh4=> ?_) (λh4=> ?_)
   ·refine rN Qb Zg [1,2,3,50] [1] (pn 5 hx0 (pc 7 (cb h3n (Ag s_.1 a0)) (pe 8 (show .b (!true)= .b false from rfl) (pn 13 hx0 (pt 18 h4 p0))))) ?_;exact zA (by rw[h3,h4]<;>kernel_rfl)
   have h4d:=of_decide_eq_false h4;refine Xu (decide ((k0:Int)>(0:Int))) (λh5=> ?_) (λh5=> ?_)
   ·have h5d:=of_decide_eq_true h5;have hx6:=ng s_.2.1 ((k0:Int)-1).toNat;refine rN Qb Zg [1,2,3,50] [1] (pn 5 hx0 (pc 7 (cb h3n (Ag s_.1 a0)) (pe 8 (show .b (!true)= .b false from rfl) (pn 13 hx0 (pf 18 h4 (pt 22 h5 (pe 27 (Jl (IntWalk.i64_in ((k0:Int)-1) (by omega))) (pg 28 ((k0:Int)-1) hx6 (pn 34 hx0 p0))))))))) ?_;exact zA (by rw[h3,h4,h5]<;>kernel_rfl)
   refine rN Qb Zg [1,2,3,50] [1] (pn 5 hx0 (pc 7 (cb h3n (Ag s_.1 a0)) (pe 8 (show .b (!true)= .b false from rfl) (pn 13 hx0 (pf 18 h4 (pf 22 h5 p0)))))) ?_;exact zA (by rw[h3,h4,h5]<;>kernel_rfl)
  refine ck ((!(Yd s_.1 a0))|| (decide (a0.1>=s_.2.2)|| (decide ((k0:Int)>(0:Int))&&decide ((nth s_.2.1 ((k0:Int)-1).toNat).1>=a0.1)))) (λh7=> ?_) (λh7=> ?_)
  ·refine su Qb [] [50] [] [] p0 <| Qe ?_
   have hr8:(Xz (J0 s_) U4 s_.2.1 0 ())= .ret false:=Jv hx0 (Q4 h7 (rfl)) U;exact pb [] (Pd hr8)
  have h7r:((decide (a0.1>=s_.2.2)|| (decide ((k0:Int)>(0:Int))&&decide ((nth s_.2.1 ((k0:Int)-1).toNat).1>=a0.1))))=false:=Pz h7;have h7rl:(decide (a0.1>=s_.2.2))=false:=Re h7r;have h7rld:=of_decide_eq_false h7rl;refine Qg <| rn Qb [1,2,3] [1] (pe 1 (Jl (Qo k0 (by omega))) p0) ?_
  exact xw _ (Qt hx0 (Qi h7 (rfl)) U)
 ·exact Qc <| sn Qb [1,2,3,8] [1] (pl 3 s_.2.1 (pe 4 (zC ((k0:Int)<(s_.2.1.length:Int))) p0)) <| ckF <| Q3 <| xw _ (Xn hk0 (rfl) U)
 refine Qc <| jn [(2,.b ((K1 s_.1)&&(decide ((s_.2.1.length:Int)<=(12:Int))&&(Xf s_.2.2 1 61))))] [1,2] [] [1] (K1 s_.1) (λh9=> ?_) (λh9=> ?_) ?_
 ·refine Xu (decide ((s_.2.1.length:Int)<=(12:Int))) (λh10=> ?_) (λh10=> ?_)
  ·refine rn Qb [2] [] (pc 2 (cb h9 (W6 s_.1)) (pl 6 s_.2.1 (pt 7 h10 (pc 12 (Z8 s_.2.2 1 61) p0)))) ?_;exact zA (by rw[h9,h10]<;>kernel_rfl)
  refine rn Qb [2] [] (pc 2 (cb h9 (W6 s_.1)) (pl 6 s_.2.1 (pf 7 h10 p0))) ?_;exact zA (by rw[h9,h10]<;>kernel_rfl)
 ·refine rn Qb [2] [] (pc 2 (cb h9 (W6 s_.1)) p0) ?_;exact zA (by rw[h9]<;>kernel_rfl)
 exact Qe <| pb [] (Wk hD0 (rfl))
theorem Qke (s:List Jf) (n:ByteArray):Ib s n=Ia s n:=rfl
theorem BX (s:List Jf) (n:ByteArray) (v:B3):Vo s n v=Z3 s n v:=by
 unfold Vo Z3;rw[Qdb,Qke]
theorem LH (s:List Jf):K1 s=Jn s:=by
 unfold K1 Jn
 rw [Ed (f:=H2 s) (g:=Vv s) (e:=B6) (e':=Ut) (λk a u=>by
  unfold H2 Vv;rw[SO]
  have h:(!(Xf a.2 1 2))=((a.2 !=1)&&(a.2 !=2)):=by
   unfold Xf;rw[yT];simp;omega
  rw[h];generalize (!(Op.bytesLess ((nth s (zH (((k:Nat):Int)-1))).1).toList a.1.toList))=x;cases Yr a.1<;>cases (a.2 !=(1:Int))<;>cases (a.2 !=(2:Int))<;>cases decide (((k:Nat):Int)>(0:Int))<;>cases x<;>rfl) (λ_ _=>rfl)]
theorem KI (s:List Jf) (f:Xe):Yd s f=Yc s f:=by
 unfold Yd Yc
 rw[Ed (f:=Jo s f) (g:=Y7 s f) (e:=V4) (e':=K6) (λk a u=>by
  unfold Jo Y7;rw[BX];generalize (!(Op.bytesLess ((nth f.2.2.2.2 (zH (((k:Nat):Int)-1))).1).toList a.1.toList))=x;cases Z3 s a.1 a.2<;>cases decide (((k:Nat):Int)>(0:Int))<;>cases x<;>rfl) (λ_ _=>rfl),LH]
 congr 1
 funext y
 unfold Je;simp only[←IV];cases Jn s<;>cases Zp f.1 1 60<;>cases Zp f.2.1 0 2<;>cases Zp f.2.2.2.1 0 60<;>rfl
theorem Bo (s:Qz):Xc s=Qj s:=by
 unfold Xc Qj
 rw[Ed (f:=J0 s) (g:=Y6 s) (e:=U4) (e':=Kq) (λk a u=>by
  unfold J0 Y6;rw[KI]) (λ_ _=>rfl),LH]
 rfl
open GoE (enc wide)
def C2 (name:ByteArray) (_:Nat) (a0:Bl) (_:Unit):Rd (B3) (Unit) (Unit):=(bif (a0.1.toList==name.toList) then (.ret a0.2) else (.next ()))
def Fb (_:Nat) (_:Unit):Unit:=()
def Xl (f:Xe) (name:ByteArray):B3:=(Out.on (Xz (C2 name) Fb f.2.2.2.2 0 ()) (λ_=>(0,0,⟨#[]⟩)))
theorem Ee (f:Xe) (name:ByteArray):ACalls Tryz.prog 210 [.a [.i f.1,.i f.2.1,.b f.2.2.1,.i f.2.2.2.1,.h f.2.2.2.2],.s name] (.a [.i ((Xl f name).1),.i ((Xl f name).2.1),.s ((Xl f name).2.2)]):=by
 refine en Qb Tryz.func210 λw0 F0 hG=> ?_
 refine sn Qb [1,2,4] [2,4] p0 <| Qc <| tn Qb [1,4,8,9,10] [4] (pl 2 f.2.2.2.2 p0) <| mz [(4,.p 4 0),(8,.h f.2.2.2.2),(9,.i (f.2.2.2.2.length:Int)),(10,.i 0)] [0] [(4, [.i 0,.i 0,.s ⟨#[]⟩])] [] <| wT 8 0 .sh f.2.2.2.2 (λhw1 hl2=> ?_)
 refine P0 (C2 name) Fb f.2.2.2.2 () (λk0 _=> [(10,.i (k0:Int))]) [10] (λ_=> []) [1,8,9,10] wf0 (λk0 s0 hk0 U=> ?_) (λk0 s0 hk0 U=> ?_) (λy0 hD0=> ?_)
 ·obtain ⟨a0,hx0⟩:=Xm (l:=f.2.2.2.2) (i:=k0) hk0;refine su Qb [(11,.b true)] [] [] [] (pe 0 (zB ((k0:Int)<(f.2.2.2.2.length:Int))) p0) <| Qc <| ckT <| Qg <| Qc <| Qv <| sn Qb [1,4,6,8,9,10] [4,6] (pn 0 hx0 p0) <| tn Qb [1,4,6,8,9,10,17] [4,6] p0 <| ck (a0.1.toList==name.toList) (λh3=> ?_) (λh3=> ?_)
  ·refine tu Qb [] [11] [(4, [.i a0.2.1,.i a0.2.2.1,.s a0.2.2.2])] [4] p0 <| Qe ?_
   have hr4:(Xz (C2 name) Fb f.2.2.2.2 0 ())= .ret a0.2:=Jv hx0 (Q4 h3 (rfl)) U;exact pz [] (show Xl f name=_ from Pd hr4) (λz=> .a [.i z.1,.i z.2.1,.s z.2.2])
  refine Qg <| qu Qb [(10,.i ((k0+1:Nat):Int))] [10,11] [] [] (pe 0 (Jl (Qo k0 (by omega))) p0) ?_
  exact xw _ (Qt hx0 (Qi h3 (rfl)) U)
 ·exact sn Qb [1,4,8,9,10,11] [4] (pe 0 (zC ((k0:Int)<(f.2.2.2.2.length:Int))) p0) <| Qc <| ckF <| Q3 <| xw _ (Xn hk0 (rfl) U)
 exact sn Qb [4] [4] p0 <| Qe <| pz [] (show Xl f name=_ from Wk hD0 (rfl)) (λz=> .a [.i z.1,.i z.2.1,.s z.2.2])
def Hs (f:Xe) (name:ByteArray):Int×Bool:=(bif ((Xl f name).1 !=(1:Int)) then (0,false) else ((Xl f name).2.1,true))
theorem FF (f:Xe) (name:ByteArray):ACalls Tryz.prog 266 [.a [.i f.1,.i f.2.1,.b f.2.2.1,.i f.2.2.2.1,.h f.2.2.2.2],.s name] (.tup [(false, [.i (((Hs f name)).1)]),(false, [.b (((Hs f name)).2)])]):=by
 refine en Qb Tryz.func266 λw0 F0 hG=> ?_
 refine sn Qb [1,2,4,5] [2] p0 <| tn Qb [4,5,6] [6] (pc 2 (Ee f name) p0) <| Qc <| tu Qb [(4,.i 0),(5,.b false),(6,.p 6 0),(12,.b ((Xl f name).1 !=(1:Int)))] [0,1] [(6, [.i ((Xl f name).1),.i ((Xl f name).2.1),.s ((Xl f name).2.2)])] [] p0 <| ck ((Xl f name).1 !=(1:Int)) (λh1=> ?_) (λh1=> ?_)
 ·exact su Qb [] [12] [] [] p0 <| Qe <| pz [] (show Hs f name=_ from Q4 h1 (rfl)) (λz=> .tup [(false, [.i z.1]),(false, [.b z.2])])
 exact Qg <| sn Qb [4,5] [] p0 <| Qe <| pz [] (show Hs f name=_ from Qi h1 (rfl)) (λz=> .tup [(false, [.i z.1]),(false, [.b z.2])])
def Ww (name:ByteArray) (_:Nat) (a0:Qm) (_:Unit):Rd (List Int) (Unit) (Unit):=(bif (a0.1.toList==name.toList) then (.ret a0.2) else (.next ()))
def Ht (_:Nat) (_:Unit):Unit:=()
def Xj (r:List Qm) (name:ByteArray):(List Int):=(Out.on (Xz (Ww name) Ht r 0 ()) (λ_=> []))
theorem Dy (r:List Qm) (name:ByteArray):ACalls Tryz.prog 162 [.h r,.s name] (.o 0 (Xj r name)):=by
 refine en Qb Tryz.func162 λw0 F0 hG=> ?_
 refine sn Qb [0,1,4] [] p0 <| Qc <| tn Qb [1,4,7,8,9] [] (pl 1 r p0) <| mz [(4,.e 0),(7,.h r),(8,.i (r.length:Int)),(9,.i 0)] [0] [] [] <| wT 7 0 .sh r (λhw1 hl2=> ?_)
 refine P0 (Ww name) Ht r () (λk0 _=> [(9,.i (k0:Int))]) [9] (λ_=> []) [1,7,8,9] wf0 (λk0 s0 hk0 U=> ?_) (λk0 s0 hk0 U=> ?_) (λy0 hD0=> ?_)
 ·obtain ⟨a0,hx0⟩:=Xm (l:=r) (i:=k0) hk0;refine sn Qb [1,4,7,8,9,10] [] (pe 0 (zB ((k0:Int)<(r.length:Int))) p0) <| Qc <| ckT <| Qg <| Qc <| Qv <| tn Qb [1,4,6,7,8,9] [6] (pn 0 hx0 p0) <| tu Qb [(6,.p 6 0),(16,.b (a0.1.toList==name.toList))] [] [(6, [.s a0.1,.h a0.2])] [] p0 <| ck (a0.1.toList==name.toList) (λh3=> ?_) (λh3=> ?_)
  ·refine sn Qb [1,4,7,8,9] [] (pc 2 (KE a0.2) p0) <| Qe ?_
   have hr4:(Xz (Ww name) Ht r 0 ())= .ret a0.2:=Jv hx0 (Q4 h3 (rfl)) U;exact po0 [] (Pd hr4)
  refine Qg <| rn Qb [1,4,7,8,9] [] (pe 0 (Jl (Qo k0 (by omega))) p0) ?_
  exact xw _ (Qt hx0 (Qi h3 (rfl)) U)
 ·exact sn Qb [1,4,7,8,9,10] [] (pe 0 (zC ((k0:Int)<(r.length:Int))) p0) <| Qc <| ckF <| Q3 <| xw _ (Xn hk0 (rfl) U)
 refine sn Qb [4] [] p0 <| opn [(false,4,0,true,384000,1)] ?_
 exact Qe <| po0 [] (Wk hD0 (rfl))
def V5 (v:Int) (k0:Nat) (a0:Int) (_:Unit):Rd (Int) (Unit) (Unit):=(bif (v==a0) then (.ret (k0:Int)) else (.next ()))
def Hn (_:Nat) (_:Unit):Unit:=()
def Dz (s_:List Int) (v:Int):Int:=(Out.on (Xz (V5 v) Hn s_ 0 ()) (λ_=> -1))
theorem KJ (s_:List Int) (v:Int):ACalls Tryz.prog 257 [.h s_,.i v] (.i (Dz s_ v)):=by
 refine en Qb Tryz.func257 λw0 F0 hG=> ?_
 refine sn Qb [0,1,4] [] p0 <| Qc <| tn Qb [0,1,4,7,8] [] (pl 1 s_ p0) <| mz [(4,.i 0),(7,.i (s_.length:Int)),(8,.i 0)] [] [] [] <| wT 0 0 .sh s_ (λhw1 hl2=> ?_)
 refine P0 (V5 v) Hn s_ () (λk0 _=> [(8,.i (k0:Int))]) [8] (λ_=> []) [0,1,7,8] wf0 (λk0 s0 hk0 U=> ?_) (λk0 s0 hk0 U=> ?_) (λy0 hD0=> ?_)
 ·obtain ⟨a0,hx0⟩:=Xm (l:=s_) (i:=k0) hk0;refine sn Qb [0,1,4,7,8,9] [] (pe 0 (zB ((k0:Int)<(s_.length:Int))) p0) <| Qc <| ckT <| Qg <| Qc <| Qv <| tn Qb [0,1,4,5,7,8] [] p0 <| tu Qb [(5,.i (k0:Int)),(16,.b (v==a0))] [] [] [] (pn 3 hx0 p0) <| ck (v==a0) (λh3=> ?_) (λh3=> ?_)
  ·refine sn Qb [0,1,4,7,8] [] p0 <| Qe ?_
   have hr4:(Xz (V5 v) Hn s_ 0 ())= .ret (k0:Int):=Jv hx0 (Q4 h3 (rfl)) U;exact pi [] (Pd hr4)
  have h3d:=Y4 h3;refine Qg <| rn Qb [0,1,4,7,8] [] (pe 0 (Jl (Qo k0 (by omega))) p0) ?_
  exact xw _ (Qt hx0 (Qi h3 (rfl)) U)
 ·exact sn Qb [0,1,4,7,8,9] [] (pe 0 (zC ((k0:Int)<(s_.length:Int))) p0) <| Qc <| ckF <| Q3 <| xw _ (Xn hk0 (rfl) U)
 exact sn Qb [4] [] p0 <| Qe <| pi [] (Wk hD0 (rfl))
def Wm (s_:List Int) (v:Int):Bool:=decide ((Dz s_ v)>=(0:Int))
theorem Mw (s_:List Int) (v:Int):ACalls Tryz.prog 238 [.h s_,.i v] (.b (Wm s_ v)):=by
 refine en Qb Tryz.func238 λw0 F0 hG=> ?_
 exact sn Qb [0,1,4] [] p0 <| tn Qb [4] [] (pc 2 (KJ s_ v) p0) <| Qe <| pb [] (show Wm s_ v=decide ((Dz s_ v)>=(0:Int)) from rfl)
def Hc (ids:List Int) (id:Int):Bool:=(Wm ids id)
theorem R0 (ids:List Int) (id:Int):ACalls Tryz.prog 267 [.h ids,.i id] (.b (Hc ids id)):=by
 refine en Qb Tryz.func267 λw0 F0 hG=> ?_
 exact sn Qb [0,1,4] [] p0 <| tn Qb [4] [] (pc 2 (Mw ids id) p0) <| Qe <| pb [] (show Hc ids id=(Wm ids id) from rfl)
def Zr (n_:Nat) (q:List Yw) (at_:Int) (f:Xe) (r:List Qm):Bool:=match n_ with
 | 0=>default
 | n_+1=>(bif ((nth q at_.toNat).1==(2:Int)) then ((Xl f ((nth q at_.toNat).2.2.2.1)).1 !=(0:Int)) else (bif ((nth q at_.toNat).1==(3:Int)) then (((Xl f ((nth q at_.toNat).2.2.2.1)).1==(nth q at_.toNat).2.2.2.2.1)&&(((Xl f ((nth q at_.toNat).2.2.2.1)).2.1==(nth q at_.toNat).2.2.2.2.2.1)&&((((Xl f ((nth q at_.toNat).2.2.2.1)).2.2).toList==((nth q at_.toNat).2.2.2.2.2.2).toList)&&true))) else (bif ((nth q at_.toNat).1==(4:Int)) then (((Hs f ((nth q at_.toNat).2.2.2.1))).2&&decide (((Hs f ((nth q at_.toNat).2.2.2.1))).1<(nth q at_.toNat).2.2.2.2.2.1)) else (bif ((nth q at_.toNat).1==(5:Int)) then (!(Zr n_ q ((nth q at_.toNat).2.1) f r)) else (bif ((nth q at_.toNat).1==(6:Int)) then ((Zr n_ q ((nth q at_.toNat).2.1) f r)&&(Zr n_ q ((nth q at_.toNat).2.2.1) f r)) else (bif ((nth q at_.toNat).1==(7:Int)) then ((Zr n_ q ((nth q at_.toNat).2.1) f r)|| (Zr n_ q ((nth q at_.toNat).2.2.1) f r)) else (bif ((nth q at_.toNat).1==(8:Int)) then (Hc (Xj r ((nth q at_.toNat).2.2.2.1)) f.1) else (bif ((nth q at_.toNat).1==(9:Int)) then ((f.2.2.2.1 !=(0:Int))&&(Hc (Xj r ((nth q at_.toNat).2.2.2.1)) f.2.2.2.1)) else true))))))))
theorem AC:∀(n_:Nat) (q:List Yw) (at_:Int) (f:Xe) (r:List Qm) (hv:Xb q=true) (ha:0<=at_) (hb:at_<(q.length:Int)) (hn:at_<((n_:Nat):Int)),ACalls Tryz.prog 253 [.h q,.i at_,.a [.i f.1,.i f.2.1,.b f.2.2.1,.i f.2.2.2.1,.h f.2.2.2.2],.h r] (.b (Zr n_ q at_ f r)):=by
 intro n_
 induction n_ with
 | zero=>intro q at_ f r hv ha hb hn;exact (by omega:False).elim
 | succ n_ ih=>
  intro q at_ f r hv ha hb hn
  refine en Qb Tryz.func253 λw0 F0 hG=> ?_
  refine sn Qb [0,1,3,6,8] [6] p0 <| wT 0 0 .sh q (λhw2 hl3=> ?_)
  have hx1:=ng q at_.toNat;refine tn Qb [0,3,6,8,9] [6,9] (pg 2 at_ hx1 p0) <| Qc <| tu Qb [(6,.p 6 0),(8,.b false),(9,.p 9 0),(17,.i ((nth q at_.toNat).1))] [1,2] [(6, [.i f.1,.i f.2.1,.b f.2.2.1,.i f.2.2.2.1,.h f.2.2.2.2]),(9, [.i ((nth q at_.toNat).1),.i ((nth q at_.toNat).2.1),.i ((nth q at_.toNat).2.2.1),.s ((nth q at_.toNat).2.2.2.1),.i ((nth q at_.toNat).2.2.2.2.1),.i ((nth q at_.toNat).2.2.2.2.2.1),.s ((nth q at_.toNat).2.2.2.2.2.2)])] [] p0 <| Qv <| sn Qb [0,3,6,8,9,17,18] [6,9] p0 <| ck ((nth q at_.toNat).1==(2:Int)) (λh4=> ?_) (λh4=> ?_)
  ·exact tn Qb [8] [] (pc 3 (Ee f ((nth q at_.toNat).2.2.2.1)) p0) <| Qe <| pb [] (Q4 h4 (rfl))
  have h4d:=Y4 h4;refine tn Qb [0,3,6,8,9,17,26] [6,9] p0 <| ck ((nth q at_.toNat).1==(3:Int)) (λh5=> ?_) (λh5=> ?_)
  ·exact tU Qb Zg [(8,.b (((Xl f ((nth q at_.toNat).2.2.2.1)).1==(nth q at_.toNat).2.2.2.2.1)&&(((Xl f ((nth q at_.toNat).2.2.2.1)).2.1==(nth q at_.toNat).2.2.2.2.2.1)&&((((Xl f ((nth q at_.toNat).2.2.2.1)).2.2).toList==((nth q at_.toNat).2.2.2.2.2.2).toList)&&true))))] [0,3,6,8,9,17] [] [6,9] (pc 3 (Ee f ((nth q at_.toNat).2.2.2.1)) p0) <| Qe <| pb [] (Qi h4 (Q4 h5 (rfl)))
  have h5d:=Y4 h5;refine tu Qb [(35,.b ((nth q at_.toNat).1==(4:Int)))] [] [] [] p0 <| ck ((nth q at_.toNat).1==(4:Int)) (λh6=> ?_) (λh6=> ?_)
  ·refine sn Qb [8,9,10,11] [9] (pc 3 (FF f ((nth q at_.toNat).2.2.2.1)) p0) <| Qc <| mz [(10,.i (((Hs f ((nth q at_.toNat).2.2.2.1))).1)),(11,.b (((Hs f ((nth q at_.toNat).2.2.2.1))).2))] [0,3,6,17,35] [] [6] <| jn [(8,.b (((Hs f ((nth q at_.toNat).2.2.2.1))).2&&decide (((Hs f ((nth q at_.toNat).2.2.2.1))).1<(nth q at_.toNat).2.2.2.2.2.1)))] [8,9,10,11] [] [9] (((Hs f ((nth q at_.toNat).2.2.2.1))).2) (λh7=> ?_) (λh7=> ?_) ?_
   ·refine rn Qb [8] [] (pt 0 h7 p0) ?_;exact zA (by rw[h7]<;>kernel_rfl)
   ·refine rn Qb [8] [] (pf 0 h7 p0) ?_;exact zA (by rw[h7]<;>kernel_rfl)
   exact Qe <| pb [] (Qi h4 (Qi h5 (Q4 h6 (rfl))))
  have h6d:=Y4 h6;refine sn Qb [0,3,6,8,9,17,52] [6,9] p0 <| ck ((nth q at_.toNat).1==(5:Int)) (λh8=> ?_) (λh8=> ?_)
  ·have h8d:=eq_of_beq h8;exact tn Qb [8] [] (pc 5 (ih q ((nth q at_.toNat).2.1) f r hv (by have hz:=Qif hv ha hb h8;omega) (by have hz:=Qif hv ha hb h8;omega) (by have hz:=Qif hv ha hb h8;omega)) p0) <| Qe <| pb [] (Qi h4 (Qi h5 (Qi h6 (Q4 h8 (rfl)))))
  have h8d:=Y4 h8;refine tn Qb [0,3,6,8,9,17,61] [6,9] p0 <| ck ((nth q at_.toNat).1==(6:Int)) (λh9=> ?_) (λh9=> ?_)
  ·have h9d:=eq_of_beq h9;refine Qc <| mz [(61,.b ((nth q at_.toNat).1==(6:Int)))] [35] [] [] <| jn [(8,.b ((Zr n_ q ((nth q at_.toNat).2.1) f r)&&(Zr n_ q ((nth q at_.toNat).2.2.1) f r)))] [0,3,6,8,9,17,61] [] [6,9] (Zr n_ q ((nth q at_.toNat).2.1) f r) (λh10=> ?_) (λh10=> ?_) ?_
   ·refine rn Qb [8] [] (pc 5 (cb h10 (ih q ((nth q at_.toNat).2.1) f r hv (by have hz:=SP hv ha hb h9;omega) (by have hz:=SP hv ha hb h9;omega) (by have hz:=SP hv ha hb h9;omega))) (pc 12 (ih q ((nth q at_.toNat).2.2.1) f r hv (by have hz:=Qig hv ha hb h9;omega) (by have hz:=Qig hv ha hb h9;omega) (by have hz:=Qig hv ha hb h9;omega)) p0)) ?_;exact zA (by rw[h10]<;>kernel_rfl)
   ·refine rn Qb [8] [] (pc 5 (cb h10 (ih q ((nth q at_.toNat).2.1) f r hv (by have hz:=SP hv ha hb h9;omega) (by have hz:=SP hv ha hb h9;omega) (by have hz:=SP hv ha hb h9;omega))) p0) ?_;exact zA (by rw[h10]<;>kernel_rfl)
   exact Qe <| pb [] (Qi h4 (Qi h5 (Qi h6 (Qi h8 (Q4 h9 (rfl))))))
  have h9d:=Y4 h9;refine tu Qb [(77,.b ((nth q at_.toNat).1==(7:Int)))] [35] [] [] p0 <| ck ((nth q at_.toNat).1==(7:Int)) (λh11=> ?_) (λh11=> ?_)
  ·have h11d:=eq_of_beq h11;refine Qc <| jn [(8,.b ((Zr n_ q ((nth q at_.toNat).2.1) f r)|| (Zr n_ q ((nth q at_.toNat).2.2.1) f r)))] [0,3,6,8,9,17,77] [] [6,9] (Zr n_ q ((nth q at_.toNat).2.1) f r) (λh12=> ?_) (λh12=> ?_) ?_
   ·refine rn Qb [8] [] (pc 5 (cb h12 (ih q ((nth q at_.toNat).2.1) f r hv (by have hz:=Qav hv ha hb h11;omega) (by have hz:=Qav hv ha hb h11;omega) (by have hz:=Qav hv ha hb h11;omega))) p0) ?_;exact zA (by rw[h12]<;>kernel_rfl)
   ·refine rn Qb [8] [] (pc 5 (cb h12 (ih q ((nth q at_.toNat).2.1) f r hv (by have hz:=Qav hv ha hb h11;omega) (by have hz:=Qav hv ha hb h11;omega) (by have hz:=Qav hv ha hb h11;omega))) (pc 12 (ih q ((nth q at_.toNat).2.2.1) f r hv (by have hz:=Qj8 hv ha hb h11;omega) (by have hz:=Qj8 hv ha hb h11;omega) (by have hz:=Qj8 hv ha hb h11;omega)) p0)) ?_;exact zA (by rw[h12]<;>kernel_rfl)
   exact Qe <| pb [] (Qi h4 (Qi h5 (Qi h6 (Qi h8 (Qi h9 (Q4 h11 (rfl)))))))
  refine sn Qb [3,6,8,9,17,93] [6,9] p0 <| ck ((nth q at_.toNat).1==(8:Int)) (λh13=> ?_) (λh13=> ?_)
  ·exact tN Qb Zg [8] [] (pc 3 (Dy r ((nth q at_.toNat).2.2.2.1)) (pc 6 (R0 (Xj r ((nth q at_.toNat).2.2.2.1)) f.1) p0)) <| Qe <| pb [] (Qi h4 (Qi h5 (Qi h6 (Qi h8 (Qi h9 (Qi h11 (Q4 h13 (rfl))))))))
  refine tn Qb [3,6,8,9,102] [6,9] p0 <| ck ((nth q at_.toNat).1==(9:Int)) (λh14=> ?_) (λh14=> ?_)
  ·refine Qc <| mz [(102,.b ((nth q at_.toNat).1==(9:Int)))] [0,17,77] [] [] <| jn [(8,.b ((f.2.2.2.1 !=(0:Int))&&(Hc (Xj r ((nth q at_.toNat).2.2.2.1)) f.2.2.2.1)))] [3,6,8,9,102] [] [6,9] (f.2.2.2.1 !=(0:Int)) (λh15=> ?_) (λh15=> ?_) ?_
   ·refine rN Qb Zg [8] [] (pt 2 h15 (pc 7 (Dy r ((nth q at_.toNat).2.2.2.1)) (pc 10 (R0 (Xj r ((nth q at_.toNat).2.2.2.1)) f.2.2.2.1) p0))) ?_;exact zA (by rw[h15]<;>kernel_rfl)
   ·refine rN Qb Zg [8] [] (pf 2 h15 p0) ?_;exact zA (by rw[h15]<;>kernel_rfl)
   exact Qe <| pb [] (Qi h4 (Qi h5 (Qi h6 (Qi h8 (Qi h9 (Qi h11 (Qi h13 (Q4 h14 (rfl)))))))))
  exact Qg <| tu Qb [(8,.b true)] [0,3,6,8,9,17,77] [] [6,9] p0 <| Qe <| pb [] (Qi h4 (Qi h5 (Qi h6 (Qi h8 (Qi h9 (Qi h11 (Qi h13 (Qi h14 (rfl)))))))))
def Hu (q:List Yw) (f:Xe) (r:List Qm):Bool:=((Xb q)&&(Zr (zD q) q ((q.length:Int)-1) f r))
theorem FG (q:List Yw) (f:Xe) (r:List Qm):ACalls Tryz.prog 228 [.h q,.a [.i f.1,.i f.2.1,.b f.2.2.1,.i f.2.2.2.1,.h f.2.2.2.2],.h r] (.b (Hu q f r)):=by
 refine en Qb Tryz.func228 λw0 F0 hG=> ?_
 refine sn Qb [0,2,4,6] [4] p0 <| Qc <| mz [(4,.p 4 0),(6,.b false)] [1] [(4, [.i f.1,.i f.2.1,.b f.2.2.1,.i f.2.2.2.1,.h f.2.2.2.2])] [] <| jn [(6,.b ((Xb q)&&(Zr (zD q) q ((q.length:Int)-1) f r)))] [0,2,4,6] [] [4] (Xb q) (λh1=> ?_) (λh1=> ?_) ?_
 ·refine wT 0 0 .sh q (λhw2 hl3=> ?_);refine rn Qb [6] [] (pc 1 (cb h1 (Bm q)) (pl 5 q (pe 6 (Jl (IntWalk.i64_in ((q.length:Int)-1) (by omega))) (pc 9 (AC (zD q) q ((q.length:Int)-1) f r h1 (by have:=HQ h1;omega) (by omega) (by omega)) p0)))) ?_;exact zA (by rw[h1]<;>kernel_rfl)
 ·refine rn Qb [6] [] (pc 1 (cb h1 (Bm q)) p0) ?_;exact zA (by rw[h1]<;>kernel_rfl)
 exact Qe <| pb [] (show Hu q f r=((Xb q)&&(Zr (zD q) q ((q.length:Int)-1) f r)) from rfl)
def Bp (q:List Yw) (r:List Qm) (_:Nat) (a0:Xe) (s0:List Int):Rd (List Int) (List Int) (List Int):=(bif (Hu q a0 r) then (.next (s0++ [a0.1])) else (.next s0))
def Ic (_:Nat) (s0:List Int):(List Int):=s0
def Zh (s_:Qz) (q:List Yw) (r:List Qm):(List Int):=(Out.on (Xz (Bp q r) Ic s_.2.1 0 []) (λy0=>y0))
theorem KK (s_:Qz) (q:List Yw) (r:List Qm):ACalls Tryz.prog 189 [.a [.h s_.1,.h s_.2.1,.i s_.2.2],.h q,.h r] (.o 0 (Zh s_ q r)):=by
 refine en Qb Tryz.func189 λw0 F0 hG=> ?_
 refine sn Qb [1,2,3,6] [3] p0 <| tn Qb [1,2,3,6,7] [3] p0 <| Qc <| tu Qb [(6,.e 0),(7,.one (.slc (.own true 640) 1 [])),(12,.h s_.2.1),(13,.i (s_.2.1.length:Int)),(14,.i 0)] [0] [] [] (pl 2 s_.2.1 p0) <| wT 12 0 .sh s_.2.1 (λhw1 hl2=> ?_)
 refine KD (Bp q r) Ic s_.2.1 [] (λk0 s0=> [(7,.o 147203 s0),(14,.i (k0:Int))]) [7,14] (λy0=> [(7,.o 147353 y0)]) [1,2,7,12,13,14] (λk0 s0=>zD s0<=k0) (Xg [(640,147203)] (by kernel_rfl)) (by simp) (λk0 s0 hk0 U=> ?_) (λk0 s0 hk0 U=> ?_) (λy0 hD0=> ?_)
 ·have hA0_0:=U.2;obtain ⟨a0,hx0⟩:=Xm (l:=s_.2.1) (i:=k0) hk0;refine su Qb [(15,.b true)] [] [] [] (pe 0 (zB ((k0:Int)<(s_.2.1.length:Int))) p0) <| Qc <| ckT <| Qg <| Qc <| Qv <| sn Qb [1,2,6,7,9,12,13,14] [9] (pn 0 hx0 p0) <| tn Qb [1,2,6,7,9,12,13,14,21] [9] (pc 3 (FG q a0 r) p0) <| ck (Hu q a0 r) (λh3=> ?_) (λh3=> ?_)
  ·refine wT 7 0 (.own true 147203) s0 (λhw4 hl5=> ?_);refine qu Qb [(7,.one (.slc (.own true 1664) 1 ((eL s0)++ [[.i a0.1]])))] [7,15] [] [] (pa s0 [a0.1] p0) ?_;refine eqn [(7,.o 1664 (s0++ [a0.1]))] [7] [] [] (by rw[show ((eL s0)++ [[.i a0.1]])=(eL (s0++ [a0.1])) from Ju (rfl) (rfl)];first | done | kernel_rfl) ?_;refine rn Qb [1,2,6,7,12,13,14] [] (pe 0 (Jl (Qo k0 (by omega))) p0) ?_;exact zY (s0++ [a0.1]) (yM (Xg [(1664,147203)] (by kernel_rfl)) ⟨Qt hx0 (Q4 h3 (rfl)) U.1,by first|omega|(simp;omega) | simp⟩)
  refine Qg <| qu Qb [(14,.i ((k0+1:Nat):Int))] [14,15] [] [] (pe 0 (Jl (Qo k0 (by omega))) p0) ?_
  exact xw s0 ⟨Qt hx0 (Qi h3 (rfl)) U.1,by first|omega|(simp;omega) | simp⟩
 ·have hA0_0:=U.2;exact su Qb [(15,.b false)] [] [] [] (pe 0 (zC ((k0:Int)<(s_.2.1.length:Int))) p0) <| Qc <| ckF <| Q3 <| zY _ (yM (Xg [(147203,147353)] (by kernel_rfl)) (Xn hk0 (rfl) U.1))
 exact sn Qb [6] [] p0 <| Qe <| po0 [] (Wk hD0 (rfl))
def O4 (name:ByteArray) (_:Nat) (a0:Bl) (_:Unit):Rd (B3) (Unit) (Unit):=(bif (a0.1.toList==name.toList) then (.ret a0.2) else (.next ()))
def O5 (_:Nat) (_:Unit):Unit:=()
def X1 (f:Xe) (name:ByteArray):B3:=(Out.on (Xz (O4 name) O5 f.2.2.2.2 0 ()) (λ_=>(0,0,⟨#[]⟩)))
theorem M4 (f:Xe) (name:ByteArray):ACalls Tryz.prog 220 [.a [.i f.1,.i f.2.1,.b f.2.2.1,.i f.2.2.2.1,.h f.2.2.2.2],.s name] (.a [.i ((X1 f name).1),.i ((X1 f name).2.1),.s ((X1 f name).2.2)]):=by
 refine en Qb Tryz.func220 λw0 F0 hG=> ?_
 refine sn Qb [1,2,4] [2,4] p0 <| Qc <| tn Qb [1,2,4,5] [2,4] p0 <| mz [(2,.p 2 0),(4,.p 4 0),(5,.i 0)] [0] [(2, [.i f.1,.i f.2.1,.b f.2.2.1,.i f.2.2.2.1,.h f.2.2.2.2]),(4, [.i 0,.i 0,.s ⟨#[]⟩])] [] <| wB 2 4 .sh f.2.2.2.2 (λhw1 hl2=> ?_)
 refine Qgj (O4 name) O5 f.2.2.2.2 () (λk0 _=> [(5,.i (k0:Int))]) [5] (λ_ _=> []) [] (λ_=> []) [1,2,5] (λ_=> []) [2] wf0 (λk0 s0 hk0 U=> ?_) (λk0 s0 hk0 U=> ?_) (λy0 hD0=> ?_)
 ·obtain ⟨a0,hx0⟩:=Xm (l:=f.2.2.2.2) (i:=k0) hk0;refine Qc <| sn Qb [1,2,4,5,10] [2,4] (pl 3 f.2.2.2.2 (pe 4 (zB ((k0:Int)<(f.2.2.2.2.length:Int))) p0)) <| ckT <| Qg <| Qc <| Qv <| tn Qb [1,2,4,5,20] [2,4] (pn 3 hx0 p0) <| ck (a0.1.toList==name.toList) (λh3=> ?_) (λh3=> ?_)
  ·refine tu Qb [] [] [(4, [.i a0.2.1,.i a0.2.2.1,.s a0.2.2.2])] [4] (pn 3 hx0 p0) <| Qe ?_
   have hr4:(Xz (O4 name) O5 f.2.2.2.2 0 ())= .ret a0.2:=Jv hx0 (Q4 h3 (rfl)) U;exact pz [] (show X1 f name=_ from Pd hr4) (λz=> .a [.i z.1,.i z.2.1,.s z.2.2])
  refine Qg <| qu Qb [(5,.i ((k0+1:Nat):Int))] [5] [] [] (pe 1 (Jl (Qo k0 (by omega))) p0) ?_
  exact xw _ (Qt hx0 (Qi h3 (rfl)) U)
 ·exact Qc <| sn Qb [1,2,4,5,10] [2,4] (pl 3 f.2.2.2.2 (pe 4 (zC ((k0:Int)<(f.2.2.2.2.length:Int))) p0)) <| ckF <| Q3 <| xw _ (Xn hk0 (rfl) U)
 exact sn Qb [4] [4] p0 <| Qe <| pz [] (show X1 f name=_ from Wk hD0 (rfl)) (λz=> .a [.i z.1,.i z.2.1,.s z.2.2])
def Mk (name:ByteArray) (_:Nat) (a0:Qm) (_:Unit):Rd (List Int) (Unit) (Unit):=(bif (a0.1.toList==name.toList) then (.ret a0.2) else (.next ()))
def Ml (_:Nat) (_:Unit):Unit:=()
def Xp (a_:List Qm) (name:ByteArray):(List Int):=(Out.on (Xz (Mk name) Ml a_ 0 ()) (λ_=> []))
theorem D0 (a_:List Qm) (name:ByteArray):ACalls Tryz.prog 174 [.h a_,.s name] (.o 0 (Xp a_ name)):=by
 refine en Qb Tryz.func174 λw0 F0 hG=> ?_
 refine sn Qb [0,1,4] [] p0 <| Qc <| tn Qb [0,1,4,5] [] p0 <| mz [(4,.e 0),(5,.i 0)] [] [] [] <| wT 0 0 .sh a_ (λhw1 hl2=> ?_)
 refine P0 (Mk name) Ml a_ () (λk0 _=> [(5,.i (k0:Int))]) [5] (λ_=> []) [0,1,5] wf0 (λk0 s0 hk0 U=> ?_) (λk0 s0 hk0 U=> ?_) (λy0 hD0=> ?_)
 ·obtain ⟨a0,hx0⟩:=Xm (l:=a_) (i:=k0) hk0;refine Qc <| sn Qb [0,1,4,5,9] [] (pl 2 a_ (pe 3 (zB ((k0:Int)<(a_.length:Int))) p0)) <| ckT <| Qg <| Qc <| Qv <| tn Qb [0,1,4,5,18] [] (pn 2 hx0 p0) <| ck (a0.1.toList==name.toList) (λh3=> ?_) (λh3=> ?_)
  ·have hl4:zD a0.2<=1073741824:=Gz (EX (EW hx0 (hw1)));refine tu Qb [(4,.o 1600 a0.2)] [4] [] [] (pn 3 hx0 (po 6 (.flat) (px (Ey (n:=(([]:List (List PV)).length+((eL a0.2):List (List PV)).length)) (G0 (rfl) (Zu a0.2) (by first|omega|(simp only[zK,yS];omega) | (simp;omega) | simp))) (px (Cp (B8 a0.2)) p0)))) <| Qe ?_
   have hr5:(Xz (Mk name) Ml a_ 0 ())= .ret a0.2:=Jv hx0 (Q4 h3 (rfl)) U;exact po0 [] (Pd hr5)
  refine Qg <| qu Qb [(5,.i ((k0+1:Nat):Int))] [5] [] [] (pe 1 (Jl (Qo k0 (by omega))) p0) ?_
  exact xw _ (Qt hx0 (Qi h3 (rfl)) U)
 ·exact Qc <| sn Qb [0,1,4,5,9] [] (pl 2 a_ (pe 3 (zC ((k0:Int)<(a_.length:Int))) p0)) <| ckF <| Q3 <| xw _ (Xn hk0 (rfl) U)
 exact sn Qb [4] [] p0 <| Qe <| po0 [] (Wk hD0 (rfl))
def Ah (id:Int) (_:Nat) (a0:Int) (_:Unit):Rd (Bool) (Unit) (Unit):=(bif (a0==id) then (.ret true) else (.next ()))
def Ef (_:Nat) (_:Unit):Unit:=()
def Ue (ids:List Int) (id:Int):Bool:=(Out.on (Xz (Ah id) Ef ids 0 ()) (λ_=>false))
theorem Fo (ids:List Int) (id:Int):ACalls Tryz.prog 218 [.h ids,.i id] (.b (Ue ids id)):=by
 refine en Qb Tryz.func218 λw0 F0 hG=> ?_
 refine sn Qb [0,1,4] [] p0 <| Qc <| tn Qb [0,1,4,5] [] p0 <| mz [(4,.b false),(5,.i 0)] [] [] [] <| wT 0 0 .sh ids (λhw1 hl2=> ?_)
 refine P0 (Ah id) Ef ids () (λk0 _=> [(5,.i (k0:Int))]) [5] (λ_=> []) [0,1,5] wf0 (λk0 s0 hk0 U=> ?_) (λk0 s0 hk0 U=> ?_) (λy0 hD0=> ?_)
 ·obtain ⟨a0,hx0⟩:=Xm (l:=ids) (i:=k0) hk0;refine Qc <| sn Qb [0,1,4,5,9] [] (pl 2 ids (pe 3 (zB ((k0:Int)<(ids.length:Int))) p0)) <| ckT <| Qg <| Qc <| Qv <| tn Qb [0,1,4,5,17] [] (pn 2 hx0 p0) <| ck (a0==id) (λh3=> ?_) (λh3=> ?_)
  ·refine tu Qb [(4,.b true)] [4] [] [] p0 <| Qe ?_
   have hr4:(Xz (Ah id) Ef ids 0 ())= .ret true:=Jv hx0 (Q4 h3 (rfl)) U;exact pb [] (Pd hr4)
  have h3d:=Y4 h3;refine Qg <| qu Qb [(5,.i ((k0+1:Nat):Int))] [5] [] [] (pe 1 (Jl (Qo k0 (by omega))) p0) ?_
  exact xw _ (Qt hx0 (Qi h3 (rfl)) U)
 ·exact Qc <| sn Qb [0,1,4,5,9] [] (pl 2 ids (pe 3 (zC ((k0:Int)<(ids.length:Int))) p0)) <| ckF <| Q3 <| xw _ (Xn hk0 (rfl) U)
 exact sn Qb [4] [] p0 <| Qe <| pb [] (Wk hD0 (rfl))
def V8 (n_:Nat) (q:List Yw) (at_:Int) (f:Xe) (a_:List Qm):Bool:=match n_ with
 | 0=>default
 | n_+1=>(bif ((nth q at_.toNat).1==(1:Int)) then true else (bif ((nth q at_.toNat).1==(2:Int)) then ((X1 f ((nth q at_.toNat).2.2.2.1)).1 !=(0:Int)) else (bif ((nth q at_.toNat).1==(3:Int)) then (((X1 f ((nth q at_.toNat).2.2.2.1)).1==(nth q at_.toNat).2.2.2.2.1)&&(((X1 f ((nth q at_.toNat).2.2.2.1)).2.1==(nth q at_.toNat).2.2.2.2.2.1)&&((((X1 f ((nth q at_.toNat).2.2.2.1)).2.2).toList==((nth q at_.toNat).2.2.2.2.2.2).toList)&&true))) else (bif ((nth q at_.toNat).1==(4:Int)) then (((X1 f ((nth q at_.toNat).2.2.2.1)).1==(1:Int))&&decide ((X1 f ((nth q at_.toNat).2.2.2.1)).2.1<(nth q at_.toNat).2.2.2.2.2.1)) else (bif ((nth q at_.toNat).1==(5:Int)) then (!(V8 n_ q ((nth q at_.toNat).2.1) f a_)) else (bif ((nth q at_.toNat).1==(6:Int)) then ((V8 n_ q ((nth q at_.toNat).2.1) f a_)&&(V8 n_ q ((nth q at_.toNat).2.2.1) f a_)) else (bif ((nth q at_.toNat).1==(7:Int)) then ((V8 n_ q ((nth q at_.toNat).2.1) f a_)|| (V8 n_ q ((nth q at_.toNat).2.2.1) f a_)) else (bif ((nth q at_.toNat).1==(8:Int)) then (Ue (Xp a_ ((nth q at_.toNat).2.2.2.1)) f.1) else ((f.2.2.2.1 !=(0:Int))&&(Ue (Xp a_ ((nth q at_.toNat).2.2.2.1)) f.2.2.2.1))))))))))
theorem FH:∀(n_:Nat) (q:List Yw) (at_:Int) (f:Xe) (a_:List Qm) (hv:Xb q=true) (ha:0<=at_) (hb:at_<(q.length:Int)) (hn:at_<((n_:Nat):Int)),ACalls Tryz.prog 251 [.h q,.i at_,.a [.i f.1,.i f.2.1,.b f.2.2.1,.i f.2.2.2.1,.h f.2.2.2.2],.h a_] (.b (V8 n_ q at_ f a_)):=by
 intro n_
 induction n_ with
 | zero=>intro q at_ f a_ hv ha hb hn;exact (by omega:False).elim
 | succ n_ ih=>
  intro q at_ f a_ hv ha hb hn
  refine en Qb Tryz.func251 λw0 F0 hG=> ?_
  refine sn Qb [0,1,3,6,8] [6] p0 <| wT 0 0 .sh q (λhw2 hl3=> ?_)
  have hx1:=ng q at_.toNat;refine tn Qb [0,3,6,8,9] [6,9] (pg 2 at_ hx1 p0) <| tu Qb [(6,.p 6 0),(8,.b false),(9,.p 9 0),(10,.p 10 0)] [1,2] [(6, [.i f.1,.i f.2.1,.b f.2.2.1,.i f.2.2.2.1,.h f.2.2.2.2]),(9, [.i ((nth q at_.toNat).1),.i ((nth q at_.toNat).2.1),.i ((nth q at_.toNat).2.2.1),.s ((nth q at_.toNat).2.2.2.1),.i ((nth q at_.toNat).2.2.2.2.1),.i ((nth q at_.toNat).2.2.2.2.2.1),.s ((nth q at_.toNat).2.2.2.2.2.2)]),(10, [.i ((X1 f ((nth q at_.toNat).2.2.2.1)).1),.i ((X1 f ((nth q at_.toNat).2.2.2.1)).2.1),.s ((X1 f ((nth q at_.toNat).2.2.2.1)).2.2)])] [] (pc 3 (M4 f ((nth q at_.toNat).2.2.2.1)) p0) <| Qc <| sn Qb [0,3,6,8,9,10,20] [6,9,10] p0 <| Qv <| tn Qb [0,3,6,8,9,10,20,21] [6,9,10] p0 <| ck ((nth q at_.toNat).1==(1:Int)) (λh4=> ?_) (λh4=> ?_)
  ·exact tu Qb [(8,.b true)] [0,8,10] [] [10] p0 <| Qe <| pb [] (Q4 h4 (rfl))
  have h4d:=Y4 h4;refine tu Qb [(20,.i ((nth q at_.toNat).1)),(23,.b ((nth q at_.toNat).1==(2:Int)))] [] [] [] p0 <| ck ((nth q at_.toNat).1==(2:Int)) (λh5=> ?_) (λh5=> ?_)
  ·exact sn Qb [3,6,8,9] [6,9] p0 <| Qe <| pb [] (Qi h4 (Q4 h5 (rfl)))
  have h5d:=Y4 h5;refine sn Qb [0,3,6,8,9,10,20,28] [6,9,10] p0 <| ck ((nth q at_.toNat).1==(3:Int)) (λh6=> ?_) (λh6=> ?_)
  ·exact tn Qb [3,6,8,9] [6,9] p0 <| Qe <| pb [] (Qi h4 (Qi h5 (Q4 h6 (rfl))))
  have h6d:=Y4 h6;refine tn Qb [0,3,6,8,9,10,20,34] [6,9,10] p0 <| ck ((nth q at_.toNat).1==(4:Int)) (λh7=> ?_) (λh7=> ?_)
  ·refine Qc <| mz [(34,.b ((nth q at_.toNat).1==(4:Int)))] [23] [] [] <| jn [(8,.b (((X1 f ((nth q at_.toNat).2.2.2.1)).1==(1:Int))&&decide ((X1 f ((nth q at_.toNat).2.2.2.1)).2.1<(nth q at_.toNat).2.2.2.2.2.1)))] [0,8,10,20,34] [] [10] ((X1 f ((nth q at_.toNat).2.2.2.1)).1==(1:Int)) (λh8=> ?_) (λh8=> ?_) ?_
   ·refine rn Qb [3,6,8,9] [6,9] (pt 2 h8 p0) ?_;exact zA (by rw[h8]<;>kernel_rfl)
   ·refine rn Qb [3,6,8,9] [6,9] (pf 2 h8 p0) ?_;exact zA (by rw[h8]<;>kernel_rfl)
   exact Qe <| pb [] (Qi h4 (Qi h5 (Qi h6 (Q4 h7 (rfl)))))
  have h7d:=Y4 h7;refine tu Qb [(47,.b ((nth q at_.toNat).1==(5:Int)))] [10,23] [] [10] p0 <| ck ((nth q at_.toNat).1==(5:Int)) (λh9=> ?_) (λh9=> ?_)
  ·have h9d:=eq_of_beq h9;exact sn Qb [3,6,8,9] [6,9] (pc 5 (ih q ((nth q at_.toNat).2.1) f a_ hv (by have hz:=Qif hv ha hb h9;omega) (by have hz:=Qif hv ha hb h9;omega) (by have hz:=Qif hv ha hb h9;omega)) p0) <| Qe <| pb [] (Qi h4 (Qi h5 (Qi h6 (Qi h7 (Q4 h9 (rfl))))))
  have h9d:=Y4 h9;refine sn Qb [0,3,6,8,9,20,56] [6,9] p0 <| ck ((nth q at_.toNat).1==(6:Int)) (λh10=> ?_) (λh10=> ?_)
  ·have h10d:=eq_of_beq h10;refine Qc <| mz [(56,.b ((nth q at_.toNat).1==(6:Int)))] [47] [] [] <| jn [(8,.b ((V8 n_ q ((nth q at_.toNat).2.1) f a_)&&(V8 n_ q ((nth q at_.toNat).2.2.1) f a_)))] [0,8,20,56] [] [] (V8 n_ q ((nth q at_.toNat).2.1) f a_) (λh11=> ?_) (λh11=> ?_) ?_
   ·refine rn Qb [3,6,8,9] [6,9] (pc 5 (cb h11 (ih q ((nth q at_.toNat).2.1) f a_ hv (by have hz:=SP hv ha hb h10;omega) (by have hz:=SP hv ha hb h10;omega) (by have hz:=SP hv ha hb h10;omega))) (pc 12 (ih q ((nth q at_.toNat).2.2.1) f a_ hv (by have hz:=Qig hv ha hb h10;omega) (by have hz:=Qig hv ha hb h10;omega) (by have hz:=Qig hv ha hb h10;omega)) p0)) ?_;exact zA (by rw[h11]<;>kernel_rfl)
   ·refine rn Qb [3,6,8,9] [6,9] (pc 5 (cb h11 (ih q ((nth q at_.toNat).2.1) f a_ hv (by have hz:=SP hv ha hb h10;omega) (by have hz:=SP hv ha hb h10;omega) (by have hz:=SP hv ha hb h10;omega))) p0) ?_;exact zA (by rw[h11]<;>kernel_rfl)
   exact Qe <| pb [] (Qi h4 (Qi h5 (Qi h6 (Qi h7 (Qi h9 (Q4 h10 (rfl)))))))
  have h10d:=Y4 h10;refine tn Qb [0,3,6,8,9,20,72] [6,9] p0 <| ck ((nth q at_.toNat).1==(7:Int)) (λh12=> ?_) (λh12=> ?_)
  ·have h12d:=eq_of_beq h12;refine Qc <| mz [(72,.b ((nth q at_.toNat).1==(7:Int)))] [47] [] [] <| jn [(8,.b ((V8 n_ q ((nth q at_.toNat).2.1) f a_)|| (V8 n_ q ((nth q at_.toNat).2.2.1) f a_)))] [0,8,20,72] [] [] (V8 n_ q ((nth q at_.toNat).2.1) f a_) (λh13=> ?_) (λh13=> ?_) ?_
   ·refine rn Qb [3,6,8,9] [6,9] (pc 5 (cb h13 (ih q ((nth q at_.toNat).2.1) f a_ hv (by have hz:=Qav hv ha hb h12;omega) (by have hz:=Qav hv ha hb h12;omega) (by have hz:=Qav hv ha hb h12;omega))) p0) ?_;exact zA (by rw[h13]<;>kernel_rfl)
   ·refine rn Qb [3,6,8,9] [6,9] (pc 5 (cb h13 (ih q ((nth q at_.toNat).2.1) f a_ hv (by have hz:=Qav hv ha hb h12;omega) (by have hz:=Qav hv ha hb h12;omega) (by have hz:=Qav hv ha hb h12;omega))) (pc 12 (ih q ((nth q at_.toNat).2.2.1) f a_ hv (by have hz:=Qj8 hv ha hb h12;omega) (by have hz:=Qj8 hv ha hb h12;omega) (by have hz:=Qj8 hv ha hb h12;omega)) p0)) ?_;exact zA (by rw[h13]<;>kernel_rfl)
   exact Qe <| pb [] (Qi h4 (Qi h5 (Qi h6 (Qi h7 (Qi h9 (Qi h10 (Q4 h12 (rfl))))))))
  refine tu Qb [(88,.b ((nth q at_.toNat).1==(8:Int)))] [0,20,47] [] [] p0 <| ck ((nth q at_.toNat).1==(8:Int)) (λh14=> ?_) (λh14=> ?_)
  ·exact sN Qb Zg [3,6,8,9] [6,9] (pc 3 (D0 a_ ((nth q at_.toNat).2.2.2.1)) (pc 6 (Fo (Xp a_ ((nth q at_.toNat).2.2.2.1)) f.1) p0)) <| Qe <| pb [] (Qi h4 (Qi h5 (Qi h6 (Qi h7 (Qi h9 (Qi h10 (Qi h12 (Q4 h14 (rfl)))))))))
  refine Qg <| Qc <| jn [(8,.b ((f.2.2.2.1 !=(0:Int))&&(Ue (Xp a_ ((nth q at_.toNat).2.2.2.1)) f.2.2.2.1)))] [3,6,8,9,88] [] [6,9] (f.2.2.2.1 !=(0:Int)) (λh15=> ?_) (λh15=> ?_) ?_
  ·refine rN Qb Zg [8] [] (pt 2 h15 (pc 7 (D0 a_ ((nth q at_.toNat).2.2.2.1)) (pc 10 (Fo (Xp a_ ((nth q at_.toNat).2.2.2.1)) f.2.2.2.1) p0))) ?_;exact zA (by rw[h15]<;>kernel_rfl)
  ·refine rN Qb Zg [8] [] (pf 2 h15 p0) ?_;exact zA (by rw[h15]<;>kernel_rfl)
  exact Qe <| pb [] (Qi h4 (Qi h5 (Qi h6 (Qi h7 (Qi h9 (Qi h10 (Qi h12 (Qi h14 (rfl)))))))))
def La (q:List Yw) (f:Xe) (a_:List Qm):Bool:=((Z5 q)&&(V8 (zD q) q ((q.length:Int)-1) f a_))
theorem FI (q:List Yw) (f:Xe) (a_:List Qm):ACalls Tryz.prog 215 [.h q,.a [.i f.1,.i f.2.1,.b f.2.2.1,.i f.2.2.2.1,.h f.2.2.2.2],.h a_] (.b (La q f a_)):=by
 refine en Qb Tryz.func215 λw0 F0 hG=> ?_
 refine sn Qb [0,2,4,6] [4] p0 <| Qc <| mz [(4,.p 4 0),(6,.b false)] [1] [(4, [.i f.1,.i f.2.1,.b f.2.2.1,.i f.2.2.2.1,.h f.2.2.2.2])] [] <| jn [(6,.b ((Z5 q)&&(V8 (zD q) q ((q.length:Int)-1) f a_)))] [0,2,4,6] [] [4] (Z5 q) (λh1=> ?_) (λh1=> ?_) ?_
 ·refine wT 0 0 .sh q (λhw2 hl3=> ?_);refine rn Qb [6] [] (pc 1 (cb h1 (Hm q)) (pl 5 q (pe 6 (Jl (IntWalk.i64_in ((q.length:Int)-1) (by omega))) (pc 9 (FH (zD q) q ((q.length:Int)-1) f a_ (XB h1) (by have:=HQ (XB h1);omega) (by omega) (by omega)) p0)))) ?_;exact zA (by rw[h1]<;>kernel_rfl)
 ·refine rn Qb [6] [] (pc 1 (cb h1 (Hm q)) p0) ?_;exact zA (by rw[h1]<;>kernel_rfl)
 exact Qe <| pb [] (show La q f a_=((Z5 q)&&(V8 (zD q) q ((q.length:Int)-1) f a_)) from rfl)
def Dh (q:List Yw) (a_:List Qm) (_:Nat) (a0:Xe) (s0:List Int):Rd (List Int) (List Int) (List Int):=(bif (La q a0 a_) then (.next (s0++ [a0.1])) else (.next s0))
def Ie (_:Nat) (s0:List Int):(List Int):=s0
def Y0 (s_:Qz) (q:List Yw) (a_:List Qm):(List Int):=(Out.on (Xz (Dh q a_) Ie s_.2.1 0 []) (λy0=>y0))
theorem Pq (s_:Qz) (q:List Yw) (a_:List Qm):ACalls Tryz.prog 176 [.a [.h s_.1,.h s_.2.1,.i s_.2.2],.h q,.h a_] (.o 0 (Y0 s_ q a_)):=by
 refine en Qb Tryz.func176 λw0 F0 hG=> ?_
 refine sn Qb [1,2,3,6] [3] p0 <| tn Qb [1,2,3,6,7] [3] p0 <| Qc <| tu Qb [(3,.p 3 0),(6,.e 0),(7,.one (.slc (.own true 576) 1 [])),(8,.i 0)] [0] [(3, [.h s_.1,.h s_.2.1,.i s_.2.2])] [] p0 <| wB 3 1 .sh s_.2.1 (λhw1 hl2=> ?_)
 refine YP (Dh q a_) Ie s_.2.1 [] (λk0 s0=> [(7,.o 147204 s0),(8,.i (k0:Int))]) [7,8] (λ_ _=> []) [] (λy0=> [(7,.o 147354 y0)]) [1,2,3,7,8] (λ_=> []) [3] (λk0 s0=>zD s0<=k0) (Xg [(576,147204)] (by kernel_rfl)) (by simp) (λk0 s0 hk0 U=> ?_) (λk0 s0 hk0 U=> ?_) (λy0 hD0=> ?_)
 ·have hA0_0:=U.2;obtain ⟨a0,hx0⟩:=Xm (l:=s_.2.1) (i:=k0) hk0;refine Qc <| su Qb [(14,.b true)] [] [] [] (pl 3 s_.2.1 (pe 4 (zB ((k0:Int)<(s_.2.1.length:Int))) p0)) <| ckT <| Qg <| Qc <| Qv <| sn Qb [1,2,3,6,7,8,24] [3] (pn 4 hx0 (pc 7 (FI q a0 a_) p0)) <| ck (La q a0 a_) (λh3=> ?_) (λh3=> ?_)
  ·refine wT 7 0 (.own true 147204) s0 (λhw4 hl5=> ?_);refine qu Qb [(7,.one (.slc (.own true 2112) 1 ((eL s0)++ [[.i a0.1]])))] [7,14] [] [] (pn 4 hx0 (pa s0 [a0.1] p0)) ?_;refine eqn [(7,.o 2112 (s0++ [a0.1]))] [7] [] [] (by rw[show ((eL s0)++ [[.i a0.1]])=(eL (s0++ [a0.1])) from Ju (rfl) (rfl)];first | done | kernel_rfl) ?_;refine rn Qb [1,2,3,6,7,8] [3] (pe 1 (Jl (Qo k0 (by omega))) p0) ?_;exact zY (s0++ [a0.1]) (yM (Xg [(2112,147204)] (by kernel_rfl)) ⟨Qt hx0 (Q4 h3 (rfl)) U.1,by first|omega|(simp;omega) | simp⟩)
  refine Qg <| qn Qb [1,2,3,6,7,8] [3] (pe 1 (Jl (Qo k0 (by omega))) p0) ?_
  exact xw s0 ⟨Qt hx0 (Qi h3 (rfl)) U.1,by first|omega|(simp;omega) | simp⟩
 ·have hA0_0:=U.2;exact Qc <| su Qb [(14,.b false)] [] [] [] (pl 3 s_.2.1 (pe 4 (zC ((k0:Int)<(s_.2.1.length:Int))) p0)) <| ckF <| Q3 <| zY _ (yM (Xg [(147204,147354)] (by kernel_rfl)) (Xn hk0 (rfl) U.1))
 exact sn Qb [6] [] p0 <| Qe <| po0 [] (Wk hD0 (rfl))
theorem Qln (l:List Int) (x:Int):Hc l x=Ue l x:=by
 unfold Hc Wm Dz Ue
 have key:∀(l:List Int) (k:Nat),decide (((Xz (V5 x) Hn l k ()).on λ_=> -1)>=0)=((Xz (Ah x) Ef l k ()).on λ_=>false):=by
  intro l
  induction l with
  | nil=>intro k;rfl
  | cons a l ih=>
    intro k;by_cases h:x=a
    . subst h;simp[Xz,V5,Ah,Out.on]
    have e1:(x==a)=false:=beq_eq_false_iff_ne.2 h;have e2:(a==x)=false:=beq_eq_false_iff_ne.2 (xR h);simp only[Xz,V5,Ah,e1,e2,cond_false];exact ih (k+1)
 exact key l 0
theorem Qdv (r:List Qm) (s:ByteArray):Xj r s=Xp r s:=rfl
theorem Qdw (f:Xe) (s:ByteArray):Xl f s=X1 f s:=rfl
theorem Qlo {n:Yw} {k:Int} (h:Jz n k=true):n.1=1\/n.1=2\/n.1=3\/n.1=4\/n.1=5\/n.1=6\/n.1=7\/n.1=8\/n.1=9:=by
 refine zR λhn=> ?_
 simp only[not_or] at hn;obtain ⟨h1,h2,h3,h4,h5,h6,h7,h8,h9⟩:=hn;unfold Jz at h;simp only[beq_eq_false_iff_ne.2 h1,beq_eq_false_iff_ne.2 h2,beq_eq_false_iff_ne.2 h3,beq_eq_false_iff_ne.2 h4,beq_eq_false_iff_ne.2 h5,beq_eq_false_iff_ne.2 h6,beq_eq_false_iff_ne.2 h7,beq_eq_false_iff_ne.2 h8,beq_eq_false_iff_ne.2 h9,cond_false] at h;cases h
theorem TC {q:List Yw} (hv:Xb q=true) (f:Xe) (r:List Qm):∀(n:Nat) (k:Int),0<=k->k<(q.length:Int)->Zr n q k f r=V8 n q k f r
 | 0,_,_,_=>rfl
 | n +1,k,h0,h1=>by
   have hn:=OY hv (Wg (l:=q) (i:=zH k) (by omega));rw[Int.toNat_of_nonneg h0] at hn;obtain ⟨hl,hr⟩:=Mh hv h0 h1;unfold Zr V8;have ih:=TC hv f r n;unfold Hs;simp only[Qdw,Qdv,Qln];generalize nth q (zH k)=m at hn hl hr⊢;rcases Qlo hn with h | h | h | h | h | h | h | h | h
   . simp[h]
   . simp[h]
   . simp[h]
   . rw[h];cases hz:((X1 f m.2.2.2.1).1==(1:Int)) with
     | true=>simp[bne,hz]
     | false=>simp[bne,hz]
   . simp[h,ih _ (hl (by simp[h])).1 (by have:=(hl (by simp[h])).2;omega)]
   . simp[h,ih _ (hl (by simp[h])).1 (by have:=(hl (by simp[h])).2;omega),ih _ (hr (by simp[h])).1 (by have:=(hr (by simp[h])).2;omega)]
   . simp[h,ih _ (hl (by simp[h])).1 (by have:=(hl (by simp[h])).2;omega),ih _ (hr (by simp[h])).1 (by have:=(hr (by simp[h])).2;omega)]
   . simp[h]
   simp[h]
theorem Qa1 (q:List Yw) (f:Xe) (r:List Qm):Hu q f r=La q f r:=by
 unfold Hu La;rw[←Qgm];cases hv:Xb q with
 | false=>rfl
 | true=>rw[TC hv f r _ _ (by have:=HQ hv;omega) (by omega)]
theorem AD (s:Qz) (q:List Yw) (r:List Qm):Zh s q r=Y0 s q r:=by
 unfold Zh Y0
 rw[Ed (f:=Bp q r) (g:=Dh q r) (e:=Ic) (e':=Ie) (λi a s=>by
  unfold Bp Dh;rw[Qa1]) (λ_ _=>rfl)]
end
section
section
variable {φ:Type} (fs:List φ) (idOf:φ->Int)
def sel (p:φ->Bool):List Int:=(fs.filter p).map idOf
theorem AE {p q:φ->Bool}:∀(l:List φ),(∀f,f∈l->p f=true->q f=true)->(l.filter p).length<=(l.filter q).length/\((l.filter q).length<=(l.filter p).length->l.filter p=l.filter q)
 | [],_=>⟨yY _,λ_=>rfl⟩
 | f :: l,h=>by
   obtain ⟨h1,h2⟩:=AE l λg hg=>h g (zI _ hg)
   have h0:=h f (zL ..);cases hp:p f with
   | true=>
     have hq:=h0 hp;simp only[yN,hp,hq,if_true,zK];exact ⟨by omega,λhl=>by rw[h2 (by omega)]⟩
   | false=>
     cases hq:q f with
     | true=>
       simp only[yN,hp,hq,if_true,zK,zX,if_false];exact ⟨by omega,λhl=>absurd hl (by omega)⟩
     | false=>
       simp only[yN,hp,hq,zX,if_false];exact ⟨h1,h2⟩
theorem Qdx (p:φ->Bool):(sel fs idOf p).length<=fs.length:=by
 unfold sel;rw[zJ];exact xH _ _
variable {fs idOf}
theorem Qgv {p q:φ->Bool} (h:∀f,f∈fs->p f=true->q f=true) (hn:sel fs idOf p≠sel fs idOf q):(sel fs idOf p).length+1<=(sel fs idOf q).length:=by
 obtain ⟨h1,h2⟩:=AE fs h;unfold sel at hn⊢;rw[zJ,zJ];refine Nat.lt_of_le_of_ne h1 λe=>hn ?_
 rw[h2 (by omega)]
theorem Qkf {p q:φ->Bool} (h:∀f,f∈fs->p f=true->q f=true) {x:Int} (hx:x∈sel fs idOf p):x∈sel fs idOf q:=by
 unfold sel at hx⊢;obtain ⟨f,hf,rfl⟩:=zV.1 hx;obtain ⟨h1,h2⟩:=yE.1 hf;exact zV.2 ⟨f,yE.2 ⟨h1,h f h1 h2⟩,rfl⟩
end
abbrev CD:=ByteArray×List Int
def Qdy (out:List CD) (k:Nat) (ids:List Int):List CD:=out.set k ((nth out k).1,ids)
theorem UE {out:List CD} {k:Nat} (x:CD) (hk:k<out.length) (j:Nat):nth (out.set k x) j=if j=k then x else nth out j:=by
 unfold nth;simp only[yV,yZ];by_cases h:k=j
 . subst h;simp[hk]
 simp[h,xR h]
theorem Qa2 {out:List CD} {k:Nat} (ids:List Int) (hk:k<out.length):(Qdy out k ids).map (·.1)=out.map (·.1):=by
 unfold Qdy;rw[List.map_set];refine List.ext_getElem (by simp) λi h1 h2=> ?_
 rw[List.getElem_set];split
 . rename_i h;subst h;simp[nth,zS,hk]
 rfl
def AF (B:Nat) (act:Nat->Bool):Nat->List CD->Nat
 | _, []=>0
 | k,r::l=>(bif act k then B-r.2.length else 0)+AF B act (k+1) l
theorem Qdz (B:Nat) (act:Nat->Bool):∀(l:List CD) (k:Nat),AF B act k l<=l.length*B
 | [],k=>by simp[AF]
 | r::l,k=>by
   have:=Qdz B act l (k+1);simp only[AF,zK,Nat.add_mul,Nat.one_mul];cases act k with
   | true=>simp only[cond_true];omega
   | false=>simp only[cond_false];omega
theorem TD (B:Nat) (act:Nat->Bool) (x:CD):∀(l:List CD) (k i:Nat),i<l.length->act (k+i)=true->(nth l i).2.length+1<=x.2.length->x.2.length<=B->AF B act k (l.set i x)+1<=AF B act k l
 | [],k,i,hi,_,_,_=>by simp at hi
 | r::l,k,0,_,ha,h1,h2=>by
   have e:nth (r::l) 0=r:=rfl;rw[e] at h1;rw[Nat.add_zero] at ha;simp only[zE,AF,ha,cond_true];omega
 | r::l,k,i+1,hi,ha,h1,h2=>by
   have:=TD B act x l (k+1) i (by simpa using hi) (by rwa [show k+1+i=k+(i+1) by omega]) h1 h2;simp only[zE,AF];omega
section
variable {φ:Type} {fs:List φ} {idOf:φ->Int} (m:Nat->List CD->φ->Bool) (act:Nat->Bool)
def LeC (a b:List CD):Prop:=∀j,(∀x,x∈(nth a j).2->x∈(nth b j).2)/\(act j=false->(nth a j).2=(nth b j).2)
variable (fs idOf)
def Qms (out:List CD):Prop:=∀k,k<out.length->act k=true->∃p:φ->Bool,(nth out k).2=sel fs idOf p/\∀f,f∈fs->p f=true->m k out f=true
def Qgw (nm:List ByteArray):Prop:=∀a b:List CD,a.map (·.1)=nm->b.map (·.1)=nm->LeC act a b->∀k,k<nm.length->act k=true->∀f,f∈fs->m k a f=true->m k b f=true
def LI (s:List CD×Bool) (k:Nat):List CD×Bool:=bif act k then (if sel fs idOf (m k s.1)=(nth s.1 k).2 then s else (Qdy s.1 k (sel fs idOf (m k s.1)),true)) else s
def FJ (ks:List Nat) (s:List CD×Bool):List CD×Bool:=ks.foldl (LI fs idOf m act) s
variable {fs idOf m act} {nm:List ByteArray}
structure StateC (fs:List φ) (idOf:φ->Int) (m:Nat->List CD->φ->Bool) (act:Nat->Bool) (nm:List ByteArray) (o out:List CD):Prop where
 names:out.map (·.1)=nm
 good:Qms fs idOf m act out
 rest:∀j,act j=false->nth out j=nth o j
theorem Qgx (hm:Qgw fs m act nm) {o:List CD} {s:List CD×Bool} (h:StateC fs idOf m act nm o s.1) {k:Nat} (hk:k<nm.length):
 StateC fs idOf m act nm o (LI fs idOf m act s k).1/\AF fs.length act 0 (LI fs idOf m act s k).1<=AF fs.length act 0 s.1/\((LI fs idOf m act s k).2=true->s.2=true\/AF fs.length act 0 (LI fs idOf m act s k).1+1<=AF fs.length act 0 s.1):=by
 unfold LI;cases ha:act k with
 | false=>exact ⟨h,yY _,.inl⟩
 | true=>
   simp only[cond_true];split
   . exact ⟨h,yY _,.inl⟩
   rename_i hne;have hlen:nm.length=s.1.length:=by rw[←h.names,zJ]
   have hk':k<s.1.length:=by omega
   obtain ⟨p,hp1,hp2⟩:=h.good k hk' ha;rw[hp1] at hne;have hgrow:=Qgv (idOf:=idOf) hp2 (xR hne);have hnames:(Qdy s.1 k (sel fs idOf (m k s.1))).map (·.1)=nm:=by rw[Qa2 _ hk',h.names]
   have hle:LeC act s.1 (Qdy s.1 k (sel fs idOf (m k s.1))):=λj=>by
    unfold Qdy;rw[UE _ hk'];by_cases hj:j=k
    . subst hj;rw[if_pos rfl];exact ⟨λx hx=>Qkf hp2 (hp1▸hx),λhf=>absurd ha (by simp[hf])⟩
    rw[if_neg hj];exact ⟨λ_ hx=>hx,λ_=>rfl⟩
   have hmono:=hm _ _ h.names hnames hle
   have hr:AF fs.length act 0 (Qdy s.1 k (sel fs idOf (m k s.1)))+1<=AF fs.length act 0 s.1:=
    TD _ _ _ _ 0 k hk' (by rw[zU];exact ha) (by rw[hp1];exact hgrow) (Qdx _ _ _)
   refine ⟨⟨hnames,λj hj hja=> ?_,λj hj=> ?_⟩,Nat.le_of_succ_le hr,λ_=> .inr hr⟩
   . have hj':j<s.1.length:=by unfold Qdy at hj;rwa [zG] at hj
     by_cases e:j=k
     . subst e;refine ⟨m j s.1, ?_,λf hf hmf=>hmono j (by omega) hja f hf hmf⟩;unfold Qdy;rw[UE _ hk',if_pos rfl]
     obtain ⟨p',h1,h2⟩:=h.good j hj' hja;refine ⟨p', ?_,λf hf hpf=>hmono j (by omega) hja f hf (h2 f hf hpf)⟩;unfold Qdy;rw[UE _ hk',if_neg e];exact h1
   have e:j≠k:=λe=>absurd ha (by simp[←e,hj])
   unfold Qdy;rw[UE _ hk',if_neg e];exact h.rest j hj
theorem TE (hm:Qgw fs m act nm) {o:List CD}:∀(ks:List Nat) (s:List CD×Bool),(∀k,k∈ks->k<nm.length)->StateC fs idOf m act nm o s.1->
 StateC fs idOf m act nm o (FJ fs idOf m act ks s).1/\AF fs.length act 0 (FJ fs idOf m act ks s).1<=AF fs.length act 0 s.1/\((FJ fs idOf m act ks s).2=true->s.2=true\/AF fs.length act 0 (FJ fs idOf m act ks s).1+1<=AF fs.length act 0 s.1)
 | [],s,_,h=>⟨h,yY _,.inl⟩
 | k ::ks,s,hks,h=>by
   obtain ⟨h1,h2,h3⟩:=Qgx hm h (hks k (zL ..));obtain ⟨g1,g2,g3⟩:=TE hm ks _ (λj hj=>hks j (zI _ hj)) h1;refine ⟨g1,yU g2 h2,λhc=> ?_⟩;rcases g3 hc with hc | hc
   . rcases h3 hc with hc | hc
     . exact .inl hc
     exact .inr (yU (Nat.add_le_add_right g2 1) hc)
   exact .inr (yU hc h2)
theorem Qmz {R S T:Type} {F:S->Rd R S T} {out:S->List CD} {ch:S->Bool} {n:Nat} (hn:n=nm.length)
 (hF:∀s,ch s=true->∃s',F s= .next s'/\(out s',ch s')=FJ fs idOf m act (zN n) (out s,false))
 (hE:∀s,ch s=false->∃t,F s= .brk t)
 (hm:Qgw fs m act nm) {o:List CD}:∀(k:Nat) (s:S),StateC fs idOf m act nm o (out s)->AF fs.length act 0 (out s)+(bif ch s then 2 else 1)<=k->
 ∃s',StateC fs idOf m act nm o (out s')/\ch s'=false/\∃t,F s'= .brk t/\whl F k s=some (.brk t)
 | 0,s,_,hk=>by cases hc:ch s<;>simp[hc] at hk
 | k +1,s,h,hk=>by
   cases hc:ch s with
   | false=>
     obtain ⟨t,ht⟩:=hE s hc;exact ⟨s,h,hc,t,ht,by simp only[whl,ht]⟩
   | true=>
     rw[hc] at hk;simp only[cond_true] at hk;obtain ⟨s',h1,h2⟩:=hF s hc;obtain ⟨g1,g2,g3⟩:=TE hm (o:=o) (zN n) (out s,false) (λj hj=>by rw[←hn];exact yH.1 hj) h;rw[←h2] at g1 g2 g3;simp only[whl,h1];refine Qmz hn hF hE hm k s' g1 ?_;simp only[zX,false_or] at g3;cases hc':ch s' with
     | false=>simp only[cond_false];have:AF fs.length act 0 (out s')<=AF fs.length act 0 (out s):=g2;omega
     | true=>simp only[cond_true];have:AF fs.length act 0 (out s')+1<=AF fs.length act 0 (out s):=g3 hc';omega
end
open Go.RowKit in
def ArgLe (a b:AV):Prop:=∀(J:Inj) (w:World) (v:Value),AR J w v a->AR J w v b
theorem ArgLe.rfl (a:AV):ArgLe a a:=λ_ _ _ h=>h
theorem ArgLe.nil (n:Nat):ArgLe (.one (.slc .sh 0 [])) (.one (.slc .sh n [])):=λJ w v h=>by
 have h':VV J.F w v (.slc 0 []):=h;show VV J.F w v (.slc n []);generalize hp:PV.slc 0 ([]:List (List PV))=p at h';cases h' with
 | int | bool | str | any=>cases hp
 | emp oa m hc=>exact .emp oa n hc
 | @slc b off cap m cs l hx hcells hr hle hcap=>
   cases hp
   exact .emp _ n hcap.1
theorem PG {P:Program} {f:Nat} {r:AV} {args args':List AV} (h:All2 ArgLe args args') (c:ACalls P f args' r):ACalls P f args r:=⟨c.1,λw hg F vals hF hall=>c.2 w hg F vals hF (by
 clear c
 induction h generalizing vals with
 | nil=>exact hall
 | cons h1 h2 ih=>
   cases hall with
   | cons g1 g2=>exact .cons (h1 _ _ _ g1) (ih _ g2))⟩
end
section
open Go.RowKit
def F3 (n:Yw) (c:Int):Bool:=((n.2.1==c)&&(n.1==6|| n.1==7|| n.1==5))|| ((n.2.2.1==c)&&(n.1==6|| n.1==7))
theorem Qd0 (c:Int) (k:Nat) (a:Yw) (s:Int) (h0:0<=s) (h1:s<=1000):∃s',Vz c k a s= .next s'/\s+(bif F3 a c then 1 else 0)<=s'/\s'<=s+2:=by
 have w1:IntKind.i64.wrap (s+1)=s+1:=IntWalk.i64_in _ (by omega);have w2:IntKind.i64.wrap (s+1+1)=s+1+1:=IntWalk.i64_in _ (by omega);unfold Vz F3;rw[w1,w2];cases (a.2.1==c)<;>cases (a.2.2.1==c)<;>cases (a.1==6)<;>cases (a.1==7)<;>cases (a.1==5)<;>exact ⟨_,rfl,by first | (simp;done) | (simp;omega) | omega,by omega⟩
theorem LJ (c:Int):∀(l:List Yw) (k:Nat) (s:Int),0<=s->s+2*l.length<=1000->∃s',Xz (Vz c) A6 l k s= .brk s'/\s+(l.filter λn=>F3 n c).length<=s'
 | [],k,s,_,_=>⟨s,rfl,by simp⟩
 | a::l,k,s,h0,h1=>by
   rw[zK] at h1;obtain ⟨s1,e1,g1,g2⟩:=Qd0 c k a s h0 (by omega);have hp:0<=s1:=by cases hb:F3 a c<;>(rw[hb] at g1;simp at g1;omega)
   obtain ⟨s2,e2,g3⟩:=LJ c l (k+1) s1 hp (by omega);refine ⟨s2,by simp only[Xz,e1];exact e2, ?_⟩;rw[yN];cases hb:F3 a c with
   | true=>rw[hb] at g1;simp only[cond_true] at g1;simp only[if_true,zK];omega
   | false=>rw[hb] at g1;simp only[cond_false] at g1;simp only[zX,if_false];omega
theorem Qlp {α:Type} {p:α->Bool} {l:List α} {i j:Nat} {a b:α} (hij:i<j) (hi:l[i]? =some a) (hj:l[j]? =some b) (ha:p a=true) (hb:p b=true):2<=(l.filter p).length:=by
 have e:l=l.take j++l.drop j:=(List.take_append_drop j l).symm;rw[e,List.filter_append,List.length_append];have h1:1<=((l.take j).filter p).length:=yJ (a:=a) (yE.2 ⟨xL (i:=i) (by rw[List.getElem?_take,if_pos hij];exact hi),ha⟩);have h2:1<=((l.drop j).filter p).length:=yJ (a:=b) (yE.2 ⟨xL (i:=0) (by rw[List.getElem?_drop];exact hj),hb⟩);omega
theorem Qkg {q:List Yw} (h:Xb q=true) {i:Nat} (hi:i+1<q.length):Va q (i:Int)=1:=by
 obtain ⟨⟨t,ht⟩,_⟩:=Qdc h;have:=Mz (λk a t=>by unfold Jg;generalize (_|| _:Bool)=c;cases c<;>simp) ht i (nth q i) (Wg (by omega));unfold Jg at this;rw[zU] at this;have hd:decide (((i:Nat):Int)<((q.length:Int)-1))=true:=decide_eq_true (by omega);rw[hd,yO] at this;cases hn:(Va q ((i:Nat):Int) !=(1:Int)) with
 | false=>exact Vi hn
 | true=>rw[hn,Bool.or_true] at this;simp at this
theorem Qgy {q:List Yw} (h:Xb q=true) {c i j:Nat} (hc:c+1<q.length) (hij:i<j) (hj:j<q.length) (h1:F3 (nth q i) (c:Int)=true) (h2:F3 (nth q j) (c:Int)=true):False:=by
 have hr:=Qkg h hc;have hl:=(HQ h).2;obtain ⟨s,e,g⟩:=LJ (c:Int) q 0 0 (by omega) (by omega);unfold Va at hr;rw[e] at hr;have:=Qlp (p:=λn=>F3 n (c:Int)) hij (Wg (by omega)) (Wg hj) h1 h2;simp only[Out.on] at hr;omega
theorem Qd1 {q:List Yw} (h:Xb q=true) {c i:Nat} (hi:i<q.length) (hr:F3 (nth q i) (c:Int)=true):c<i:=by
 obtain ⟨h1,h2⟩:=Mh h (k:=(i:Int)) (by omega) (by omega);rw[zM] at h1 h2;unfold F3 at hr;simp only[yQ,xC,beq_iff_eq] at hr;rcases hr with ⟨e,hop⟩ | ⟨e,hop⟩
 . have:=h1 (by omega);omega
 have:=h2 (by omega);omega
theorem FK {L:List Bool} {i:Nat} (x:Bool) (hi:i<L.length) (j:Nat):nth (L.set i x) j=if j=i then x else nth L j:=by
 unfold nth;simp only[yV,yZ];by_cases h:i=j
 . subst h;simp[hi]
 simp[h,xR h]
theorem Qgz {q:List Yw} (h:Xb q=true) {k:Nat} (hk:k<q.length) (s:List Bool) (hs:s.length=q.length):∃s',Jp q k s= .next s'/\s'.length=q.length/\
 (∀j:Nat,F3 (nth q (q.length-1-k)) (j:Int)=false->nth s' j=nth s j)/\
 (∀j:Nat,F3 (nth q (q.length-1-k)) (j:Int)=true->nth s' j=(nth s (q.length-1-k)|| ((nth q (q.length-1-k)).1==5))):=by
 have hdn:zH (dn ((q.length:Int)-1) k)=q.length-1-k:=by rw[OO];omega
 obtain ⟨hl,hr⟩:=Mh h (k:=((q.length-1-k:Nat):Int)) (by omega) (by omega);rw[zM] at hl hr;have hlt:q.length-1-k<s.length:=by omega
 unfold Jp;rw[hdn];generalize q.length-1-k=i at hl hr hlt⊢;generalize nth q i=n at hl hr⊢;generalize (nth s i|| (n.1==5))=b
 have both:∀(e5:(n.1==(5:Int))=false),(n.1=6\/n.1=7)->(zE (zE s (zH n.2.1) b) (zH n.2.2.1) b).length=q.length/\(∀j:Nat,F3 n (j:Int)=false->nth (zE (zE s (zH n.2.1) b) (zH n.2.2.1) b) j=nth s j)/\(∀j:Nat,F3 n (j:Int)=true->nth (zE (zE s (zH n.2.1) b) (zH n.2.2.1) b) j=b):=λe5 h67=>by
  obtain ⟨g1,g2⟩:=hl (.inr h67);obtain ⟨g3,g4⟩:=hr h67;have hop:(n.1==6|| n.1==7)=true:=by rcases h67 with e | e<;>simp[e]
  have hlen:(zE s (zH n.2.1) b).length=s.length:=zG ..;refine ⟨by rw[zG,hlen,hs],λj hj=> ?_,λj hj=> ?_⟩
  . simp only[F3,hop,Bool.true_or,Bool.and_true,Bool.or_eq_false_iff,beq_eq_false_iff_ne,ne_eq] at hj;rw[Po _ (by omega),Po _ (by omega)]
  simp only[F3,hop,Bool.true_or,Bool.and_true,yQ,beq_iff_eq] at hj;rw[FK _ (by omega),FK _ (by omega)];split
  . rfl
  rw[if_pos (by omega)]
 by_cases h5:n.1=5
 . obtain ⟨g1,g2⟩:=hl (.inl h5);simp only[h5,beq_self_eq_true,cond_true];refine ⟨_,rfl,by rw[zG,hs],λj hj=> ?_,λj hj=> ?_⟩
   . have:n.2.1≠(j:Int):=by simpa [F3,h5] using hj
     exact Po _ (by omega)
   have:n.2.1=(j:Int):=by simpa [F3,h5] using hj
   rw[FK _ (by omega),if_pos (by omega)]
 have e5:(n.1==(5:Int))=false:=beq_eq_false_iff_ne.2 h5;rw[e5,cond_false];by_cases h6:n.1=6
 . simp only[h6,beq_self_eq_true,cond_true];exact ⟨_,rfl,both e5 (.inl h6)⟩
 by_cases h7:n.1=7
 . simp only[h7,beq_self_eq_true,cond_true];exact ⟨_,rfl,both e5 (.inr h7)⟩
 have e6:(n.1==(6:Int))=false:=beq_eq_false_iff_ne.2 h6;have e7:(n.1==(7:Int))=false:=beq_eq_false_iff_ne.2 h7;rw[e6,e7,cond_false,cond_false];refine ⟨_,rfl,hs,λ_ _=>rfl,λj hj=> ?_⟩;simp[F3,e5,e6,e7] at hj
def Qd2 (q:List Yw) (k:Nat) (s:List Bool):Prop:=s.length=q.length/\∀i,q.length<=i+k->i<q.length->∀c:Nat,F3 (nth q i) (c:Int)=true->nth s c=(nth s i|| ((nth q i).1==5))
theorem Qg0 {q:List Yw} (h:Xb q=true) {k:Nat} (hk:k<q.length) {s:List Bool} (hs:Qd2 q k s):∃s',Jp q k s= .next s'/\Qd2 q (k+1) s':=by
 obtain ⟨s',h1,h2,h3,h4⟩:=Qgz h hk s hs.1
 have hself:nth s' (q.length-1-k)=nth s (q.length-1-k):=h3 _ (by
  cases hr:F3 (nth q (q.length-1-k)) ((q.length-1-k:Nat):Int) with
  | false=>rfl
  | true=>have:=Qd1 h (by omega) hr;omega)
 refine ⟨s',h1,h2,λi hi1 hi2 c hc=> ?_⟩;by_cases e:i=q.length-1-k
 . subst e;rw[h4 c hc,hself]
 have hci:=Qd1 h hi2 hc
 have n1:F3 (nth q (q.length-1-k)) (c:Int)=false:=by
  cases hr:F3 (nth q (q.length-1-k)) (c:Int) with
  | false=>rfl
  | true=>exact (Qgy h (c:=c) (i:=q.length-1-k) (j:=i) (by omega) (by omega) hi2 hr hc).elim
 have n2:F3 (nth q (q.length-1-k)) (i:Int)=false:=by
  cases hr:F3 (nth q (q.length-1-k)) (i:Int) with
  | false=>rfl
  | true=>have:=Qd1 h (by omega) hr;omega
 rw[h3 c n1,h3 i n2];exact hs.2 i (by omega) hi2 c hc
theorem TF {q:List Yw} (h:Xb q=true):∀(n k:Nat) (s:List Bool),k+n=q.length->Qd2 q k s->∃s',Uy (Jp q) Aq n k s= .brk s'/\Qd2 q q.length s'
 | 0,k,s,hk,hs=>⟨s,rfl,by rw[show k=q.length by omega] at hs;exact hs⟩
 | n+1,k,s,hk,hs=>by
   obtain ⟨s1,h1,h2⟩:=Qg0 h (by omega) hs;obtain ⟨s2,h3,h4⟩:=TF h n (k+1) s1 (by omega) h2;exact ⟨s2,by simp only[Uy,h1];exact h3,h4⟩
theorem Qg1 {q:List Yw} (h:Xb q=true):Qd2 q q.length (Yq q):=by
 unfold Yq;obtain ⟨s,h1,h2⟩:=TF h (zD q) 0 (zF (zH (q.length:Int)) false) (by omega) ⟨by simp,λi h1 h2=>by omega⟩;rw[h];simp only[yC,cond_false,h1,Out.on];exact h2
theorem Qg2 {q:List Yw} {i:Nat} (hi:i<(Yq q).length) (hn:nth (Yq q) i=true) (hd:J9 (nth q i)=true):(nth q i).2.2.2.1∈Yl q:=by
 have key:∀(l:List Bool) (k:Nat) (s:List ByteArray),∃t,Xz (Uv q true) Bc l k s= .brk t/\(∀x,x∈s->x∈t)/\∀j,l[j]? =some true->J9 (nth q (k+j))=true->(nth q (k+j)).2.2.2.1∈t:=by
  intro l
  induction l with
  | nil=>intro k s;exact ⟨s,rfl,λ_ h=>h,λj h=>by simp at h⟩
  | cons a l ih=>
    intro k s;simp only[Xz,Uv];cases hc:(J9 (nth q k)&&(a==true)) with
    | true=>
      obtain ⟨t,h1,h2,h3⟩:=ih (k+1) (s++ [(nth q k).2.2.2.1]);refine ⟨t,h1,λx hx=>h2 x (xJ _ hx),λj hj hnm=> ?_⟩;cases j with
      | zero=>exact h2 _ (yL _ (by simp))
      | succ j=>
        have:=h3 j (by simpa using hj) (by rwa [show k+1+j=k+(j+1) by omega])
        rwa [show k+1+j=k+(j+1) by omega] at this
    | false=>
      obtain ⟨t,h1,h2,h3⟩:=ih (k+1) s;refine ⟨t,h1,h2,λj hj hnm=> ?_⟩;cases j with
      | zero=>
        obtain rfl:a=true:=by simpa using hj
        rw[Nat.add_zero] at hnm;rw[hnm] at hc;cases hc
      | succ j=>
        have:=h3 j (by simpa using hj) (by rwa [show k+1+j=k+(j+1) by omega])
        rwa [show k+1+j=k+(j+1) by omega] at this
 unfold Yl Hb;obtain ⟨t,h1,_,h3⟩:=key (Yq q) 0 [];rw[h1];simp only[Out.on];have:=h3 i (by rw[Wg hi,hn]) (by rwa [zU]);rw[zU] at this;exact ((HT t).2 _).2 this
theorem FL (l:List Int) (x:Int):Hc l x=true↔x∈l:=by
 unfold Hc Wm Dz
 have key:∀(l:List Int) (k:Nat),decide (((Xz (V5 x) Hn l k ()).on λ_=> -1)>=0)=true↔x∈l:=by
  intro l
  induction l with
  | nil=>intro k;simp[Xz,Out.on,Hn]
  | cons a l ih=>
    intro k;by_cases h:x=a
    . subst h;simp[Xz,V5,Out.on]
    have e1:(x==a)=false:=beq_eq_false_iff_ne.2 h;simp only[Xz,V5,e1,cond_false];rw[ih (k+1)];simp[h]
 exact key l 0
structure Seen (q:List Yw) (a b:List Qm):Prop where
 grow:∀nm x,x∈Xj a nm->x∈Xj b nm
 same:∀nm,nm∈Yl q->Xj a nm=Xj b nm
theorem DT {q:List Yw} (hv:Xb q=true) {a b:List Qm} (hs:Seen q a b) (f:Xe):∀(n:Nat) (k:Nat),k<n->k<q.length->
 (nth (Yq q) k=true->Zr n q (k:Int) f a=Zr n q (k:Int) f b)/\(Zr n q (k:Int) f a=true->Zr n q (k:Int) f b=true)
 | 0,_,h,_=>absurd h (by omega)
 | n +1,k,hkn,hk=>by
   obtain ⟨hl,hr⟩:=Mh hv (k:=(k:Int)) (by omega) (by omega);rw[zM] at hl hr;obtain ⟨hlen,hneg⟩:=Qg1 hv;have hneg:=hneg k (by omega) hk;have hop:=Qlo (OY hv (Wg hk));have hnm:=Qg2 (q:=q) (i:=k) (by omega);have ih:=DT hv hs f n;unfold Zr;rw[zM];generalize nth q k=m at hl hr hneg hop hnm⊢
   have kid:∀c:Int,0<=c->c<(k:Int)->F3 m c=true->((nth (Yq q) k|| (m.1==5))=true->Zr n q c f a=Zr n q c f b)/\(Zr n q c f a=true->Zr n q c f b=true):=λc h0 h1 hrf=>by
    obtain ⟨j,rfl⟩:∃j:Nat,c=(j:Int):=⟨zH c,by omega⟩;obtain ⟨g1,g2⟩:=ih j (by omega) (by omega);exact ⟨λhn=>g1 ((hneg j hrf).trans hn),g2⟩
   rcases hop with h | h | h | h | h | h | h | h | h
   . simp[h]
   . simp[h]
   . simp[h]
   . simp[h]
   . obtain ⟨k1,k2⟩:=hl (.inl h);obtain ⟨g1,_⟩:=kid m.2.1 k1 k2 (by simp[F3,h]);have:=g1 (by simp[h]);simp[h,this]
   . obtain ⟨k1,k2⟩:=hl (.inr (.inl h));obtain ⟨k3,k4⟩:=hr (.inl h);obtain ⟨g1,g2⟩:=kid m.2.1 k1 k2 (by simp[F3,h]);obtain ⟨g3,g4⟩:=kid m.2.2.1 k3 k4 (by simp[F3,h]);refine ⟨λhn=> ?_,λhm=> ?_⟩
     . simp[h,g1 (by simp[hn]),g3 (by simp[hn])]
     simp[h] at hm⊢;exact ⟨g2 hm.1,g4 hm.2⟩
   . obtain ⟨k1,k2⟩:=hl (.inr (.inr h));obtain ⟨k3,k4⟩:=hr (.inr h);obtain ⟨g1,g2⟩:=kid m.2.1 k1 k2 (by simp[F3,h]);obtain ⟨g3,g4⟩:=kid m.2.2.1 k3 k4 (by simp[F3,h]);refine ⟨λhn=> ?_,λhm=> ?_⟩
     . simp[h,g1 (by simp[hn]),g3 (by simp[hn])]
     simp[h] at hm⊢;exact hm.imp g2 g4
   . refine ⟨λhn=> ?_,λhm=> ?_⟩
     . simp[h,hs.same _ (hnm hn (by simp[J9,h]))]
     simp[h] at hm⊢;exact (FL _ _).2 (hs.grow _ _ ((FL _ _).1 hm))
   refine ⟨λhn=> ?_,λhm=> ?_⟩
   . simp[h,hs.same _ (hnm hn (by simp[J9,h]))]
   simp[h] at hm⊢;exact ⟨hm.1,(FL _ _).2 (hs.grow _ _ ((FL _ _).1 hm.2))⟩
theorem LL {q:List Yw} {a b:List Qm} (hs:Seen q a b) (f:Xe) (h:Hu q f a=true):Hu q f b=true:=by
 unfold Hu at h⊢;cases hv:Xb q with
 | false=>rw[hv] at h;cases h
 | true=>
   rw[hv,yO] at h;rw[yO];have hl:=HQ hv;have e:((q.length:Int)-1)=((q.length-1:Nat):Int):=by omega
   rw[e] at h⊢;exact (DT hv hs f q.length (q.length-1) (by omega) (by omega)).2 h
theorem Qa3 (s:Qz) (q:List Yw) (r:List Qm):Zh s q r=sel s.2.1 (λf=>f.1) λf=>Hu q f r:=by
 unfold Zh;rw[U2 (f:=Bp q r) (p:=λf=>Hu q f r) (g:=λf=>f.1) (λ_ _ _=>rfl)];rfl
theorem S0 {d:List X0} {L:List Int} (h:Qx d=(L,true)):Qw d=true/\L.length=d.length/\Sat (Kc d) d.length L/\∀j,0<=nth L j:=by
 unfold Qx at h;cases hv:Qw d with
 | false=>rw[hv] at h;simp at h
 | true=>
   rw[hv] at h;simp only[yC,cond_false] at h;have h5:=Hg hv;have hw:=Nv (d:=d) (f:=H4 d) (e:=H5) (F:=Uj d) (λ_ _ _=>rfl) (λ_ _=>rfl) (λ_=>rfl) (by omega) (d.length*d.length+3) (zF d.length 0) true (Dg _).1 (Dg _).2
   have hsome:(YW (Kc d) d.length d.length (d.length*d.length+3) (true,zF d.length 0)).isSome=true:=by
    have:=Gl d h5;rw[zM,hw,yK] at this;exact this
   obtain ⟨r,hr⟩:=yD.1 hsome;unfold I0 at h;rw[zM,hw,hr] at h;have hw':∀i e,e∈Kc d i->e.2<=1/\e.1<d.length:=λi e he=>⟨(Nu d i e he).1,(Nu d i e he).2.1⟩
   obtain ⟨h1,_⟩:=YY hw' _ 0 true r (λe=>by cases e) hr;cases r with
   | none=>simp[Qk3,Out.on] at h
   | some M=>
     have e:M=L:=by simpa [Qk3,Out.on] using h
     subst e;obtain ⟨hrest,hM⟩:=h1 M rfl;rw[hM];exact ⟨rfl,He _ _ _,YX (He _ _ _) hrest,λj=>Dt _ _ j _⟩
theorem Qd3 {d:List X0} {L:List Int} (h:Qx d=(L,true)):∀j,nth L j<=(d.length:Int):=by
 obtain ⟨hv,hlen,_,_⟩:=S0 h;have h5:=Hg hv;unfold Qx at h;rw[hv] at h;simp only[yC,cond_false] at h;have hw:=Nv (d:=d) (f:=H4 d) (e:=H5) (F:=Uj d) (λ_ _ _=>rfl) (λ_ _=>rfl) (λ_=>rfl) (by omega) (d.length*d.length+3) (zF d.length 0) true (Dg _).1 (Dg _).2
 have hsome:(YW (Kc d) d.length d.length (d.length*d.length+3) (true,zF d.length 0)).isSome=true:=by
  have:=Gl d h5;rw[zM,hw,yK] at this;exact this
 obtain ⟨r,hr⟩:=yD.1 hsome;unfold I0 at h;rw[zM,hw,hr] at h;have hw':∀i e,e∈Kc d i->e.2<=1/\e.1<d.length:=λi e he=>⟨(Nu d i e he).1,(Nu d i e he).2.1⟩
 obtain ⟨h1,_⟩:=YY hw' _ 0 true r (λe=>by cases e) hr;cases r with
 | none=>simp[Qk3,Out.on] at h
 | some M=>
   have e:M=L:=by simpa [Qk3,Out.on] using h
   subst e;obtain ⟨hrest,hM⟩:=h1 M rfl;intro j;by_cases hj:j<d.length
   . rw[hM];exact Int.le_of_lt (PC hw' hrest j hj)
   have:nth M j=0:=XG (by omega);omega
theorem Mc {d:List X0} {w:Int} {nm:ByteArray}:∀{l:List ByteArray},nm∈l->0<=Q8 d nm->(zH (Q8 d nm),w)∈V6 d w l
 | x::l,h,h0=>by
   simp only[V6];rcases zO.1 h with rfl | h
   . rw[if_pos h0];exact zL ..
   split
   . exact zI _ (Mc h h0)
   exact Mc h h0
theorem Qa4 {d:List X0} {L:List Int} (h:Qx d=(L,true)) {i:Nat} (hi:i<d.length) {nm:ByteArray} (hn:nm∈Yl (nth d i).2) (h0:0<=Q8 d nm):nth L (zH (Q8 d nm))<nth L i:=by
 obtain ⟨_,_,hs,_⟩:=S0 h
 have hm:(zH (Q8 d nm),(1:Int))∈Kc d i:=by
  unfold Kc;rw[if_pos hi];exact yL _ (Mc hn h0)
 have:=(Ds.1 (hs i hi)).2 _ hm;simp only at this;omega
theorem Qd4 (nm:ByteArray):∀(d:List X0) (o:List Qm) (k:Nat),o.map (·.1)=d.map (·.1)->
 (Xz (X9 nm) Y2 d k ()= .brk ()/\Xz (Ww nm) Ht o k ()= .brk ())\/
 ∃i:Nat,i<d.length/\Xz (X9 nm) Y2 d k ()= .ret (((k+i:Nat)):Int)/\Xz (Ww nm) Ht o k ()= .ret (nth o i).2
 | [], [],_,_=> .inl ⟨rfl,rfl⟩
 | [],_::_,_,h=>by simp at h
 | _::_, [],_,h=>by simp at h
 | a ::d,b::o,k,h=>by
   simp only[List.map_cons,List.cons.injEq] at h;obtain ⟨h1,h2⟩:=h;simp only[Xz,X9,Ww,Dw,h1];cases (a.1.toList==nm.toList) with
   | true=>exact .inr ⟨0,by simp,rfl,rfl⟩
   | false=>
     simp only[cond_false];rcases Qd4 nm d o (k+1) h2 with h | ⟨i,hi,h3,h4⟩
     . exact .inl h
     exact .inr ⟨i+1,by simpa using hi,by rw[h3,show k+1+i=k+(i+1) by omega],h4⟩
theorem AG {d:List X0} {o:List Qm} (h:o.map (·.1)=d.map (·.1)) (nm:ByteArray):(Q8 d nm<0/\Xj o nm= [])\/(0<=Q8 d nm/\zH (Q8 d nm)<d.length/\Xj o nm=(nth o (zH (Q8 d nm))).2):=by
 unfold Q8 Jx Xj;rcases Qd4 nm d o 0 h with ⟨h1,h2⟩ | ⟨i,hi,h1,h2⟩
 . rw[h1,h2];refine .inl ⟨?_, ?_⟩
   . show (-1:Int)<0;omega
   rfl
 rw[h1,h2];simp only[Out.on,zU,zM];exact .inr ⟨by omega,hi,trivial⟩
abbrev FM (d:List X0) (k:Nat) (o:List Qm) (f:Xe):Bool:=Hu (nth d k).2 f o
theorem Qkh {d:List X0} {L:List Int} (h:Qx d=(L,true)) (fs:List Xe) {act:Nat->Bool} {level:Int} (ha:∀k,act k=true->nth L k=level):Qgw fs (FM d) act (d.map (·.1)):=by
 intro a b hna hnb hle k hk hact f _ hm;rw[zJ] at hk;refine LL (⟨λnm x hx=> ?_,λnm hn=> ?_⟩:Seen (nth d k).2 a b) f hm
 . rcases AG hna nm with ⟨h1,h2⟩ | ⟨h1,h2,h3⟩
   . rw[h2] at hx;simp at hx
   rcases AG hnb nm with ⟨g1,_⟩ | ⟨_,_,g3⟩
   . omega
   rw[h3] at hx;rw[g3];exact (hle _).1 x hx
 rcases AG hna nm with ⟨h1,h2⟩ | ⟨h1,h2,h3⟩
 . rcases AG hnb nm with ⟨_,g2⟩ | ⟨g1,_,_⟩
   . rw[h2,g2]
   omega
 rcases AG hnb nm with ⟨g1,_⟩ | ⟨_,_,g3⟩
 . omega
 rw[h3,g3];refine (hle _).2 ?_;have hlt:=Qa4 h hk hn h1;cases hp:act (zH (Q8 d nm)) with
 | false=>rfl
 | true=>have:=ha _ hp;have:=ha _ hact;omega
structure EvS (d:List X0) (L:List Int) (on:Nat->Bool) (fs:List Xe) (k:Int) (o:List Qm):Prop where
 names:o.map (·.1)=d.map (·.1)
 none:∀j,k<=nth L j->on j=true->(nth o j).2= []
 some_:∀j,j<d.length->on j=true->∃p:Xe->Bool,(nth o j).2=sel fs (λf=>f.1) p
def LM (L:List Int) (on:Nat->Bool) (k:Int) (j:Nat):Bool:=(nth L j==k)&&on j
theorem Qd5 {d:List X0} {L:List Int} {on:Nat->Bool} {fs:List Xe} {k:Int} {o:List Qm} (h:EvS d L on fs k o):StateC fs (λf:Xe=>f.1) (FM d) (LM L on k) (d.map (·.1)) o o:=
 ⟨h.names,λj _ hj=>⟨λ_=>false,by
  unfold LM at hj;simp only[xC,beq_iff_eq] at hj;rw[h.none j (by omega) hj.2];simp[sel],λf _ hf=>by cases hf⟩,λ_ _=>rfl⟩
theorem Qg3 {d:List X0} {L:List Int} {on:Nat->Bool} {k:Int} {o o':List Qm} {fs:List Xe} (h:EvS d L on fs k o) (h':StateC fs (λf:Xe=>f.1) (FM d) (LM L on k) (d.map (·.1)) o o'):EvS d L on fs (k+1) o':=
 ⟨h'.names,λj hj hon=>by
  rw[h'.rest j (by unfold LM;rw[Bool.and_eq_false_iff];exact .inl (beq_eq_false_iff_ne.2 (by omega)))];exact h.none j (by omega) hon,λj hj hon=>by
  cases ha:LM L on k j with
  | false=>rw[h'.rest j ha];exact h.some_ j hj hon
  | true=>
    have hlen:o'.length=d.length:=by have:=congrArg zD h'.names;simpa using this
    obtain ⟨p,hp,_⟩:=h'.good j (by omega) ha;exact ⟨p,hp⟩⟩
theorem Da {d:List X0} {L:List Int} {on:Nat->Bool} {fs:List Xe} {k:Int} {o:List Qm} (h:EvS d L on fs k o):zD o=zD d:=by have:=congrArg zD h.names;simpa using this
theorem UF (a b:List Int):Vb a b=decide (a=b):=by
 by_cases h:a.length=b.length
 . exact Qdu a b h
 have hb:((a.length:Int) !=(b.length:Int))=true:=by simpa using λe:(a.length:Int)=(b.length:Int)=>h (by omega)
 unfold Vb;rw[hb,decide_eq_false (λe=>h (congrArg zD e))];rfl
def Qd6 (s:Qz) (d:List X0) (L:List Int) (on:Nat->Bool) (lv:Int) {R T:Type} (f:Nat->X0->List Qm×Bool->Rd R (List Qm×Bool) T):Prop:=
 ∀k a o c,d[k]? =some a->f k a (o,c)=bif LM L on lv k then (bif !(decide (Zh s a.2 o=(nth o k).2)) then .next (zE o k ((nth o k).1,Zh s a.2 o),true) else .next (o,c)) else .next (o,c)
theorem KL {R:Type} {s:Qz} {d:List X0} {L:List Int} {on:Nat->Bool} {lv:Int} {f:Nat->X0->List Qm×Bool->Rd R (List Qm×Bool) (List Qm×Bool)} {e:Nat->List Qm×Bool->List Qm×Bool}
 (hf:Qd6 s d L on lv f) (he:∀k s,e k s=s):∀(l:List X0) (k:Nat) (o:List Qm) (c:Bool),d.drop k=l->Xz f e l k (o,c)= .brk (FJ s.2.1 (λf:Xe=>f.1) (FM d) (LM L on lv) (yA k l.length) (o,c))
 | [],k,o,c,_=>by simp[Xz,FJ,he]
 | a ::l,k,o,c,hl=>by
   have hk:d[k]? =some a:=by
    have:=congrArg (·[0]?) hl;simpa using this
   have ha:nth d k=a:=Od hk;have hrest:d.drop (k+1)=l:=by rw[←xK,hl];rfl
   have hp:FJ s.2.1 (λf:Xe=>f.1) (FM d) (LM L on lv) (yA k (a::l).length) (o,c)=FJ s.2.1 (λf:Xe=>f.1) (FM d) (LM L on lv) (yA (k+1) l.length) (LI s.2.1 (λf:Xe=>f.1) (FM d) (LM L on lv) (o,c) k):=by
    rw[zK,xB];rfl
   have hsel:sel s.2.1 (λf:Xe=>f.1) (FM d k o)=Zh s a.2 o:=by rw[Qa3,←ha]
   rw[hp];simp only[Xz,hf k a o c hk];unfold LI;cases LM L on lv k with
   | false=>simp only[cond_false];exact KL hf he l (k+1) o c hrest
   | true=>
     simp only[cond_true,hsel];by_cases hq:Zh s a.2 o=(nth o k).2
     . rw[decide_eq_true hq,if_pos hq];exact KL hf he l (k+1) o c hrest
     rw[decide_eq_false hq,if_neg hq];exact KL hf he l (k+1) _ true hrest
theorem Qil {R':Type} {s:Qz} {d:List X0} {L:List Int} {on:Nat->Bool} {lv:Int} {f:Nat->X0->List Qm×Bool->Rd (Rd R' (List Qm×Int×Bool) (List Qm×Int)) (List Qm×Bool) (List Qm×Bool)} {e:Nat->List Qm×Bool->List Qm×Bool} {F:List Qm×Int×Bool->Rd R' (List Qm×Int×Bool) (List Qm×Int)}
 (hf:Qd6 s d L on lv f) (he:∀k s,e k s=s) (hF:∀x,F x=bif x.2.2 then (Out.on (Xz f e d 0 (x.1,false)) λy=> .next (y.1,IntKind.i64.wrap (x.2.1+1),y.2)) else .brk (x.1,x.2.1))
 (hS:Qx d=(L,true)) {o:List Qm} (h:EvS d L on s.2.1 lv o) (p:Int):
 ∃o' p',whl F (zD d*zD s.2.1+2) (o,p,true)=some (.brk (o',p'))/\EvS d L on s.2.1 (lv+1) o':=by
 have hlen:o.length=d.length:=by have:=congrArg zD h.names;simpa using this
 have hroom:=Qdz s.2.1.length (LM L on lv) o 0;rw[hlen] at hroom
 obtain ⟨s',h1,hc,t,h2,h3⟩:=Qmz (fs:=s.2.1) (idOf:=λf:Xe=>f.1) (m:=FM d) (act:=LM L on lv) (nm:=d.map (·.1)) (F:=F) (out:=λx=>x.1) (ch:=λx=>x.2.2) (n:=d.length) (by simp)
  (λx hx=>⟨_,by rw[hF,hx,cond_true,KL hf he d 0 x.1 false rfl];rfl,by rw[yP]⟩)
  (λx hx=>⟨_,by rw[hF,hx,cond_false]⟩) (Qkh hS s.2.1 λk hk=>by unfold LM at hk;simp only[xC,beq_iff_eq] at hk;exact hk.1) (o:=o) (zD d*zD s.2.1+2) (o,p,true) (Qd5 h) (by simp only[cond_true];omega)
 have hc':s'.2.2=false:=hc;have hb:F s'= .brk (s'.1,s'.2.1):=by rw[hF,hc'];rfl
 rw[hb] at h2;cases h2
 exact ⟨s'.1,s'.2.1,h3,Qg3 h h1⟩
theorem Oi {R T:Type} {d:List X0} {L:List Int} {on:Nat->Bool} {fs:List Xe} {g:X0->List Int} {f:Nat->X0->List Qm->Rd R (List Qm) T} {e:Nat->List Qm->T} (hf:∀k a s,f k a s= .next (s++ [(a.1,g a)])) (hg:∀j,j<d.length->on j=true->g (nth d j)= []):
 Xz f e d 0 []= .brk (e d.length (d.map λa=>(a.1,g a)))/\EvS d L on fs 0 (d.map λa=>(a.1,g a)):=by
 refine ⟨by rw[Bk (g:=λa=>((a.1,g a):Qm)) hf];simp, ?_,λj _ hj=> ?_,λj hj hon=> ?_⟩
 . rw[List.map_map];rfl
 . by_cases hjl:j<d.length
   . have:nth (d.map λa=>((a.1,g a):Qm)) j=((nth d j).1,g (nth d j)):=by simp[nth,zS,hjl]
     rw[this];exact hg j hjl hj
   have:nth (d.map λa=>((a.1,g a):Qm)) j=default:=by simp[nth,zS,hjl]
   rw[this];rfl
 have:nth (d.map λa=>((a.1,g a):Qm)) j=((nth d j).1,g (nth d j)):=by simp[nth,zS,hj]
 exact ⟨λ_=>false,by rw[this,hg j hj hon];simp[sel]⟩
theorem Gm {d:List X0} (h:((Qx d)).2=true):zD ((Qx d)).1=zD d/\zD d<=5/\∀x,x∈((Qx d)).1->0<=x/\x<=5:=by
 have hS:Qx d=((Qx d).1,true):=Prod.ext rfl h;obtain ⟨hv,hlen,hs,h0⟩:=S0 hS;have h5:=Hg hv;refine ⟨hlen,h5,λx hx=> ?_⟩;obtain ⟨i,hi,rfl⟩:=HU hx;refine ⟨h0 i, ?_⟩;have hb:=Qd3 hS i;omega
end
end Go.Proofs.YtgmlioidliojkaaGreatDoor
