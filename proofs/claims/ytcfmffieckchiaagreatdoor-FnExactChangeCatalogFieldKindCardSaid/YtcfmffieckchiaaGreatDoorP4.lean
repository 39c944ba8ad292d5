/- Texts of this proof, put together by a program: Nga, Ngb, Zd, Sh, Ts, Dpa, Dpb, Dpc, Dpd, Sta, Stb, Stc, Stg, Sth, Std, Ste, Isa, Isb, Ckc, Slb, Ev, Ex, Ey. -/
import Derived.Test.YtcfmffieckchiaaGreatDoorP3
import Derived.KernelRfl
import Derived.Sort.EncStr
import Derived.Sort.Grow
import Derived.Lib.SlicesCompact
import Derived.Sort.Walk0
import Derived.Shelf.Small.Bits
import Derived.Shelf.Strconv.Atoi
import Derived.Shelf.Strconv.Itoa0
import Derived.Shelf.Strconv.Itoa1
import Derived.Shelf.LaysM
import Derived.Shelf.Strconv.Itoa2
import Derived.Shelf.Strconv.Itoa3
import Derived.Shelf.Strconv.AtoiErrFast
import Derived.Shelf.Strconv.ParseIntEmpty
import Derived.Shelf.Strconv.AtoiFail
import Derived.Shelf.Strconv.Clone
import Derived.Shelf.Strconv.SyntaxError
import Derived.Shelf.LaysC
import Derived.Shelf.Strconv.ToError
import Derived.Shelf.Strconv.AtoiErr
import Derived.Shelf.Strconv.ErrVar
import Derived.Shelf.Strconv.Lower
import Derived.Shelf.Strconv.ParseUint10
import Derived.Shelf.Strconv.ParseUint10Empty
import Derived.Shelf.Strconv.ParseUint10Any
import Derived.Shelf.Strconv.ParseInt10
import Derived.Shelf.Strconv.AtoiLong
import Derived.Shelf.Strconv.AtoiInnerAll
import Derived.Shelf.Strconv.RangeError
import Derived.Shelf.Strconv.ToErrorRange
import Derived.Shelf.Strconv.AtoiAll
import Derived.Shelf.Strconv.ErrVarAll
import Derived.Shelf.Sort.Plain
import Derived.Shelf.Slices.Turned
import Derived.Shelf.Slices.CompactS
import Derived.Shelf.Slices.In.SortNone
import Derived.Ground.SlgnProg
import Derived.Shelf.SlicesE.Equal
import Derived.Shelf.SlicesE.Compact
import Derived.Ground.SlgfProg
import Derived.Shelf.SlicesE.IndexFunc
import Derived.Shelf.SlicesE.DeleteFunc
import Derived.Test.YtcfmffieckchiaaGreatDoorProg
set_option linter.unusedVariables false
set_option linter.unusedSimpArgs false
namespace Go.Proofs.YtcfmffieckchiaaGreatDoor
section
open Go.RowKit
open GoE (enc wide)
def Zb (q:List Yy) (k0:Nat) (s0:List Bool):Rd (List Bool) (List Bool) (List Bool):=(bif ((nth q (dn ((q.length:Int)-1) k0).toNat).1==(5:Int)) then (.next (List.set s0 ((nth q (dn ((q.length:Int)-1) k0).toNat).2.1).toNat ((nth s0 (dn ((q.length:Int)-1) k0).toNat)|| ((nth q (dn ((q.length:Int)-1) k0).toNat).1==(5:Int))))) else (bif ((nth q (dn ((q.length:Int)-1) k0).toNat).1==(6:Int)) then (.next (List.set (List.set s0 ((nth q (dn ((q.length:Int)-1) k0).toNat).2.1).toNat ((nth s0 (dn ((q.length:Int)-1) k0).toNat)|| ((nth q (dn ((q.length:Int)-1) k0).toNat).1==(5:Int)))) ((nth q (dn ((q.length:Int)-1) k0).toNat).2.2.1).toNat ((nth s0 (dn ((q.length:Int)-1) k0).toNat)|| ((nth q (dn ((q.length:Int)-1) k0).toNat).1==(5:Int))))) else (bif ((nth q (dn ((q.length:Int)-1) k0).toNat).1==(7:Int)) then (.next (List.set (List.set s0 ((nth q (dn ((q.length:Int)-1) k0).toNat).2.1).toNat ((nth s0 (dn ((q.length:Int)-1) k0).toNat)|| ((nth q (dn ((q.length:Int)-1) k0).toNat).1==(5:Int)))) ((nth q (dn ((q.length:Int)-1) k0).toNat).2.2.1).toNat ((nth s0 (dn ((q.length:Int)-1) k0).toNat)|| ((nth q (dn ((q.length:Int)-1) k0).toNat).1==(5:Int))))) else (.next s0))))
def Wt (_:Nat) (s0:List Bool):(List Bool):=s0
def Xt (q:List Yy):(List Bool):=(bif (!(Q9 q)) then [] else (Out.on (Wb (Zb q) Wt (List.length q) 0 (List.replicate (q.length:Int).toNat false)) (λy0=>y0)))
theorem Pu (q:List Yy):ACalls Tryz.prog 224 [.h q] (.o 0 (Xt q)):=by
 refine en Qb Tryz.func224 λw0 F0 hG=> ?_
 refine sn Qb [0,2] [] p0 <| Qc <| tn Qb [0,2,8] [] (pc 1 (Ua q) p0) <| ck (!(Q9 q)) (λh1=> ?_) (λh1=> ?_)
 ·refine tu Qb [(2,.e 0)] [] [] [] p0 <| opn [(false,2,0,true,384000,1)] ?_
  exact Qk <| po0 [] (X6 h1 (rfl))
 have h1n:(Q9 q)=true:=Ka h1;refine Qi <| wT 0 0 .sh q (λhw2 hl3=> ?_)
 refine tu Qb [(2,.e 0),(3,.one (.slc (.own true 704) 1 (List.replicate (q.length:Int).toNat [.b false])))] [] [] [] (pl 1 q (px (Ns (lo:=0) (hi:=(q.length:Int)) (n:=1073741824) (⟨by omega,by omega,by omega⟩)) p0)) <| eqn [(3,.o 704 (List.replicate (q.length:Int).toNat false))] [3] [] [] (by rw[show (List.replicate (q.length:Int).toNat [.b false])=(eL (List.replicate (q.length:Int).toNat false)) from Qbk _ false];first | done | kernel_rfl) ?_
 refine Qc <| sn Qb [0,2,3,4] [] (pl 1 q (pe 2 (Js (IntWalk.i64_in ((q.length:Int)-1) (by omega))) p0)) <| mz [(4,.i ((q.length:Int)-1))] [] [] [] <| Qic (Zb q) Wt (List.length q) (List.replicate (q.length:Int).toNat false) (λk0 s0=> [(3,.o 704 s0),(4,.i (dn ((q.length:Int)-1) k0))]) [3,4] (λy0=> [(3,.o 704 y0)]) [0,3,4] (λ_ s0=>List.length s0=(q.length:Int).toNat) (λy0=>List.length y0=(q.length:Int).toNat) wf0 (by simp) (λk0 s0 hk0 U=> ?_) (λk0 s0 hk0 U=> ?_) (λy0 hD0=> ?_)
 ·have hA0_0:=U.2;have hdn0:=DR ((q.length:Int)-1) k0;refine Qc <| sn Qb [0,2,3,4,16] [] (pe 1 (zB ((dn ((q.length:Int)-1) k0)>=(0:Int))) p0) <| ckT <| Qi <| Qc <| Qx <| Qc <| mz [(16,.b true)] [] [] [] <| jn [(5,.b ((nth s0 (dn ((q.length:Int)-1) k0).toNat)|| ((nth q (dn ((q.length:Int)-1) k0).toNat).1==(5:Int))))] [16] [] [] (nth s0 (dn ((q.length:Int)-1) k0).toNat) (λh4=> ?_) (λh4=> ?_) ?_
  ·refine wT 3 0 (.own true 704) s0 (λhw6 hl7=> ?_);have hx5:=ng s0 (dn ((q.length:Int)-1) k0).toNat;refine rn Qb [0,2,3,4,5] [] (pG 2 (dn ((q.length:Int)-1) k0) hx5 (pt 3 h4 p0)) ?_;exact zA (by rw[h4]<;>kernel_rfl)
  ·refine wT 3 0 (.own true 704) s0 (λhw9 hl10=> ?_);have hx8:=ng s0 (dn ((q.length:Int)-1) k0).toNat;have hx11:=ng q (dn ((q.length:Int)-1) k0).toNat;refine rn Qb [0,2,3,4,5] [] (pG 2 (dn ((q.length:Int)-1) k0) hx8 (pf 3 h4 (pg 7 (dn ((q.length:Int)-1) k0) hx11 p0))) ?_;exact zA (by rw[h4]<;>kernel_rfl)
  have hx12:=ng q (dn ((q.length:Int)-1) k0).toNat;refine sn Qb [0,2,3,4,5,35] [] (pg 2 (dn ((q.length:Int)-1) k0) hx12 p0) <| Qx <| tn Qb [0,2,3,4,5,35,36] [] p0 <| ck ((nth q (dn ((q.length:Int)-1) k0).toNat).1==(5:Int)) (λh13=> ?_) (λh13=> ?_)
  ·have h13k:=Qdp h1n (by omega) (by omega) h13;have h13d:=eq_of_beq h13;refine wT 3 0 (.own true 704) s0 (λhw15 hl16=> ?_);have hx14:=ng s0 ((nth q (dn ((q.length:Int)-1) k0).toNat).2.1).toNat;refine qu Qb [(3,.one (.slc (.own true 704) 1 (setRow (eL s0) ((nth q (dn ((q.length:Int)-1) k0).toNat).2.1).toNat 0 [.b ((nth s0 (dn ((q.length:Int)-1) k0).toNat)|| ((nth q (dn ((q.length:Int)-1) k0).toNat).1==(5:Int)))])))] [3,5] [] [] (pg 3 (dn ((q.length:Int)-1) k0) hx12 (pG 7 ((nth q (dn ((q.length:Int)-1) k0).toNat).2.1) hx14 p0)) ?_;refine eqn [(3,.o 704 (List.set s0 ((nth q (dn ((q.length:Int)-1) k0).toNat).2.1).toNat ((nth s0 (dn ((q.length:Int)-1) k0).toNat)|| ((nth q (dn ((q.length:Int)-1) k0).toNat).1==(5:Int)))))] [3] [] [] (by rw[Zv (y:=((nth s0 (dn ((q.length:Int)-1) k0).toNat)|| ((nth q (dn ((q.length:Int)-1) k0).toNat).1==(5:Int)))) hx14 rfl]<;>kernel_rfl) ?_;refine rn Qb [0,2,3,4] [] (pe 1 (show .i (IntKind.i64.wrap ((dn ((q.length:Int)-1) k0)-1))= .i (dn ((q.length:Int)-1) (k0+1)) from Js (show IntKind.i64.wrap ((dn ((q.length:Int)-1) k0)-1)=(dn ((q.length:Int)-1) (k0+1)) from IntWalk.i64_in ((dn ((q.length:Int)-1) k0)-1) (by omega))) p0) ?_;exact xw (List.set s0 ((nth q (dn ((q.length:Int)-1) k0).toNat).2.1).toNat ((nth s0 (dn ((q.length:Int)-1) k0).toNat)|| ((nth q (dn ((q.length:Int)-1) k0).toNat).1==(5:Int)))) ⟨K1 hk0 (X6 h13 (rfl)) U.1,(by first|omega|(simp only[List.length_set];omega))⟩
  have h13d:=Zq h13;refine Qc <| tu Qb [(35,.i ((nth q (dn ((q.length:Int)-1) k0).toNat).1)),(46,.b ((nth q (dn ((q.length:Int)-1) k0).toNat).1==(6:Int)))] [] [] [] p0 <| ck ((nth q (dn ((q.length:Int)-1) k0).toNat).1==(6:Int)) (λh17=> ?_) (λh17=> ?_)
  ·have h17k:=GY h1n (by omega) (by omega) h17;have h17m:=Qdq h1n (by omega) (by omega) h17;have h17d:=eq_of_beq h17;refine Qi <| ckt h17 ?_
   refine wT 3 0 (.own true 704) s0 (λhw19 hl20=> ?_);have hx18:=ng s0 ((nth q (dn ((q.length:Int)-1) k0).toNat).2.1).toNat;have hx21:(List.set s0 ((nth q (dn ((q.length:Int)-1) k0).toNat).2.1).toNat ((nth s0 (dn ((q.length:Int)-1) k0).toNat)|| ((nth q (dn ((q.length:Int)-1) k0).toNat).1==(5:Int))))[((nth q (dn ((q.length:Int)-1) k0).toNat).2.2.1).toNat]? =some (nth (List.set s0 ((nth q (dn ((q.length:Int)-1) k0).toNat).2.1).toNat ((nth s0 (dn ((q.length:Int)-1) k0).toNat)|| ((nth q (dn ((q.length:Int)-1) k0).toNat).1==(5:Int)))) ((nth q (dn ((q.length:Int)-1) k0).toNat).2.2.1).toNat):=Wr (by first|omega|(simp only[List.length_set];omega));refine rU Qb Zf [(3,.one (.slc (.own true 704) 1 (setRow (setRow (eL s0) ((nth q (dn ((q.length:Int)-1) k0).toNat).2.1).toNat 0 [.b ((nth s0 (dn ((q.length:Int)-1) k0).toNat)|| ((nth q (dn ((q.length:Int)-1) k0).toNat).1==(5:Int)))]) ((nth q (dn ((q.length:Int)-1) k0).toNat).2.2.1).toNat 0 [.b ((nth s0 (dn ((q.length:Int)-1) k0).toNat)|| ((nth q (dn ((q.length:Int)-1) k0).toNat).1==(5:Int)))])))] [3,5,35,46] [] [] (pg 3 (dn ((q.length:Int)-1) k0) hx12 (pg 9 (dn ((q.length:Int)-1) k0) hx12 (pG 14 ((nth q (dn ((q.length:Int)-1) k0).toNat).2.1) hx18 (pR 16 (l:=(setRow (eL s0) ((nth q (dn ((q.length:Int)-1) k0).toNat).2.1).toNat 0 [.b ((nth s0 (dn ((q.length:Int)-1) k0).toNat)|| ((nth q (dn ((q.length:Int)-1) k0).toNat).1==(5:Int)))])) (j:=((nth q (dn ((q.length:Int)-1) k0).toNat).2.2.1)) (r:= [.b (nth (List.set s0 ((nth q (dn ((q.length:Int)-1) k0).toNat).2.1).toNat ((nth s0 (dn ((q.length:Int)-1) k0).toNat)|| ((nth q (dn ((q.length:Int)-1) k0).toNat).1==(5:Int)))) ((nth q (dn ((q.length:Int)-1) k0).toNat).2.2.1).toNat)]) (by rw[Zv (y:=((nth s0 (dn ((q.length:Int)-1) k0).toNat)|| ((nth q (dn ((q.length:Int)-1) k0).toNat).1==(5:Int)))) hx18 rfl];exact MG (by omega) rfl hx21) p0)))) ?_;refine eqn [(3,.o 704 (List.set (List.set s0 ((nth q (dn ((q.length:Int)-1) k0).toNat).2.1).toNat ((nth s0 (dn ((q.length:Int)-1) k0).toNat)|| ((nth q (dn ((q.length:Int)-1) k0).toNat).1==(5:Int)))) ((nth q (dn ((q.length:Int)-1) k0).toNat).2.2.1).toNat ((nth s0 (dn ((q.length:Int)-1) k0).toNat)|| ((nth q (dn ((q.length:Int)-1) k0).toNat).1==(5:Int)))))] [3] [] [] (by rw[Zv (y:=((nth s0 (dn ((q.length:Int)-1) k0).toNat)|| ((nth q (dn ((q.length:Int)-1) k0).toNat).1==(5:Int)))) hx18 rfl,Zv (y:=((nth s0 (dn ((q.length:Int)-1) k0).toNat)|| ((nth q (dn ((q.length:Int)-1) k0).toNat).1==(5:Int)))) hx21 rfl]<;>kernel_rfl) ?_;refine rn Qb [0,2,3,4] [] (pe 1 (show .i (IntKind.i64.wrap ((dn ((q.length:Int)-1) k0)-1))= .i (dn ((q.length:Int)-1) (k0+1)) from Js (show IntKind.i64.wrap ((dn ((q.length:Int)-1) k0)-1)=(dn ((q.length:Int)-1) (k0+1)) from IntWalk.i64_in ((dn ((q.length:Int)-1) k0)-1) (by omega))) p0) ?_;exact xw (List.set (List.set s0 ((nth q (dn ((q.length:Int)-1) k0).toNat).2.1).toNat ((nth s0 (dn ((q.length:Int)-1) k0).toNat)|| ((nth q (dn ((q.length:Int)-1) k0).toNat).1==(5:Int)))) ((nth q (dn ((q.length:Int)-1) k0).toNat).2.2.1).toNat ((nth s0 (dn ((q.length:Int)-1) k0).toNat)|| ((nth q (dn ((q.length:Int)-1) k0).toNat).1==(5:Int)))) ⟨K1 hk0 (Qy h13 (X6 h17 (rfl))) U.1,(by first|omega|(simp only[List.length_set];omega))⟩
  have h17d:=Zq h17;refine rn Qb [0,2,3,4,5,46] [] p0 ?_;refine ck ((nth q (dn ((q.length:Int)-1) k0).toNat).1==(7:Int)) (λh22=> ?_) (λh22=> ?_)
  ·have h22k:=MO h1n (by omega) (by omega) h22;have h22m:=Qfj h1n (by omega) (by omega) h22;have h22d:=eq_of_beq h22;refine wT 3 0 (.own true 704) s0 (λhw24 hl25=> ?_);have hx23:=ng s0 ((nth q (dn ((q.length:Int)-1) k0).toNat).2.1).toNat;have hx26:(List.set s0 ((nth q (dn ((q.length:Int)-1) k0).toNat).2.1).toNat ((nth s0 (dn ((q.length:Int)-1) k0).toNat)|| ((nth q (dn ((q.length:Int)-1) k0).toNat).1==(5:Int))))[((nth q (dn ((q.length:Int)-1) k0).toNat).2.2.1).toNat]? =some (nth (List.set s0 ((nth q (dn ((q.length:Int)-1) k0).toNat).2.1).toNat ((nth s0 (dn ((q.length:Int)-1) k0).toNat)|| ((nth q (dn ((q.length:Int)-1) k0).toNat).1==(5:Int)))) ((nth q (dn ((q.length:Int)-1) k0).toNat).2.2.1).toNat):=Wr (by first|omega|(simp only[List.length_set];omega));refine qU Qb Zf [(3,.one (.slc (.own true 704) 1 (setRow (setRow (eL s0) ((nth q (dn ((q.length:Int)-1) k0).toNat).2.1).toNat 0 [.b ((nth s0 (dn ((q.length:Int)-1) k0).toNat)|| ((nth q (dn ((q.length:Int)-1) k0).toNat).1==(5:Int)))]) ((nth q (dn ((q.length:Int)-1) k0).toNat).2.2.1).toNat 0 [.b ((nth s0 (dn ((q.length:Int)-1) k0).toNat)|| ((nth q (dn ((q.length:Int)-1) k0).toNat).1==(5:Int)))])))] [3,5,35,46] [] [] (pg 3 (dn ((q.length:Int)-1) k0) hx12 (pg 9 (dn ((q.length:Int)-1) k0) hx12 (pG 14 ((nth q (dn ((q.length:Int)-1) k0).toNat).2.1) hx23 (pR 16 (l:=(setRow (eL s0) ((nth q (dn ((q.length:Int)-1) k0).toNat).2.1).toNat 0 [.b ((nth s0 (dn ((q.length:Int)-1) k0).toNat)|| ((nth q (dn ((q.length:Int)-1) k0).toNat).1==(5:Int)))])) (j:=((nth q (dn ((q.length:Int)-1) k0).toNat).2.2.1)) (r:= [.b (nth (List.set s0 ((nth q (dn ((q.length:Int)-1) k0).toNat).2.1).toNat ((nth s0 (dn ((q.length:Int)-1) k0).toNat)|| ((nth q (dn ((q.length:Int)-1) k0).toNat).1==(5:Int)))) ((nth q (dn ((q.length:Int)-1) k0).toNat).2.2.1).toNat)]) (by rw[Zv (y:=((nth s0 (dn ((q.length:Int)-1) k0).toNat)|| ((nth q (dn ((q.length:Int)-1) k0).toNat).1==(5:Int)))) hx23 rfl];exact MG (by omega) rfl hx26) p0)))) ?_;refine eqn [(3,.o 704 (List.set (List.set s0 ((nth q (dn ((q.length:Int)-1) k0).toNat).2.1).toNat ((nth s0 (dn ((q.length:Int)-1) k0).toNat)|| ((nth q (dn ((q.length:Int)-1) k0).toNat).1==(5:Int)))) ((nth q (dn ((q.length:Int)-1) k0).toNat).2.2.1).toNat ((nth s0 (dn ((q.length:Int)-1) k0).toNat)|| ((nth q (dn ((q.length:Int)-1) k0).toNat).1==(5:Int)))))] [3] [] [] (by rw[Zv (y:=((nth s0 (dn ((q.length:Int)-1) k0).toNat)|| ((nth q (dn ((q.length:Int)-1) k0).toNat).1==(5:Int)))) hx23 rfl,Zv (y:=((nth s0 (dn ((q.length:Int)-1) k0).toNat)|| ((nth q (dn ((q.length:Int)-1) k0).toNat).1==(5:Int)))) hx26 rfl]<;>kernel_rfl) ?_;refine rn Qb [0,2,3,4] [] (pe 1 (show .i (IntKind.i64.wrap ((dn ((q.length:Int)-1) k0)-1))= .i (dn ((q.length:Int)-1) (k0+1)) from Js (show IntKind.i64.wrap ((dn ((q.length:Int)-1) k0)-1)=(dn ((q.length:Int)-1) (k0+1)) from IntWalk.i64_in ((dn ((q.length:Int)-1) k0)-1) (by omega))) p0) ?_;exact xw (List.set (List.set s0 ((nth q (dn ((q.length:Int)-1) k0).toNat).2.1).toNat ((nth s0 (dn ((q.length:Int)-1) k0).toNat)|| ((nth q (dn ((q.length:Int)-1) k0).toNat).1==(5:Int)))) ((nth q (dn ((q.length:Int)-1) k0).toNat).2.2.1).toNat ((nth s0 (dn ((q.length:Int)-1) k0).toNat)|| ((nth q (dn ((q.length:Int)-1) k0).toNat).1==(5:Int)))) ⟨K1 hk0 (Qy h13 (Qy h17 (X6 h22 (rfl)))) U.1,(by first|omega|(simp only[List.length_set];omega))⟩
  have h22d:=Zq h22;refine Qi <| qn Qb [0,2,3,4] [] (pe 1 (show .i (IntKind.i64.wrap ((dn ((q.length:Int)-1) k0)-1))= .i (dn ((q.length:Int)-1) (k0+1)) from Js (show IntKind.i64.wrap ((dn ((q.length:Int)-1) k0)-1)=(dn ((q.length:Int)-1) (k0+1)) from IntWalk.i64_in ((dn ((q.length:Int)-1) k0)-1) (by omega))) p0) ?_
  exact xw s0 ⟨K1 hk0 (Qy h13 (Qy h17 (Qy h22 (rfl)))) U.1,(by first|omega|(simp only[List.length_set];omega))⟩
 ·have hA0_0:=U.2;have hdn0:=DR ((q.length:Int)-1) k0;exact Qc <| sn Qb [0,2,3,4,16] [] (pe 1 (zC ((dn ((q.length:Int)-1) k0)>=(0:Int))) p0) <| ckF <| Xe <| xw s0 ⟨Cq hk0 (rfl) U.1,by first|omega|(simp only[List.length_set];omega)⟩
 have hD0_0:=hD0.2;exact sn Qb [2] [] p0 <| Qk <| po0 [] (Qy h1 (Ur hD0.1 (rfl)))
def Wu (q:List Yy) (k0:Nat) (s0:List Bool):Rd (List Bool) (List Bool) (List Bool):=(bif ((nth q (dn ((q.length:Int)-1) k0).toNat).1==(5:Int)) then (bif (((nth q (dn ((q.length:Int)-1) k0).toNat).1==(6:Int))|| ((nth q (dn ((q.length:Int)-1) k0).toNat).1==(7:Int))) then (.next (List.set (List.set (List.set s0 ((nth q (dn ((q.length:Int)-1) k0).toNat).2.1).toNat true) ((nth q (dn ((q.length:Int)-1) k0).toNat).2.1).toNat (nth (List.set s0 ((nth q (dn ((q.length:Int)-1) k0).toNat).2.1).toNat true) (dn ((q.length:Int)-1) k0).toNat)) ((nth q (dn ((q.length:Int)-1) k0).toNat).2.2.1).toNat (nth (List.set (List.set s0 ((nth q (dn ((q.length:Int)-1) k0).toNat).2.1).toNat true) ((nth q (dn ((q.length:Int)-1) k0).toNat).2.1).toNat (nth (List.set s0 ((nth q (dn ((q.length:Int)-1) k0).toNat).2.1).toNat true) (dn ((q.length:Int)-1) k0).toNat)) (dn ((q.length:Int)-1) k0).toNat))) else (.next (List.set s0 ((nth q (dn ((q.length:Int)-1) k0).toNat).2.1).toNat true))) else (bif (((nth q (dn ((q.length:Int)-1) k0).toNat).1==(6:Int))|| ((nth q (dn ((q.length:Int)-1) k0).toNat).1==(7:Int))) then (.next (List.set (List.set s0 ((nth q (dn ((q.length:Int)-1) k0).toNat).2.1).toNat (nth s0 (dn ((q.length:Int)-1) k0).toNat)) ((nth q (dn ((q.length:Int)-1) k0).toNat).2.2.1).toNat (nth (List.set s0 ((nth q (dn ((q.length:Int)-1) k0).toNat).2.1).toNat (nth s0 (dn ((q.length:Int)-1) k0).toNat)) (dn ((q.length:Int)-1) k0).toNat))) else (.next s0)))
def Bx (_:Nat) (s0:List Bool):(List Bool):=s0
def Zm (q:List Yy):(List Bool):=(bif (!(Yw q)) then [] else (Out.on (Wb (Wu q) Bx (List.length q) 0 (List.replicate (q.length:Int).toNat false)) (λy0=>y0)))
theorem Pv (q:List Yy):ACalls Tryz.prog 212 [.h q] (.o 0 (Zm q)):=by
 refine en Qb Tryz.func212 λw0 F0 hG=> ?_
 refine sn Qb [0,2] [] p0 <| Qc <| tn Qb [0,2,9] [] (pc 1 (Vz q) p0) <| ck (!(Yw q)) (λh1=> ?_) (λh1=> ?_)
 ·exact tu Qb [(2,.one (.slc (.own true 640) 1 []))] [] [] [] p0 <| Qk <| po0 [] (X6 h1 (rfl))
 have h1n:(Yw q)=true:=Ka h1;refine Qi <| wT 0 0 .sh q (λhw2 hl3=> ?_)
 refine tu Qb [(2,.e 0),(3,.one (.slc (.own true 832) 1 (List.replicate (q.length:Int).toNat [.b false])))] [] [] [] (pl 1 q (px (Ns (lo:=0) (hi:=(q.length:Int)) (n:=1073741824) (⟨by omega,by omega,by omega⟩)) p0)) <| eqn [(3,.o 832 (List.replicate (q.length:Int).toNat false))] [3] [] [] (by rw[show (List.replicate (q.length:Int).toNat [.b false])=(eL (List.replicate (q.length:Int).toNat false)) from Qbk _ false];first | done | kernel_rfl) ?_
 refine Qc <| sn Qb [0,2,3,4] [] (pl 1 q (pe 2 (Js (IntWalk.i64_in ((q.length:Int)-1) (by omega))) p0)) <| mz [(4,.i ((q.length:Int)-1))] [] [] [] <| Qic (Wu q) Bx (List.length q) (List.replicate (q.length:Int).toNat false) (λk0 s0=> [(3,.o 832 s0),(4,.i (dn ((q.length:Int)-1) k0))]) [3,4] (λy0=> [(3,.o 832 y0)]) [0,3,4] (λ_ s0=>List.length s0=(q.length:Int).toNat) (λy0=>List.length y0=(q.length:Int).toNat) wf0 (by simp) (λk0 s0 hk0 U=> ?_) (λk0 s0 hk0 U=> ?_) (λy0 hD0=> ?_)
 ·have hA0_0:=U.2;have hdn0:=DR ((q.length:Int)-1) k0;refine Qc <| sn Qb [0,2,3,4,18] [] (pe 1 (zB ((dn ((q.length:Int)-1) k0)>=(0:Int))) p0) <| ckT <| Qi <| Qc <| Qx ?_
  have hx4:=ng q (dn ((q.length:Int)-1) k0).toNat;refine tn Qb [0,2,3,4,5] [5] (pg 2 (dn ((q.length:Int)-1) k0) hx4 p0) <| Qc <| mz [(5,.p 5 0)] [] [(5, [.i ((nth q (dn ((q.length:Int)-1) k0).toNat).1),.i ((nth q (dn ((q.length:Int)-1) k0).toNat).2.1),.i ((nth q (dn ((q.length:Int)-1) k0).toNat).2.2.1),.s ((nth q (dn ((q.length:Int)-1) k0).toNat).2.2.2.1),.i ((nth q (dn ((q.length:Int)-1) k0).toNat).2.2.2.2.1),.i ((nth q (dn ((q.length:Int)-1) k0).toNat).2.2.2.2.2.1),.s ((nth q (dn ((q.length:Int)-1) k0).toNat).2.2.2.2.2.2)])] [] <| jn [(6,.b (((nth q (dn ((q.length:Int)-1) k0).toNat).1==(6:Int))|| ((nth q (dn ((q.length:Int)-1) k0).toNat).1==(7:Int))))] [] [] [] ((nth q (dn ((q.length:Int)-1) k0).toNat).1==(6:Int)) (λh5=> ?_) (λh5=> ?_) ?_
  ·have h5k:=GY (Oh h1n) (by omega) (by omega) h5;have h5m:=Qdq (Oh h1n) (by omega) (by omega) h5;refine rn Qb [0,2,3,4,5,6] [5] (pt 2 h5 p0) ?_;exact zA (by rw[h5]<;>kernel_rfl)
  ·refine rn Qb [0,2,3,4,5,6] [5] (pf 2 h5 p0) ?_;exact zA (by rw[h5]<;>kernel_rfl)
  refine Qc <| sn Qb [0,2,3,4,5,6,35] [5] p0 <| ck ((nth q (dn ((q.length:Int)-1) k0).toNat).1==(5:Int)) (λh6=> ?_) (λh6=> ?_)
  ·have h6k:=Qdp (Oh h1n) (by omega) (by omega) h6;have h6d:=eq_of_beq h6;refine wT 3 0 (.own true 832) s0 (λhw8 hl9=> ?_);have hx7:=ng s0 ((nth q (dn ((q.length:Int)-1) k0).toNat).2.1).toNat;refine qu Qb [(3,.one (.slc (.own true 832) 1 (setRow (eL s0) ((nth q (dn ((q.length:Int)-1) k0).toNat).2.1).toNat 0 [.b true])))] [3] [] [] (pG 3 ((nth q (dn ((q.length:Int)-1) k0).toNat).2.1) hx7 p0) ?_;refine eqn [(3,.o 832 (List.set s0 ((nth q (dn ((q.length:Int)-1) k0).toNat).2.1).toNat true))] [3] [] [] (by rw[Zv (y:=true) hx7 rfl]<;>kernel_rfl) ?_;refine sn Qb [0,2,3,4,5,40] [5] p0 <| ck (((nth q (dn ((q.length:Int)-1) k0).toNat).1==(6:Int))|| ((nth q (dn ((q.length:Int)-1) k0).toNat).1==(7:Int))) (λh10=> ?_) (λh10=> ?_)
   ·have h10k:=Qdr (Oh h1n) (by omega) (by omega) h10;refine wT 3 0 (.own true 832) (List.set s0 ((nth q (dn ((q.length:Int)-1) k0).toNat).2.1).toNat true) (λhw12 hl13=> ?_);have hx11:=ng (List.set s0 ((nth q (dn ((q.length:Int)-1) k0).toNat).2.1).toNat true) (dn ((q.length:Int)-1) k0).toNat (by first|omega|(simp only[List.length_set];omega));have hx14:=ng (List.set s0 ((nth q (dn ((q.length:Int)-1) k0).toNat).2.1).toNat true) ((nth q (dn ((q.length:Int)-1) k0).toNat).2.1).toNat (by first|omega|(simp only[List.length_set];omega));refine tU Qb Zf [(3,.one (.slc (.own true 832) 1 (setRow (eL (List.set s0 ((nth q (dn ((q.length:Int)-1) k0).toNat).2.1).toNat true)) ((nth q (dn ((q.length:Int)-1) k0).toNat).2.1).toNat 0 [.b (nth (List.set s0 ((nth q (dn ((q.length:Int)-1) k0).toNat).2.1).toNat true) (dn ((q.length:Int)-1) k0).toNat)])))] [3,6] [] [] (pG 5 (dn ((q.length:Int)-1) k0) hx11 (pG 7 ((nth q (dn ((q.length:Int)-1) k0).toNat).2.1) hx14 p0)) <| eqn [(3,.o 832 (List.set (List.set s0 ((nth q (dn ((q.length:Int)-1) k0).toNat).2.1).toNat true) ((nth q (dn ((q.length:Int)-1) k0).toNat).2.1).toNat (nth (List.set s0 ((nth q (dn ((q.length:Int)-1) k0).toNat).2.1).toNat true) (dn ((q.length:Int)-1) k0).toNat)))] [3] [] [] (by rw[Zv (y:=(nth (List.set s0 ((nth q (dn ((q.length:Int)-1) k0).toNat).2.1).toNat true) (dn ((q.length:Int)-1) k0).toNat)) hx14 rfl]<;>kernel_rfl) ?_
    refine wT 3 0 (.own true 832) (List.set (List.set s0 ((nth q (dn ((q.length:Int)-1) k0).toNat).2.1).toNat true) ((nth q (dn ((q.length:Int)-1) k0).toNat).2.1).toNat (nth (List.set s0 ((nth q (dn ((q.length:Int)-1) k0).toNat).2.1).toNat true) (dn ((q.length:Int)-1) k0).toNat)) (λhw16 hl17=> ?_);have hx15:=ng (List.set (List.set s0 ((nth q (dn ((q.length:Int)-1) k0).toNat).2.1).toNat true) ((nth q (dn ((q.length:Int)-1) k0).toNat).2.1).toNat (nth (List.set s0 ((nth q (dn ((q.length:Int)-1) k0).toNat).2.1).toNat true) (dn ((q.length:Int)-1) k0).toNat)) (dn ((q.length:Int)-1) k0).toNat (by first|omega|(simp only[List.length_set];omega));have hx18:=ng (List.set (List.set s0 ((nth q (dn ((q.length:Int)-1) k0).toNat).2.1).toNat true) ((nth q (dn ((q.length:Int)-1) k0).toNat).2.1).toNat (nth (List.set s0 ((nth q (dn ((q.length:Int)-1) k0).toNat).2.1).toNat true) (dn ((q.length:Int)-1) k0).toNat)) ((nth q (dn ((q.length:Int)-1) k0).toNat).2.2.1).toNat (by first|omega|(simp only[List.length_set];omega));refine rU Qb Zf [(3,.one (.slc (.own true 832) 1 (setRow (eL (List.set (List.set s0 ((nth q (dn ((q.length:Int)-1) k0).toNat).2.1).toNat true) ((nth q (dn ((q.length:Int)-1) k0).toNat).2.1).toNat (nth (List.set s0 ((nth q (dn ((q.length:Int)-1) k0).toNat).2.1).toNat true) (dn ((q.length:Int)-1) k0).toNat))) ((nth q (dn ((q.length:Int)-1) k0).toNat).2.2.1).toNat 0 [.b (nth (List.set (List.set s0 ((nth q (dn ((q.length:Int)-1) k0).toNat).2.1).toNat true) ((nth q (dn ((q.length:Int)-1) k0).toNat).2.1).toNat (nth (List.set s0 ((nth q (dn ((q.length:Int)-1) k0).toNat).2.1).toNat true) (dn ((q.length:Int)-1) k0).toNat)) (dn ((q.length:Int)-1) k0).toNat)])))] [3,5] [] [5] (pG 5 (dn ((q.length:Int)-1) k0) hx15 (pG 7 ((nth q (dn ((q.length:Int)-1) k0).toNat).2.2.1) hx18 p0)) ?_;refine eqn [(3,.o 832 (List.set (List.set (List.set s0 ((nth q (dn ((q.length:Int)-1) k0).toNat).2.1).toNat true) ((nth q (dn ((q.length:Int)-1) k0).toNat).2.1).toNat (nth (List.set s0 ((nth q (dn ((q.length:Int)-1) k0).toNat).2.1).toNat true) (dn ((q.length:Int)-1) k0).toNat)) ((nth q (dn ((q.length:Int)-1) k0).toNat).2.2.1).toNat (nth (List.set (List.set s0 ((nth q (dn ((q.length:Int)-1) k0).toNat).2.1).toNat true) ((nth q (dn ((q.length:Int)-1) k0).toNat).2.1).toNat (nth (List.set s0 ((nth q (dn ((q.length:Int)-1) k0).toNat).2.1).toNat true) (dn ((q.length:Int)-1) k0).toNat)) (dn ((q.length:Int)-1) k0).toNat)))] [3] [] [] (by rw[Zv (y:=(nth (List.set (List.set s0 ((nth q (dn ((q.length:Int)-1) k0).toNat).2.1).toNat true) ((nth q (dn ((q.length:Int)-1) k0).toNat).2.1).toNat (nth (List.set s0 ((nth q (dn ((q.length:Int)-1) k0).toNat).2.1).toNat true) (dn ((q.length:Int)-1) k0).toNat)) (dn ((q.length:Int)-1) k0).toNat)) hx18 rfl]<;>kernel_rfl) ?_;refine rn Qb [0,2,3,4] [] (pe 1 (show .i (IntKind.i64.wrap ((dn ((q.length:Int)-1) k0)-1))= .i (dn ((q.length:Int)-1) (k0+1)) from Js (show IntKind.i64.wrap ((dn ((q.length:Int)-1) k0)-1)=(dn ((q.length:Int)-1) (k0+1)) from IntWalk.i64_in ((dn ((q.length:Int)-1) k0)-1) (by omega))) p0) ?_;exact xw (List.set (List.set (List.set s0 ((nth q (dn ((q.length:Int)-1) k0).toNat).2.1).toNat true) ((nth q (dn ((q.length:Int)-1) k0).toNat).2.1).toNat (nth (List.set s0 ((nth q (dn ((q.length:Int)-1) k0).toNat).2.1).toNat true) (dn ((q.length:Int)-1) k0).toNat)) ((nth q (dn ((q.length:Int)-1) k0).toNat).2.2.1).toNat (nth (List.set (List.set s0 ((nth q (dn ((q.length:Int)-1) k0).toNat).2.1).toNat true) ((nth q (dn ((q.length:Int)-1) k0).toNat).2.1).toNat (nth (List.set s0 ((nth q (dn ((q.length:Int)-1) k0).toNat).2.1).toNat true) (dn ((q.length:Int)-1) k0).toNat)) (dn ((q.length:Int)-1) k0).toNat)) ⟨K1 hk0 (X6 h6 (X6 h10 (rfl))) U.1,(by first|omega|(simp only[List.length_set];omega))⟩
   have h10l:(((nth q (dn ((q.length:Int)-1) k0).toNat).1==(6:Int)))=false:=VL h10;have h10ld:=Zq h10l;have h10r:(((nth q (dn ((q.length:Int)-1) k0).toNat).1==(7:Int)))=false:=UJ h10;have h10rd:=Zq h10r;refine Qi <| qn Qb [0,2,3,4] [] (pe 1 (show .i (IntKind.i64.wrap ((dn ((q.length:Int)-1) k0)-1))= .i (dn ((q.length:Int)-1) (k0+1)) from Js (show IntKind.i64.wrap ((dn ((q.length:Int)-1) k0)-1)=(dn ((q.length:Int)-1) (k0+1)) from IntWalk.i64_in ((dn ((q.length:Int)-1) k0)-1) (by omega))) p0) ?_
   exact xw (List.set s0 ((nth q (dn ((q.length:Int)-1) k0).toNat).2.1).toNat true) ⟨K1 hk0 (X6 h6 (Qy h10 (rfl))) U.1,(by first|omega|(simp only[List.length_set];omega))⟩
  have h6d:=Zq h6;refine Qi <| tn Qb [0,2,3,4,5,40] [5] p0 <| ck (((nth q (dn ((q.length:Int)-1) k0).toNat).1==(6:Int))|| ((nth q (dn ((q.length:Int)-1) k0).toNat).1==(7:Int))) (λh19=> ?_) (λh19=> ?_)
  ·have h19k:=Qdr (Oh h1n) (by omega) (by omega) h19;refine wT 3 0 (.own true 832) s0 (λhw21 hl22=> ?_);have hx20:=ng s0 (dn ((q.length:Int)-1) k0).toNat;have hx23:=ng s0 ((nth q (dn ((q.length:Int)-1) k0).toNat).2.1).toNat;refine tU Qb Zf [(3,.one (.slc (.own true 832) 1 (setRow (eL s0) ((nth q (dn ((q.length:Int)-1) k0).toNat).2.1).toNat 0 [.b (nth s0 (dn ((q.length:Int)-1) k0).toNat)])))] [3,6] [] [] (pG 5 (dn ((q.length:Int)-1) k0) hx20 (pG 7 ((nth q (dn ((q.length:Int)-1) k0).toNat).2.1) hx23 p0)) <| eqn [(3,.o 832 (List.set s0 ((nth q (dn ((q.length:Int)-1) k0).toNat).2.1).toNat (nth s0 (dn ((q.length:Int)-1) k0).toNat)))] [3] [] [] (by rw[Zv (y:=(nth s0 (dn ((q.length:Int)-1) k0).toNat)) hx23 rfl]<;>kernel_rfl) ?_
   refine wT 3 0 (.own true 832) (List.set s0 ((nth q (dn ((q.length:Int)-1) k0).toNat).2.1).toNat (nth s0 (dn ((q.length:Int)-1) k0).toNat)) (λhw25 hl26=> ?_);have hx24:=ng (List.set s0 ((nth q (dn ((q.length:Int)-1) k0).toNat).2.1).toNat (nth s0 (dn ((q.length:Int)-1) k0).toNat)) (dn ((q.length:Int)-1) k0).toNat (by first|omega|(simp only[List.length_set];omega));have hx27:=ng (List.set s0 ((nth q (dn ((q.length:Int)-1) k0).toNat).2.1).toNat (nth s0 (dn ((q.length:Int)-1) k0).toNat)) ((nth q (dn ((q.length:Int)-1) k0).toNat).2.2.1).toNat (by first|omega|(simp only[List.length_set];omega));refine rU Qb Zf [(3,.one (.slc (.own true 832) 1 (setRow (eL (List.set s0 ((nth q (dn ((q.length:Int)-1) k0).toNat).2.1).toNat (nth s0 (dn ((q.length:Int)-1) k0).toNat))) ((nth q (dn ((q.length:Int)-1) k0).toNat).2.2.1).toNat 0 [.b (nth (List.set s0 ((nth q (dn ((q.length:Int)-1) k0).toNat).2.1).toNat (nth s0 (dn ((q.length:Int)-1) k0).toNat)) (dn ((q.length:Int)-1) k0).toNat)])))] [3,5] [] [5] (pG 5 (dn ((q.length:Int)-1) k0) hx24 (pG 7 ((nth q (dn ((q.length:Int)-1) k0).toNat).2.2.1) hx27 p0)) ?_;refine eqn [(3,.o 832 (List.set (List.set s0 ((nth q (dn ((q.length:Int)-1) k0).toNat).2.1).toNat (nth s0 (dn ((q.length:Int)-1) k0).toNat)) ((nth q (dn ((q.length:Int)-1) k0).toNat).2.2.1).toNat (nth (List.set s0 ((nth q (dn ((q.length:Int)-1) k0).toNat).2.1).toNat (nth s0 (dn ((q.length:Int)-1) k0).toNat)) (dn ((q.length:Int)-1) k0).toNat)))] [3] [] [] (by rw[Zv (y:=(nth (List.set s0 ((nth q (dn ((q.length:Int)-1) k0).toNat).2.1).toNat (nth s0 (dn ((q.length:Int)-1) k0).toNat)) (dn ((q.length:Int)-1) k0).toNat)) hx27 rfl]<;>kernel_rfl) ?_;refine rn Qb [0,2,3,4] [] (pe 1 (show .i (IntKind.i64.wrap ((dn ((q.length:Int)-1) k0)-1))= .i (dn ((q.length:Int)-1) (k0+1)) from Js (show IntKind.i64.wrap ((dn ((q.length:Int)-1) k0)-1)=(dn ((q.length:Int)-1) (k0+1)) from IntWalk.i64_in ((dn ((q.length:Int)-1) k0)-1) (by omega))) p0) ?_;exact xw (List.set (List.set s0 ((nth q (dn ((q.length:Int)-1) k0).toNat).2.1).toNat (nth s0 (dn ((q.length:Int)-1) k0).toNat)) ((nth q (dn ((q.length:Int)-1) k0).toNat).2.2.1).toNat (nth (List.set s0 ((nth q (dn ((q.length:Int)-1) k0).toNat).2.1).toNat (nth s0 (dn ((q.length:Int)-1) k0).toNat)) (dn ((q.length:Int)-1) k0).toNat)) ⟨K1 hk0 (Qy h6 (X6 h19 (rfl))) U.1,(by first|omega|(simp only[List.length_set];omega))⟩
  have h19l:(((nth q (dn ((q.length:Int)-1) k0).toNat).1==(6:Int)))=false:=VL h19;have h19ld:=Zq h19l;have h19r:(((nth q (dn ((q.length:Int)-1) k0).toNat).1==(7:Int)))=false:=UJ h19;have h19rd:=Zq h19r;refine Qi <| qu Qb [(4,.i (dn ((q.length:Int)-1) (k0+1)))] [4,5,6] [] [5] (pe 1 (show .i (IntKind.i64.wrap ((dn ((q.length:Int)-1) k0)-1))= .i (dn ((q.length:Int)-1) (k0+1)) from Js (show IntKind.i64.wrap ((dn ((q.length:Int)-1) k0)-1)=(dn ((q.length:Int)-1) (k0+1)) from IntWalk.i64_in ((dn ((q.length:Int)-1) k0)-1) (by omega))) p0) ?_
  exact xw s0 ⟨K1 hk0 (Qy h6 (Qy h19 (rfl))) U.1,(by first|omega|(simp only[List.length_set];omega))⟩
 ·have hA0_0:=U.2;have hdn0:=DR ((q.length:Int)-1) k0;exact Qc <| sn Qb [0,2,3,4,18] [] (pe 1 (zC ((dn ((q.length:Int)-1) k0)>=(0:Int))) p0) <| ckF <| Xe <| xw s0 ⟨Cq hk0 (rfl) U.1,by first|omega|(simp only[List.length_set];omega)⟩
 have hD0_0:=hD0.2;exact sn Qb [2] [] p0 <| Qk <| po0 [] (Qy h1 (Ur hD0.1 (rfl)))
theorem Gz {α : Type} [Inhabited α] {l : List α} {i j : Nat} (x : α) (h : j ≠ i) : nth (l.set j x) i = nth l i := by
  simp [nth, List.getD, List.getElem?_set_ne h]
theorem RE {q : List Yy} (hv : Q9 q = true) {k : Nat} (hk : k < q.length) (s : List Bool) : Zb q k s = Wu q k s := by
  have hdn := DR ((q.length : Int) - 1) k
  obtain ⟨hl, hr⟩ := Ea hv (k := dn ((q.length : Int) - 1) k) (by omega) (by omega)
  unfold Zb Wu
  generalize hi : dn ((q.length : Int) - 1) k = i at hl hr ⊢
  generalize nth q (Int.toNat i) = n at hl hr ⊢
  by_cases h5 : n.1 = 5
  · simp [h5]
  by_cases h6 : n.1 = 6
  · have := hl (.inr (.inl h6))
    simp [h6]
    rw [Gz _ (by omega)]
  by_cases h7 : n.1 = 7
  · have := hl (.inr (.inr h7))
    simp [h7]
    rw [Gz _ (by omega)]
  simp only [beq_eq_false_iff_ne.2 h5, beq_eq_false_iff_ne.2 h6, beq_eq_false_iff_ne.2 h7, Bool.or_false, cond_false]
theorem JL (q : List Yy) : Zm q = Xt q := by
  unfold Zm Xt
  rw [← Qbq]
  cases hv : Q9 q with
  | false => rfl
  | true =>
    simp only [Bool.not_true, cond_false]
    rw [JJ (f := Wu q) (g := Zb q) (e := Bx) (e' := Wt) (λ_ _ => rfl) _ _ _ λi s _ hi => (RE hv (by omega) s).symm]
theorem AO (q : List Yy) (k : Nat) (s : List Bool) : ∃ s', Zb q k s = .next s' ∧ s'.length = s.length := by
  unfold Zb
  generalize ((nth q (Int.toNat (dn ((q.length : Int) - 1) k))).1 == (5 : Int)) = a
  generalize ((nth q (Int.toNat (dn ((q.length : Int) - 1) k))).1 == (6 : Int)) = b
  generalize ((nth q (Int.toNat (dn ((q.length : Int) - 1) k))).1 == (7 : Int)) = c
  cases a <;> cases b <;> cases c <;> exact ⟨_, rfl, by simp⟩
theorem S4 (q : List Yy) : ∀ (n k : Nat) (s : List Bool), ∃ s', Wb (Zb q) Wt n k s = .brk s' ∧ s'.length = s.length
  | 0, k, s => ⟨s, rfl, rfl⟩
  | n + 1, k, s => by
    obtain ⟨s1, h1, h2⟩ := AO q k s
    obtain ⟨s2, h3, h4⟩ := S4 q n (k + 1) s1
    refine ⟨s2, ?_, h4.trans h2⟩
    simp only [Wb, h1]
    exact h3
theorem Oi (q : List Yy) : List.length (Xt q) ≤ List.length q := by
  unfold Xt
  cases Q9 q with
  | false => exact Nat.zero_le _
  | true =>
    obtain ⟨s, h1, h2⟩ := S4 q (List.length q) 0 (List.replicate (Int.toNat (q.length : Int)) false)
    simp only [Bool.not_true, cond_false, h1, Out.on]
    rw [h2]
    simp
theorem AP (q : List Yy) : List.length (Zm q) ≤ List.length q := by rw [JL]; exact Oi q
end
section
open Go.RowKit Go.Sort
open GoE (enc)
structure OneC (α σ:Type) [GoE α] where
 to:α->σ
 of:σ->α
 cell:σ->Value
 pv:α->PV
 ok:α->Prop
 of_to:∀a,of (to a)=a
 to_of:∀s,to (of s)=s
 enc_eq:∀a,enc a= [pv a]
 flat:∀a,(pv a).flat
 vv:∀(X:Nat->Prop) (w:World) v a,VV X w v (pv a)↔v=cell (to a)/\ok a
def oneS:OneC ByteArray (List UInt8) where
 to b:=b.data.toList
 of s:=⟨s.toArray⟩
 cell:=encStr
 pv:= .str
 ok b:=b.size<=maxLen
 of_to b:=by cases b;simp
 to_of s:=by simp
 enc_eq _:=rfl
 flat _:=trivial
 vv X w v a:=by
  have e:encStr a.data.toList= .string a:=by cases a;simp[encStr]
  rw[e];exact ⟨λh=>by cases h with | str h=>exact ⟨rfl,h⟩,λ⟨h1,h2⟩=>by subst h1;exact .str h2⟩
section
variable {α σ:Type} [GoE α] (C:OneC α σ)
theorem RF {X:Nat->Prop} {w:World}:∀{l:List α} {cs:List Value},VR X w 1 cs (eL l)->cs=(l.map C.to).map C.cell/\∀a,a∈l->C.ok a
 | [],cs,h=>by
   generalize hr:eL ([]:List α)=r at h;cases h with
   | nil=>exact ⟨rfl,λa ha=>by simp at ha⟩
   | cons=>cases hr
 | a :: l,cs,h=>by
   generalize hr:eL (a::l)=r at h;cases h with
   | nil=>cases hr
   | cons h1 h2 h3=>
     rw[KZ,C.enc_eq] at hr;obtain ⟨rfl,rfl⟩: [C.pv a]=_/\eL l=_:=by simpa using hr
     obtain ⟨e,hok⟩:=RF h3;cases h1 with
     | cons h4 h5=>
       cases h5
       obtain ⟨rfl,ha⟩:=(C.vv X w _ a).1 h4;exact ⟨by rw[e];rfl,λb hb=>(List.mem_cons.1 hb).elim (λe=>e▸ha) (hok b)⟩
theorem RG {X:Nat->Prop} {w:World}:∀{l:List α},(∀a,a∈l->C.ok a)->VR X w 1 ((l.map C.to).map C.cell) (eL l)
 | [],_=> .nil 1
 | a::l,h=>by
   rw[KZ,C.enc_eq];exact VR.cons (ce:= [C.cell (C.to a)]) (.cons ((C.vv X w _ a).2 ⟨rfl,h a List.mem_cons_self⟩) .nil) rfl (RG λb hb=>h b (List.mem_cons_of_mem _ hb))
theorem Qfk (l:List α):(eL l).flatten=l.map C.pv:=by
 induction l with
 | nil=>rfl
 | cons a l ih=>rw[KZ,C.enc_eq,List.flatten_cons,ih];rfl
theorem Qid (l:List α):eL l=(l.map C.pv).map λc=> [c]:=by
 simp[eL,C.enc_eq,Function.comp_def]
theorem GZ (e:σ->Value) [Inhabited σ] (d:Array σ) (cur:Array Value) (h:d.size<=cur.size):(Go.Sort.putCells e 0 d cur).toList=d.toList.map e++cur.toList.drop d.size:=by
 apply List.ext_getElem?;intro j;unfold Go.Sort.putCells;rw[Array.getElem?_toList,Array.getElem?_mapIdx];by_cases hj:j<d.size
 . rw[List.getElem?_append_left (by simpa using hj),Array.getElem?_eq_getElem (by omega:j<cur.size),List.getElem?_map,Array.getElem?_toList,Array.getElem?_eq_getElem hj];simp only[Option.map_some];rw[if_pos ⟨Nat.zero_le _,by omega⟩,Nat.sub_zero,getElem!_pos d j hj]
 rw[List.getElem?_append_right (by simpa using Nat.le_of_not_lt hj),List.getElem?_drop];have e1:d.size+(j-(d.toList.map e).length)=j:=by simp;omega
 rw[e1,Array.getElem?_toList];cases cur[j]? with
 | none=>rfl
 | some x=>simp;omega
theorem Oj {e:σ->Value} [Inhabited σ] {w:World} {g:Nat} {cur:Array Value} {ty:TypeId} (hg:w.heap[g]? =some (.cells cur ty (0,0))) (q:Nat) (d:Array σ) (os:Array Obj):
 (grow (putRow e (Sort.ahead w q) g 0 d) os).heap[g]? =some (.cells (Go.Sort.putCells e 0 d cur) ty (0,0)):=by
 have hlt:g<w.heap.size:=Q8 hg;unfold grow putRow mapBlock Sort.ahead;simp only[Array.getElem?_append,Array.size_modify];rw[if_pos hlt,Array.getElem?_modify,if_pos rfl,hg];rfl
theorem S5 {e:σ->Value} [Inhabited σ] (w:World) (g q:Nat) (d:Array σ) (os:Array Obj):(∀b,b<w.heap.size->b≠g->(grow (putRow e (Sort.ahead w q) g 0 d) os).heap[b]? =w.heap[b]?)/\∀m,m<=g->m<=w.heap.size->Below m w (grow (putRow e (Sort.ahead w q) g 0 d) os):=by
 have h:∀b,b<w.heap.size->b≠g->(grow (putRow e (Sort.ahead w q) g 0 d) os).heap[b]? =w.heap[b]? :=λb hb hn=>by
  unfold grow putRow mapBlock Sort.ahead;simp only[Array.getElem?_append,Array.size_modify];rw[if_pos hb,Array.getElem?_modify,if_neg (λe=>hn e.symm)]
 refine ⟨h,λm hm hs=>⟨rfl,rfl,rfl, ?_,λb hb=>h b (by omega) (by omega)⟩⟩;unfold grow putRow mapBlock Sort.ahead;simp
theorem IA {e:σ->Value} [Inhabited σ] {g:Nat} {w:World} {cur:Array Value} {ty:TypeId} {l:List σ} (hg:w.heap[g]? =some (.cells cur ty (0,0))) (ht:cur.toList.take l.length=l.map e):Holds e w g 0 l.toArray:=by
 intro j hj;have hjl:j<l.length:=by simpa using hj
 have hc:cur[j]? =some (e l[j]):=by
  have h5:(cur.toList.take l.length)[j]? =(l.map e)[j]? :=by rw[ht]
  rw[List.getElem?_take,if_pos hjl,List.getElem?_map,List.getElem?_eq_getElem hjl,Array.getElem?_toList] at h5;exact h5
 refine ⟨?_, ?_⟩
 . rw[Nat.zero_add];simp[World.cell?,hg,hc,getElem!_pos,hjl]
 simp[World.frozen?,hg]
variable {P:Program} [Inhabited σ]
theorem RH (F:Nat->Prop) (L:List Nat) (w:World) (oa:Option Addr):Qhx F L w 1 true [] (.returned (.tuple #[])) w:=
 ⟨_,rfl,λm _ _=>Below.refl _ _,λ_ _ _=>rfl,rfl,λv2 l2 h=>by simpa [T2] using h⟩
theorem MP {f:Nat} (hok:Ee P f) (srt:List σ->List σ) (hlen:∀l,(srt l).length=l.length) (hmem:∀l x,x∈srt l->x∈l)
 (h0:∀oa cap w,Calls P f #[.slice oa 0 cap] w λe w'=>e= .returned (.tuple #[])/\w'=w)
 (h1:∀g cap (l:List σ) w,Holds C.cell w g 0 l.toArray->g<w.heap.size->l.length<4611686018427387904->Calls P f #[.slice (some ⟨g,0,none⟩) l.length cap] w λe w'=>e= .returned (.tuple #[])/\∃n os,w'=grow (putRow C.cell (Sort.ahead w n) g 0 (srt l).toArray) os)
 (l:List α):ATake P f 1 (eL l) [] false true (eL ((srt (l.map C.to)).map C.of)):=by
 refine ⟨hok,λw F G L v vals _ hFG _ hGs _ hLG hrow hargs=> ?_⟩;cases hargs
 rcases hrow with ⟨hl,oa,rfl⟩ | ⟨g,cap,cur,ty,rfl,rfl,hg,hs,hr,h5,h6⟩
 . obtain rfl:l= []:=by simpa [eL] using hl
   have hs0:srt []= []:=List.eq_nil_of_length_eq_zero (by rw[hlen];rfl);refine (h0 oa 0 w).mono ?_
   rintro e w' ⟨rfl,rfl⟩
   rw[List.map_nil,hs0];exact RH F L w' oa
 have hll:(eL l).length=l.length:=by simp[eL]
 rw[hll] at hr h5 h6⊢;rw[Nat.mul_one] at hr hs;obtain ⟨hcs,hok'⟩:=RF C hr;have hH:Holds C.cell w g 0 (l.map C.to).toArray:=IA hg (by rw[List.length_map];exact hcs);have hc:=h1 g cap (l.map C.to) w hH (Q8 hg) (by rw[List.length_map];have:=h6.2;omega);rw[List.length_map] at hc;refine hc.mono ?_
 rintro e w' ⟨rfl,n,os,rfl⟩
 have hother:=S5 (e:=C.cell) w g n (srt (l.map C.to)).toArray os;have hgl:=Q8 hg;refine ⟨_,rfl,λm hm hL=>hother.2 m (hL g (by simp)) hm,λb hb hn=>hother.1 b hb (by simpa using hn),rfl,λv2 l2 h2=> ?_⟩;rcases h2 with ⟨rfl,oa,rfl⟩ | ⟨g2,cap2,cur2,ty2,hL2,rfl,hg2,hs2,hr2,h7,h8⟩
 . exact .inl ⟨by simp[T2],oa,rfl⟩
 obtain rfl:g=g2:=by simpa using hL2
 rw[hg] at hg2;cases hg2
 rw[Qfk C,T2];have hd:(srt (l.map C.to)).toArray.size<=cur.size:=by simp only[List.size_toArray,hlen,List.length_map];omega
 have hlen2:(List.map (λc=> [c]) (List.take l2.length (List.map C.pv (List.map C.of (srt (l.map C.to)))))++List.drop (List.map C.pv (List.map C.of (srt (l.map C.to)))).length l2).length=l2.length:=by
  simp only[List.length_append,List.length_map,List.length_take,List.length_drop];omega
 refine .inr ⟨g,cap2,_,ty,rfl,by rw[hlen2],Oj hg n _ os, ?_, ?_,by rw[hlen2];exact h7,by rw[hlen2];exact h8⟩
 . simp[Go.Sort.putCells,hs2]
 rw[hlen2,Nat.mul_one,GZ C.cell _ cur hd,List.take_append];rw[Nat.mul_one] at hr2;refine VR.append ?_ ?_
 . have hk:VR F (grow (putRow C.cell (Sort.ahead w n) g 0 (srt (l.map C.to)).toArray) os) 1 (cur.toList.take l2.length) l2:=by
    refine hr2.keep λb hb=>⟨hb,hother.1 b (hGs b (hFG b hb)) λe=>(hLG g (by simp)).2 (hFG g (e▸hb))⟩
   have:=VR.drop (srt (l.map C.to)).length hk;rw[Nat.mul_one,List.drop_take] at this;simpa using this
 have hm:∀a,a∈(srt (l.map C.to)).map C.of->C.ok a:=λa ha=>by
  obtain ⟨x,hx,rfl⟩:=List.mem_map.1 ha;obtain ⟨b,hb,rfl⟩:=List.mem_map.1 (hmem _ _ hx);rw[C.of_to];exact hok' b hb
 have:=VR.take l2.length (RG C (X:=F) (w:=grow (putRow C.cell (Sort.ahead w n) g 0 (srt (l.map C.to)).toArray) os) hm);rw[Nat.mul_one,Qid C] at this;simpa [List.map_take,Function.comp_def,C.to_of] using this
theorem MQ {f:Nat} (hok:Ee P f) (cmp:List σ->List σ) (hlen:∀l,(cmp l).length<=l.length) (hmem:∀l x,x∈cmp l->x∈l)
 (h0:∀oa cap w,Calls P f #[.slice oa 0 cap] w λe w'=>e= .returned (.slice oa 0 cap)/\w'=w)
 (h1:∀g cap (l:List σ) w,Holds C.cell w g 0 l.toArray->l.length<=9223372036854775807->l.length<=cap->Calls P f #[.slice (some ⟨g,0,none⟩) l.length cap] w λe w'=>e= .returned (.slice (some ⟨g,0,none⟩) (cmp l).length cap)/\∃q pad,(cmp l++pad).length=l.length/\w'=putRow C.cell (Sort.ahead w q) g 0 (cmp l++pad).toArray)
 (l:List α):ATake P f 1 (eL l) [] false false (eL ((cmp (l.map C.to)).map C.of)):=by
 refine ⟨hok,λw F G L v vals _ hFG _ hGs _ hLG hrow hargs=> ?_⟩;cases hargs
 rcases hrow with ⟨hl,oa,rfl⟩ | ⟨g,cap,cur,ty,rfl,rfl,hg,hs,hr,h5,h6⟩
 . obtain rfl:l= []:=by simpa [eL] using hl
   have hs0:cmp []= []:=List.eq_nil_of_length_eq_zero (by have:=hlen [];simpa using this);refine (h0 oa 0 w).mono ?_
   rintro e w' ⟨rfl,rfl⟩
   rw[List.map_nil,hs0];exact ⟨_,rfl,λm _ _=>Below.refl _ _,λ_ _ _=>rfl, [],List.nodup_nil,λb hb=>(by simp at hb),.inl ⟨rfl,oa,rfl⟩⟩
 have hll:(eL l).length=l.length:=by simp[eL]
 rw[hll] at hr h5 h6⊢;rw[Nat.mul_one] at hr hs;obtain ⟨hcs,hok'⟩:=RF C hr;have hH:Holds C.cell w g 0 (l.map C.to).toArray:=IA hg (by rw[List.length_map];exact hcs);have hc:=h1 g cap (l.map C.to) w hH (by rw[List.length_map];have:=h6.2;omega) (by rw[List.length_map];exact h5);rw[List.length_map] at hc;refine hc.mono ?_
 rintro e w' ⟨rfl,q,pad,hpad,rfl⟩
 have hw:putRow C.cell (Sort.ahead w q) g 0 (cmp (l.map C.to)++pad).toArray=grow (putRow C.cell (Sort.ahead w q) g 0 (cmp (l.map C.to)++pad).toArray) #[]:=(grow_empty _).symm;rw[hw];have hother:=S5 (e:=C.cell) w g q (cmp (l.map C.to)++pad).toArray #[];have hgl:=Q8 hg;have hd:(cmp (l.map C.to)++pad).toArray.size<=cur.size:=by rw[List.size_toArray,hpad];omega
 have hle:=hlen (l.map C.to);rw[List.length_map] at hle;have hel:(eL ((cmp (l.map C.to)).map C.of)).length=(cmp (l.map C.to)).length:=by simp[eL]
 have hsz:g<(grow (putRow C.cell (Sort.ahead w q) g 0 (cmp (l.map C.to)++pad).toArray) #[]).heap.size:=Q8 (Oj hg q _ #[]);refine ⟨_,rfl,λm hm hL=>hother.2 m (hL g (by simp)) hm,λb hb hn=>hother.1 b hb (by simpa using hn), [g],by simp,λb hb=> ?_,.inr ⟨g,cap,_,ty,rfl,by rw[hel],Oj hg q _ #[], ?_, ?_,by rw[hel];omega,h6.1,by rw[hel];have:=h6.2;omega⟩⟩
 . obtain rfl:=List.mem_singleton.1 hb;exact ⟨hsz,.inr (by simp)⟩
 . simp[Go.Sort.putCells,hs]
 rw[hel,Nat.mul_one,GZ C.cell _ cur hd]
 have hm:∀a,a∈(cmp (l.map C.to)).map C.of->C.ok a:=λa ha=>by
  obtain ⟨x,hx,rfl⟩:=List.mem_map.1 ha;obtain ⟨b,hb,rfl⟩:=List.mem_map.1 (hmem _ _ hx);rw[C.of_to];exact hok' b hb
 have:=RG C (X:=F) (w:=grow (putRow C.cell (Sort.ahead w q) g 0 (cmp (l.map C.to)++pad).toArray) #[]) hm;have e1:((cmp (l.map C.to)).map C.of).map C.to=cmp (l.map C.to):=by simp[Function.comp_def,C.to_of]
 rw[e1] at this;rw[List.map_append,List.append_assoc,List.take_left' (by simp)];exact VR.keep (λb hb=>⟨.inl hb,rfl⟩) this
end
def Ma (l:List ByteArray):List ByteArray:=((l.map oneS.to).mergeSort λx y=>decide (x<=y)).map oneS.of
def XB (l:List ByteArray):List ByteArray:=(Lib.compact (l.map oneS.to)).map oneS.of
theorem Qbr {σ:Type} [Inhabited σ] [DecidableEq σ] (l:List σ) (x:σ) (h:x∈Lib.compact l):x∈l:=by
 unfold Lib.compact Lib.compactUpTo at h;simp only[List.mem_map,List.mem_filter,List.mem_range] at h;obtain ⟨j,⟨hj,_⟩,e⟩:=h;have e1:l.toArray[j]! =l[j]:=by rw[getElem!_pos l.toArray j (by simpa using hj)];simp
 rw[e1] at e;exact e▸List.getElem_mem hj
theorem VT {σ:Type} [Inhabited σ] [DecidableEq σ] (l:List σ):(Lib.compact l).length<=l.length:=by
 unfold Lib.compact Lib.compactUpTo;rw[List.length_map];exact Nat.le_trans (List.length_filter_le _ _) (by rw[List.length_range];exact Nat.le_refl _)
theorem AQ (l:List ByteArray):(Ma l).length=l.length:=by simp[Ma,List.length_mergeSort]
theorem RI (l:List ByteArray):(XB l).length<=l.length:=by
 have:=VT (l.map oneS.to);rw[List.length_map] at this;simpa [XB] using this
theorem Qbs {α:Type} [GoE α] {l k:List α} (h1:∀a:α,(enc a).length=1) (h:k.length=l.length):Qai (eL l) 0 4294967296 (eL k).flatten=eL k:=by
 have hk:∀k:List α,((eL k).flatten.map λc=> [c])=eL k:=λk=>by
  induction k with
  | nil=>rfl
  | cons a k ih=>
    rw[KZ,List.flatten_cons,List.map_append,ih];have:=h1 a
    match enc a,this with
    | [p],_=>rfl
 have hf:(eL k).flatten.length=k.length:=by
  have:=congrArg List.length (hk k);rw[List.length_map] at this;rw[this];simp[eL]
 show T2 (eL l) (eL k).flatten=eL k;unfold T2;have e1:(eL l).length=l.length:=by simp[eL]
 rw[e1,List.take_of_length_le (by omega),hk,List.drop_of_length_le (by omega),List.append_nil]
end
section
open Go.RowKit
section
variable {σ:Type} (lt:σ->σ->Prop)
theorem IB (irr:∀a,¬lt a a) (tr:∀a b c,lt a b->lt b c->lt a c):∀(a b:List σ),a.Pairwise lt->b.Pairwise lt->(∀x,x∈a↔x∈b)->a=b
 | [], [],_,_,_=>rfl
 | [],y::b,_,_,h=>by have:=(h y).2 (by simp);simp at this
 | x::a, [],_,_,h=>by have:=(h x).1 (by simp);simp at this
 | x ::a,y::b,ha,hb,h=>by
   rw[List.pairwise_cons] at ha hb
   have h1:x=y:=by
    have hx:=(h x).1 (by simp);have hy:=(h y).2 (by simp);simp only[List.mem_cons] at hx hy;rcases hx with e | hx
    . exact e
    rcases hy with e | hy
    . exact e.symm
    exact (irr x (tr _ _ _ (ha.1 y hy) (hb.1 x hx))).elim
   subst h1
   congr 1
   refine IB irr tr a b ha.2 hb.2 λz=> ?_
   have hz:=h z;simp only[List.mem_cons] at hz;constructor
   . intro hm;have hlt:=ha.1 z hm;rcases hz.1 (.inr hm) with e | e
     . subst e;exact (irr z hlt).elim
     exact e
   intro hm;have hlt:=hb.1 z hm;rcases hz.2 (.inr hm) with e | e
   . subst e;exact (irr z hlt).elim
   exact e
theorem IC [Inhabited σ] [DecidableEq σ] (d:Array σ) (tr:∀a b c,¬lt b a->lt b c->lt a c) (tri:∀a b,¬lt b a->a≠b->lt a b) (hs:∀i j,i<=j->j<d.size->¬lt d[j]! d[i]!):
 ∀m,m<=d.size->(Lib.compactUpTo d m).Pairwise lt/\∀x,x∈Lib.compactUpTo d m↔∃j,j<m/\d[j]! =x
 | 0,_=>by simp[Lib.compactUpTo]
 | m + 1,hm=>by
   obtain ⟨h1,h2⟩:=IC d tr tri hs m (by omega);rw[Lib.compactUpTo_succ];by_cases hk:Lib.keeps d m=true
   . rw [if_pos hk];refine ⟨?_,λx=> ?_⟩
     . rw[List.pairwise_append];refine ⟨h1,by simp,λa ha b hb=> ?_⟩;obtain ⟨j,hj,rfl⟩:=(h2 a).1 ha;obtain rfl:b=d[m]! :=by simpa using hb
       have hle:=hs j (m-1) (by omega) (by omega);have hle2:=hs (m-1) m (by omega) (by omega)
       have hne:d[m]! ≠d[m-1]! :=by
        unfold Lib.keeps at hk;simp only[Bool.or_eq_true,beq_iff_eq,bne_iff_ne,decide_eq_true_eq] at hk;rcases hk with h | h
        . omega
        exact h
       exact tr _ _ _ hle (tri _ _ hle2 λe=>hne e.symm)
     rw[List.mem_append,h2 x];constructor
     . rintro (⟨j,hj,e⟩ | h)
       . exact ⟨j,by omega,e⟩
       exact ⟨m,by omega,by simpa using (by simpa using h:x=d[m]!).symm⟩
     rintro ⟨j,hj,e⟩
     by_cases hjm:j=m
     . subst hjm;exact .inr (by simp[e])
     exact .inl ⟨j,by omega,e⟩
   rw[if_neg hk,List.append_nil];refine ⟨h1,λx=> ?_⟩;rw[h2 x]
   have hm0:m≠0/\d[m]! =d[m-1]! :=by
    unfold Lib.keeps at hk;simp only[Bool.or_eq_true,beq_iff_eq,bne_iff_ne,decide_eq_true_eq,not_or,Decidable.not_not] at hk;exact hk
   constructor
   . rintro ⟨j,hj,e⟩;exact ⟨j,by omega,e⟩
   rintro ⟨j,hj,e⟩
   by_cases hjm:j=m
   . subst hjm;exact ⟨j-1,by omega,hm0.2▸e⟩
   exact ⟨j,by omega,e⟩
end
def bl (a b:ByteArray):Bool:=Op.bytesLess a.toList b.toList
theorem AS {a b c:List UInt8} (h:a<b) (h':b<c):a<c:=List.lt_trans h h'
theorem RJ (a:List UInt8):¬a<a:=List.lt_irrefl a
theorem DZ {a b:List UInt8} (h:¬b<a) (hn:a≠b):a<b:=Classical.byContradiction λh'=>hn (List.le_antisymm h h')
theorem XC (a b:ByteArray):bl a b=true↔a.data.toList<b.data.toList:=by
 unfold bl;rw[bytesLess_eq,ByteArray.toList_eq,ByteArray.toList_eq,decide_eq_true_iff]
theorem RK (a:ByteArray):bl a a=false:=by
 cases h:bl a a with
 | false=>rfl
 | true=>exact (RJ _ ((XC a a).1 h)).elim
theorem Pw {a b c:ByteArray} (h:bl a b=true) (h':bl b c=true):bl a c=true:=(XC _ _).2 (AS ((XC _ _).1 h) ((XC _ _).1 h'))
theorem RL {a b:ByteArray} (h:bl b a=false) (hn:a≠b):bl a b=true:=(XC _ _).2 (DZ (λhb=>by rw[(XC _ _).2 hb] at h;cases h) λe=>hn (by cases a;cases b;simp at e;rw[e]))
def AT:List ByteArray->ByteArray->List ByteArray
 | [],s=> [s]
 | x::l,s=>if bl x s then x::AT l s else if x=s then x::l else s::x::l
def UK (l:List ByteArray):Prop:=l.Pairwise λa b=>bl a b=true
theorem VU (s x:ByteArray):∀l,x∈AT l s↔x=s\/x∈l
 | []=>by simp[AT]
 | y ::l=>by
   simp only[AT];split
   . rw[List.mem_cons,VU s x l,List.mem_cons];constructor
     . rintro (h | h | h)<;>simp[h]
     rintro (h | h | h)<;>simp[h]
   split
   . rename_i e;subst e;simp
   simp
theorem ID (s:ByteArray):∀l,UK l->UK (AT l s)
 | [],_=>by simp[UK,AT]
 | y ::l,h=>by
   have h:=List.pairwise_cons.1 h;simp only[AT];split
   . rename_i hl;refine List.pairwise_cons.2 ⟨λz hz=> ?_,ID s l h.2⟩;rcases (VU s z l).1 hz with e | hz
     . exact e▸hl
     exact h.1 z hz
   split
   . exact List.pairwise_cons.2 h
   rename_i hl hn;have hs:bl s y=true:=RL (by simpa using hl) λe=>hn e.symm
   refine List.pairwise_cons.2 ⟨λz hz=> ?_,List.pairwise_cons.2 h⟩;rcases List.mem_cons.1 hz with rfl | hz
   . exact hs
   exact Pw hs (h.1 z hz)
theorem IE (s:ByteArray):∀l,(AT l s).length<=l.length+1
 | []=>by simp[AT]
 | y::l=>by
   have:=IE s l;simp only[AT];split
   . simp only[List.length_cons];omega
   split<;>simp
def Ok (l xs:List ByteArray):List ByteArray:=xs.foldl AT l
theorem XD (x:ByteArray):∀xs l,x∈Ok l xs↔x∈xs\/x∈l
 | [],l=>by simp[Ok]
 | y::xs,l=>by
   show x∈Ok (AT l y) xs↔_;rw[XD x xs,VU,List.mem_cons];constructor
   . rintro (h | h | h)<;>simp[h]
   rintro ((h | h) | h)<;>simp[h]
theorem XE:∀xs l,UK l->UK (Ok l xs)
 | [],_,h=>h
 | y::xs,l,h=>XE xs (AT l y) (ID y l h)
theorem Qbt (a b:List ByteArray) (ha:UK a) (hb:UK b) (h:∀x,x∈a↔x∈b):a=b:=
 IB (λa b=>bl a b=true) (λa h=>by rw[RK] at h;cases h) (λ_ _ _=>Pw) a b ha hb h
theorem XF (l:List ByteArray):UK (XB (Ma l))/\∀x,x∈XB (Ma l)↔x∈l:=by
 have hto:(Ma l).map oneS.to=(l.map oneS.to).mergeSort λx y=>decide (x<=y):=by simp[Ma,Function.comp_def,oneS.to_of]
 unfold XB;rw[hto];generalize hm:l.map oneS.to=m;have hp:=List.mergeSort_perm m (λx y=>decide (x<=y))
 have hs:=List.pairwise_mergeSort (le:=λ(x y:List UInt8)=>decide (x<=y)) (λa b c h1 h2=>by
  simp only[decide_eq_true_eq] at h1 h2⊢;exact List.le_trans h1 h2) (λa b=>by
  have:=List.le_total a b;simpa using this) m
 generalize (m.mergeSort λx y=>decide (x<=y))=s at hp hs;have hget:∀j,j<s.length->s.toArray[j]! =s[j]! :=λj hj=>by simp
 have hmono:∀i j,i<=j->j<s.toArray.size->¬s.toArray[j]! <s.toArray[i]! :=λi j hij hj=>by
  have hj:j<s.length:=by simpa using hj
  rw[hget i (by omega),hget j hj,getElem!_pos s i (by omega),getElem!_pos s j hj];by_cases e:i=j
  . subst e;exact RJ _
  have:=List.pairwise_iff_getElem.1 hs i j (by omega) hj (by omega);simpa using this
 obtain ⟨h1,h2⟩:=IC (λa b:List UInt8=>a<b) s.toArray (λa b c hab hbc=>by
  by_cases e:a=b
  . exact e▸hbc
  exact AS (DZ hab e) hbc) (λa b h hn=>DZ h hn) hmono s.length (by simp)
 refine ⟨?_,λx=> ?_⟩
 . refine List.pairwise_map.2 (h1.imp λ{a b} h=>(XC _ _).2 ?_);simpa [oneS] using h
 have hmem:x∈l↔oneS.to x∈m:=by
  rw[←hm,List.mem_map];refine ⟨λh=>⟨x,h,rfl⟩,λ⟨y,h,e⟩=> ?_⟩;have:=congrArg oneS.of e;rw[oneS.of_to,oneS.of_to] at this;exact this▸h
 rw[hmem,←hp.mem_iff,List.mem_map];constructor
 . rintro ⟨y,hy,rfl⟩
   obtain ⟨j,hj,e⟩:=(h2 y).1 hy;rw[hget j hj,getElem!_pos s j hj] at e;rw[oneS.to_of];exact e▸List.getElem_mem hj
 intro h;obtain ⟨j,hj,e⟩:=List.getElem_of_mem h;exact ⟨oneS.to x,(h2 _).2 ⟨j,hj,by rw[hget j hj,getElem!_pos s j hj];exact e⟩,oneS.of_to x⟩
theorem Qbu (l:List ByteArray):XB (Ma l)=Ok [] l:=
 Qbt _ _ (XF l).1 (XE l [] List.Pairwise.nil) λx=>by rw[(XF l).2,XD];simp
end
section
abbrev Vr:=List (Nat×Int)
def Fy (E:Vr) (L:List Int):Int:=E.foldl (λm e=>max m (nth L e.1+e.2)) 0
theorem It (L:List Int) (x:Int):∀(E:Vr) (m:Int),E.foldl (λm e=>max m (nth L e.1+e.2)) m<=x↔m<=x/\∀e,e∈E->nth L e.1+e.2<=x
 | [],m=>by simp
 | e ::E,m=>by
   rw[List.foldl_cons,It L x E];constructor
   . rintro ⟨h1,h2⟩
     refine ⟨by omega,λe' he=> ?_⟩;rcases List.mem_cons.1 he with rfl | he
     . omega
     exact h2 e' he
   rintro ⟨h1,h2⟩
   have:=h2 e List.mem_cons_self;exact ⟨by omega,λe' he=>h2 e' (List.mem_cons_of_mem _ he)⟩
theorem By {E:Vr} {L:List Int} {x:Int}:Fy E L<=x↔0<=x/\∀e,e∈E->nth L e.1+e.2<=x:=It L x E 0
theorem Ol (E:Vr) (L:List Int):0<=Fy E L:=(By.1 (Int.le_refl _)).1
theorem AU {E:Vr} {L M:List Int} (h:∀j,nth L j<=nth M j):Fy E L<=Fy E M:=
 By.2 ⟨Ol E M,λe he=>by
  have:=(By.1 (Int.le_refl (Fy E M))).2 e he;have:=h e.1;omega⟩
theorem Om {L:List Int} {i:Nat} (x:Int) (j:Nat) (hi:i<L.length):nth (L.set i x) j=if j=i then x else nth L j:=by
 unfold nth;by_cases h:j=i
 . subst h;simp[List.getD,hi]
 rw[if_neg h];simp[List.getD,List.getElem?_set,Ne.symm h]
theorem XG {L:List Int} {i:Nat} (h:L.length<=i):nth L i=0:=by
 unfold nth;simp[List.getD,List.getElem?_eq_none h]
def Us (E:Nat->Vr) (L:List Int) (i:Nat):List Int:=if nth L i<Fy (E i) L then L.set i (Fy (E i) L) else L
theorem E7 (E:Nat->Vr) (L:List Int) (i:Nat):(Us E L i).length=L.length:=by unfold Us;split<;>simp
theorem VW (E:Nat->Vr) (L:List Int) (i j:Nat):nth L j<=nth (Us E L i) j:=by
 unfold Us;split
 . rename_i h;by_cases hi:i<L.length
   . rw[Om _ _ hi];split
     . rename_i e;subst e;omega
     omega
   rw[List.set_eq_of_length_le (by omega)];omega
 omega
def rounds (E:Nat->Vr) (is:List Nat) (L:List Int):List Int:=is.foldl (Us E) L
theorem Na (E:Nat->Vr):∀(is:List Nat) (L:List Int),(rounds E is L).length=L.length
 | [],_=>rfl
 | i::is,L=>(Na E is (Us E L i)).trans (E7 E L i)
theorem Px (E:Nat->Vr) (j:Nat):∀(is:List Nat) (L:List Int),nth L j<=nth (rounds E is L) j
 | [],_=>Int.le_refl _
 | i::is,L=>Int.le_trans (VW E L i j) (Px E j is (Us E L i))
theorem RM {L M:List Int} (hl:L.length=M.length) (h:∀j,nth L j=nth M j):L=M:=by
 apply List.ext_getElem hl;intro i h1 h2;have:=h i;simpa [nth,List.getD,h1,h2] using this
theorem JM (E:Nat->Vr):∀(is:List Nat) (L:List Int),rounds E is L=L->∀i,i∈is->Us E L i=L
 | [],_,_,i,hi=>by simp at hi
 | a ::is,L,h,i,hi=>by
   have h1:Us E L a=L:=RM (E7 E L a) λj=>by
    have h2:=VW E L a j;have h3:=Px E j is (Us E L a);have h4:nth (rounds E is (Us E L a)) j=nth L j:=congrArg (nth · j) h;omega
   rcases List.mem_cons.1 hi with rfl | hi
   . exact h1
   refine JM E is L ?_ i hi;have:rounds E is (Us E L a)=L:=h
   rwa [h1] at this
theorem JN {E:Nat->Vr} {L:List Int} {i:Nat} (hi:i<L.length):Us E L i=L↔Fy (E i) L<=nth L i:=by
 unfold Us;constructor
 . intro h;split at h
   . rename_i hlt;have h2:nth (L.set i (Fy (E i) L)) i=nth L i:=by rw[h]
     rw[Om _ _ hi,if_pos rfl] at h2;omega
   omega
 intro h;rw[if_neg (by omega)]
def Sat (E:Nat->Vr) (n:Nat) (g:List Int):Prop:=∀i,i<n->Fy (E i) g<=nth g i
theorem EA {E:Nat->Vr} {n:Nat} {L g:List Int} {i:Nat} (hi:i<n) (hn:L.length=n) (hs:Sat E n g) (h:∀j,nth L j<=nth g j):∀j,nth (Us E L i) j<=nth g j:=by
 intro j;unfold Us;split
 . rw[Om _ _ (by omega)];split
   . rename_i e;subst e;exact Int.le_trans (AU h) (hs j hi)
   exact h j
 exact h j
theorem Mb {E:Nat->Vr} {n:Nat} {g:List Int} (hs:Sat E n g):∀(is:List Nat) (L:List Int),(∀i,i∈is->i<n)->L.length=n->(∀j,nth L j<=nth g j)->∀j,nth (rounds E is L) j<=nth g j
 | [],_,_,_,h=>h
 | i::is,L,hi,hn,h=>Mb hs is (Us E L i) (λk hk=>hi k (List.mem_cons_of_mem _ hk)) ((E7 E L i).trans hn) (EA (hi i List.mem_cons_self) hn hs h)
theorem Qds:∀(m:Nat) (l:List Int),(∀v:Nat,v<m->((v:Nat):Int)∈l)->m<=l.length
 | 0,_,_=>Nat.zero_le _
 | m+1,l,h=>by
   have hm:=h m (by omega);have:=Qds m (l.erase (m:Int)) λv hv=>(List.mem_erase_of_ne (by omega)).2 (h v (by omega))
   rw[List.length_erase_of_mem hm] at this;have:0<l.length:=List.length_pos_of_mem hm;omega
theorem EB {L:List Int} {i:Nat} (h:i<L.length):nth L i∈L:=by
 have:nth L i=L[i]:=by simp[nth,List.getD,h]
 rw[this];exact List.getElem_mem h
theorem VX {L:List Int} {x:Int} (h:x∈L):∃i,i<L.length/\nth L i=x:=by
 obtain ⟨i,hi,e⟩:=List.getElem_of_mem h;exact ⟨i,hi,by rw[←e];simp[nth,List.getD,hi]⟩
theorem Qfl {L:List Int} {f:Int->Int} {i:Nat} (h:i<L.length):nth (L.map f) i=f (nth L i):=by simp[nth,List.getD,h]
theorem MR {E:Nat->Vr} {n:Nat} {f:List Int} (hw:∀i e,e∈E i->e.2<=1/\e.1<n) (hlen:f.length=n) (hs:Sat E n f) (hleast:∀g:List Int,g.length=n->Sat E n g->(∀j,0<=nth g j)->∀j,nth f j<=nth g j) (h0:∀j,0<=nth f j):
 ∀i,i<n->nth f i<(n:Int):=by
 intro i hi
 have hall:∀v:Nat,(v:Int)<=nth f i->((v:Nat):Int)∈f:=λv hv=>by
  refine Classical.byContradiction λhno=> ?_
  have hne:∀j,j<n->nth f j≠v:=λj hj e=>hno (e▸EB (by omega))
  have hvi:(v:Int)<nth f i:=by have:=hne i hi;omega
  let g:=f.map λx=>if (v:Int)<x then x-1 else x
  have hg:∀j,j<n->nth g j=if (v:Int)<nth f j then nth f j-1 else nth f j:=λj hj=>Qfl (by omega)
  have hg0:∀j,¬j<n->nth g j=0:=λj hj=>XG (by simp only[g,List.length_map];omega)
  have hf0:∀j,¬j<n->nth f j=0:=λj hj=>XG (by omega)
  have hpos:∀j,0<=nth g j:=λj=>by
   by_cases hj:j<n
   . rw[hg j hj];have:=h0 j;split<;>omega
   rw[hg0 j hj];omega
  have:=hleast g (by simp only[g,List.length_map];exact hlen) (λk hk=>By.2 ⟨hpos k,λe he=> ?_⟩) hpos i
  . rw[hg i hi,if_pos hvi] at this;omega
  have h1:=(By.1 (hs k hk)).2 e he;obtain ⟨h2,hj⟩:=hw k e he;have h3:=hne k hk;rw[hg k hk];have h4:=hne e.1 hj;rw[hg e.1 hj];split<;>split<;>omega
 have hp:=Qds ((nth f i).toNat+1) f λv hv=>hall v (by have:=h0 i;omega)
 have:=h0 i;omega
theorem RN:∀(L:List Int) (i:Nat) (x:Int),i<L.length->(L.set i x).sum=L.sum+(x-nth L i)
 | [],i,x,h=>by simp at h
 | a::L,0,x,_=>by simp[nth];omega
 | a::L,i+1,x,h=>by
   have:=RN L i x (by simpa using h);have e:nth (a::L) (i+1)=nth L i:=rfl;rw[e,List.set_cons_succ,List.sum_cons,List.sum_cons,this];omega
theorem IF:∀(L:List Int) (N:Int),(∀x,x∈L->x<=N)->L.sum<=(L.length:Int)*N
 | [],N,_=>by simp
 | a::L,N,h=>by
   have h1:=IF L N λx hx=>h x (List.mem_cons_of_mem _ hx)
   have h2:=h a List.mem_cons_self;rw[List.sum_cons,List.length_cons,Int.natCast_add,Int.add_mul];omega
theorem AW {E:Nat->Vr} {L:List Int} {i:Nat} (hi:i<L.length):L.sum<=(Us E L i).sum/\(Us E L i≠L->L.sum+1<=(Us E L i).sum):=by
 unfold Us;split
 . rename_i h;have:=RN L i (Fy (E i) L) hi;omega
 exact ⟨Int.le_refl _,λh=>(h rfl).elim⟩
theorem Nb {E:Nat->Vr}:∀(is:List Nat) (L:List Int),(∀i,i∈is->i<L.length)->L.sum<=(rounds E is L).sum/\(rounds E is L≠L->L.sum+1<=(rounds E is L).sum)
 | [],L,_=>⟨Int.le_refl _,λh=>(h rfl).elim⟩
 | i::is,L,h=>by
   obtain ⟨h1,h2⟩:=AW (E:=E) (h i List.mem_cons_self);obtain ⟨h3,h4⟩:=Nb (E:=E) is (Us E L i) λk hk=>by rw[E7];exact h k (List.mem_cons_of_mem _ hk)
   show L.sum<=(rounds E is (Us E L i)).sum/\(rounds E is (Us E L i)≠L->L.sum+1<=(rounds E is (Us E L i)).sum);refine ⟨by omega,λhn=> ?_⟩;by_cases e:Us E L i=L
   . have:=h4 (by rw[e] at hn⊢;exact hn);omega
   have:=h2 e;omega
def Dj (E:Nat->Vr) (N:Int):List Nat->Bool×List Int->Option (Bool×List Int)
 | [],s=>some s
 | i::is,s=>if N<Fy (E i) s.2 then none else Dj E N is (if nth s.2 i<Fy (E i) s.2 then (true,s.2.set i (Fy (E i) s.2)) else s)
theorem D1 {E:Nat->Vr} {N:Int}:∀(is:List Nat) (c:Bool) (L:List Int) (s:Bool×List Int),(∀i,i∈is->i<L.length)->Dj E N is (c,L)=some s->s.2=rounds E is L/\(s.1=true->c=true\/rounds E is L≠L)/\(s.1=false->c=false/\rounds E is L=L)/\((∀j,nth L j<=N)->∀j,nth s.2 j<=N)
 | [],c,L,s,_,h=>by
   obtain rfl:=Option.some.inj h;exact ⟨rfl,λh=> .inl h,λh=>⟨h,rfl⟩,λh=>h⟩
 | i :: is,c,L,s,hi,h=>by
   have hil:=hi i List.mem_cons_self;have hlen:∀k,k∈is->k<(Us E L i).length:=λk hk=>by rw[E7];exact hi k (List.mem_cons_of_mem _ hk)
   simp only[Dj] at h;split at h
   . cases h
   rename_i hN;split at h
   . rename_i hlt;have er:Us E L i=L.set i (Fy (E i) L):=by unfold Us;rw[if_pos hlt]
     rw[←er] at h;obtain ⟨h1,h2,h3,h4⟩:=D1 is true (Us E L i) s hlen h
     have hne:rounds E (i::is) L≠L:=λe=>by
      have:=(Nb (E:=E) is (Us E L i) hlen).1
      have h5:=(AW (E:=E) hil).2 λe'=>by
       have:=(JN hil).1 e';omega
      have h6:(rounds E is (Us E L i)).sum=L.sum:=congrArg List.sum e;omega
     refine ⟨h1,λ_=> .inr hne,λh=>(by have:=(h3 h).1;cases this),λhb j=>h4 (λj=> ?_) j⟩;rw[er,Om _ _ hil];split
     . omega
     exact hb j
   rename_i hlt;have er:Us E L i=L:=by unfold Us;rw[if_neg hlt]
   have e2:rounds E (i::is) L=rounds E is L:=by show rounds E is (Us E L i)=_;rw[er]
   rw[e2];exact D1 is c L s (λk hk=>hi k (List.mem_cons_of_mem _ hk)) h
theorem S6 {E:Nat->Vr} {N:Int}:∀(is:List Nat) (c:Bool) (L:List Int),Dj E N is (c,L)=none->∃pre i,(∀k,k∈pre->k∈is)/\i∈is/\N<Fy (E i) (rounds E pre L)
 | [],c,L,h=>by cases h
 | i ::is,c,L,h=>by
   simp only[Dj] at h;split at h
   . rename_i hN;exact ⟨[],i,λk hk=>by simp at hk,List.mem_cons_self,hN⟩
   have key:∀c' L',L'=Us E L i->Dj E N is (c',L')=none->∃pre k,(∀x,x∈pre->x∈i::is)/\k∈i::is/\N<Fy (E k) (rounds E pre L):=λc' L' e h=>by
    obtain ⟨pre,k,h1,h2,h3⟩:=S6 is c' L' h;subst e;refine ⟨i::pre,k,λx hx=> ?_,List.mem_cons_of_mem _ h2,h3⟩;rcases List.mem_cons.1 hx with rfl | hx
    . exact List.mem_cons_self
    exact List.mem_cons_of_mem _ (h1 x hx)
   split at h
   . rename_i hlt;exact key true _ (by unfold Us;rw[if_pos hlt]) h
   rename_i hlt;exact key c _ (by unfold Us;rw[if_neg hlt]) h
def Sf (E:Nat->Vr) (N:Int) (n:Nat):Nat->Bool×List Int->Option (Option (List Int))
 | 0,_=>none
 | k +1,s=>match s.1 with
   | true=>(match Dj E N (List.range n) (false,s.2) with
     | none=>some none
     | some s'=>Sf E N n k s')
   | false=>some (some s.2)
theorem Bn {n i:Nat} (h:i∈List.range n):i<n:=List.mem_range.1 h
theorem JO {E:Nat->Vr} {n:Nat}:∀(k:Nat) (c:Bool) (L:List Int),L.length=n->(∀j,nth L j<=(n:Int))->(n:Int)*(n:Int)-L.sum+2<=(k:Int)->(Sf E n n k (c,L)).isSome=true
 | 0,c,L,hl,hb,hk=>by
   have:=IF L n λx hx=>by obtain ⟨i,_,e⟩:=VX hx;exact e▸hb i
   rw[hl] at this;omega
 | k+1,false,L,hl,hb,hk=>rfl
 | k + 1, true,L,hl,hb,hk=>by
   simp only[Sf];cases hc:Dj E n (List.range n) (false,L) with
   | none=>rfl
   | some s=>
     obtain ⟨h1,h2,h3,h4⟩:=D1 (List.range n) false L s (λi hi=>by rw[hl];exact Bn hi) hc;obtain ⟨c',L'⟩:=s;simp only at h1 h2 h3 h4⊢;have hl':L'.length=n:=by rw[h1,Na,hl]
     have hs:=Nb (E:=E) (List.range n) L λi hi=>by rw[hl];exact Bn hi
     rw[←h1] at hs;cases c' with
     | false=>
       cases k with
       | zero=>
         have:=IF L n λx hx=>by obtain ⟨i,_,e⟩:=VX hx;exact e▸hb i
         rw[hl] at this;omega
       | succ k=>rfl
     | true=>
       have hne:L'≠L:=by
        rcases h2 rfl with h | h
        . cases h
        rw[h1];exact h
       have:=hs.2 hne;exact JO k true L' hl' (h4 hb) (by omega)
def after (E:Nat->Vr) (n:Nat):Nat->List Int
 | 0=>List.replicate n 0
 | k+1=>rounds E (List.range n) (after E n k)
theorem Wd (E:Nat->Vr) (n:Nat):∀k,(after E n k).length=n
 | 0=>by simp[after]
 | k+1=>by rw[after,Na,Wd E n k]
def NV (E:Nat->Vr) (n:Nat) (L:List Int):Prop:=rounds E (List.range n) L=L
theorem Tq (n j:Nat):nth (List.replicate n (0:Int)) j=0:=by
 by_cases h:j<n
 . simp[nth,List.getD,h]
 exact XG (by simp;omega)
theorem H9 (E:Nat->Vr) (n j:Nat):∀k,0<=nth (after E n k) j
 | 0=>by rw[after,Tq];omega
 | k+1=>Int.le_trans (H9 E n j k) (Px E j _ _)
theorem Py {E:Nat->Vr} {n:Nat} {L:List Int} (hl:L.length=n) (h:NV E n L):Sat E n L:=λi hi=>(JN (by omega)).1 (JM E _ L h i (List.mem_range.2 hi))
theorem Iu {E:Nat->Vr} {n:Nat} {g:List Int} (hs:Sat E n g) (h0:∀j,0<=nth g j):∀k j,nth (after E n k) j<=nth g j
 | 0,j=>by rw[after,Tq];exact h0 j
 | k+1,j=>Mb hs _ _ (λi hi=>Bn hi) (Wd E n k) (Iu hs h0 k) j
theorem Nc {E:Nat->Vr} {n k:Nat} (h:NV E n (after E n k)):∀d,after E n (k+d)=after E n k
 | 0=>rfl
 | d+1=>by
   show rounds E (List.range n) (after E n (k+d))=_;rw[Nc h d];exact h
theorem RO {E:Nat->Vr} {n k m:Nat} (hk:NV E n (after E n k)) (hm:NV E n (after E n m)):after E n k=after E n m:=by
 rcases Nat.le_total k m with h | h
 . have:=Nc hk (m-k);rw[show k+(m-k)=m by omega] at this;exact this.symm
 have:=Nc hm (k-m)
 rwa [show m+(k-m)=k by omega] at this
theorem XH {E:Nat->Vr} {n:Nat}:∀k,(∀j,j<k->¬NV E n (after E n j))->(k:Int)<=(after E n k).sum
 | 0,_=>by
   have:∀n:Nat,(List.replicate n (0:Int)).sum=0:=λn=>by simp
   rw[after,this];omega
 | k+1,h=>by
   have h1:=XH k λj hj=>h j (by omega)
   have h2:=(Nb (E:=E) (List.range n) (after E n k) λi hi=>by rw[Wd];exact Bn hi).2 (h k (by omega));show ((k+1:Nat):Int)<=(rounds E (List.range n) (after E n k)).sum;omega
variable {E:Nat->Vr} {n:Nat} (hw:∀i e,e∈E i->e.2<=1/\e.1<n)
include hw in
theorem EC {k:Nat} (h:NV E n (after E n k)):∀i,i<n->nth (after E n k) i<(n:Int):=
 MR hw (Wd E n k) (Py (Wd E n k) h) (λ_ _ hs h0=>Iu hs h0 k) λj=>H9 E n j k
include hw in
theorem RP {k:Nat} (h:NV E n (after E n k)):NV E n (after E n (n*n+2)):=by
 have hex:∃j,j<=n*n+1/\NV E n (after E n j):=Classical.byContradiction λhno=>by
  have h1:=XH (E:=E) (n:=n) (n*n+2) λj hj hr=>hno ⟨j,by omega,hr⟩
  have h2:=IF (after E n (n*n+2)) n λx hx=>by
   obtain ⟨i,hi,e⟩:=VX hx;rw[Wd] at hi;have h3:=Iu (Py (Wd E n k) h) (λj=>H9 E n j k) (n*n+2) i;have:=EC hw h i hi;omega
  rw[Wd] at h2;have h3:((n*n+2:Nat):Int)=(n:Int)*(n:Int)+2:=by rw[Int.natCast_add,Int.natCast_mul];rfl
  omega
 obtain ⟨j,hj,hr⟩:=hex;have:=Nc hr (n*n+2-j);rw[show j+(n*n+2-j)=n*n+2 by omega] at this;rw[this];exact hr
include hw in
theorem Tr:∀(k m:Nat) (c:Bool) (r:Option (List Int)),(c=false->NV E n (after E n m))->Sf E n n k (c,after E n m)=some r->
 (∀L,r=some L->NV E n (after E n (n*n+2))/\L=after E n (n*n+2))/\(r=none->¬NV E n (after E n (n*n+2)))
 | 0,m,c,r,_,h=>by cases h
 | k+1,m,false,r,hc,h=>by
   obtain rfl:=Option.some.inj h;have hr:=hc rfl;have hs:=RP hw hr;refine ⟨λL e=>⟨hs, ?_⟩,λe=>by cases e⟩;obtain rfl:=Option.some.inj e;exact RO hr hs
 | k +1,m,true,r,_,h=>by
   simp only[Sf] at h;have hlt:∀i,i∈List.range n->i<(after E n m).length:=λi hi=>by rw[Wd];exact Bn hi
   cases hcr:Dj E n (List.range n) (false,after E n m) with
   | none=>
     rw[hcr] at h;obtain rfl:=Option.some.inj h;refine ⟨λL e=>(by cases e),λ_ hr=> ?_⟩;obtain ⟨pre,i,h1,h2,h3⟩:=S6 _ _ _ hcr;have hsat:=Py (Wd E n _) hr;have h4:=Mb hsat pre (after E n m) (λi hi=>Bn (h1 i hi)) (Wd E n m) (Iu hsat (λj=>H9 E n j _) m);have h5:=AU (E:=E i) h4;have h6:=hsat i (Bn h2);have h7:=EC hw hr i (Bn h2);omega
   | some s=>
     rw[hcr] at h;obtain ⟨h1,_,h3,_⟩:=D1 _ _ _ s hlt hcr;obtain ⟨c',L'⟩:=s;simp only at h1 h3 h;have e:L'=after E n (m+1):=h1;subst e;refine Tr k (m+1) c' r (λhc=> ?_) h;have h5:=(h3 hc).2;show rounds E (List.range n) (after E n (m+1))=after E n (m+1);have e2:after E n (m+1)=after E n m:=h5;rw[e2];exact h5
omit hw
def Rr (i:Nat) (L:List Int) (e:Nat×Int):List Int:=if nth L i<nth L e.1+e.2 then L.set i (nth L e.1+e.2) else L
def Bz (i:Nat) (E:Vr) (L:List Int):List Int:=E.foldl (Rr i) L
theorem Iv (i:Nat) (L:List Int) (e:Nat×Int):(Rr i L e).length=L.length:=by unfold Rr;split<;>simp
theorem E8 (i:Nat):∀(E:Vr) (L:List Int),(Bz i E L).length=L.length
 | [],_=>rfl
 | e::E,L=>(E8 i E (Rr i L e)).trans (Iv i L e)
theorem Ts {i:Nat} {L:List Int} (e:Nat×Int) (hi:i<L.length) (j:Nat):nth (Rr i L e) j=if j=i then max (nth L i) (nth L e.1+e.2) else nth L j:=by
 unfold Rr;split
 . rw[Om _ _ hi];split<;>omega
 split
 . rename_i h;subst h;omega
 rfl
theorem AX {i:Nat}:∀(E:Vr) {L M:List Int},i<M.length->(∀j,j≠i->nth M j=nth L j)->nth L i<=nth M i->(∀e,e∈E->e.1=i->e.2<=0)->∀j,nth (Bz i E M) j=if j=i then E.foldl (λm e=>max m (nth L e.1+e.2)) (nth M i) else nth L j
 | [],L,M,hi,hj,h0,hs,j=>by
   show nth M j=_;split
   . rename_i e;subst e;rfl
   rename_i e;exact hj j e
 | e ::E,L,M,hi,hj,h0,hs,j=>by
   show nth (Bz i E (Rr i M e)) j=_;have hb:=Ts e hi
   have hmax:nth (Rr i M e) i=max (nth M i) (nth L e.1+e.2):=by
    rw[hb,if_pos rfl];by_cases he:e.1=i
    . have:=hs e List.mem_cons_self he;rw[he];omega
    rw[hj e.1 he]
   rw[AX E (L:=L) (M:=Rr i M e) (by rw[Iv];exact hi) (λk hk=>by rw[hb,if_neg hk];exact hj k hk) (by rw[hmax];omega) (λe' he'=>hs e' (List.mem_cons_of_mem _ he')) j,hmax,List.foldl_cons]
theorem Qbv (L:List Int):∀(E:Vr) (m:Int),0<=m->E.foldl (λm e=>max m (nth L e.1+e.2)) m=max m (Fy E L):=λE m hm=>by
 have h1:=It L (E.foldl (λm e=>max m (nth L e.1+e.2)) m) E m;have h2:=h1.1 (Int.le_refl _);have h3:Fy E L<=E.foldl (λm e=>max m (nth L e.1+e.2)) m:=By.2 ⟨by omega,h2.2⟩;have h4:=(It L (max m (Fy E L)) E m).2 ⟨by omega,λe he=>by have:=(By.1 (Int.le_refl (Fy E L))).2 e he;omega⟩;omega
theorem Qbw {E:Nat->Vr} {L:List Int} {i:Nat} (hi:i<L.length) (h0:0<=nth L i) (hs:∀e,e∈E i->e.1=i->e.2<=0):Bz i (E i) L=Us E L i:=
 RM ((E8 i (E i) L).trans (E7 E L i).symm) λj=>by
  rw[AX (E i) hi (λ_ _=>rfl) (Int.le_refl _) hs,Qbv _ _ _ h0];unfold Us;by_cases hlt:nth L i<Fy (E i) L
  . rw[if_pos hlt,Om _ _ hi];split<;>omega
  rw[if_neg hlt];split
  . rename_i e;subst e;omega
  rfl
theorem Tt {i:Nat}:∀(E:Vr) {L:List Int},i<L.length->∀j,nth L j<=nth (Bz i E L) j
 | [],_,_,_=>Int.le_refl _
 | e::E,L,hi,j=>by
   have h1:=Tt E (L:=Rr i L e) (by rw[Iv];exact hi) j;have h2:=Ts e hi j;show _<=nth (Bz i E (Rr i L e)) j;split at h2
   . rename_i h;subst h;omega
   omega
theorem JP {i:Nat}:∀(E:Vr) {L:List Int},i<L.length->(∃e,e∈E/\e.1=i/\1<=e.2)->nth L i+1<=nth (Bz i E L) i
 | [],_,_,⟨e,he,_⟩=>by simp at he
 | e::E,L,hi,⟨e',he,h1,h2⟩=>by
   have h3:=Ts e hi i;rw[if_pos rfl] at h3;have hb:=Tt E (L:=Rr i L e) (by rw[Iv];exact hi) i;show _<=nth (Bz i E (Rr i L e)) i;rcases List.mem_cons.1 he with rfl | he
   . rw[h1] at h3;omega
   have:=JP E (L:=Rr i L e) (by rw[Iv];exact hi) ⟨e',he,h1,h2⟩;omega
def A4 (E:Nat->Vr) (is:List Nat) (L:List Int):List Int:=is.foldl (λL i=>Bz i (E i) L) L
theorem On (E:Nat->Vr):∀(is:List Nat) (L:List Int),(A4 E is L).length=L.length
 | [],_=>rfl
 | i::is,L=>(On E is (Bz i (E i) L)).trans (E8 i _ L)
theorem Sg {E:Nat->Vr} (hs:∀i e,e∈E i->e.1=i->e.2<=0):∀(is:List Nat) (L:List Int),(∀i,i∈is->i<L.length)->(∀j,0<=nth L j)->A4 E is L=rounds E is L
 | [],_,_,_=>rfl
 | i::is,L,hi,h0=>by
   have hil:=hi i List.mem_cons_self;show A4 E is (Bz i (E i) L)=rounds E is (Us E L i);rw[Qbw hil (h0 i) (hs i)];exact Sg hs is _ (λk hk=>by rw[E7];exact hi k (List.mem_cons_of_mem _ hk)) λj=>Int.le_trans (h0 j) (VW E L i j)
theorem JQ {E:Nat->Vr}:∀(is:List Nat) (L:List Int),(∀i,i∈is->i<L.length)->∀j,nth L j<=nth (A4 E is L) j
 | [],_,_,_=>Int.le_refl _
 | i::is,L,hi,j=>Int.le_trans (Tt (E i) (hi i List.mem_cons_self) j) (JQ is (Bz i (E i) L) (λk hk=>by rw[E8];exact hi k (List.mem_cons_of_mem _ hk)) j)
theorem S7 {E:Nat->Vr} {i:Nat} (he:∃e,e∈E i/\e.1=i/\1<=e.2):∀(is:List Nat) (L:List Int),(∀i,i∈is->i<L.length)->i∈is->nth L i+1<=nth (A4 E is L) i
 | [],_,_,h=>by simp at h
 | k::is,L,hi,h=>by
   have hk:=hi k List.mem_cons_self;have hl:∀x,x∈is->x<(Bz k (E k) L).length:=λx hx=>by rw[E8];exact hi x (List.mem_cons_of_mem _ hx)
   show _<=nth (A4 E is (Bz k (E k) L)) i;have h1:=Tt (E k) hk i;have h2:=JQ (E:=E) is (Bz k (E k) L) hl i;rcases List.mem_cons.1 h with rfl | h
   . have:=JP (E i) hk he;omega
   have:=S7 he is (Bz k (E k) L) hl h;omega
def Aa (E:Nat->Vr) (n:Nat):Nat->List Int
 | 0=>List.replicate n 0
 | k+1=>A4 E (List.range n) (Aa E n k)
theorem Nd (E:Nat->Vr) (n:Nat):∀k,(Aa E n k).length=n
 | 0=>by simp[Aa]
 | k+1=>by rw[Aa,On,Nd E n k]
theorem AY {E:Nat->Vr} {n:Nat} (hs:∀i e,e∈E i->e.1=i->e.2<=0):∀k,Aa E n k=after E n k
 | 0=>rfl
 | k+1=>by
   rw[Aa,after,AY hs k];exact Sg hs _ _ (λi hi=>by rw[Wd];exact Bn hi) λj=>H9 E n j k
theorem RQ {E:Nat->Vr} {n:Nat} (hw:∀i e,e∈E i->e.2<=1/\e.1<n/\i<n) {k:Nat} {r:Option (List Int)} (h:Sf E n n k (true,List.replicate n 0)=some r):
 (A4 E (List.range n) (Aa E n (n*n+2))=Aa E n (n*n+2)->r=some (Aa E n (n*n+2)))/\(A4 E (List.range n) (Aa E n (n*n+2))≠Aa E n (n*n+2)->r=none):=by
 have hw':∀i e,e∈E i->e.2<=1/\e.1<n:=λi e he=>⟨(hw i e he).1,(hw i e he).2.1⟩
 obtain ⟨h1,h2⟩:=Tr hw' k 0 true r (λe=>by cases e) h;by_cases hself:∃i,∃e,e∈E i/\e.1=i/\1<=e.2
 . obtain ⟨i,e,he,hei,h3⟩:=hself;have hi:i<n:=(hw i e he).2.2
   have hne:A4 E (List.range n) (Aa E n (n*n+2))≠Aa E n (n*n+2):=λheq=>by
    have:=S7 (E:=E) ⟨e,he,hei,h3⟩ (List.range n) (Aa E n (n*n+2)) (λk hk=>by rw[Nd];exact Bn hk) (List.mem_range.2 hi);rw[heq] at this;omega
   refine ⟨λh=>(hne h).elim,λ_=> ?_⟩;cases r with
   | none=>rfl
   | some L=>
     obtain ⟨hr,_⟩:=h1 L rfl;have h4:=Py (Wd E n _) hr i hi;have h5:=(By.1 h4).2 e he;rw[hei] at h5;omega
 have hs:∀i e,e∈E i->e.1=i->e.2<=0:=λi e he hei=>Classical.byContradiction λhn=>hself ⟨i,e,he,hei,by omega⟩
 rw[AY hs,Sg hs _ _ (λi hi=>by rw[Wd];exact Bn hi) λj=>H9 E n j _];refine ⟨λhr=> ?_,λhr=> ?_⟩
 . cases r with
   | none=>exact (h2 rfl hr).elim
   | some L=>rw[(h1 L rfl).2]
 cases r with
 | none=>rfl
 | some L=>exact (hr (h1 L rfl).1).elim
end
section
open Go.Shelf
def Sh.lays172_ren:Go.Shelf.Ren:=⟨λ| 172=>185 | 244=>203 | 245=>204 | 247=>215 | 279=>216 | 280=>217 | 281=>218 | 282=>219 | 287=>233 | 316=>234 | 171=>184 | 205=>235 | 321=>244 | 322=>245 | 243=>202 | 246=>214 | 283=>229 | 284=>230 | 285=>231 | 286=>232 | 129=>240 | 317=>239 | 318=>241 | 319=>242 | 320=>243 | 337=>248 | 338=>249 | n=>n,λ| 9=>9 | 3=>3 | 75=>206 | 76=>207 | 4=>4 | 5=>5 | 167=>224 | 37=>123 | 0=>0 | 85=>225 | 2=>2 | 168=>227 | 53=>236 | 175=>241 | 46=>243 | 210=>246 | 127=>256 | 145=>259 | 143=>257 | 21=>21 | 171=>235 | 173=>239 | 212=>251 | 51=>252 | 20=>20 | 213=>253 | 232=>270 | 233=>271 | 80=>283 | n=>n,λ| 15=>0 | 16=>1 | 17=>2 | 18=>3 | 19=>4 | n=>n⟩
theorem Sh.lays172:Go.Proofs.Lays.n172 Tryz.prog Sh.lays172_ren:={
 mixed:=by kernel_rfl
 f129:=Tryz.func240.trans (congrArg some (by kernel_rfl))
 f171:=Tryz.func184.trans (congrArg some (by kernel_rfl))
 f172:=Tryz.func185.trans (congrArg some (by kernel_rfl))
 f205:=Tryz.func235.trans (congrArg some (by kernel_rfl))
 f243:=Tryz.func202.trans (congrArg some (by kernel_rfl))
 f244:=Tryz.func203.trans (congrArg some (by kernel_rfl))
 f245:=Tryz.func204.trans (congrArg some (by kernel_rfl))
 f246:=Tryz.func214.trans (congrArg some (by kernel_rfl))
 f247:=Tryz.func215.trans (congrArg some (by kernel_rfl))
 f279:=Tryz.func216.trans (congrArg some (by kernel_rfl))
 f280:=Tryz.func217.trans (congrArg some (by kernel_rfl))
 f281:=Tryz.func218.trans (congrArg some (by kernel_rfl))
 f282:=Tryz.func219.trans (congrArg some (by kernel_rfl))
 f283:=Tryz.func229.trans (congrArg some (by kernel_rfl))
 f284:=Tryz.func230.trans (congrArg some (by kernel_rfl))
 f285:=Tryz.func231.trans (congrArg some (by kernel_rfl))
 f286:=Tryz.func232.trans (congrArg some (by kernel_rfl))
 f287:=Tryz.func233.trans (congrArg some (by kernel_rfl))
 f316:=Tryz.func234.trans (congrArg some (by kernel_rfl))
 f317:=Tryz.func239.trans (congrArg some (by kernel_rfl))
 f318:=Tryz.func241.trans (congrArg some (by kernel_rfl))
 f319:=Tryz.func242.trans (congrArg some (by kernel_rfl))
 f320:=Tryz.func243.trans (congrArg some (by kernel_rfl))
 f321:=Tryz.func244.trans (congrArg some (by kernel_rfl))
 f322:=Tryz.func245.trans (congrArg some (by kernel_rfl))
 f337:=Tryz.func248.trans (congrArg some (by kernel_rfl))
 f338:=Tryz.func249.trans (congrArg some (by kernel_rfl))
 t0:=Tryz.underlying0
 a0:=Tryz.isAgg0
 z0:=Tryz.sizeOf0
 v0:=Tryz.zeroValue0
 t2:=Tryz.underlying2
 a2:=Tryz.isAgg2
 z2:=Tryz.sizeOf2
 v2:=Tryz.zeroValue2
 t3:=Tryz.underlying3
 a3:=Tryz.isAgg3
 z3:=Tryz.sizeOf3
 v3:=Tryz.zeroValue3
 t4:=Tryz.underlying4
 a4:=Tryz.isAgg4
 z4:=Tryz.sizeOf4
 v4:=Tryz.zeroValue4
 t5:=Tryz.underlying5
 a5:=Tryz.isAgg5
 z5:=Tryz.sizeOf5
 v5:=Tryz.zeroValue5
 t9:=Tryz.underlying9
 a9:=Tryz.isAgg9
 z9:=Tryz.sizeOf9
 v9:=Tryz.zeroValue9
 t20:=Tryz.underlying20
 a20:=Tryz.isAgg20
 z20:=Tryz.sizeOf20
 v20:=Tryz.zeroValue20
 t21:=Tryz.underlying21
 a21:=Tryz.isAgg21
 z21:=Tryz.sizeOf21
 v21:=Tryz.zeroValue21
 t37:=Tryz.underlying123
 a37:=Tryz.isAgg123
 z37:=Tryz.sizeOf123
 v37:=Tryz.zeroValue123
 t46:=Tryz.underlying243
 a46:=Tryz.isAgg243
 z46:=Tryz.sizeOf243
 v46:=Tryz.zeroValue243
 t51:=Tryz.underlying252
 a51:=Tryz.isAgg252
 z51:=Tryz.sizeOf252
 v51:=Tryz.zeroValue252
 t53:=Tryz.underlying236
 a53:=Tryz.isAgg236
 z53:=Tryz.sizeOf236
 v53:=Tryz.zeroValue236
 t75:=Tryz.underlying206
 a75:=Tryz.isAgg206
 z75:=Tryz.sizeOf206
 v75:=Tryz.zeroValue206
 t76:=Tryz.underlying207
 a76:=Tryz.isAgg207
 z76:=Tryz.sizeOf207
 v76:=Tryz.zeroValue207
 t85:=Tryz.underlying225
 a85:=Tryz.isAgg225
 z85:=Tryz.sizeOf225
 v85:=Tryz.zeroValue225
 t127:=Tryz.underlying256
 a127:=Tryz.isAgg256
 z127:=Tryz.sizeOf256
 v127:=Tryz.zeroValue256
 t143:=Tryz.underlying257
 a143:=Tryz.isAgg257
 z143:=Tryz.sizeOf257
 v143:=Tryz.zeroValue257
 t145:=Tryz.underlying259
 a145:=Tryz.isAgg259
 z145:=Tryz.sizeOf259
 v145:=Tryz.zeroValue259
 t167:=Tryz.underlying224
 a167:=Tryz.isAgg224
 z167:=Tryz.sizeOf224
 v167:=Tryz.zeroValue224
 t168:=Tryz.underlying227
 a168:=Tryz.isAgg227
 z168:=Tryz.sizeOf227
 v168:=Tryz.zeroValue227
 t171:=Tryz.underlying235
 a171:=Tryz.isAgg235
 z171:=Tryz.sizeOf235
 v171:=Tryz.zeroValue235
 t173:=Tryz.underlying239
 a173:=Tryz.isAgg239
 z173:=Tryz.sizeOf239
 v173:=Tryz.zeroValue239
 t175:=Tryz.underlying241
 a175:=Tryz.isAgg241
 z175:=Tryz.sizeOf241
 v175:=Tryz.zeroValue241
 t210:=Tryz.underlying246
 a210:=Tryz.isAgg246
 z210:=Tryz.sizeOf246
 v210:=Tryz.zeroValue246
 t212:=Tryz.underlying251
 a212:=Tryz.isAgg251
 z212:=Tryz.sizeOf251
 v212:=Tryz.zeroValue251
 t213:=Tryz.underlying253
 a213:=Tryz.isAgg253
 z213:=Tryz.sizeOf253
 t232:=Tryz.underlying270
 a232:=Tryz.isAgg270
 z232:=Tryz.sizeOf270
 v232:=Tryz.zeroValue270
 t233:=Tryz.underlying271
 a233:=Tryz.isAgg271
 z233:=Tryz.sizeOf271
 v233:=Tryz.zeroValue271
 g15:=by kernel_rfl
 g16:=by kernel_rfl
 g17:=by kernel_rfl
 g18:=by kernel_rfl
 g19:=by kernel_rfl}
open Go.RowKit in
theorem Sh.strconv_Atoi (s:ByteArray) (n:Int) (hl:s.size<=18) (h:Lib.atoi s.data.toList=some n) (w:World):
 Calls Tryz.prog 185 #[.string s] w λe w'=>e= .returned (.tuple #[.int .i64 n,.nilIface])/\∃t,w'=Lib.bytesWorld w 5 t:=Any.strconv_Atoi Sh.lays172 s n hl h w
def Sh.laysM171_ren:Go.Shelf.Ren:=⟨λ| 171=>184 | 243=>202 | 246=>214 | 283=>229 | 284=>230 | 285=>231 | 286=>232 | 129=>240 | 317=>239 | 318=>241 | 319=>242 | 320=>243 | 337=>248 | 338=>249 | n=>n,λ| 3=>3 | 9=>9 | 2=>2 | 4=>4 | 171=>235 | 0=>0 | 53=>236 | 37=>123 | 5=>5 | 173=>239 | 212=>251 | 51=>252 | 20=>20 | 213=>253 | 46=>243 | 232=>270 | 233=>271 | n=>n,λ| 17=>2 | 18=>3 | 19=>4 | n=>n⟩
theorem Sh.laysM171:Go.Proofs.LaysM.n171 Tryz.prog Sh.laysM171_ren:={
 mixed:=by kernel_rfl
 f129:=Tryz.func240.trans (congrArg some (by kernel_rfl))
 f171:=Tryz.func184.trans (congrArg some (by kernel_rfl))
 f243:=Tryz.func202.trans (congrArg some (by kernel_rfl))
 f246:=Tryz.func214.trans (congrArg some (by kernel_rfl))
 f283:=Tryz.func229.trans (congrArg some (by kernel_rfl))
 f284:=Tryz.func230.trans (congrArg some (by kernel_rfl))
 f285:=Tryz.func231.trans (congrArg some (by kernel_rfl))
 f286:=Tryz.func232.trans (congrArg some (by kernel_rfl))
 f317:=Tryz.func239.trans (congrArg some (by kernel_rfl))
 f318:=Tryz.func241.trans (congrArg some (by kernel_rfl))
 f319:=Tryz.func242.trans (congrArg some (by kernel_rfl))
 f320:=Tryz.func243.trans (congrArg some (by kernel_rfl))
 f337:=Tryz.func248.trans (congrArg some (by kernel_rfl))
 f338:=Tryz.func249.trans (congrArg some (by kernel_rfl))
 t0:=Tryz.underlying0
 a0:=Tryz.isAgg0
 z0:=Tryz.sizeOf0
 v0:=Tryz.zeroValue0
 t2:=Tryz.underlying2
 a2:=Tryz.isAgg2
 z2:=Tryz.sizeOf2
 v2:=Tryz.zeroValue2
 t3:=Tryz.underlying3
 a3:=Tryz.isAgg3
 z3:=Tryz.sizeOf3
 v3:=Tryz.zeroValue3
 t4:=Tryz.underlying4
 a4:=Tryz.isAgg4
 z4:=Tryz.sizeOf4
 v4:=Tryz.zeroValue4
 t5:=Tryz.underlying5
 a5:=Tryz.isAgg5
 z5:=Tryz.sizeOf5
 v5:=Tryz.zeroValue5
 t9:=Tryz.underlying9
 a9:=Tryz.isAgg9
 z9:=Tryz.sizeOf9
 v9:=Tryz.zeroValue9
 t20:=Tryz.underlying20
 a20:=Tryz.isAgg20
 z20:=Tryz.sizeOf20
 v20:=Tryz.zeroValue20
 t37:=Tryz.underlying123
 a37:=Tryz.isAgg123
 z37:=Tryz.sizeOf123
 v37:=Tryz.zeroValue123
 t46:=Tryz.underlying243
 a46:=Tryz.isAgg243
 z46:=Tryz.sizeOf243
 v46:=Tryz.zeroValue243
 t51:=Tryz.underlying252
 a51:=Tryz.isAgg252
 z51:=Tryz.sizeOf252
 v51:=Tryz.zeroValue252
 t53:=Tryz.underlying236
 a53:=Tryz.isAgg236
 z53:=Tryz.sizeOf236
 v53:=Tryz.zeroValue236
 t171:=Tryz.underlying235
 a171:=Tryz.isAgg235
 z171:=Tryz.sizeOf235
 v171:=Tryz.zeroValue235
 t173:=Tryz.underlying239
 a173:=Tryz.isAgg239
 z173:=Tryz.sizeOf239
 v173:=Tryz.zeroValue239
 t212:=Tryz.underlying251
 a212:=Tryz.isAgg251
 z212:=Tryz.sizeOf251
 v212:=Tryz.zeroValue251
 t213:=Tryz.underlying253
 a213:=Tryz.isAgg253
 z213:=Tryz.sizeOf253
 t232:=Tryz.underlying270
 a232:=Tryz.isAgg270
 z232:=Tryz.sizeOf270
 v232:=Tryz.zeroValue270
 t233:=Tryz.underlying271
 a233:=Tryz.isAgg271
 z233:=Tryz.sizeOf271
 v233:=Tryz.zeroValue271
 g17:=by kernel_rfl
 g18:=by kernel_rfl
 g19:=by kernel_rfl
 i0:=by kernel_rfl
 i2:=by kernel_rfl
 i3:=by kernel_rfl
 i4:=by kernel_rfl
 i5:=by kernel_rfl
 i9:=by kernel_rfl
 i20:=by kernel_rfl
 i37:=by kernel_rfl
 i46:=by kernel_rfl
 i51:=by kernel_rfl
 i53:=by kernel_rfl
 i171:=by kernel_rfl
 i173:=by kernel_rfl
 i212:=by kernel_rfl
 i232:=by kernel_rfl
 i233:=by kernel_rfl
 m17:=by kernel_rfl
 m18:=by kernel_rfl
 m19:=by kernel_rfl}
open Go.RowKit Go.Sort Go.Lib in
theorem Sh.strconv_Itoa (n : Int) (h0 : -9223372036854775808 ≤ n) (h1 : n ≤ 9223372036854775807) (w : World) (htab : Lib.TabIs Tryz.prog w "internal/strconv.uint64pow10" .u64 Lib.pow10Tab) :
 Calls Tryz.prog 184 #[.int .i64 n] w λe w'=>e= .returned (.string ⟨(Lib.itoa n).toArray⟩)/\∃k os,w'=grow (w.drewN k) os:=Any.strconv_Itoa Sh.laysM171 n h0 h1 w htab
def Sh.laysC172_ren:Go.Shelf.Ren:=⟨λ| 172=>185 | 244=>203 | 245=>204 | 247=>215 | 279=>216 | 280=>217 | 281=>218 | 282=>219 | 287=>233 | 316=>234 | 171=>184 | 205=>235 | 321=>244 | 322=>245 | 243=>202 | 246=>214 | 283=>229 | 284=>230 | 285=>231 | 286=>232 | 129=>240 | 317=>239 | 318=>241 | 319=>242 | 320=>243 | 337=>248 | 338=>249 | n=>n,λ| 9=>9 | 3=>3 | 75=>206 | 76=>207 | 4=>4 | 5=>5 | 167=>224 | 37=>123 | 0=>0 | 85=>225 | 2=>2 | 168=>227 | 53=>236 | 175=>241 | 46=>243 | 210=>246 | 127=>256 | 145=>259 | 143=>257 | 21=>21 | 171=>235 | 173=>239 | 212=>251 | 51=>252 | 20=>20 | 213=>253 | 232=>270 | 233=>271 | 80=>283 | n=>n,λ| 15=>0 | 16=>1 | 17=>2 | 18=>3 | 19=>4 | n=>n⟩
theorem Sh.laysC172:Go.Proofs.LaysC.n172 Tryz.prog Sh.laysC172_ren:={
 mixed:=by kernel_rfl
 f129:=Tryz.func240.trans (congrArg some (by kernel_rfl))
 f171:=Tryz.func184.trans (congrArg some (by kernel_rfl))
 f172:=Tryz.func185.trans (congrArg some (by kernel_rfl))
 f205:=Tryz.func235.trans (congrArg some (by kernel_rfl))
 f243:=Tryz.func202.trans (congrArg some (by kernel_rfl))
 f244:=Tryz.func203.trans (congrArg some (by kernel_rfl))
 f245:=Tryz.func204.trans (congrArg some (by kernel_rfl))
 f246:=Tryz.func214.trans (congrArg some (by kernel_rfl))
 f247:=Tryz.func215.trans (congrArg some (by kernel_rfl))
 f279:=Tryz.func216.trans (congrArg some (by kernel_rfl))
 f280:=Tryz.func217.trans (congrArg some (by kernel_rfl))
 f281:=Tryz.func218.trans (congrArg some (by kernel_rfl))
 f282:=Tryz.func219.trans (congrArg some (by kernel_rfl))
 f283:=Tryz.func229.trans (congrArg some (by kernel_rfl))
 f284:=Tryz.func230.trans (congrArg some (by kernel_rfl))
 f285:=Tryz.func231.trans (congrArg some (by kernel_rfl))
 f286:=Tryz.func232.trans (congrArg some (by kernel_rfl))
 f287:=Tryz.func233.trans (congrArg some (by kernel_rfl))
 f316:=Tryz.func234.trans (congrArg some (by kernel_rfl))
 f317:=Tryz.func239.trans (congrArg some (by kernel_rfl))
 f318:=Tryz.func241.trans (congrArg some (by kernel_rfl))
 f319:=Tryz.func242.trans (congrArg some (by kernel_rfl))
 f320:=Tryz.func243.trans (congrArg some (by kernel_rfl))
 f321:=Tryz.func244.trans (congrArg some (by kernel_rfl))
 f322:=Tryz.func245.trans (congrArg some (by kernel_rfl))
 f337:=Tryz.func248.trans (congrArg some (by kernel_rfl))
 f338:=Tryz.func249.trans (congrArg some (by kernel_rfl))
 t0:=Tryz.underlying0
 a0:=Tryz.isAgg0
 z0:=Tryz.sizeOf0
 v0:=Tryz.zeroValue0
 t2:=Tryz.underlying2
 a2:=Tryz.isAgg2
 z2:=Tryz.sizeOf2
 v2:=Tryz.zeroValue2
 t3:=Tryz.underlying3
 a3:=Tryz.isAgg3
 z3:=Tryz.sizeOf3
 v3:=Tryz.zeroValue3
 t4:=Tryz.underlying4
 a4:=Tryz.isAgg4
 z4:=Tryz.sizeOf4
 v4:=Tryz.zeroValue4
 t5:=Tryz.underlying5
 a5:=Tryz.isAgg5
 z5:=Tryz.sizeOf5
 v5:=Tryz.zeroValue5
 t9:=Tryz.underlying9
 a9:=Tryz.isAgg9
 z9:=Tryz.sizeOf9
 v9:=Tryz.zeroValue9
 t20:=Tryz.underlying20
 a20:=Tryz.isAgg20
 z20:=Tryz.sizeOf20
 v20:=Tryz.zeroValue20
 t21:=Tryz.underlying21
 a21:=Tryz.isAgg21
 z21:=Tryz.sizeOf21
 v21:=Tryz.zeroValue21
 t37:=Tryz.underlying123
 a37:=Tryz.isAgg123
 z37:=Tryz.sizeOf123
 v37:=Tryz.zeroValue123
 t46:=Tryz.underlying243
 a46:=Tryz.isAgg243
 z46:=Tryz.sizeOf243
 v46:=Tryz.zeroValue243
 t51:=Tryz.underlying252
 a51:=Tryz.isAgg252
 z51:=Tryz.sizeOf252
 v51:=Tryz.zeroValue252
 t53:=Tryz.underlying236
 a53:=Tryz.isAgg236
 z53:=Tryz.sizeOf236
 v53:=Tryz.zeroValue236
 t75:=Tryz.underlying206
 a75:=Tryz.isAgg206
 z75:=Tryz.sizeOf206
 v75:=Tryz.zeroValue206
 t76:=Tryz.underlying207
 a76:=Tryz.isAgg207
 z76:=Tryz.sizeOf207
 v76:=Tryz.zeroValue207
 t85:=Tryz.underlying225
 a85:=Tryz.isAgg225
 z85:=Tryz.sizeOf225
 v85:=Tryz.zeroValue225
 t127:=Tryz.underlying256
 a127:=Tryz.isAgg256
 z127:=Tryz.sizeOf256
 v127:=Tryz.zeroValue256
 t143:=Tryz.underlying257
 a143:=Tryz.isAgg257
 z143:=Tryz.sizeOf257
 v143:=Tryz.zeroValue257
 t145:=Tryz.underlying259
 a145:=Tryz.isAgg259
 z145:=Tryz.sizeOf259
 v145:=Tryz.zeroValue259
 t167:=Tryz.underlying224
 a167:=Tryz.isAgg224
 z167:=Tryz.sizeOf224
 v167:=Tryz.zeroValue224
 t168:=Tryz.underlying227
 a168:=Tryz.isAgg227
 z168:=Tryz.sizeOf227
 v168:=Tryz.zeroValue227
 t171:=Tryz.underlying235
 a171:=Tryz.isAgg235
 z171:=Tryz.sizeOf235
 v171:=Tryz.zeroValue235
 t173:=Tryz.underlying239
 a173:=Tryz.isAgg239
 z173:=Tryz.sizeOf239
 v173:=Tryz.zeroValue239
 t175:=Tryz.underlying241
 a175:=Tryz.isAgg241
 z175:=Tryz.sizeOf241
 v175:=Tryz.zeroValue241
 t210:=Tryz.underlying246
 a210:=Tryz.isAgg246
 z210:=Tryz.sizeOf246
 v210:=Tryz.zeroValue246
 t212:=Tryz.underlying251
 a212:=Tryz.isAgg251
 z212:=Tryz.sizeOf251
 v212:=Tryz.zeroValue251
 t213:=Tryz.underlying253
 a213:=Tryz.isAgg253
 z213:=Tryz.sizeOf253
 t232:=Tryz.underlying270
 a232:=Tryz.isAgg270
 z232:=Tryz.sizeOf270
 v232:=Tryz.zeroValue270
 t233:=Tryz.underlying271
 a233:=Tryz.isAgg271
 z233:=Tryz.sizeOf271
 v233:=Tryz.zeroValue271
 g15:=by kernel_rfl
 g16:=by kernel_rfl
 g17:=by kernel_rfl
 g18:=by kernel_rfl
 g19:=by kernel_rfl
 t80:=Tryz.underlying283
 a80:=Tryz.isAgg283
 z80:=Tryz.sizeOf283
 v80:=Tryz.zeroValue283
 i0:=by kernel_rfl
 i2:=by kernel_rfl
 i3:=by kernel_rfl
 i4:=by kernel_rfl
 i5:=by kernel_rfl
 i9:=by kernel_rfl
 i20:=by kernel_rfl
 i21:=by kernel_rfl
 i37:=by kernel_rfl
 i46:=by kernel_rfl
 i51:=by kernel_rfl
 i53:=by kernel_rfl
 i75:=by kernel_rfl
 i76:=by kernel_rfl
 i80:=by kernel_rfl
 i85:=by kernel_rfl
 i127:=by kernel_rfl
 i143:=by kernel_rfl
 i145:=by kernel_rfl
 i167:=by kernel_rfl
 i168:=by kernel_rfl
 i171:=by kernel_rfl
 i173:=by kernel_rfl
 i175:=by kernel_rfl
 i210:=by kernel_rfl
 i212:=by kernel_rfl
 i232:=by kernel_rfl
 i233:=by kernel_rfl
 m15:=by kernel_rfl
 m16:=by kernel_rfl
 m17:=by kernel_rfl
 m18:=by kernel_rfl
 m19:=by kernel_rfl
 c0:=by kernel_rfl
 c2:=by kernel_rfl
 c3:=by kernel_rfl
 c4:=by kernel_rfl
 c5:=by kernel_rfl
 c9:=by kernel_rfl
 c20:=by kernel_rfl
 c21:=by kernel_rfl
 c37:=by kernel_rfl
 c46:=by kernel_rfl
 c51:=by kernel_rfl
 c53:=by kernel_rfl
 c75:=by kernel_rfl
 c76:=by kernel_rfl
 c80:=by kernel_rfl
 c85:=by kernel_rfl
 c127:=by kernel_rfl
 c143:=by kernel_rfl
 c145:=by kernel_rfl
 c167:=by kernel_rfl
 c168:=by kernel_rfl
 c171:=by kernel_rfl
 c173:=by kernel_rfl
 c175:=by kernel_rfl
 c210:=by kernel_rfl
 c212:=by kernel_rfl
 c213:=by kernel_rfl
 c232:=by kernel_rfl
 c233:=by kernel_rfl}
open Go.RowKit in
theorem Sh.strconv_Atoi_err_var (s : ByteArray) (hl : s.size ≤ 18) (h : Lib.atoi s.data.toList = none) (tp : TypeId) (p : Value) (w : World) (hvar : w.var? Tryz.prog "strconv.ErrSyntax" = some #[.iface tp p]) :
 Calls Tryz.prog 185 #[.string s] w λe w'=>∃N,e= .returned (.tuple #[.int .i64 0,.iface 227 (.pointer (some ⟨N,0,none⟩))])/\w.heap.size<=N/\w'.heap[N]? =some (.cells #[.string ⟨#[65,116,111,105]⟩,.string s,.iface tp p] 246 (0,0))/\Below w.heap.size w w':=Any.strconv_Atoi_err_var Sh.laysC172 s hl h tp p w hvar
def Sh.lays190_ren:Go.Shelf.Ren:=⟨λ| 190=>237 | 125=>247 | 258=>246 | 128=>259 | 129=>240 | 302=>250 | 303=>251 | 304=>252 | 305=>253 | 306=>254 | 307=>255 | 308=>256 | 309=>257 | 310=>258 | 333=>260 | 329=>261 | 330=>262 | 334=>263 | 335=>264 | 336=>265 | 344=>266 | n=>n,λ| 31=>60 | 9=>9 | 3=>3 | 46=>243 | 0=>0 | 51=>252 | 53=>236 | 4=>4 | 183=>264 | 182=>263 | 131=>138 | 5=>5 | 218=>272 | 222=>276 | 228=>278 | 229=>279 | n=>n,λ| n=>n⟩
theorem Sh.lays190:Go.Proofs.Lays.n190 Tryz.prog Sh.lays190_ren:={
 mixed:=by kernel_rfl
 f125:=Tryz.func247.trans (congrArg some (by kernel_rfl))
 f128:=Tryz.func259.trans (congrArg some (by kernel_rfl))
 f129:=Tryz.func240.trans (congrArg some (by kernel_rfl))
 f190:=Tryz.func237.trans (congrArg some (by kernel_rfl))
 f258:=Tryz.func246.trans (congrArg some (by kernel_rfl))
 f302:=Tryz.func250.trans (congrArg some (by kernel_rfl))
 f303:=Tryz.func251.trans (congrArg some (by kernel_rfl))
 f304:=Tryz.func252.trans (congrArg some (by kernel_rfl))
 f305:=Tryz.func253.trans (congrArg some (by kernel_rfl))
 f306:=Tryz.func254.trans (congrArg some (by kernel_rfl))
 f307:=Tryz.func255.trans (congrArg some (by kernel_rfl))
 f308:=Tryz.func256.trans (congrArg some (by kernel_rfl))
 f309:=Tryz.func257.trans (congrArg some (by kernel_rfl))
 f310:=Tryz.func258.trans (congrArg some (by kernel_rfl))
 f329:=Tryz.func261.trans (congrArg some (by kernel_rfl))
 f330:=Tryz.func262.trans (congrArg some (by kernel_rfl))
 f333:=Tryz.func260.trans (congrArg some (by kernel_rfl))
 f334:=Tryz.func263.trans (congrArg some (by kernel_rfl))
 f335:=Tryz.func264.trans (congrArg some (by kernel_rfl))
 f336:=Tryz.func265.trans (congrArg some (by kernel_rfl))
 f344:=Tryz.func266.trans (congrArg some (by kernel_rfl))
 t0:=Tryz.underlying0
 a0:=Tryz.isAgg0
 z0:=Tryz.sizeOf0
 v0:=Tryz.zeroValue0
 t3:=Tryz.underlying3
 a3:=Tryz.isAgg3
 z3:=Tryz.sizeOf3
 v3:=Tryz.zeroValue3
 t4:=Tryz.underlying4
 a4:=Tryz.isAgg4
 z4:=Tryz.sizeOf4
 v4:=Tryz.zeroValue4
 t5:=Tryz.underlying5
 a5:=Tryz.isAgg5
 z5:=Tryz.sizeOf5
 v5:=Tryz.zeroValue5
 t9:=Tryz.underlying9
 a9:=Tryz.isAgg9
 z9:=Tryz.sizeOf9
 v9:=Tryz.zeroValue9
 t31:=Tryz.underlying60
 a31:=Tryz.isAgg60
 z31:=Tryz.sizeOf60
 v31:=Tryz.zeroValue60
 t46:=Tryz.underlying243
 a46:=Tryz.isAgg243
 z46:=Tryz.sizeOf243
 v46:=Tryz.zeroValue243
 t51:=Tryz.underlying252
 a51:=Tryz.isAgg252
 z51:=Tryz.sizeOf252
 v51:=Tryz.zeroValue252
 t53:=Tryz.underlying236
 a53:=Tryz.isAgg236
 z53:=Tryz.sizeOf236
 v53:=Tryz.zeroValue236
 t131:=Tryz.underlying138
 a131:=Tryz.isAgg138
 z131:=Tryz.sizeOf138
 v131:=Tryz.zeroValue138
 t182:=Tryz.underlying263
 a182:=Tryz.isAgg263
 z182:=Tryz.sizeOf263
 v182:=Tryz.zeroValue263
 t183:=Tryz.underlying264
 a183:=Tryz.isAgg264
 z183:=Tryz.sizeOf264
 v183:=Tryz.zeroValue264
 t218:=Tryz.underlying272
 a218:=Tryz.isAgg272
 z218:=Tryz.sizeOf272
 v218:=Tryz.zeroValue272
 t222:=Tryz.underlying276
 a222:=Tryz.isAgg276
 z222:=Tryz.sizeOf276
 v222:=Tryz.zeroValue276
 t228:=Tryz.underlying278
 a228:=Tryz.isAgg278
 z228:=Tryz.sizeOf278
 v228:=Tryz.zeroValue278
 t229:=Tryz.underlying279
 a229:=Tryz.isAgg279
 z229:=Tryz.sizeOf279
 v229:=Tryz.zeroValue279}
open Go.Sort Go.RowKit in
theorem Sh.slices_Sort_string (blk off cap:Nat) (ss:List (List UInt8)) (w:World) (hH:Holds encStr w blk off ss.toArray) (hblk:blk<w.heap.size) (hsz:ss.length<4611686018427387904):
 Calls Tryz.prog 237 #[.slice (some ⟨blk,off,none⟩) ss.length cap] w λe w'=>
  e= .returned (.tuple #[])/\∃n os,w'=grow (putRow encStr (Sort.ahead w n) blk off (ss.mergeSort λx y=>decide (x<=y)).toArray) os:=Any.slices_Sort_string Sh.lays190 blk off cap ss w hH hblk hsz
def Sh.lays194_ren:Go.Shelf.Ren:=⟨λ| 194=>238 | n=>n,λ| 31=>60 | 9=>9 | 3=>3 | 4=>4 | 0=>0 | n=>n,λ| n=>n⟩
theorem Sh.lays194:Go.Proofs.Lays.n194 Tryz.prog Sh.lays194_ren:={
 mixed:=by kernel_rfl
 f194:=Tryz.func238.trans (congrArg some (by kernel_rfl))
 t0:=Tryz.underlying0
 a0:=Tryz.isAgg0
 z0:=Tryz.sizeOf0
 v0:=Tryz.zeroValue0
 t3:=Tryz.underlying3
 a3:=Tryz.isAgg3
 z3:=Tryz.sizeOf3
 v3:=Tryz.zeroValue3
 t4:=Tryz.underlying4
 a4:=Tryz.isAgg4
 z4:=Tryz.sizeOf4
 v4:=Tryz.zeroValue4
 t9:=Tryz.underlying9
 a9:=Tryz.isAgg9
 z9:=Tryz.sizeOf9
 v9:=Tryz.zeroValue9
 t31:=Tryz.underlying60
 a31:=Tryz.isAgg60
 z31:=Tryz.sizeOf60
 v31:=Tryz.zeroValue60}
open Go.RowKit Go.Lib Go.Sort in
theorem Sh.slices_Compact_string (blk off cap:Nat) (zs:List (List UInt8)) (w:World) (hH:Holds encStr w blk off zs.toArray) (hsz:zs.length<=9223372036854775807) (hcap:zs.length<=cap):
 Calls Tryz.prog 238 #[.slice (some ⟨blk,off,none⟩) zs.length cap] w λe w'=>e= .returned (.slice (some ⟨blk,off,none⟩) (Lib.compact zs).length cap)/\∃q,w'=putRow encStr (Sort.ahead w q) blk off (Lib.compact zs++List.replicate (zs.length-(Lib.compact zs).length) []).toArray:=Any.slices_Compact_string Sh.lays194 blk off cap zs w hH hsz hcap
open Go.RowKit Go.Lib Go.Sort in
theorem Sh.slices_Compact_string_empty (a:Option Addr) (cap:Nat) (w:World):
 Calls Tryz.prog 238 #[.slice a 0 cap] w λe w'=>e= .returned (.slice a 0 cap)/\w'=w:=Any.slices_Compact_string_empty Sh.lays194 a cap w
open Go.RowKit Go.Sort in
theorem Sh.slices_Sort_string_none (p:Option Addr) (cap:Nat) (w:World):
 Calls Tryz.prog 237 #[.slice p 0 cap] w λe w'=>e= .returned (.tuple #[])/\w'=w:=Any.slices_Sort_string_none Sh.lays190 p cap w
end
section
open Go.RowKit
theorem Qfm (l : List ByteArray) : ATake Tryz.prog 237 1 (eL l) [] false true (eL (Ma l)) := by
  have h := MP oneS (P := Tryz.prog) (f := 237) (by unfold Ee; kernel_rfl) (λl => l.mergeSort λx y => decide (x ≤ y)) (λl => List.length_mergeSort _) (λl x h => (List.mergeSort_perm l _).mem_iff.1 h) (λoa cap w => Sh.slices_Sort_string_none oa cap w) (λg cap l w h h2 h3 => Sh.slices_Sort_string g 0 cap l w h h2 h3) l
  exact h
theorem Qfn (l : List ByteArray) : ATake Tryz.prog 238 1 (eL l) [] false false (eL (XB l)) := by
  have h := MQ oneS (P := Tryz.prog) (f := 238) (by unfold Ee; kernel_rfl) Lib.compact VT Qbr (λoa cap w => Sh.slices_Compact_string_empty oa cap w) (λg cap l w h h2 h3 => (Sh.slices_Compact_string g 0 cap l w h h2 h3).mono (by rintro e w' ⟨h4, q, h5⟩; exact ⟨h4, q, _, by have := VT l; simp; omega, h5⟩)) l
  exact h
open GoE (enc wide)
def Ek (s_ : ByteArray) (k0 : Nat) (a0 : ByteArray) (_ : Unit) : Rd Z (Unit) (Int) := (bif (Op.bytesLess a0.toList s_.toList) then (.next ()) else (.brk ((k0 : Nat) : Int)))
def El (k0 : Nat) (_ : Unit) : Int := ((k0 : Nat) : Int)
def Ex (list : Z) (s_ : ByteArray) : Z := (Out.on (Xp (Ek s_) El list 0 ()) (λy0 => (bif (decide (y0 < (list.length : Int)) && ((nth list y0.toNat).toList == s_.toList)) then list else List.take y0.toNat list ++ [s_] ++ (List.drop y0.toNat list))))
theorem AZ (list : Z) (s_ : ByteArray) (hp : list.length < 1073741824) : ACalls Tryz.prog 213 [.h list,.s s_] (.h (Ex list s_)) := by
 refine en Qb Tryz.func213 λw0 F0 hG => ?_
 refine sn Qb [0, 1, 4] [] p0 ?_
 refine tn Qb [0, 1, 4, 5] [] p0 ?_
 refine Qc ?_
 refine mz [(4,.e 0), (5,.i 0)] [] [] [] ?_
 refine wT 0 0 .sh list (λhw1 hl2 => ?_)
 refine Qiq (Ek s_) El list () (λk0 _ => [(5,.i ((k0 : Nat) : Int))]) [5] (λy0 => [(5,.i y0)]) [5] (λy0 => 0 ≤ y0 ∧ y0 ≤ (list.length : Int)) wf0 (λk0 s0 hk0 U => ?_) (λk0 s0 hk0 U => ?_) (λy0 hD0 => ?_)
 ·obtain ⟨a0, V⟩ := Xs (l := list) (i := k0) hk0
  refine Qc ?_
  refine sn Qb [0, 1, 4, 5, 18] [] (pl 2 list (pe 3 (Qs (decide_eq_true (p := ((k0 : Nat) : Int) < (list.length : Int)) (by omega))) (pn 7 V p0))) ?_
  refine ck (Op.bytesLess a0.toList s_.toList) (λh3 => ?_) (λh3 => ?_)
  ·refine Qi ?_
   refine Qx ?_
   refine qn Qb [0, 1, 4, 5] [] (pe 1 (Js (Qq k0 (by omega))) p0) ?_
   exact xw _ (Qw V (X6 h3 (rfl)) U)
  refine Xe ?_
  exact xw ((k0 : Nat) : Int) ⟨GV V (Qy h3 (rfl)) U, by first|omega|(simp only [List.length_set]; omega)⟩
 ·refine Qc ?_
  refine sn Qb [0, 1, 4, 5, 18] [] (pl 2 list (pe 3 (Qs (decide_eq_false (p := ((k0 : Nat) : Int) < (list.length : Int)) (by omega))) p0)) ?_
  refine ckF ?_
  refine Xe ?_
  exact xw ((k0 : Nat) : Int) ⟨Xy hk0 (rfl) U, by first|omega|(simp only [List.length_set]; omega)⟩
 have hD0_0 := hD0.2
 refine Qc ?_
 refine Qc ?_
 refine jn [(32,.b (decide (y0 < (list.length : Int)) && ((nth list y0.toNat).toList == s_.toList)))] [] [] [] (decide (y0 < (list.length : Int))) (λh4 => ?_) (λh4 => ?_) ?_
 ·have h4d := of_decide_eq_true h4
  have hx5 := ng list y0.toNat
  refine rn Qb [0, 1, 4, 5, 32] [] (pl 2 list (pt 3 h4 (pg 7 y0 hx5 p0))) ?_
  exact ⟨rfl, Qh (by rw [h4] <;> kernel_rfl)⟩
 ·refine rn Qb [0, 1, 4, 5, 32] [] (pl 2 list (pf 3 h4 p0)) ?_
  exact ⟨rfl, Qh (by rw [h4] <;> kernel_rfl)⟩
 refine ck (decide (y0 < (list.length : Int)) && ((nth list y0.toNat).toList == s_.toList)) (λh6 => ?_) (λh6 => ?_)
 ·refine sn Qb [0, 1, 4, 5] [] p0 ?_
  refine Qk ?_
  exact ph0 [] (Ur hD0.1 (X6 h6 (rfl)))
 refine Qi ?_
 have hl7 : List.length (List.take y0.toNat list) ≤ 1073741824 := Ei (AI y0.toNat (hw1))
 refine su Qb [(6,.one (.slc (.own true 2624) 1 (([] ++ (eL (List.take y0.toNat list))) ++ [[.s s_]])))] [1, 32] [] [] (pe 3 (VJ .sh 1 y0.toNat y0 list rfl) (px (Ns (lo := 0) (hi := y0) (n := (List.length (eL list))) (Qdn (by omega) (by omega) (by omega))) (po 4 (.flat) (px (Ft (n := (([] : List (List PV)).length + ((eL (List.take y0.toNat list)) : List (List PV)).length)) (Lb (rfl) (Y5 (List.take y0.toNat list)) (by first|omega|(simp only [List.length_cons, List.length_nil]; omega) | (simp; omega) | simp))) (px (U5 (Up (List.take y0.toNat list))) (px (Ft (n := ((([] ++ (eL (List.take y0.toNat list))) : List (List PV)).length + ([[.s s_]] : List (List PV)).length)) (by simp [Y5]; omega)) p0)))))) ?_
 refine eqn [(6,.o 2624 (List.take y0.toNat list ++ [s_]))] [6] [] [] (by rw [show (([] ++ (eL (List.take y0.toNat list))) ++ [[.s s_]]) = (eL (List.take y0.toNat list ++ [s_])) from Uw (rfl) (rfl)]; first | done | kernel_rfl) ?_
 refine wT 6 0 (.own true 2624) (List.take y0.toNat list ++ [s_]) (λhw8 hl9 => ?_)
 have hl10 : List.length (List.drop y0.toNat list) ≤ 1073741824 := Ei (AJ y0.toNat (hw1))
 refine su Qb [(4,.one (.slc (.own true 2944) 1 ((eL (List.take y0.toNat list ++ [s_])) ++ (eL (List.drop y0.toNat list)))))] [0, 4, 5, 6] [] [] (pe 3 (PS .sh 1 y0.toNat y0 list rfl) (px (Ns (lo := y0) (hi := (((eL list) : List (List PV)).length : Int)) (n := (List.length (eL list))) (PT (by omega) (by omega))) (po 4 (.flat) (pa (List.take y0.toNat list ++ [s_]) (List.drop y0.toNat list) (px (U5 (Up (List.drop y0.toNat list))) p0))))) ?_
 refine eqn [(4,.o 2944 (List.take y0.toNat list ++ [s_] ++ (List.drop y0.toNat list)))] [4] [] [] (by rw [show ((eL (List.take y0.toNat list ++ [s_])) ++ (eL (List.drop y0.toNat list))) = (eL (List.take y0.toNat list ++ [s_] ++ (List.drop y0.toNat list))) from Uw (rfl) (rfl)]; first | done | kernel_rfl) ?_
 refine Qk ?_
 exact ph0 [2944] (Ur hD0.1 (Qy h6 (rfl)))
theorem toList_inj {a b : ByteArray} : (a.toList == b.toList) = decide (a = b) := by
  rw [ByteArray.toList_eq, ByteArray.toList_eq, Bool.eq_iff_iff]
  simp only [beq_iff_eq, decide_eq_true_eq]
  exact ⟨λh => ByteArray.ext (Array.ext' h), λh => h ▸ rfl⟩
def Dd (l : List ByteArray) (s : ByteArray) : Nat := (l.takeWhile λx => bl x s).length
theorem XI (a : ByteArray) (l : List ByteArray) (s : ByteArray) : Dd (a :: l) s = if bl a s = true then Dd l s + 1 else 0 := by
  unfold Dd
  rw [List.takeWhile_cons]
  cases bl a s <;> simp
theorem JR (s : ByteArray) : ∀ (l : List ByteArray) (k : Nat), Xp (Ek s) El l k () = .brk (((k + Dd l s : Nat)) : Int)
  | [], k => by simp [Xp, El, Dd]
  | a :: l, k => by
    rw [XI]
    simp only [Xp, Ek]
    cases h : Op.bytesLess a.toList s.toList with
    | true =>
      have h' : bl a s = true := h
      simp only [cond_true, h', if_true]
      rw [JR s l (k + 1), show k + 1 + Dd l s = k + (Dd l s + 1) by omega]
    | false =>
      have h' : bl a s = false := h
      simp [h']
theorem RR (s : ByteArray) : ∀ l : List ByteArray, AT l s = bif (decide (((Dd l s : Nat) : Int) < (l.length : Int)) && ((nth l (Dd l s)).toList == s.toList)) then l else List.take (Dd l s) l ++ [s] ++ List.drop (Dd l s) l
  | [] => by simp [AT, Dd]
  | a :: l => by
    rw [XI, AT]
    cases h : bl a s with
    | true =>
      simp only [if_true]
      rw [RR s l]
      have e : nth (a :: l) (Dd l s + 1) = nth l (Dd l s) := rfl
      rw [e, show decide ((((Dd l s + 1 : Nat)) : Int) < ((a :: l).length : Int)) = decide (((Dd l s : Nat) : Int) < (l.length : Int)) by
        rw [Bool.eq_iff_iff]; simp only [decide_eq_true_eq, List.length_cons]; omega]
      generalize (decide (((Dd l s : Nat) : Int) < (l.length : Int)) && ((nth l (Dd l s)).toList == s.toList)) = c
      cases c <;> simp
    | false =>
      have e : nth (a :: l) 0 = a := rfl
      simp only [Bool.false_eq_true, if_false]
      rw [e, toList_inj]
      by_cases hs : a = s
      · simp [hs]
      simp [hs]
theorem BA (l : List ByteArray) (s : ByteArray) : Ex l s = AT l s := by
  unfold Ex
  rw [JR, RR]
  simp only [Out.on, Nat.zero_add, Int.toNat_natCast]
theorem RT (l : List ByteArray) (s : ByteArray) : List.length (Ex l s) ≤ List.length l + 1 := by rw [BA]; exact IE s l
open GoE (enc wide)
def Jv (n:Yy):Bool:=((n.1==(8:Int))|| (n.1==(9:Int)))
theorem Nt (n:Yy):ACalls Tryz.prog 225 [.a [.i n.1,.i n.2.1,.i n.2.2.1,.s n.2.2.2.1,.i n.2.2.2.2.1,.i n.2.2.2.2.2.1,.s n.2.2.2.2.2.2]] (.b (Jv n)):=by
 refine en Qb Tryz.func225 λw0 F0 hG=> ?_
 refine sn Qb [1,2] [1] p0 <| Qc <| mz [(1,.p 1 0),(2,.b false)] [0] [(1, [.i n.1,.i n.2.1,.i n.2.2.1,.s n.2.2.2.1,.i n.2.2.2.2.1,.i n.2.2.2.2.2.1,.s n.2.2.2.2.2.2])] [] <| jn [(2,.b ((n.1==(8:Int))|| (n.1==(9:Int))))] [1,2] [] [1] (n.1==(8:Int)) (λh1=> ?_) (λh1=> ?_) ?_
 ·refine rn Qb [2] [] (pt 2 h1 p0) ?_;exact zA (by rw[h1]<;>kernel_rfl)
 ·refine rn Qb [2] [] (pf 2 h1 p0) ?_;exact zA (by rw[h1]<;>kernel_rfl)
 exact Qk <| pb [] (show Jv n=((n.1==(8:Int))|| (n.1==(9:Int))) from rfl)
def F9 (l:Z):Z:=XB (Ma l)
theorem Te (l:Z):ACalls Tryz.prog 226 [.h l] (.h (F9 l)):=by
 refine en Qb Tryz.func226 λw0 F0 hG=> ?_
 refine sn Qb [0,2] [] p0 <| tn Qb [2,3] [] (pc 1 (VQ l) p0) <| mz [(2,.e 0),(3,.o 320 l)] [0] [] [] <| DO [320] rfl ?_
 refine su Qb [(3,.one (.slc (.own false 320) 1 (Qai (eL l) 0 4294967296 (List.flatten (eL (Ma l))))))] [3] [] [] (po 1 (.take false true (eL (Ma l))) (px (R9 (Qfm l)) p0)) <| eqn [(3,.q 320 (Ma l))] [3] [] [] (by rw[Qbs (λ_=>rfl) (AQ _)]<;>kernel_rfl) ?_
 exact sn Qb [2] [] (po 1 (.take false false (eL (XB (Ma l)))) (px (R9 (Qfn (Ma l))) p0)) <| Qk <| ph0 [576] (show F9 l=XB (Ma l) from rfl)
def Vg (q:List Yy) (negated:Bool) (k0:Nat) (a0:Bool) (s0:Z):Rd Z Z Z:=(bif ((Jv (nth q k0))&&(a0==negated)) then (.next (s0++ [(nth q k0).2.2.2.1])) else (.next s0))
def W4 (_:Nat) (s0:Z):Z:=s0
def Vs (q:List Yy) (negated:Bool):Z:=(Out.on (Xp (Vg q negated) W4 (Xt q) 0 []) (λy0=>(F9 y0)))
theorem Mc (q:List Yy) (negated:Bool):ACalls Tryz.prog 208 [.h q,.b negated] (.h (Vs q negated)):=by
 refine en Qb Tryz.func208 λw0 F0 hG=> ?_
 have hnl:=Oi q;refine sn Qb [0,1,4] [] p0 <| tn Qb [0,1,4,5] [] p0 <| Qc <| tu Qb [(4,.e 0),(5,.one (.slc (.own true 512) 1 [])),(10,.o 640 (Xt q)),(11,.i ((Xt q).length:Int)),(12,.i 0)] [] [] [] (pc 1 (Pu q) (pl 2 (Xt q) p0)) <| wT 10 0 (.own true 640) (Xt q) (λhw1 hl2=> ?_)
 refine AK (Vg q negated) W4 (Xt q) [] (λk0 s0=> [(5,.o 147203 s0),(12,.i (k0:Int))]) [5,12] (λy0=> [(5,.o 147353 y0)]) [0,1,5,10,11,12] (λk0 s0=>List.length s0<=k0) (Yg [(512,147203)] (by kernel_rfl)) (by simp) (λk0 s0 hk0 U=> ?_) (λk0 s0 hk0 U=> ?_) (λy0 hD0=> ?_)
 ·have hA0_0:=U.2;obtain ⟨a0,V⟩:=Xs (l:=Xt q) (i:=k0) hk0;refine su Qb [(13,.b true)] [] [] [] (pe 0 (zB ((k0:Int)<((Xt q).length:Int))) p0) <| Qc <| ckT <| Qi <| Qc <| Qx <| sn Qb [0,1,4,5,6,7,10,11,12] [] (pN 1 V p0) <| Qc <| mz [(6,.i (k0:Int)),(7,.b a0)] [13] [] [] <| jn [(26,.b ((Jv (nth q k0))&&(a0==negated)))] [7] [] [] (Jv (nth q k0)) (λh3=> ?_) (λh3=> ?_) ?_
  ·refine wT 0 0 .sh q (λhw5 hl6=> ?_);have hx4:=ng q k0;refine rn Qb [0,1,4,5,6,10,11,12,26] [] (pn 2 hx4 (pc 4 (cb h3 (Nt (nth q k0))) p0)) ?_;exact zA (by rw[h3]<;>kernel_rfl)
  ·refine wT 0 0 .sh q (λhw8 hl9=> ?_);have hx7:=ng q k0;refine ru Qb [(26,.b false)] [7] [] [] (pn 2 hx7 (pc 4 (cb h3 (Nt (nth q k0))) p0)) ?_;exact zA (by rw[h3]<;>kernel_rfl)
  refine ck ((Jv (nth q k0))&&(a0==negated)) (λh10=> ?_) (λh10=> ?_)
  ·have h10r:((a0==negated))=true:=MK h10;have h10rd:=eq_of_beq h10r;refine wT 0 0 .sh q (λhw12 hl13=> ?_);have hx11:=ng q k0;refine wT 5 0 (.own true 147203) s0 (λhw14 hl15=> ?_);refine ru Qb [(5,.one (.slc (.own true 2176) 1 ((eL s0)++ [[.s ((nth q k0).2.2.2.1)]])))] [5,6,26] [] [] (pn 3 hx11 (pa s0 [(nth q k0).2.2.2.1] p0)) ?_;refine eqn [(5,.o 2176 (s0++ [(nth q k0).2.2.2.1]))] [5] [] [] (by rw[show ((eL s0)++ [[.s ((nth q k0).2.2.2.1)]])=(eL (s0++ [(nth q k0).2.2.2.1])) from Uw (rfl) (rfl)];first | done | kernel_rfl) ?_;refine rn Qb [0,1,4,5,10,11,12] [] (pe 0 (Js (Qq k0 (by omega))) p0) ?_;exact Exists.intro (s0++ [(nth q k0).2.2.2.1]) (And.intro (Yg [(2176,147203)] (by kernel_rfl)) ⟨Qw V (X6 h10 (rfl)) U.1,by first|omega|(simp;omega) | simp⟩)
  refine Qi <| rn Qb [0,1,4,5,10,11,12] [] (pe 0 (Js (Qq k0 (by omega))) p0) ?_
  exact xw s0 ⟨Qw V (Qy h10 (rfl)) U.1,by first|omega|(simp;omega) | simp⟩
 ·have hA0_0:=U.2;exact su Qb [(13,.b false)] [] [] [] (pe 0 (zC ((k0:Int)<((Xt q).length:Int))) p0) <| Qc <| ckF <| Xe <| Exists.intro _ (And.intro (Yg [(147203,147353)] (by kernel_rfl)) (Xy hk0 (rfl) U.1))
 exact sn Qb [4] [] (pc 1 (Te y0) p0) <| Qk <| ph0 [] (Ur hD0 (rfl))
def Yc (q:List Yy):Z:=(Vs q false)
theorem Pz (q:List Yy):ACalls Tryz.prog 189 [.h q] (.h (Yc q)):=by
 refine en Qb Tryz.func189 λw0 F0 hG=> ?_
 exact sn Qb [0,2] [] p0 <| tn Qb [2] [] (pc 1 (Mc q false) p0) <| Qk <| ph0 [] (show Yc q=(Vs q false) from rfl)
def Xu (q:List Yy):Z:=(Vs q true)
theorem P0 (q:List Yy):ACalls Tryz.prog 190 [.h q] (.h (Xu q)):=by
 refine en Qb Tryz.func190 λw0 F0 hG=> ?_
 exact sn Qb [0,2] [] p0 <| tn Qb [2] [] (pc 1 (Mc q true) p0) <| Qk <| ph0 [] (show Xu q=(Vs q true) from rfl)
def Cv (q:List Yy) (under:Bool) (k0:Nat) (a0:Bool) (s0:Z):Rd Z Z Z:=(bif ((Xi ((nth q k0).1) 8 9)&&(a0==under)) then (.next (Ex s0 ((nth q k0).2.2.2.1))) else (.next s0))
def Cw (_:Nat) (s0:Z):Z:=s0
def Ab (q:List Yy) (under:Bool):Z:=(Out.on (Xp (Cv q under) Cw (Zm q) 0 []) (λy0=>y0))
theorem Nu (q:List Yy) (under:Bool):ACalls Tryz.prog 201 [.h q,.b under] (.o 0 (Ab q under)):=by
 refine en Qb Tryz.func201 λw0 F0 hG=> ?_
 have hnl:=AP q;refine sn Qb [0,1,4] [] p0 <| tn Qb [0,1,4,5] [] p0 <| tu Qb [(4,.e 0),(5,.one (.slc (.own true 512) 1 [])),(6,.o 640 (Zm q))] [] [] [] (pc 1 (Pv q) p0) <| Qc <| su Qb [(7,.i 0)] [] [] [] p0 <| wT 6 0 (.own true 640) (Zm q) (λhw1 hl2=> ?_)
 refine AK (Cv q under) Cw (Zm q) [] (λk0 s0=> [(5,.h s0),(7,.i (k0:Int))]) [5,7] (λy0=> [(5,.h y0)]) [0,1,5,6,7] (λk0 s0=>List.length s0<=k0) (PZ [] [512] [] [] (by kernel_rfl)) (by simp) (λk0 s0 hk0 U=> ?_) (λk0 s0 hk0 U=> ?_) (λy0 hD0=> ?_)
 ·have hA0_0:=U.2;obtain ⟨a0,V⟩:=Xs (l:=Zm q) (i:=k0) hk0;refine Qc <| su Qb [(14,.b true)] [] [] [] (pl 2 (Zm q) (pe 3 (zB ((k0:Int)<((Zm q).length:Int))) p0)) <| ckT <| Qi <| Qc <| Qx <| Qc <| jn [(30,.b ((Xi ((nth q k0).1) 8 9)&&(a0==under)))] [14] [] [] (Xi ((nth q k0).1) 8 9) (λh3=> ?_) (λh3=> ?_) ?_
  ·refine wT 0 0 .sh q (λhw5 hl6=> ?_);have hx4:=ng q k0;refine rn Qb [0,1,4,5,6,7,30] [] (pn 2 hx4 (pc 5 (cb h3 (Zz ((nth q k0).1) 8 9)) (pN 9 V p0))) ?_;exact zA (by rw[h3]<;>kernel_rfl)
  ·refine wT 0 0 .sh q (λhw8 hl9=> ?_);have hx7:=ng q k0;refine rn Qb [0,1,4,5,6,7,30] [] (pn 2 hx7 (pc 5 (cb h3 (Zz ((nth q k0).1) 8 9)) p0)) ?_;exact zA (by rw[h3]<;>kernel_rfl)
  refine ck ((Xi ((nth q k0).1) 8 9)&&(a0==under)) (λh10=> ?_) (λh10=> ?_)
  ·have h10r:((a0==under))=true:=MK h10;have h10rd:=eq_of_beq h10r;refine wT 0 0 .sh q (λhw12 hl13=> ?_);have hx11:=ng q k0;refine rn Qb [0,1,4,5,6,7] [] (pn 3 hx11 (pc 6 (AZ s0 ((nth q k0).2.2.2.1) (by omega)) p0)) ?_;refine qn Qb [0,1,4,5,6,7] [] (pe 1 (Js (Qq k0 (by omega))) p0) ?_;exact xw (Ex s0 ((nth q k0).2.2.2.1)) ⟨Qw V (X6 h10 (rfl)) U.1,(by first|omega|(have hz:=RT s0 (nth q k0).2.2.2.1;omega))⟩
  refine Qi <| rn Qb [0,1,4,5,6,7] [] (pe 1 (Js (Qq k0 (by omega))) p0) ?_
  exact xw s0 ⟨Qw V (Qy h10 (rfl)) U.1,(by first|omega|(have hz:=RT s0 (nth q k0).2.2.2.1;omega))⟩
 ·have hA0_0:=U.2;exact Qc <| su Qb [(14,.b false)] [] [] [] (pl 2 (Zm q) (pe 3 (zC ((k0:Int)<((Zm q).length:Int))) p0)) <| ckF <| Xe <| xw _ (Xy hk0 (rfl) U.1)
 refine wT 5 0 .sh y0 (λhw14 hl15=> ?_);exact sn Qb [4] [] (po 2 (.flat) (px (Ft (n:=(([]:List (List PV)).length+((eL y0):List (List PV)).length)) (Lb (rfl) (Y5 y0) (by first|omega|(simp only[List.length_cons,List.length_nil];omega) | (simp;omega) | simp))) (px (U5 (Up y0)) p0))) <| Qk <| po0 [] (Ur hD0 (rfl))
def Zn (q:List Yy):Z:=(Ab q false)
theorem P1 (q:List Yy):ACalls Tryz.prog 177 [.h q] (.o 0 (Zn q)):=by
 refine en Qb Tryz.func177 λw0 F0 hG=> ?_
 exact sn Qb [0,2] [] p0 <| tn Qb [2] [] (pc 1 (Nu q false) p0) <| Qk <| po0 [] (show Zn q=(Ab q false) from rfl)
def Zo (q:List Yy):Z:=(Ab q true)
theorem P2 (q:List Yy):ACalls Tryz.prog 179 [.h q] (.o 0 (Zo q)):=by
 refine en Qb Tryz.func179 λw0 F0 hG=> ?_
 exact sn Qb [0,2] [] p0 <| tn Qb [2] [] (pc 1 (Nu q true) p0) <| Qk <| po0 [] (show Zo q=(Ab q true) from rfl)
theorem ED (n : Yy) : Xi n.1 8 9 = Jv n := by
  unfold Xi Jv
  rw [Bool.eq_iff_iff]
  simp
  omega
theorem XJ (q : List Yy) (b : Bool) : ∀ (l : List Bool) (k : Nat) (s : List ByteArray), ∃ m, Xp (Vg q b) W4 l k s = .brk (s ++ m) ∧ ∀ t, Xp (Cv q b) Cw l k t = .brk (Ok t m)
  | [], k, s => ⟨[], by simp [Xp, W4], λt => by simp [Xp, Cw, Ok]⟩
  | a :: l, k, s => by
    simp only [Xp, Vg, Cv, ED]
    cases h : (Jv (nth q k) && (a == b)) with
    | true =>
      obtain ⟨m, h1, h2⟩ := XJ q b l (k + 1) (s ++ [(nth q k).2.2.2.1])
      refine ⟨(nth q k).2.2.2.1 :: m, ?_, λt => ?_⟩
      · simp only [cond_true]; rw [h1, List.append_assoc]; rfl
      simp only [cond_true]; rw [h2, BA]; rfl
    | false =>
      obtain ⟨m, h1, h2⟩ := XJ q b l (k + 1) s
      exact ⟨m, by simp only [cond_false]; exact h1, λt => by simp only [cond_false]; exact h2 t⟩
theorem RU (q : List Yy) (b : Bool) : Ab q b = Vs q b := by
  unfold Ab Vs
  obtain ⟨m, h1, h2⟩ := XJ q b (Xt q) 0 []
  rw [JL, h1, h2]
  simp only [Out.on, List.nil_append]
  exact (Qbu m).symm
theorem MS (q : List Yy) : Zn q = Yc q := RU q false
theorem MT (q : List Yy) : Zo q = Xu q := RU q true
open GoE (enc wide)
def Ki (d:List Y8) (k0:Nat) (a0:Y8) (_:Unit):Rd (Bool) (Unit) (Unit):=(bif ((!(Yo a0.1))|| (bif decide ((k0:Int)>(0:Int)) then ((!(Op.bytesLess ((nth d ((k0:Int)-1).toNat).1).toList a0.1.toList))|| (!(Q9 a0.2))) else (!(Q9 a0.2)))) then (.ret false) else (.next ()))
def V0 (_:Nat) (_:Unit):Unit:=()
def Ja (d:List Y8):Bool:=(Out.on (Xp (Ki d) V0 d 0 ()) (λ_=>decide ((d.length:Int)<=(5:Int))))
theorem Si (d:List Y8):ACalls Tryz.prog 187 [.h d] (.b (Ja d)):=by
 refine en Qb Tryz.func187 λw0 F0 hG=> ?_
 refine sn Qb [0,2] [] p0 <| Qc <| tn Qb [0,2,5,6,7] [] (pl 1 d p0) <| mz [(2,.b false),(5,.h d),(6,.i (d.length:Int)),(7,.i 0)] [] [] [] <| wT 0 0 .sh d (λhw1 hl2=> ?_)
 refine M8 (Ki d) V0 d () (λk0 _=> [(7,.i (k0:Int))]) [7] (λ_=> []) [5,6,7] wf0 (λk0 s0 hk0 U=> ?_) (λk0 s0 hk0 U=> ?_) (λy0 hD0=> ?_)
 ·obtain ⟨a0,V⟩:=Xs (l:=d) (i:=k0) hk0;refine sn Qb [0,2,5,6,7,8] [] (pe 0 (zB ((k0:Int)<(d.length:Int))) p0) <| Qc <| ckT <| Qi <| Qc <| Qx <| tn Qb [0,2,3,4,5,6,7] [4] (pn 1 V p0) <| Qc <| mz [(3,.i (k0:Int)),(4,.p 4 0)] [] [(4, [.s a0.1,.h a0.2])] [] <| jn [(36,.b ((!(Yo a0.1))|| (bif decide ((k0:Int)>(0:Int)) then ((!(Op.bytesLess ((nth d ((k0:Int)-1).toNat).1).toList a0.1.toList))|| (!(Q9 a0.2))) else (!(Q9 a0.2)))))] [3,4] [] [4] (!(Yo a0.1)) (λh3=> ?_) (λh3=> ?_) ?_
  ·have h3n:(Yo a0.1)=false:=Ht h3;refine rN Qb Zf [0,2,5,6,7,36] [] (pc 2 (cb h3n (Ju a0.1)) (pe 3 (show .b (!false)= .b true from rfl) p0)) ?_;exact zA (by rw[h3]<;>kernel_rfl)
  ·have h3n:(Yo a0.1)=true:=Ka h3;refine Ya (decide ((k0:Int)>(0:Int))) (λh4=> ?_) (λh4=> ?_)
   ·have h4d:=of_decide_eq_true h4;refine Ya (!(Op.bytesLess ((nth d ((k0:Int)-1).toNat).1).toList a0.1.toList)) (λh5=> ?_) (λh5=> ?_)
    ·have hx6:=ng d ((k0:Int)-1).toNat;refine rN Qb Zf [0,2,5,6,7,36] [] (pc 2 (cb h3n (Ju a0.1)) (pe 3 (show .b (!true)= .b false from rfl) (pt 6 h4 (pe 10 (Js (IntWalk.i64_in ((k0:Int)-1) (by omega))) (pg 11 ((k0:Int)-1) hx6 (pt 16 h5 p0)))))) ?_;exact zA (by rw[h3,h4,h5]<;>kernel_rfl)
    have hx7:=ng d ((k0:Int)-1).toNat;refine rN Qb Zf [0,2,5,6,7,36] [] (pc 2 (cb h3n (Ju a0.1)) (pe 3 (show .b (!true)= .b false from rfl) (pt 6 h4 (pe 10 (Js (IntWalk.i64_in ((k0:Int)-1) (by omega))) (pg 11 ((k0:Int)-1) hx7 (pf 16 h5 (pc 22 (Ua a0.2) p0))))))) ?_;exact zA (by rw[h3,h4,h5]<;>kernel_rfl)
   refine rN Qb Zf [0,2,5,6,7,36] [] (pc 2 (cb h3n (Ju a0.1)) (pe 3 (show .b (!true)= .b false from rfl) (pf 6 h4 (pc 22 (Ua a0.2) p0)))) ?_;exact zA (by rw[h3,h4]<;>kernel_rfl)
  refine ck ((!(Yo a0.1))|| (bif decide ((k0:Int)>(0:Int)) then ((!(Op.bytesLess ((nth d ((k0:Int)-1).toNat).1).toList a0.1.toList))|| (!(Q9 a0.2))) else (!(Q9 a0.2)))) (λh8=> ?_) (λh8=> ?_)
  ·refine su Qb [] [36] [] [] p0 <| Qk ?_
   have hr9:(Xp (Ki d) V0 d 0 ())= .ret false:=Z6 V (X6 h8 (rfl)) U;exact pb [] (M5 hr9)
  refine Qi <| rn Qb [0,2,5,6,7] [] (pe 0 (Js (Qq k0 (by omega))) p0) ?_
  exact xw _ (Qw V (Qy h8 (rfl)) U)
 ·exact sn Qb [0,2,5,6,7,8] [] (pe 0 (zC ((k0:Int)<(d.length:Int))) p0) <| Qc <| ckF <| Xe <| xw _ (Xy hk0 (rfl) U)
 exact sn Qb [2] [] (pl 1 d p0) <| Qk <| pb [] (Ur hD0 (rfl))
def Ub (d:List Y8) (k0:Nat) (a0:Y8) (_:Unit):Rd (Bool) (Unit) (Unit):=(bif ((!(Ye a0.1))|| ((!(Yw a0.2))|| (decide ((k0:Int)>(0:Int))&&(!(Op.bytesLess ((nth d ((k0:Int)-1).toNat).1).toList a0.1.toList))))) then (.ret false) else (.next ()))
def Hu (_:Nat) (_:Unit):Unit:=()
def Wv (d:List Y8):Bool:=(Out.on (Xp (Ub d) Hu d 0 ()) (λ_=>decide ((d.length:Int)<=(5:Int))))
theorem Sj (d:List Y8):ACalls Tryz.prog 148 [.h d] (.b (Wv d)):=by
 refine en Qb Tryz.func148 λw0 F0 hG=> ?_
 refine sn Qb [0,2] [] p0 <| Qc <| tn Qb [0,2,3] [] p0 <| mz [(2,.b false),(3,.i 0)] [] [] [] <| wT 0 0 .sh d (λhw1 hl2=> ?_)
 refine M8 (Ub d) Hu d () (λk0 _=> [(3,.i (k0:Int))]) [3] (λ_=> []) [3] wf0 (λk0 s0 hk0 U=> ?_) (λk0 s0 hk0 U=> ?_) (λy0 hD0=> ?_)
 ·obtain ⟨a0,V⟩:=Xs (l:=d) (i:=k0) hk0;refine Qc <| sn Qb [0,2,3,7] [] (pl 2 d (pe 3 (zB ((k0:Int)<(d.length:Int))) p0)) <| ckT <| Qi <| Qc <| Qx <| Qc <| mz [(7,.b true)] [] [] [] <| jn [(43,.b ((!(Ye a0.1))|| ((!(Yw a0.2))|| (decide ((k0:Int)>(0:Int))&&(!(Op.bytesLess ((nth d ((k0:Int)-1).toNat).1).toList a0.1.toList))))))] [7] [] [] (!(Ye a0.1)) (λh3=> ?_) (λh3=> ?_) ?_
  ·have h3n:(Ye a0.1)=false:=Ht h3;refine rN Qb Zf [0,2,3,43] [] (pn 2 V (pc 5 (cb h3n (Zs a0.1)) (pe 6 (show .b (!false)= .b true from rfl) p0))) ?_;exact zA (by rw[h3]<;>kernel_rfl)
  ·have h3n:(Ye a0.1)=true:=Ka h3;refine Ya (!(Yw a0.2)) (λh4=> ?_) (λh4=> ?_)
   ·have h4n:(Yw a0.2)=false:=Ht h4;refine rN Qb Zf [0,2,3,43] [] (pn 2 V (pc 5 (cb h3n (Zs a0.1)) (pe 6 (show .b (!true)= .b false from rfl) (pn 10 V (pc 13 (cb h4n (Vz a0.2)) (pe 14 (show .b (!false)= .b true from rfl) p0)))))) ?_;exact zA (by rw[h3,h4]<;>kernel_rfl)
   have h4n:(Yw a0.2)=true:=Ka h4;refine Ya (decide ((k0:Int)>(0:Int))) (λh5=> ?_) (λh5=> ?_)
   ·have h5d:=of_decide_eq_true h5;have hx6:=ng d ((k0:Int)-1).toNat;refine rN Qb Zf [0,2,3,43] [] (pn 2 V (pc 5 (cb h3n (Zs a0.1)) (pe 6 (show .b (!true)= .b false from rfl) (pn 10 V (pc 13 (cb h4n (Vz a0.2)) (pe 14 (show .b (!true)= .b false from rfl) (pt 18 h5 (pe 22 (Js (IntWalk.i64_in ((k0:Int)-1) (by omega))) (pg 23 ((k0:Int)-1) hx6 (pn 28 V p0)))))))))) ?_;exact zA (by rw[h3,h4,h5]<;>kernel_rfl)
   refine rN Qb Zf [0,2,3,43] [] (pn 2 V (pc 5 (cb h3n (Zs a0.1)) (pe 6 (show .b (!true)= .b false from rfl) (pn 10 V (pc 13 (cb h4n (Vz a0.2)) (pe 14 (show .b (!true)= .b false from rfl) (pf 18 h5 p0))))))) ?_;exact zA (by rw[h3,h4,h5]<;>kernel_rfl)
  refine ck ((!(Ye a0.1))|| ((!(Yw a0.2))|| (decide ((k0:Int)>(0:Int))&&(!(Op.bytesLess ((nth d ((k0:Int)-1).toNat).1).toList a0.1.toList))))) (λh7=> ?_) (λh7=> ?_)
  ·refine sn Qb [0,2,3] [] p0 <| Qk ?_
   have hr8:(Xp (Ub d) Hu d 0 ())= .ret false:=Z6 V (X6 h7 (rfl)) U;exact pb [] (M5 hr8)
  refine Qi <| rn Qb [0,2,3] [] (pe 1 (Js (Qq k0 (by omega))) p0) ?_
  exact xw _ (Qw V (Qy h7 (rfl)) U)
 ·exact Qc <| sn Qb [0,2,3,7] [] (pl 2 d (pe 3 (zC ((k0:Int)<(d.length:Int))) p0)) <| ckF <| Xe <| xw _ (Xy hk0 (rfl) U)
 exact sn Qb [2] [] (pl 1 d p0) <| Qk <| pb [] (Ur hD0 (rfl))
def B0 (x:Y8) (q0:ByteArray):Bool:=(x.1.toList==q0.toList)
theorem VY (x:Y8) (q0:ByteArray):ACalls Tryz.prog 223 [.a [.s x.1,.h x.2],.one (.rptr .sh [.s q0])] (.b (B0 x q0)):=by
 refine en Qb Tryz.func223 λw0 F0 hG=> ?_
 exact sn Qb [1,2,3] [2] p0 <| tn Qb [3] [] p0 <| Qk <| pb [] (show B0 x q0=(x.1.toList==q0.toList) from rfl)
def X5 (c0:ByteArray) (k0:Nat) (a0:Y8) (_:Unit):Rd (Int) (Unit) (Unit):=(bif (B0 a0 c0) then (.ret (k0:Int)) else (.next ()))
def Yv (_:Nat) (_:Unit):Unit:=()
def Z0 (s_:List Y8) (c0:ByteArray):Int:=(Out.on (Xp (X5 c0) Yv s_ 0 ()) (λ_=> -1))
theorem Cx (s_:List Y8) (c0:ByteArray):ACalls Tryz.prog 222 [.h s_,.one (.fnr 223 [[.s c0]])] (.i (Z0 s_ c0)):=by
 refine en Qb Tryz.func222 λw0 F0 hG=> ?_
 refine sn Qb [0,1,4] [] p0 <| Qc <| tn Qb [0,1,4,7,8] [] (pl 1 s_ p0) <| mz [(4,.i 0),(7,.i (s_.length:Int)),(8,.i 0)] [] [] [] <| wT 0 0 .sh s_ (λhw1 hl2=> ?_)
 refine M8 (X5 c0) Yv s_ () (λk0 _=> [(8,.i (k0:Int))]) [8] (λ_=> []) [0,1,7,8] wf0 (λk0 s0 hk0 U=> ?_) (λk0 s0 hk0 U=> ?_) (λy0 hD0=> ?_)
 ·obtain ⟨a0,V⟩:=Xs (l:=s_) (i:=k0) hk0;refine sn Qb [0,1,4,7,8,9] [] (pe 0 (zB ((k0:Int)<(s_.length:Int))) p0) <| Qc <| ckT <| Qi <| Qc <| Qx <| tn Qb [0,1,4,5,7,8] [] p0 <| tu Qb [(5,.i (k0:Int)),(16,.b (B0 a0 c0))] [] [] [] (pn 3 V (pc 5 (VY a0 c0) p0)) <| ck (B0 a0 c0) (λh3=> ?_) (λh3=> ?_)
  ·refine sn Qb [0,1,4,7,8] [] p0 <| Qk ?_
   have hr4:(Xp (X5 c0) Yv s_ 0 ())= .ret (k0:Int):=Z6 V (X6 h3 (rfl)) U;exact pi [] (M5 hr4)
  refine Qi <| rn Qb [0,1,4,7,8] [] (pe 0 (Js (Qq k0 (by omega))) p0) ?_
  exact xw _ (Qw V (Qy h3 (rfl)) U)
 ·exact sn Qb [0,1,4,7,8,9] [] (pe 0 (zC ((k0:Int)<(s_.length:Int))) p0) <| Qc <| ckF <| Xe <| xw _ (Xy hk0 (rfl) U)
 exact sn Qb [4] [] p0 <| Qk <| pi [] (Ur hD0 (rfl))
def Xw (d:List Y8) (name:ByteArray):Int:=(Z0 d name)
theorem EE (d:List Y8) (name:ByteArray):ACalls Tryz.prog 207 [.h d,.s name] (.i (Xw d name)):=by
 refine en Qb Tryz.func207 λw0 F0 hG=> ?_
 exact sn Qb [0,3,4] [3] p0 <| tn Qb [4] [] (pc 2 (Cx d name) p0) <| Qk <| pi [] (show Xw d name=(Z0 d name) from rfl)
def E9 (name:ByteArray) (k0:Nat) (a0:Y8) (_:Unit):Rd (Int) (Unit) (Unit):=(bif (a0.1.toList==name.toList) then (.ret (k0:Int)) else (.next ()))
def Fa (_:Nat) (_:Unit):Unit:=()
def Xg (d:List Y8) (name:ByteArray):Int:=(Out.on (Xp (E9 name) Fa d 0 ()) (λ_=> -1))
theorem Nv (d:List Y8) (name:ByteArray):ACalls Tryz.prog 178 [.h d,.s name] (.i (Xg d name)):=by
 refine en Qb Tryz.func178 λw0 F0 hG=> ?_
 refine sn Qb [0,1,4] [] p0 <| Qc <| tn Qb [0,1,4,5] [] p0 <| mz [(4,.i 0),(5,.i 0)] [] [] [] <| wT 0 0 .sh d (λhw1 hl2=> ?_)
 refine M8 (E9 name) Fa d () (λk0 _=> [(5,.i (k0:Int))]) [5] (λ_=> []) [0,1,5] wf0 (λk0 s0 hk0 U=> ?_) (λk0 s0 hk0 U=> ?_) (λy0 hD0=> ?_)
 ·obtain ⟨a0,V⟩:=Xs (l:=d) (i:=k0) hk0;refine Qc <| sn Qb [0,1,4,5,9] [] (pl 2 d (pe 3 (zB ((k0:Int)<(d.length:Int))) p0)) <| ckT <| Qi <| Qc <| Qx <| tn Qb [0,1,4,5,18] [] (pn 2 V p0) <| ck (a0.1.toList==name.toList) (λh3=> ?_) (λh3=> ?_)
  ·refine tu Qb [(4,.i (k0:Int))] [4] [] [] p0 <| Qk ?_
   have hr4:(Xp (E9 name) Fa d 0 ())= .ret (k0:Int):=Z6 V (X6 h3 (rfl)) U;exact pi [] (M5 hr4)
  refine Qi <| qu Qb [(5,.i ((k0+1:Nat):Int))] [5] [] [] (pe 1 (Js (Qq k0 (by omega))) p0) ?_
  exact xw _ (Qw V (Qy h3 (rfl)) U)
 ·exact Qc <| sn Qb [0,1,4,5,9] [] (pl 2 d (pe 3 (zC ((k0:Int)<(d.length:Int))) p0)) <| ckF <| Xe <| xw _ (Xy hk0 (rfl) U)
 exact sn Qb [4] [] p0 <| Qk <| pi [] (Ur hD0 (rfl))
theorem VZ (d : List Y8) : Ja d = Wv d := by
  unfold Ja Wv
  rw [Fw (f := Ki d) (g := Ub d) (e := V0) (e' := Hu) (λk a s => by
    unfold Ki Ub
    rw [Qbq, RB]
    cases Ye a.1 <;> cases Yw a.2 <;> cases decide (((k : Nat) : Int) > (0 : Int)) <;> simp) (λ_ _ => rfl)]
theorem IG (s : ByteArray) : ∀ (l : List Y8) (k : Nat), Xp (X5 s) Yv l k () = .brk () ∨ ∃ i : Nat, i < l.length ∧ Xp (X5 s) Yv l k () = .ret (((k + i : Nat)) : Int)
  | [], _ => .inl rfl
  | a :: l, k => by
    simp only [Xp, X5]
    unfold B0
    cases (a.1.toList == s.toList) with
    | true => exact .inr ⟨0, by simp, rfl⟩
    | false =>
      simp only [cond_false]
      rcases IG s l (k + 1) with h | ⟨i, hi, h⟩
      · exact .inl h
      exact .inr ⟨i + 1, by simpa using hi, by rw [h, show k + 1 + i = k + (i + 1) by omega]⟩
theorem WA (d : List Y8) (s : ByteArray) : -1 ≤ Xw d s ∧ Xw d s < (List.length d : Int) := by
  unfold Xw Z0
  rcases IG s d 0 with h | ⟨i, hi, h⟩
  · rw [h]; simp only [Out.on]; omega
  rw [h]; simp only [Out.on]; omega
theorem P3 (d : List Y8) (s : ByteArray) : -1 ≤ Xg d s ∧ Xg d s < (List.length d : Int) := WA d s
open GoE (enc wide)
def Hv (d:List Y8) (strata:List Int) (more:Int) (_:Nat) (a0:ByteArray) (s0:Int):Rd (Int) (Int) (Int):=(bif decide ((Xw d a0)>=(0:Int)) then (.next (max s0 (IntKind.i64.wrap ((nth strata (Xw d a0).toNat)+more)))) else (.next s0))
def Cy (_:Nat) (s0:Int):Int:=s0
def Xn (d:List Y8) (strata:List Int) (names:Z) (more:Int):Int:=(Out.on (Xp (Hv d strata more) Cy names 0 0) (λy0=>y0))
theorem G0 (d:List Y8) (strata:List Int) (names:Z) (more:Int) (hp:List.length d<=List.length strata):ACalls Tryz.prog 188 [.h d,.h strata,.h names,.i more] (.i (Xn d strata names more)):=by
 refine en Qb Tryz.func188 λw0 F0 hG=> ?_
 refine sn Qb [0,1,2,3,8] [] p0 <| tn Qb [0,1,2,3,8,9] [] p0 <| Qc <| tu Qb [(8,.i 0),(9,.i 0),(13,.h names),(14,.i (names.length:Int)),(15,.i 0)] [2] [] [] (pl 1 names p0) <| wT 13 0 .sh names (λhw1 hl2=> ?_)
 refine M8 (Hv d strata more) Cy names 0 (λk0 s0=> [(9,.i s0),(15,.i (k0:Int))]) [9,15] (λy0=> [(9,.i y0)]) [0,1,3,9,13,14,15] wf0 (λk0 s0 hk0 U=> ?_) (λk0 s0 hk0 U=> ?_) (λy0 hD0=> ?_)
 ·obtain ⟨a0,V⟩:=Xs (l:=names) (i:=k0) hk0;refine su Qb [(16,.b true)] [] [] [] (pe 0 (zB ((k0:Int)<(names.length:Int))) p0) <| Qc <| ckT <| Qi <| Qc <| Qx <| su Qb [(11,.s a0)] [16] [] [] (pn 0 V p0) <| sn Qb [0,1,3,8,9,12,13,14,15] [] (pc 2 (EE d a0) p0) <| tn Qb [0,1,3,8,9,12,13,14,15,23] [] p0 <| ck (decide ((Xw d a0)>=(0:Int))) (λh3=> ?_) (λh3=> ?_)
  ·have h3p:=WA d a0;have h3d:=of_decide_eq_true h3;refine wT 1 0 .sh strata (λhw5 hl6=> ?_);have hx4:=ng strata (Xw d a0).toNat;refine qu Qb [(9,.i (max s0 (IntKind.i64.wrap ((nth strata (Xw d a0).toNat)+more))))] [9,11] [] [] (pg 3 (Xw d a0) hx4 p0) ?_;refine rn Qb [0,1,3,8,9,13,14,15] [] (pe 0 (Js (Qq k0 (by omega))) p0) ?_;exact xw _ (Qw V (X6 h3 (rfl)) U)
  have h3d:=of_decide_eq_false h3;refine Qi <| qu Qb [(15,.i ((k0+1:Nat):Int))] [11,15] [] [] (pe 0 (Js (Qq k0 (by omega))) p0) ?_
  exact xw _ (Qw V (Qy h3 (rfl)) U)
 ·exact su Qb [(16,.b false)] [] [] [] (pe 0 (zC ((k0:Int)<(names.length:Int))) p0) <| Qc <| ckF <| Xe <| xw _ (Xy hk0 (rfl) U)
 exact sn Qb [8] [] p0 <| Qk <| pi [] (Ur hD0 (rfl))
def Ux (d:List Y8) (k0:Nat) (_:Nat) (a1:ByteArray) (s1:List Int):Rd (Rd (List Int) (List Int) (List Int)) (List Int) (List Int):=(bif (decide ((Xg d a1)>=(0:Int))&&decide ((nth s1 (Xg d a1).toNat)>(nth s1 k0))) then (.next (List.set s1 k0 (nth s1 (Xg d a1).toNat))) else (.next s1))
def Ac (_:Nat) (s1:List Int):(List Int):=s1
def Uy (d:List Y8) (k0:Nat) (_:Nat) (a2:ByteArray) (s2:List Int):Rd (Rd (List Int) (List Int) (List Int)) (List Int) (List Int):=(bif (decide ((Xg d a2)>=(0:Int))&&decide (IntKind.i64.wrap ((nth s2 (Xg d a2).toNat)+1)>(nth s2 k0))) then (.next (List.set s2 k0 (IntKind.i64.wrap ((nth s2 (Xg d a2).toNat)+1)))) else (.next s2))
def Cz (_:Nat) (s2:List Int):(List Int):=s2
def Ww (d:List Y8) (k0:Nat) (a0:Y8) (s0:List Int):Rd (List Int) (List Int) (List Int):=(Out.on (Xp (Ux d k0) Ac (Zn a0.2) 0 s0) (λy1=>(Out.on (Xp (Uy d k0) Cz (Zo a0.2) 0 y1) (λy2=>(.next y2)))))
def C0 (_:Nat) (s0:List Int):(List Int):=s0
def Vu (d:List Y8) (lev:List Int):(List Int):=(Out.on (Xp (Ww d) C0 d 0 lev) (λy0=>y0))
theorem Nw (d:List Y8) (lev:List Int) (hp:List.length d<=List.length lev):ACalls Tryz.prog 149 [.h d,.h lev] (.o 0 (Vu d lev)):=by
 refine en Qb Tryz.func149 λw0 F0 hG=> ?_
 refine sn Qb [0,1,4] [] p0 <| wT 1 0 .sh lev (λhw1 hl2=> ?_)
 refine tn Qb [0,4,5] [] (po 2 (.flat) (px (Ft (n:=(([]:List (List PV)).length+((eL lev):List (List PV)).length)) (Lb (rfl) (Y5 lev) (by first|omega|(simp only[List.length_cons,List.length_nil];omega) | (simp;omega) | simp))) (px (U5 (Up lev)) p0))) <| Qc <| tu Qb [(4,.e 0),(5,.o 960 lev),(6,.i 0)] [1] [] [] p0 <| wT 0 0 .sh d (λhw3 hl4=> ?_)
 refine Qdo (Ww d) C0 d lev (λk0 s0=> [(5,.o 960 s0),(6,.i (k0:Int))]) [5,6] (λy0=> [(5,.o 960 y0)]) [0,5,6] (λ_ s0=>List.length s0=List.length lev) (λy0=>List.length y0=List.length lev) wf0 (by simp) (λk0 s0 hk0 U=> ?_) (λk0 s0 hk0 U=> ?_) (λy0 hD0=> ?_)
 ·have hA0_0:=U.2;obtain ⟨a0,V⟩:=Xs (l:=d) (i:=k0) hk0;refine Qc <| sn Qb [0,4,5,6,19] [] (pl 2 d (pe 3 (zB ((k0:Int)<(d.length:Int))) p0)) <| ckT <| Qi <| Qc <| Qx <| tn Qb [0,4,5,6,7] [] (pn 2 V (pc 5 (P1 a0.2) p0)) <| Qc <| tu Qb [(7,.o 1728 (Zn a0.2)),(8,.i 0)] [] [] [] p0 <| wT 7 0 (.own true 1728) (Zn a0.2) (λhw5 hl6=> ?_)
  refine Qdo (Ux d k0) Ac (Zn a0.2) s0 (λk1 s1=> [(5,.o 960 s1),(8,.i (k1:Int))]) [5,8] (λy1=> [(5,.o 960 y1)]) [5,7,8] (λ_ s1=>List.length s1=List.length s0) (λy1=>List.length y1=List.length s0) wf0 (by simp) (λk1 s1 hk1 hI1=> ?_) (λk1 s1 hk1 hI1=> ?_) (λy1 hD1=> ?_)
  ·have hA1_0:=hI1.2;obtain ⟨a1,hx1⟩:=Xs (l:=Zn a0.2) (i:=k1) hk1;refine Qc <| su Qb [(31,.b true)] [] [] [] (pl 2 (Zn a0.2) (pe 3 (zB ((k1:Int)<((Zn a0.2).length:Int))) p0)) <| ckT <| Qi <| Qc <| Qx <| sn Qb [0,4,5,6,7,8,9] [] (pN 3 hx1 (pc 5 (Nv d a1) p0)) <| Qc <| mz [(9,.i (Xg d a1))] [31] [] [] <| jn [(52,.b (decide ((Xg d a1)>=(0:Int))&&decide ((nth s1 (Xg d a1).toNat)>(nth s1 k0))))] [] [] [] (decide ((Xg d a1)>=(0:Int))) (λh7=> ?_) (λh7=> ?_) ?_
   ·have h7p:=P3 d a1;have h7d:=of_decide_eq_true h7;refine wT 5 0 (.own true 960) s1 (λhw9 hl10=> ?_);have hx8:=ng s1 (Xg d a1).toNat;have hx11:=ng s1 k0;refine rN Qb Zf [0,4,5,6,7,8,9,52] [] (pt 1 h7 (pG 5 (Xg d a1) hx8 (pN 9 hx11 p0))) ?_;exact zA (by rw[h7]<;>kernel_rfl)
   ·refine rU Qb Zf [(52,.b false)] [] [] [] (pf 1 h7 p0) ?_;exact zA (by rw[h7]<;>kernel_rfl)
   refine ck (decide ((Xg d a1)>=(0:Int))&&decide ((nth s1 (Xg d a1).toNat)>(nth s1 k0))) (λh12=> ?_) (λh12=> ?_)
   ·have h12l:(decide ((Xg d a1)>=(0:Int)))=true:=PX h12;have h12lp:=P3 d a1;have h12ld:=of_decide_eq_true h12l;have h12r:(decide ((nth s1 (Xg d a1).toNat)>(nth s1 k0)))=true:=MK h12;have h12rd:=of_decide_eq_true h12r;refine wT 5 0 (.own true 960) s1 (λhw14 hl15=> ?_);have hx13:=ng s1 (Xg d a1).toNat;have hx16:=ng s1 k0;refine ru Qb [(5,.one (.slc (.own true 960) 1 (setRow (eL s1) k0 0 [.i (nth s1 (Xg d a1).toNat)])))] [5,9,52] [] [] (pG 4 (Xg d a1) hx13 (pN 6 hx16 p0)) ?_;refine eqn [(5,.o 960 (List.set s1 k0 (nth s1 (Xg d a1).toNat)))] [5] [] [] (by rw[Zv (y:=(nth s1 (Xg d a1).toNat)) hx16 rfl]<;>kernel_rfl) ?_;refine rn Qb [0,4,5,6,7,8] [] (pe 1 (Js (Qq k1 (by omega))) p0) ?_;exact xw (List.set s1 k0 (nth s1 (Xg d a1).toNat)) ⟨Qw hx1 (X6 h12 (rfl)) hI1.1,(by first|omega|(simp only[List.length_set];omega))⟩
   refine Qi <| rn Qb [0,4,5,6,7,8] [] (pe 1 (Js (Qq k1 (by omega))) p0) ?_
   exact xw s1 ⟨Qw hx1 (Qy h12 (rfl)) hI1.1,(by first|omega|(simp only[List.length_set];omega))⟩
  ·have hA1_0:=hI1.2;exact Qc <| su Qb [(31,.b false)] [] [] [] (pl 2 (Zn a0.2) (pe 3 (zC ((k1:Int)<((Zn a0.2).length:Int))) p0)) <| ckF <| Xe <| xw s1 ⟨Xy hk1 (rfl) hI1.1,by first|omega|(simp only[List.length_set];omega)⟩
  have hD1_0:=hD1.2;refine sn Qb [0,4,5,6,10] [] (pn 2 V (pc 5 (P2 a0.2) p0)) <| tn Qb [0,4,5,6,10,11] [] p0 <| mz [(10,.o 4160 (Zo a0.2)),(11,.i 0)] [] [] [] <| wT 10 0 (.own true 4160) (Zo a0.2) (λhw17 hl18=> ?_)
  refine Qdo (Uy d k0) Cz (Zo a0.2) y1 (λk2 s2=> [(5,.o 960 s2),(11,.i (k2:Int))]) [5,11] (λy2=> [(5,.o 960 y2)]) [5,10,11] (λ_ s2=>List.length s2=List.length y1) (λy2=>List.length y2=List.length y1) wf0 (by simp) (λk2 s2 hk2 hI2=> ?_) (λk2 s2 hk2 hI2=> ?_) (λy2 hD2=> ?_)
  ·have hA2_0:=hI2.2;obtain ⟨a2,hx2⟩:=Xs (l:=Zo a0.2) (i:=k2) hk2;refine Qc <| su Qb [(69,.b true)] [] [] [] (pl 2 (Zo a0.2) (pe 3 (zB ((k2:Int)<((Zo a0.2).length:Int))) p0)) <| ckT <| Qi <| Qc <| Qx <| sn Qb [0,4,5,6,10,11,12] [] (pN 3 hx2 (pc 5 (Nv d a2) p0)) <| Qc <| mz [(12,.i (Xg d a2))] [69] [] [] <| jn [(91,.b (decide ((Xg d a2)>=(0:Int))&&decide (IntKind.i64.wrap ((nth s2 (Xg d a2).toNat)+1)>(nth s2 k0))))] [] [] [] (decide ((Xg d a2)>=(0:Int))) (λh19=> ?_) (λh19=> ?_) ?_
   ·have h19p:=P3 d a2;have h19d:=of_decide_eq_true h19;refine wT 5 0 (.own true 960) s2 (λhw21 hl22=> ?_);have hx20:=ng s2 (Xg d a2).toNat;have hx23:=ng s2 k0;refine rN Qb Zf [0,4,5,6,10,11,12,91] [] (pt 1 h19 (pG 5 (Xg d a2) hx20 (pN 10 hx23 p0))) ?_;exact zA (by rw[h19]<;>kernel_rfl)
   ·refine rU Qb Zf [(91,.b false)] [] [] [] (pf 1 h19 p0) ?_;exact zA (by rw[h19]<;>kernel_rfl)
   refine ck (decide ((Xg d a2)>=(0:Int))&&decide (IntKind.i64.wrap ((nth s2 (Xg d a2).toNat)+1)>(nth s2 k0))) (λh24=> ?_) (λh24=> ?_)
   ·have h24l:(decide ((Xg d a2)>=(0:Int)))=true:=PX h24;have h24lp:=P3 d a2;have h24ld:=of_decide_eq_true h24l;have h24r:(decide (IntKind.i64.wrap ((nth s2 (Xg d a2).toNat)+1)>(nth s2 k0)))=true:=MK h24;have h24rd:=of_decide_eq_true h24r;refine wT 5 0 (.own true 960) s2 (λhw26 hl27=> ?_);have hx25:=ng s2 (Xg d a2).toNat;have hx28:=ng s2 k0;refine ru Qb [(5,.one (.slc (.own true 960) 1 (setRow (eL s2) k0 0 [.i (IntKind.i64.wrap ((nth s2 (Xg d a2).toNat)+1))])))] [5,12,91] [] [] (pG 4 (Xg d a2) hx25 (pN 7 hx28 p0)) ?_;refine eqn [(5,.o 960 (List.set s2 k0 (IntKind.i64.wrap ((nth s2 (Xg d a2).toNat)+1))))] [5] [] [] (by rw[Zv (y:=IntKind.i64.wrap ((nth s2 (Xg d a2).toNat)+1)) hx28 rfl]<;>kernel_rfl) ?_;refine rn Qb [0,4,5,6,10,11] [] (pe 1 (Js (Qq k2 (by omega))) p0) ?_;exact xw (List.set s2 k0 (IntKind.i64.wrap ((nth s2 (Xg d a2).toNat)+1))) ⟨Qw hx2 (X6 h24 (rfl)) hI2.1,(by first|omega|(simp only[List.length_set];omega))⟩
   refine Qi <| rn Qb [0,4,5,6,10,11] [] (pe 1 (Js (Qq k2 (by omega))) p0) ?_
   exact xw s2 ⟨Qw hx2 (Qy h24 (rfl)) hI2.1,(by first|omega|(simp only[List.length_set];omega))⟩
  ·have hA2_0:=hI2.2;exact Qc <| su Qb [(69,.b false)] [] [] [] (pl 2 (Zo a0.2) (pe 3 (zC ((k2:Int)<((Zo a0.2).length:Int))) p0)) <| ckF <| Xe <| xw s2 ⟨Xy hk2 (rfl) hI2.1,by first|omega|(simp only[List.length_set];omega)⟩
  have hD2_0:=hD2.2;refine rn Qb [0,4,5,6] [] (pe 1 (Js (Qq k0 (by omega))) p0) ?_;exact xw y2 ⟨Qw V (Ur hD1.1 (Ur hD2.1 (rfl))) U.1,(by first|omega|(simp only[List.length_set];omega))⟩
 ·have hA0_0:=U.2;exact Qc <| sn Qb [0,4,5,6,19] [] (pl 2 d (pe 3 (zC ((k0:Int)<(d.length:Int))) p0)) <| ckF <| Xe <| xw s0 ⟨Xy hk0 (rfl) U.1,by first|omega|(simp only[List.length_set];omega)⟩
 have hD0_0:=hD0.2;exact sn Qb [4] [] p0 <| Qk <| po0 [] (Ur hD0.1 (rfl))
theorem Tu {α R S T : Type} {f : Nat → α → S → Rd R S T} {e : Nat → S → T} (I : S → Prop) (h : ∀ k a s, I s → ∃ s', f k a s = .next s' ∧ I s') : ∀ (l : List α) (k : Nat) (s : S), I s → ∃ s', Xp f e l k s = .brk (e (k + l.length) s') ∧ I s'
  | [], k, s, hs => ⟨s, by simp [Xp], hs⟩
  | a :: l, k, s, hs => by
    obtain ⟨s1, h1, h2⟩ := h k a s hs
    obtain ⟨s2, h3, h4⟩ := Tu I h l (k + 1) s1 h2
    refine ⟨s2, ?_, h4⟩
    simp only [Xp, h1]
    rw [h3, List.length_cons, show k + 1 + l.length = k + (l.length + 1) by omega]
theorem Qg3 (d : List Y8) (k0 n : Nat) (k : Nat) (a : ByteArray) (s : List Int) (hs : s.length = n) : ∃ s', Ux d k0 k a s = .next s' ∧ s'.length = n := by
  unfold Ux
  generalize (decide ((Xg d a) ≥ (0 : Int)) && decide ((nth s (Int.toNat (Xg d a))) > (nth s k0))) = c
  cases c <;> exact ⟨_, rfl, by simpa using hs⟩
theorem Qg4 (d : List Y8) (k0 n : Nat) (k : Nat) (a : ByteArray) (s : List Int) (hs : s.length = n) : ∃ s', Uy d k0 k a s = .next s' ∧ s'.length = n := by
  unfold Uy
  generalize (decide ((Xg d a) ≥ (0 : Int)) && decide (IntKind.i64.wrap ((nth s (Int.toNat (Xg d a))) + 1) > (nth s k0))) = c
  cases c <;> exact ⟨_, rfl, by simpa using hs⟩
theorem Qg5 (d : List Y8) (n : Nat) (k : Nat) (a : Y8) (s : List Int) (hs : s.length = n) : ∃ s', Ww d k a s = .next s' ∧ s'.length = n := by
  unfold Ww
  obtain ⟨s1, h1, h2⟩ := Tu (e := Ac) (λs : List Int => s.length = n) (Qg3 d k n) (Zn a.2) 0 s hs
  obtain ⟨s2, h3, h4⟩ := Tu (e := Cz) (λs : List Int => s.length = n) (Qg4 d k n) (Zo a.2) 0 s1 h2
  refine ⟨s2, ?_, h4⟩
  rw [h1]
  simp only [Out.on, Ac]
  rw [h3]
  rfl
theorem BB (d : List Y8) (lev : List Int) : List.length (Vu d lev) = List.length lev := by
  unfold Vu
  obtain ⟨s1, h1, h2⟩ := Tu (e := C0) (λs : List Int => s.length = lev.length) (Qg5 d lev.length) d 0 lev rfl
  rw [h1]
  exact h2
theorem Fb {d : List Y8} (h : Ja d = true) : List.length d ≤ 5 := by
  unfold Ja at h
  cases hf : Xp (Ki d) V0 d 0 () with
  | brk t => rw [hf] at h; simp only [Out.on, decide_eq_true_eq] at h; omega
  | ret r =>
    rw [hf] at h
    obtain rfl : r = true := h
    exfalso
    have key : ∀ (l : List Y8) k, Xp (Ki d) V0 l k () ≠ .ret true := by
      intro l
      induction l with
      | nil => intro k h; simp [Xp] at h
      | cons a l ih =>
        intro k h
        simp only [Xp] at h
        unfold Ki at h
        split at h
        · rename_i hf; exact ih _ h
        · cases h
        rename_i r hf; cases h; revert hf; generalize (_ || _ : Bool) = c; cases c <;> simp
    exact key _ _ hf
theorem Qg6 {d : List Y8} (h : Wv d = true) : IntKind.i64.wrap (IntKind.i64.wrap ((d.length : Int) * (d.length : Int)) + 1) = ((List.length d * List.length d + 1 : Nat) : Int) ∧ ((List.length d * List.length d + 1 : Nat) : Int) ≤ 26 := by
  have h5 := Fb ((VZ d).trans h)
  generalize List.length d = n at h5 ⊢
  have : n = 0 ∨ n = 1 ∨ n = 2 ∨ n = 3 ∨ n = 4 ∨ n = 5 := by omega
  rcases this with rfl | rfl | rfl | rfl | rfl | rfl <;> decide
def Ks (d : List Y8) (w : Int) : List ByteArray → Vr
  | [] => []
  | s :: r => if 0 ≤ Xw d s then (Int.toNat (Xw d s), w) :: Ks d w r else Ks d w r
theorem Oo (d : List Y8) (w : Int) : ∀ (l : List ByteArray) (e : Nat × Int), e ∈ Ks d w l → e.2 = w ∧ e.1 < d.length
  | [], e, h => by simp [Ks] at h
  | s :: r, e, h => by
    simp only [Ks] at h
    split at h
    · rename_i h0
      rcases List.mem_cons.1 h with rfl | h
      · have := (WA d s).2
        exact ⟨rfl, by show Int.toNat _ < _; omega⟩
      exact Oo d w r e h
    exact Oo d w r e h
def Jr (d : List Y8) (i : Nat) : Vr := if i < d.length then Ks d 0 (Yc (nth d i).2) ++ Ks d 1 (Xu (nth d i).2) else []
theorem Md (d : List Y8) (i : Nat) (e : Nat × Int) (h : e ∈ Jr d i) : e.2 ≤ 1 ∧ e.1 < d.length ∧ i < d.length := by
  unfold Jr at h
  split at h
  · rename_i hi
    rcases List.mem_append.1 h with h | h <;> (have := Oo d _ _ e h; omega)
  simp at h
theorem Qbx (E1 E2 : Vr) (L : List Int) : Fy (E1 ++ E2) L = max (Fy E1 L) (Fy E2 L) := by
  have h1 : Fy (E1 ++ E2) L ≤ max (Fy E1 L) (Fy E2 L) := By.2 ⟨by have := Ol E1 L; omega, λe he => by
    rcases List.mem_append.1 he with he | he
    · have := (By.1 (Int.le_refl (Fy E1 L))).2 e he; omega
    have := (By.1 (Int.le_refl (Fy E2 L))).2 e he; omega⟩
  have h2 := By.1 (Int.le_refl (Fy (E1 ++ E2) L))
  have h3 : Fy E1 L ≤ Fy (E1 ++ E2) L := By.2 ⟨h2.1, λe he => h2.2 e (List.mem_append_left _ he)⟩
  have h4 : Fy E2 L ≤ Fy (E1 ++ E2) L := By.2 ⟨h2.1, λe he => h2.2 e (List.mem_append_right _ he)⟩
  omega
theorem Sk (d : List Y8) (L : List Int) (w : Int) (hw : 0 ≤ w ∧ w ≤ 1) (hL : ∀ j, 0 ≤ nth L j ∧ nth L j ≤ 1000000) : ∀ (l : List ByteArray) (k : Nat) (m : Int), Xp (Hv d L w) Cy l k m = .brk ((Ks d w l).foldl (λm e => max m (nth L e.1 + e.2)) m)
  | [], k, m => rfl
  | s :: r, k, m => by
    simp only [Xp, Hv, Ks]
    have hwr : ∀ j, IntKind.i64.wrap (nth L j + w) = nth L j + w := λj => IntWalk.i64_in _ (by have := hL j; omega)
    by_cases h : 0 ≤ Xw d s
    · have h' : decide (Xw d s ≥ (0 : Int)) = true := decide_eq_true h
      rw [h', cond_true, if_pos h, hwr]
      exact Sk d L w hw hL r (k + 1) _
    have h' : decide (Xw d s ≥ (0 : Int)) = false := decide_eq_false h
    rw [h', cond_false, if_neg h]
    exact Sk d L w hw hL r (k + 1) _
theorem IH {d : List Y8} {L : List Int} {w : Int} (hw : 0 ≤ w ∧ w ≤ 1) (hL : ∀ j, 0 ≤ nth L j ∧ nth L j ≤ 1000000) (l : List ByteArray) : Xn d L l w = Fy (Ks d w l) L := by
  unfold Xn
  rw [Sk d L w hw hL]
  rfl
theorem Qby {d : List Y8} {L : List Int} (hL : ∀ j, 0 ≤ nth L j ∧ nth L j ≤ 1000000) {i : Nat} (hi : i < d.length) : max (Xn d L (Yc (nth d i).2) 0) (Xn d L (Xu (nth d i).2) 1) = Fy (Jr d i) L := by
  rw [IH (by omega) hL, IH (by omega) hL]
  unfold Jr
  rw [if_pos hi, Qbx]
abbrev II (d : List Y8) (a : Y8) (L : List Int) : Int := max (Xn d L (Yc a.2) 0) (Xn d L (Xu a.2) 1)
abbrev RV := Nat → Y8 → List Int × Bool → Rd (Rd (List Int × Bool) (List Int × Bool) (List Int)) (List Int × Bool) (List Int × Bool)
def RW (d : List Y8) (f : RV) : Prop := ∀ k a s, f k a s = bif decide (II d a s.1 > (d.length : Int)) then .ret (.ret ([], false)) else (bif decide (II d a s.1 > nth s.1 k) then .next (List.set s.1 k (II d a s.1), true) else .next (s.1, s.2))
theorem Oq {d : List Y8} {f : RV} {e : Nat → List Int × Bool → List Int × Bool} (hf : RW d f) (he : ∀ k s, e k s = s) (hd : d.length ≤ 1000000) :
    ∀ (l : List Y8) (k : Nat) (L : List Int) (c : Bool), d.drop k = l → L.length = d.length → (∀ j, 0 ≤ nth L j ∧ nth L j ≤ (d.length : Int)) →
      Xp f e l k (L, c) = (match Dj (Jr d) d.length (List.range' k l.length) (c, L) with
        | none => .ret (.ret ([], false))
        | some s => .brk (s.2, s.1))
  | [], k, L, c, _, _, _ => by simp [Xp, Dj, he]
  | a :: l, k, L, c, hl, hlen, hL => by
    have hk : d[k]? = some a := by
      have := congrArg (·[0]?) hl
      simpa using this
    have hkl : k < d.length := (List.getElem?_eq_some_iff.1 hk).1
    have ha : nth d k = a := Gw hk
    have hrest : d.drop (k + 1) = l := by rw [← List.drop_drop, hl]; rfl
    have hb : ∀ j, 0 ≤ nth L j ∧ nth L j ≤ 1000000 := λj => by have := hL j; omega
    have hM : II d a L = Fy (Jr d k) L := by rw [← ha]; exact Qby hb hkl
    simp only [Xp, hf k a (L, c), List.length_cons, List.range'_succ, Dj, hM]
    by_cases h1 : (d.length : Int) < Fy (Jr d k) L
    · rw [decide_eq_true (show Fy (Jr d k) L > (d.length : Int) from h1), cond_true, if_pos h1]
    rw [decide_eq_false (show ¬ Fy (Jr d k) L > (d.length : Int) from h1), cond_false, if_neg h1]
    by_cases h2 : nth L k < Fy (Jr d k) L
    · rw [decide_eq_true (show Fy (Jr d k) L > nth L k from h2), cond_true, if_pos h2]
      refine Oq hf he hd l (k + 1) _ true hrest (by rw [List.length_set]; exact hlen) λj => ?_
      have h0 := Ol (Jr d k) L
      rw [Om _ _ (by omega)]
      split
      · omega
      exact hL j
    rw [decide_eq_false (show ¬ Fy (Jr d k) L > nth L k from h2), cond_false, if_neg h2]
    exact Oq hf he hd l (k + 1) L c hrest hlen hL
def Qgl : Option (List Int) → Out (List Int × Bool) (List Int)
  | none => .ret ([], false)
  | some L => .brk L
def Qdt (d : List Y8) (f : RV) (e : Nat → List Int × Bool → List Int × Bool) (F : List Int × Bool → Rd (List Int × Bool) (List Int × Bool) (List Int)) : Prop := ∀ s, F s = bif s.2 then (Out.on (Xp f e d 0 (s.1, false)) λy1 => .next (y1.1, y1.2)) else .brk s.1
theorem G1 {d : List Y8} {f : RV} {e : Nat → List Int × Bool → List Int × Bool} {F : List Int × Bool → Rd (List Int × Bool) (List Int × Bool) (List Int)} (hf : RW d f) (he : ∀ k s, e k s = s) (hF : Qdt d f e F) (hd : d.length ≤ 1000000) :
    ∀ (n : Nat) (L : List Int) (c : Bool), L.length = d.length → (∀ j, 0 ≤ nth L j ∧ nth L j ≤ (d.length : Int)) → whl F n (L, c) = (Sf (Jr d) d.length d.length n (c, L)).map Qgl
  | 0, L, c, _, _ => rfl
  | n + 1, L, false, _, _ => by
    simp only [whl, hF (L, false), cond_false, Sf]
    rfl
  | n + 1, L, true, hlen, hL => by
    have hr := Oq hf he hd d 0 L false rfl hlen hL
    have e1 : List.range' 0 d.length = List.range d.length := (List.range_eq_range' ..).symm
    rw [e1] at hr
    simp only [whl, hF (L, true), cond_true, hr, Sf]
    cases hc : Dj (Jr d) d.length (List.range d.length) (false, L) with
    | none => rfl
    | some s =>
      obtain ⟨h1, _, _, h4⟩ := D1 (List.range d.length) false L s (λi hi => by rw [hlen]; exact Bn hi) hc
      have := G1 hf he hF hd n s.2 s.1 (by rw [h1, Na, hlen]) λj => ⟨by rw [h1]; exact Int.le_trans (hL j).1 (Px (Jr d) j _ L), h4 (λj => (hL j).2) j⟩
      exact this
theorem Bo (n : Nat) : (List.replicate n (0 : Int)).length = n ∧ ∀ j, 0 ≤ nth (List.replicate n (0 : Int)) j ∧ nth (List.replicate n (0 : Int)) j ≤ (n : Int) :=
  ⟨by simp, λj => by rw [Tq]; omega⟩
theorem EF {d : List Y8} {f : RV} {e : Nat → List Int × Bool → List Int × Bool} {F : List Int × Bool → Rd (List Int × Bool) (List Int × Bool) (List Int)} (hf : RW d f) (he : ∀ k s, e k s = s) (hF : Qdt d f e F) (hd : d.length ≤ 1000000) :
    (whl F (List.length d * List.length d + 3) (List.replicate (Int.toNat (d.length : Int)) (0 : Int), true)).isSome = true := by
  rw [Int.toNat_natCast, G1 hf he hF hd _ _ _ (Bo _).1 (Bo _).2, Option.isSome_map]
  refine JO _ _ _ (Bo _).1 (λj => ((Bo _).2 j).2) ?_
  have : ((List.length d * List.length d + 3 : Nat) : Int) = (d.length : Int) * (d.length : Int) + 3 := by rw [Int.natCast_add, Int.natCast_mul]; rfl
  have h0 : (List.replicate d.length (0 : Int)).sum = 0 := by simp
  rw [this, h0]
  omega
open GoE (enc wide)
def Bc (b:List Int) (k0:Nat) (a0:Int) (_:Unit):Rd (Bool) (Unit) (Unit):=(bif (a0 !=(nth b k0)) then (.ret false) else (.next ()))
def Dt (_:Nat) (_:Unit):Unit:=()
def Z8 (a_:List Int) (b:List Int):Bool:=(bif ((a_.length:Int) !=(b.length:Int)) then false else (Out.on (Xp (Bc b) Dt a_ 0 ()) (λ_=>true)))
theorem Em (a_:List Int) (b:List Int):ACalls Tryz.prog 100 [.h a_,.h b] (.b (Z8 a_ b)):=by
 refine en Qb Tryz.func100 λw0 F0 hG=> ?_
 refine sn Qb [0,1,4] [] p0 <| Qc <| tn Qb [0,1,4,10] [] (pl 1 a_ (pl 3 b p0)) <| ck ((a_.length:Int) !=(b.length:Int)) (λh1=> ?_) (λh1=> ?_)
 ·exact tu Qb [(4,.b false)] [] [] [] p0 <| Qk <| pb [] (X6 h1 (rfl))
 have h1d:=W9 h1;refine Qi <| Qc <| tu Qb [(4,.b false),(5,.i 0)] [] [] [] p0 <| wT 0 0 .sh a_ (λhw2 hl3=> ?_)
 refine M8 (Bc b) Dt a_ () (λk0 _=> [(5,.i (k0:Int))]) [5] (λ_=> []) [0,1,5] wf0 (λk0 s0 hk0 U=> ?_) (λk0 s0 hk0 U=> ?_) (λy0 hD0=> ?_)
 ·obtain ⟨a0,V⟩:=Xs (l:=a_) (i:=k0) hk0;refine Qc <| sn Qb [0,1,4,5,14] [] (pl 2 a_ (pe 3 (zB ((k0:Int)<(a_.length:Int))) p0)) <| ckT <| Qi <| Qc <| Qx <| wT 1 0 .sh b (λhw5 hl6=> ?_)
  have hx4:=ng b k0;refine tN Qb Zf [0,1,4,5,25] [] (pn 2 V (pn 6 hx4 p0)) <| ck (a0 !=(nth b k0)) (λh7=> ?_) (λh7=> ?_)
  ·refine tu Qb [] [] [] [] p0 <| Qk ?_
   have hr8:(Xp (Bc b) Dt a_ 0 ())= .ret false:=Z6 V (X6 h7 (rfl)) U;exact pb [] (Qy h1 (M5 hr8))
  have h7d:=W9 h7;refine Qi <| qu Qb [(5,.i ((k0+1:Nat):Int))] [5] [] [] (pe 1 (Js (Qq k0 (by omega))) p0) ?_
  exact xw _ (Qw V (Qy h7 (rfl)) U)
 ·exact Qc <| sn Qb [0,1,4,5,14] [] (pl 2 a_ (pe 3 (zC ((k0:Int)<(a_.length:Int))) p0)) <| ckF <| Xe <| xw _ (Xy hk0 (rfl) U)
 exact sn Qb [4] [] p0 <| Qk <| pb [] (Qy h1 (Ur hD0 (rfl)))
def En (d:List Y8) (_:Nat) (s0:List Int):Rd ((List Int)×Bool) (List Int) (List Int):=(.next (Vu d s0))
def Iw (_:Nat) (s0:List Int):(List Int):=s0
def Xb (d:List Y8):(List Int)×Bool:=(bif (!(Wv d)) then ([],false) else (Out.on (Wb (En d) Iw (IntKind.i64.wrap (IntKind.i64.wrap ((d.length:Int)*(d.length:Int))+1)+1).toNat 0 (List.replicate (d.length:Int).toNat (0:Int))) (λy0=>(bif (!(Z8 (Vu d y0) y0)) then ([],false) else (y0,true)))))
theorem Me (d:List Y8):ACalls Tryz.prog 101 [.h d] (.tup [(false, [.o 0 (((Xb d)).1)]),(false, [.b (((Xb d)).2)])]):=by
 refine en Qb Tryz.func101 λw0 F0 hG=> ?_
 refine sn Qb [0,2,3] [] p0 <| Qc <| tn Qb [0,2,3,8] [] (pc 1 (Sj d) p0) <| ck (!(Wv d)) (λh1=> ?_) (λh1=> ?_)
 ·exact tu Qb [(2,.one (.slc (.own true 576) 1 [])),(3,.b false)] [] [] [] p0 <| Qk <| pz [] (show Xb d=_ from X6 h1 (rfl)) (λz=> .tup [(false, [.o 0 z.1]),(false, [.b z.2])])
 have h1n:(Wv d)=true:=Ka h1;have h1nv:=Qg6 h1n;refine Qi <| wT 0 0 .sh d (λhw2 hl3=> ?_)
 refine tu Qb [(2,.e 0),(3,.b false),(4,.one (.slc (.own true 768) 1 (List.replicate (d.length:Int).toNat [.i 0])))] [] [] [] (pl 1 d (px (Ns (lo:=0) (hi:=(d.length:Int)) (n:=1073741824) (⟨by omega,by omega,by omega⟩)) p0)) <| eqn [(4,.o 768 (List.replicate (d.length:Int).toNat (0:Int)))] [4] [] [] (by rw[show (List.replicate (d.length:Int).toNat [.i 0])=(eL (List.replicate (d.length:Int).toNat (0:Int))) from Qbk _ (0:Int)];first | done | kernel_rfl) ?_
 refine Qc <| sn Qb [0,2,3,4,5] [] p0 <| mz [(5,.i 0)] [] [] [] <| Qic (En d) Iw (IntKind.i64.wrap (IntKind.i64.wrap ((d.length:Int)*(d.length:Int))+1)+1).toNat (List.replicate (d.length:Int).toNat (0:Int)) (λk0 s0=> [(4,.o 147203 s0),(5,.i (k0:Int))]) [4,5] (λy0=> [(4,.o 147353 y0)]) [4,5] (λ_ s0=>List.length s0=List.length d) (λy0=>List.length y0=List.length d) (Yg [(768,147203)] (by kernel_rfl)) (by simp) (λk0 s0 hk0 U=> ?_) (λk0 s0 hk0 U=> ?_) (λy0 hD0=> ?_)
 ·have hA0_0:=U.2;refine Qc <| sn Qb [0,2,3,4,5,20] [] (pl 2 d (pl 4 d (pe 7 (zB ((k0:Int)<=IntKind.i64.wrap (IntKind.i64.wrap ((d.length:Int)*(d.length:Int))+1))) p0))) <| ckT <| Qi <| Qc <| Qx <| qn Qb [0,2,3,4,5] [] (pc 2 (Nw d s0 (by omega)) p0) ?_
  refine qu Qb [(4,.o 1600 (Vu d s0)),(5,.i ((k0+1:Nat):Int))] [4,5] [] [] (pe 1 (Js (Qq k0 (by omega))) p0) ?_;exact Exists.intro (Vu d s0) (And.intro (Yg [(1600,147203)] (by kernel_rfl)) ⟨K1 hk0 (rfl) U.1,(by have hz:=BB d s0;omega)⟩)
 ·have hA0_0:=U.2;exact Qc <| sn Qb [0,2,3,4,5,20] [] (pl 2 d (pl 4 d (pe 7 (zC ((k0:Int)<=IntKind.i64.wrap (IntKind.i64.wrap ((d.length:Int)*(d.length:Int))+1))) p0))) <| ckF <| Xe <| Exists.intro s0 (And.intro (Yg [(147203,147353)] (by kernel_rfl)) ⟨Cq hk0 (rfl) U.1,by first|omega|(simp only[List.length_set];omega)⟩)
 have hD0_0:=hD0.2;refine Qc <| sn Qb [2,3,4,31] [] (pc 2 (Nw d y0 (by omega)) (pc 4 (Em (Vu d y0) y0) p0)) <| ck (!(Z8 (Vu d y0) y0)) (λh4=> ?_) (λh4=> ?_)
 ·exact tn Qb [2,3,4] [] p0 <| Qk <| pz [] (show Xb d=_ from Qy h1 (Ur hD0.1 (X6 h4 (rfl)))) (λz=> .tup [(false, [.o 0 z.1]),(false, [.b z.2])])
 exact Qi <| tn Qb [2,3] [] p0 <| Qk <| pz [] (show Xb d=_ from Qy h1 (Ur hD0.1 (Qy h4 (rfl)))) (λz=> .tup [(false, [.o 0 z.1]),(false, [.b z.2])])
def Uc (d:List Y8) (k1:Nat) (a1:Y8) (s1:(List Int)×Bool):Rd (Rd ((List Int)×Bool) ((List Int)×Bool) (List Int)) ((List Int)×Bool) ((List Int)×Bool):=(bif decide ((max (Xn d s1.1 (Yc a1.2) 0) (Xn d s1.1 (Xu a1.2) 1))>(d.length:Int)) then (.ret (.ret ([],false))) else (bif decide ((max (Xn d s1.1 (Yc a1.2) 0) (Xn d s1.1 (Xu a1.2) 1))>(nth s1.1 k1)) then (.next (List.set s1.1 k1 (max (Xn d s1.1 (Yc a1.2) 0) (Xn d s1.1 (Xu a1.2) 1)),true)) else (.next (s1.1,s1.2))))
def Ud (_:Nat) (s1:(List Int)×Bool):(List Int)×Bool:=(s1.1,s1.2)
def Vt (d:List Y8) (s0:(List Int)×Bool):Rd ((List Int)×Bool) ((List Int)×Bool) (List Int):=(bif s0.2 then (Out.on (Xp (Uc d) Ud d 0 (s0.1,false)) (λy1=>(.next (y1.1,y1.2)))) else (.brk s0.1))
def Qo (d:List Y8):(List Int)×Bool:=(bif (!(Ja d)) then ([],false) else (Out.on (Lh (Vt d) (List.length d*List.length d+3) ((List.replicate (d.length:Int).toNat (0:Int)),true)) (λy0=>(y0,true))))
theorem D2 (d:List Y8) (hd:d.length<=5):(whl (Vt d) (List.length d*List.length d+3) (List.replicate (d.length:Int).toNat (0:Int),true)).isSome=true:=EF (f:=Uc d) (e:=Ud) (λ_ _ _=>rfl) (λ_ _=>rfl) (λ_=>rfl) (by omega)
theorem S8 (d:List Y8):ACalls Tryz.prog 164 [.h d] (.tup [(false, [.o 0 (((Qo d)).1)]),(false, [.b (((Qo d)).2)])]):=by
 refine en Qb Tryz.func164 λw0 F0 hG=> ?_
 refine sn Qb [0,2,3] [] p0 <| Qc <| tn Qb [0,2,3,11] [] (pc 1 (Si d) p0) <| ck (!(Ja d)) (λh1=> ?_) (λh1=> ?_)
 ·refine tu Qb [(2,.e 0),(3,.b false)] [] [] [] p0 <| opn [(false,2,0,true,384000,1)] ?_
  exact Qk <| pz [] (show Qo d=_ from X6 h1 (rfl)) (λz=> .tup [(false, [.o 0 z.1]),(false, [.b z.2])])
 have h1n:(Ja d)=true:=Ka h1;refine Qi <| wT 0 0 .sh d (λhw2 hl3=> ?_)
 refine tu Qb [(2,.e 0),(3,.b false),(4,.one (.slc (.own true 896) 1 (List.replicate (d.length:Int).toNat [.i 0])))] [] [] [] (pl 1 d (px (Ns (lo:=0) (hi:=(d.length:Int)) (n:=1073741824) (⟨by omega,by omega,by omega⟩)) p0)) <| eqn [(4,.o 896 (List.replicate (d.length:Int).toNat (0:Int)))] [4] [] [] (by rw[show (List.replicate (d.length:Int).toNat [.i 0])=(eL (List.replicate (d.length:Int).toNat (0:Int))) from Qbk _ (0:Int)];first | done | kernel_rfl) ?_
 refine Qc <| sn Qb [0,2,3,4,5] [] p0 <| mz [(5,.b true)] [] [] [] <| blw (λ(s0:(List Int)×Bool)=> [(4,.o 896 s0.1),(5,.b s0.2)]) [4,5] (λs0=> []) [] (λ(y0:List Int)=> [(4,.o 896 y0)]) [0,4,5] (λy0=> []) [] (λ(k0:Nat) (s0:(List Int)×Bool)=>whl (Vt d) k0 s0=some (Lh (Vt d) (List.length d*List.length d+3) ((List.replicate (d.length:Int).toNat (0:Int)),true))/\List.length s0.1=List.length d) (λ(y0:List Int)=>(Lh (Vt d) (List.length d*List.length d+3) ((List.replicate (d.length:Int).toNat (0:Int)),true))= .brk y0) (List.length d*List.length d+3) ((List.replicate (d.length:Int).toNat (0:Int)),true) wf0 ⟨M6 (D2 d (Fb (h1n))),(by simp)⟩ (λ_ h=>M7 h.1) (λk0 s0 U=> ?_) (λy0 hD0=> ?_)
 ·have hA0_0:=U.2;refine Qc <| sn Qb [0,2,3,4,5,15] [] p0 <| ck s0.2 (λh4=> ?_) (λh4=> ?_)
  ·refine Qi <| Qx <| tn Qb [0,2,3,4,5] [] p0 <| tu Qb [(5,.b false),(16,.h d),(17,.i (d.length:Int)),(18,.i 0)] [5] [] [] (pl 1 d p0) <| Qdo (Uc d) Ud d (s0.1,false) (λk1 s1=> [(4,.o 896 s1.1),(5,.b s1.2),(18,.i (k1:Int))]) [4,5,18] (λy1=> [(4,.o 896 y1.1),(5,.b y1.2)]) [4,5,16,17,18] (λ_ s1=>List.length s1.1=List.length s0.1) (λy1=>List.length y1.1=List.length s0.1) wf0 (by simp) (λk1 s1 hk1 hI1=> ?_) (λk1 s1 hk1 hI1=> ?_) (λy1 hD1=> ?_)
   ·have hA1_0:=hI1.2;obtain ⟨a1,hx1⟩:=Xs (l:=d) (i:=k1) hk1;refine su Qb [(19,.b true)] [] [] [] (pe 0 (zB ((k1:Int)<(d.length:Int))) p0) <| Qc <| ckT <| Qi <| Qc <| Qx <| sn Qb [0,2,3,4,5,6,7,16,17,18] [7] (pn 1 hx1 p0) <| tN Qb Zf [0,2,3,4,5,6,8,16,17,18] [] (pc 4 (Pz a1.2) (pc 5 (G0 d s1.1 (Yc a1.2) 0 (by omega)) (pc 10 (P0 a1.2) (pc 11 (G0 d s1.1 (Xu a1.2) 1 (by omega)) p0)))) <| Qc <| tu Qb [(6,.i (k1:Int)),(8,.i (max (Xn d s1.1 (Yc a1.2) 0) (Xn d s1.1 (Xu a1.2) 1))),(39,.b (decide ((max (Xn d s1.1 (Yc a1.2) 0) (Xn d s1.1 (Xu a1.2) 1))>(d.length:Int))))] [19] [] [] (pl 2 d p0) <| ck (decide ((max (Xn d s1.1 (Yc a1.2) 0) (Xn d s1.1 (Xu a1.2) 1))>(d.length:Int))) (λh5=> ?_) (λh5=> ?_)
    ·refine su Qb [] [39] [] [] p0 <| opn [(false,2,0,true,384000,1)] ?_
     refine Qk ?_;have hr6:(Xp (Uc d) Ud d 0 (s0.1,false))= .ret (.ret ([],false)):=Z6 hx1 (X6 h5 (rfl)) hI1.1;have hr7:(Lh (Vt d) (List.length d*List.length d+3) ((List.replicate (d.length:Int).toNat (0:Int)),true))= .ret ([],false):=Qfc (X6 h4 (M5 hr6)) U.1;exact pz [] (show Qo d=_ from Qy h1 (M5 hr7)) (λz=> .tup [(false, [.o 0 z.1]),(false, [.b z.2])])
    have h5d:=of_decide_eq_false h5;refine Qi <| wT 4 0 (.own true 896) s1.1 (λhw9 hl10=> ?_)
    have hx8:=ng s1.1 k1;refine sn Qb [0,2,3,4,5,6,8,16,17,18,45] [] (pN 3 hx8 p0) <| ck (decide ((max (Xn d s1.1 (Yc a1.2) 0) (Xn d s1.1 (Xu a1.2) 1))>(nth s1.1 k1))) (λh11=> ?_) (λh11=> ?_)
    ·have h11d:=of_decide_eq_true h11;refine tu Qb [(4,.one (.slc (.own true 896) 1 (setRow (eL s1.1) k1 0 [.i (max (Xn d s1.1 (Yc a1.2) 0) (Xn d s1.1 (Xu a1.2) 1))])))] [4,6,8,39] [] [] (pN 3 hx8 p0) <| eqn [(4,.o 896 (List.set s1.1 k1 (max (Xn d s1.1 (Yc a1.2) 0) (Xn d s1.1 (Xu a1.2) 1))))] [4] [] [] (by rw[Zv (y:=(max (Xn d s1.1 (Yc a1.2) 0) (Xn d s1.1 (Xu a1.2) 1))) hx8 rfl]<;>kernel_rfl) ?_
     refine ru Qb [(5,.b true)] [5] [] [] p0 ?_;refine rn Qb [0,2,3,4,5,16,17,18] [] (pe 0 (Js (Qq k1 (by omega))) p0) ?_;exact xw (List.set s1.1 k1 (max (Xn d s1.1 (Yc a1.2) 0) (Xn d s1.1 (Xu a1.2) 1)),true) ⟨Qw hx1 (Qy h5 (X6 h11 (rfl))) hI1.1,(by first|omega|(simp only[List.length_set];omega))⟩
    have h11d:=of_decide_eq_false h11;refine Qi <| qn Qb [0,2,3,4,5,16,17,18] [] (pe 0 (Js (Qq k1 (by omega))) p0) ?_
    exact xw (s1.1,s1.2) ⟨Qw hx1 (Qy h5 (Qy h11 (rfl))) hI1.1,(by first|omega|(simp only[List.length_set];omega))⟩
   ·have hA1_0:=hI1.2;exact su Qb [(19,.b false)] [] [] [] (pe 0 (zC ((k1:Int)<(d.length:Int))) p0) <| Qc <| ckF <| Xe <| xw (s1.1,s1.2) ⟨Xy hk1 (rfl) hI1.1,by first|omega|(simp only[List.length_set];omega)⟩
   have hD1_0:=hD1.2;exact xw (y1.1,y1.2) ⟨wn U.1 (X6 h4 (Ur hD1.1 (rfl))),(by first|omega|(simp only[List.length_set];omega))⟩
  exact Xe <| xw _ (wb U.1 (Qy h4 (rfl)))
 exact sn Qb [2,3] [] p0 <| Qk <| pz [] (show Qo d=_ from Qy h1 (Ur hD0 (rfl))) (λz=> .tup [(false, [.o 0 z.1]),(false, [.b z.2])])
def Low (b:Int) (L:List Int):Prop:=∀j,0<=nth L j/\nth L j<=b
theorem IJ {b w:Int} {i:Nat} {L:List Int} {p:Nat} (hi:i<L.length) (hw:0<=w/\w<=1) (h:Low b L):Low (b+w) (Rr i L (p,w)):=λj=>by
 rw[Ts _ hi];have h1:=h j;have h2:=h p;have h3:=h i;split
 . show 0<=max (nth L i) (nth L p+w)/\max (nth L i) (nth L p+w)<=b+w;omega
 omega
theorem EG (d:List Y8) (k0:Nat):∀(l:List ByteArray) (k:Nat) (s:List Int) (b:Int),k0<s.length->Low b s->Xp (Ux d k0) Ac l k s= .brk (Bz k0 (Ks d 0 l) s)/\Low b (Bz k0 (Ks d 0 l) s)
 | [],k,s,b,_,h=>⟨rfl,h⟩
 | a :: l,k,s,b,hk,h=>by
   have hf:Ux d k0 k a s=(bif (decide (0<=Xw d a)&&decide (nth s k0<nth s (Int.toNat (Xw d a)))) then .next (List.set s k0 (nth s (Int.toNat (Xw d a)))) else .next s):=rfl;simp only[Xp,hf,Ks];by_cases h0:0<=Xw d a
   . rw [if_pos h0,decide_eq_true h0,Bool.true_and];have hb:Low b (Rr k0 s (Int.toNat (Xw d a),0)):=by have:=IJ (w:=0) (p:=Int.toNat (Xw d a)) hk (by omega) h;simpa using this
     have hbk:Bz k0 ((Int.toNat (Xw d a),0)::Ks d 0 l) s=Bz k0 (Ks d 0 l) (Rr k0 s (Int.toNat (Xw d a),0)):=rfl;rw[hbk];have ih:=EG d k0 l (k+1) (Rr k0 s (Int.toNat (Xw d a),0)) b (by rw[Iv];exact hk) hb;by_cases h1:nth s k0<nth s (Int.toNat (Xw d a))
     . have e:Rr k0 s (Int.toNat (Xw d a),0)=List.set s k0 (nth s (Int.toNat (Xw d a))):=by unfold Rr;simp[h1]
       rw[decide_eq_true h1,cond_true];rw[e] at ih⊢;exact ih
     have e:Rr k0 s (Int.toNat (Xw d a),0)=s:=by unfold Rr;simp[h1]
     rw[decide_eq_false h1,cond_false];rw[e] at ih⊢;exact ih
   rw[if_neg h0,decide_eq_false h0,Bool.false_and,cond_false];exact EG d k0 l (k+1) s b hk h
theorem EH (d:List Y8) (k0:Nat):∀(l:List ByteArray) (k:Nat) (s:List Int) (b:Int),k0<s.length->Low b s->b+l.length<=1000000->Xp (Uy d k0) Cz l k s= .brk (Bz k0 (Ks d 1 l) s)/\Low (b+l.length) (Bz k0 (Ks d 1 l) s)
 | [],k,s,b,_,h,_=>⟨rfl,by show Low (b+((0:Nat):Int)) s;simpa using h⟩
 | a :: l,k,s,b,hk,h,hb=>by
   rw[List.length_cons] at hb⊢;have hf:Uy d k0 k a s=(bif (decide (0<=Xw d a)&&decide (nth s k0<IntKind.i64.wrap (nth s (Int.toNat (Xw d a))+1))) then .next (List.set s k0 (IntKind.i64.wrap (nth s (Int.toNat (Xw d a))+1))) else .next s):=rfl;simp only[Xp,hf,Ks];have hl:b+((l.length+1:Nat):Int)=b+1+(l.length:Int):=by omega
   have hw:IntKind.i64.wrap (nth s (Int.toNat (Xw d a))+1)=nth s (Int.toNat (Xw d a))+1:=IntWalk.i64_in _ (by have:=h (Int.toNat (Xw d a));omega);rw[hl] at hb⊢;by_cases h0:0<=Xw d a
   . rw [if_pos h0,decide_eq_true h0,Bool.true_and,hw];have hlow:=IJ (w:=1) (p:=Int.toNat (Xw d a)) hk (by omega) h;have hbk:Bz k0 ((Int.toNat (Xw d a),1)::Ks d 1 l) s=Bz k0 (Ks d 1 l) (Rr k0 s (Int.toNat (Xw d a),1)):=rfl;rw[hbk];have ih:=EH d k0 l (k+1) (Rr k0 s (Int.toNat (Xw d a),1)) (b+1) (by rw[Iv];exact hk) hlow hb;by_cases h1:nth s k0<nth s (Int.toNat (Xw d a))+1
     . have e:Rr k0 s (Int.toNat (Xw d a),1)=List.set s k0 (nth s (Int.toNat (Xw d a))+1):=by unfold Rr;rw[if_pos h1]
       rw[decide_eq_true h1,cond_true];rw[e] at ih⊢;exact ih
     have e:Rr k0 s (Int.toNat (Xw d a),1)=s:=by unfold Rr;rw[if_neg h1]
     rw[decide_eq_false h1,cond_false];rw[e] at ih⊢;exact ih
   rw[if_neg h0,decide_eq_false h0,Bool.false_and,cond_false];exact EH d k0 l (k+1) s (b+1) hk (λj=>by have:=h j;omega) hb
theorem XK (q:List Yy) (b:Bool):∀(l:List Bool) (k:Nat) (s:List ByteArray),∃t,Xp (Vg q b) W4 l k s= .brk t/\t.length<=s.length+l.length
 | [],k,s=>⟨s,rfl,by simp⟩
 | a ::l,k,s=>by
   simp only[Xp,Vg];cases (Jv (nth q k)&&(a==b)) with
   | true=>
     obtain ⟨t,h1,h2⟩:=XK q b l (k+1) (s++ [(nth q k).2.2.2.1]);exact ⟨t,h1,by simp at h2⊢;omega⟩
   | false=>
     obtain ⟨t,h1,h2⟩:=XK q b l (k+1) s;exact ⟨t,h1,by simp at h2⊢;omega⟩
theorem Qbz (q:List Yy):List.length (Xt q)<=9:=by
 cases hv:Q9 q with
 | true=>have:=Oi q;have:=(XA hv).2;omega
 | false=>unfold Xt;rw[hv];simp
theorem Qie (q:List Yy) (b:Bool):List.length (Vs q b)<=9:=by
 unfold Vs;obtain ⟨t,h1,h2⟩:=XK q b (Xt q) 0 [];rw[h1];have h3:=Qbz q;have h4:=RI (Ma t);rw[AQ] at h4;show (XB (Ma t)).length<=9;simp at h2;omega
theorem RX (i:Nat) (E1 E2:Vr) (L:List Int):Bz i (E1++E2) L=Bz i E2 (Bz i E1 L):=List.foldl_append
theorem Qfo {d:List Y8} {k:Nat} {a:Y8} {s:List Int} {b:Int} (hk:d[k]? =some a) (hs:s.length=d.length) (h:Low b s) (hb:b+9<=1000000):Ww d k a s= .next (Bz k (Jr d k) s)/\Low (b+9) (Bz k (Jr d k) s):=by
 have hkl:k<d.length:=(List.getElem?_eq_some_iff.1 hk).1;have ha:nth d k=a:=Gw hk;obtain ⟨h1,h2⟩:=EG d k (Yc a.2) 0 s b (by omega) h;have h9:(Xu a.2).length<=9:=Qie a.2 true;obtain ⟨h3,h4⟩:=EH d k (Xu a.2) 0 (Bz k (Ks d 0 (Yc a.2)) s) b (by rw[E8];omega) h2 (by omega);have he:Jr d k=Ks d 0 (Yc a.2)++Ks d 1 (Xu a.2):=by unfold Jr;rw[if_pos hkl,ha]
 rw[he,RX];refine ⟨?_,λj=>by have:=h4 j;omega⟩;unfold Ww;rw[MS,MT,h1];simp only[Out.on];rw[h3]
theorem JS {d:List Y8}:∀(l:List Y8) (k:Nat) (s:List Int) (b:Int),d.drop k=l->s.length=d.length->Low b s->b+9*l.length<=1000000->Xp (Ww d) C0 l k s= .brk (A4 (Jr d) (List.range' k l.length) s)/\Low (b+9*l.length) (A4 (Jr d) (List.range' k l.length) s)
 | [],k,s,b,_,_,h,_=>⟨rfl,by show Low (b+9*((0:Nat):Int)) s;simpa using h⟩
 | a ::l,k,s,b,hl,hs,h,hb=>by
   have hk:d[k]? =some a:=by
    have:=congrArg (·[0]?) hl;simpa using this
   have hrest:d.drop (k+1)=l:=by rw[←List.drop_drop,hl];rfl
   rw[List.length_cons] at hb⊢;obtain ⟨h1,h2⟩:=Qfo hk hs h (by omega);have e:b+9*((l.length+1:Nat):Int)=b+9+9*(l.length:Int):=by omega
   rw[e] at hb⊢;obtain ⟨h3,h4⟩:=JS l (k+1) (Bz k (Jr d k) s) (b+9) hrest (by rw[E8];exact hs) h2 hb;simp only[Xp,h1,List.range'_succ];exact ⟨h3,h4⟩
theorem JT {d:List Y8} {s:List Int} {b:Int} (hs:s.length=d.length) (h:Low b s) (hb:b+9*d.length<=1000000):Vu d s=A4 (Jr d) (List.range d.length) s/\Low (b+9*d.length) (A4 (Jr d) (List.range d.length) s):=by
 obtain ⟨h1,h2⟩:=JS d 0 s b rfl hs h hb;have e1:List.range' 0 d.length=List.range d.length:=(List.range_eq_range' ..).symm;rw[e1] at h1 h2;refine ⟨?_,h2⟩;unfold Vu;rw[h1];rfl
theorem XL {d:List Y8} (hd:d.length<=5):∀(n k m:Nat),m+n<=1000->Low (45*m) (Aa (Jr d) d.length m)->Wb (En d) Iw n k (Aa (Jr d) d.length m)= .brk (Aa (Jr d) d.length (m+n))/\Low (45*(m+n)) (Aa (Jr d) d.length (m+n))
 | 0,k,m,_,h=>⟨rfl,by simpa using h⟩
 | n+1,k,m,hm,h=>by
   obtain ⟨h1,h2⟩:=JT (Nd (Jr d) d.length m) h (by omega);have e:Aa (Jr d) d.length (m+1)=A4 (Jr d) (List.range d.length) (Aa (Jr d) d.length m):=rfl;simp only[Wb,En,h1];rw[←e] at h2⊢;have:=XL hd n (k+1) (m+1) (by omega) (λj=>by have:=h2 j;omega);rw[show m+(n+1)=m+1+n by omega];refine ⟨this.1,λj=>by have:=this.2 j;omega⟩
theorem RY (b:List Int):∀(l:List Int) (k:Nat),l.length=(b.drop k).length->Out.on (Xp (Bc b) Dt l k ()) (λ_=>true)=decide (l=b.drop k)
 | [],k,h=>by
   have:b.drop k= []:=List.eq_nil_of_length_eq_zero (by rw[←h];rfl);rw[this];rfl
 | a ::l,k,h=>by
   have hk:k<b.length:=by simp only[List.length_cons,List.length_drop] at h;omega
   have hd:b.drop k=nth b k::b.drop (k+1):=by
    rw[List.drop_eq_getElem_cons hk,show nth b k=b[k] by simp[nth,List.getD,hk]]
   rw[hd] at h⊢;simp only[Xp,Bc];by_cases e:a=nth b k
   . rw[show (a !=nth b k)=false by simp[e],cond_false,RY b l (k+1) (by simpa using h)];simp[e]
   rw[show (a !=nth b k)=true by simp[e],cond_true];simp[e,Out.on]
theorem RZ (a b:List Int) (h:a.length=b.length):Z8 a b=decide (a=b):=by
 unfold Z8;rw[show ((a.length:Int) !=(b.length:Int))=false by simp[h],cond_false,RY b a 0 (by simpa using h),List.drop_zero]
theorem Wk (d:List Y8):Xb d=Qo d:=by
 unfold Xb Qo;rw[←VZ];cases hv:Ja d with
 | false=>rfl
 | true=>
   have h5:=Fb hv;obtain ⟨hn,_⟩:=Qg6 ((VZ d).symm.trans hv);simp only[Bool.not_true,cond_false];have hz:Aa (Jr d) d.length 0=List.replicate (Int.toNat (d.length:Int)) (0:Int):=by rw[Int.toNat_natCast];rfl
   have hnn:d.length*d.length<=25:=Nat.le_trans (Nat.mul_le_mul h5 h5) (by decide);obtain ⟨h1,h2⟩:=XL (d:=d) h5 (d.length*d.length+2) 0 0 (by omega) (λj=>by rw[hz,Int.toNat_natCast,Tq];omega);rw[hz,Nat.zero_add] at h1;rw[Nat.zero_add] at h2;rw[hn,show Int.toNat (((d.length*d.length+1:Nat):Int)+1)=d.length*d.length+2 by omega,h1];simp only[Out.on];have hlen:=Nd (Jr d) d.length (d.length*d.length+2);obtain ⟨h3,_⟩:=JT (d:=d) hlen h2 (by omega);rw[h3,RZ _ _ (by rw[On])];have hw:=G1 (d:=d) (f:=Uc d) (e:=Ud) (F:=Vt d) (λ_ _ _=>rfl) (λ_ _=>rfl) (λ_=>rfl) (by omega) (d.length*d.length+3) (List.replicate d.length 0) true (Bo _).1 (Bo _).2
   have hsome:(Sf (Jr d) d.length d.length (d.length*d.length+3) (true,List.replicate d.length 0)).isSome=true:=by
    have:=D2 d h5;rw[Int.toNat_natCast,hw,Option.isSome_map] at this;exact this
   obtain ⟨r,hr⟩:=Option.isSome_iff_exists.1 hsome;unfold Lh;rw[Int.toNat_natCast,hw,hr];obtain ⟨h6,h7⟩:=RQ (E:=Jr d) (n:=d.length) (λi e he=>Md d i e he) hr;by_cases hfix:A4 (Jr d) (List.range d.length) (Aa (Jr d) d.length (d.length*d.length+2))=Aa (Jr d) d.length (d.length*d.length+2)
   . rw[h6 hfix,decide_eq_true hfix];rfl
   rw[h7 hfix,decide_eq_false hfix];rfl
open GoE (enc wide)
def Vh (name:ByteArray) (_:Nat) (a0:Yd) (_:Unit):Rd (Int) (Unit) (Unit):=(bif (a0.1.toList==name.toList) then (.ret a0.2) else (.next ()))
def W5 (_:Nat) (_:Unit):Unit:=()
def Ak (s_:List Yd) (name:ByteArray):Int:=(Out.on (Xp (Vh name) W5 s_ 0 ()) (λ_=>0))
theorem XM (s_:List Yd) (name:ByteArray):ACalls Tryz.prog 183 [.h s_,.s name] (.i (Ak s_ name)):=by
 refine en Qb Tryz.func183 λw0 F0 hG=> ?_
 refine sn Qb [0,1,4] [] p0 <| Qc <| tn Qb [1,4,7,8,9] [] (pl 1 s_ p0) <| mz [(4,.i 0),(7,.h s_),(8,.i (s_.length:Int)),(9,.i 0)] [0] [] [] <| wT 7 0 .sh s_ (λhw1 hl2=> ?_)
 refine M8 (Vh name) W5 s_ () (λk0 _=> [(9,.i (k0:Int))]) [9] (λ_=> []) [1,7,8,9] wf0 (λk0 s0 hk0 U=> ?_) (λk0 s0 hk0 U=> ?_) (λy0 hD0=> ?_)
 ·obtain ⟨a0,V⟩:=Xs (l:=s_) (i:=k0) hk0;refine sn Qb [1,4,7,8,9,10] [] (pe 0 (zB ((k0:Int)<(s_.length:Int))) p0) <| Qc <| ckT <| Qi <| Qc <| Qx <| tn Qb [1,4,6,7,8,9] [6] (pn 0 V p0) <| tu Qb [(6,.p 6 0),(16,.b (a0.1.toList==name.toList))] [] [(6, [.s a0.1,.i a0.2])] [] p0 <| ck (a0.1.toList==name.toList) (λh3=> ?_) (λh3=> ?_)
  ·refine sn Qb [1,4,7,8,9] [] p0 <| Qk ?_
   have hr4:(Xp (Vh name) W5 s_ 0 ())= .ret a0.2:=Z6 V (X6 h3 (rfl)) U;exact pi [] (M5 hr4)
  refine Qi <| rn Qb [1,4,7,8,9] [] (pe 0 (Js (Qq k0 (by omega))) p0) ?_
  exact xw _ (Qw V (Qy h3 (rfl)) U)
 ·exact sn Qb [1,4,7,8,9,10] [] (pe 0 (zC ((k0:Int)<(s_.length:Int))) p0) <| Qc <| ckF <| Xe <| xw _ (Xy hk0 (rfl) U)
 exact sn Qb [4] [] p0 <| Qk <| pi [] (Ur hD0 (rfl))
def Xx (s_:List Yd) (name:ByteArray) (v:Z4):Bool:=((Za v)&&((v.1 !=(0:Int))&&(v.1==(Ak s_ name))))
theorem Fd (s_:List Yd) (name:ByteArray) (v:Z4):ACalls Tryz.prog 154 [.h s_,.s name,.a [.i v.1,.i v.2.1,.s v.2.2]] (.b (Xx s_ name v)):=by
 refine en Qb Tryz.func154 λw0 F0 hG=> ?_
 refine sn Qb [0,1,5,6] [5] p0 <| Qc <| mz [(5,.p 5 0),(6,.b false)] [2] [(5, [.i v.1,.i v.2.1,.s v.2.2])] [] <| jn [(6,.b ((Za v)&&((v.1 !=(0:Int))&&(v.1==(Ak s_ name)))))] [0,1,5,6] [] [5] (Za v) (λh1=> ?_) (λh1=> ?_) ?_
 ·refine Ya (v.1 !=(0:Int)) (λh2=> ?_) (λh2=> ?_)
  ·refine rN Qb Zf [6] [] (pc 1 (cb h1 (K7 v)) (pt 5 h2 (pc 12 (XM s_ name) p0))) ?_;exact zA (by rw[h1,h2]<;>kernel_rfl)
  refine rN Qb Zf [6] [] (pc 1 (cb h1 (K7 v)) (pf 5 h2 p0)) ?_;exact zA (by rw[h1,h2]<;>kernel_rfl)
 ·refine rN Qb Zf [6] [] (pc 1 (cb h1 (K7 v)) p0) ?_;exact zA (by rw[h1]<;>kernel_rfl)
 exact Qk <| pb [] (show Xx s_ name v=((Za v)&&((v.1 !=(0:Int))&&(v.1==(Ak s_ name)))) from rfl)
def Ca (n:Int):Bool:=(X9 n 0 2)
theorem Mf (n:Int):ACalls Tryz.prog 155 [.i n] (.b (Ca n)):=by
 refine en Qb Tryz.func155 λw0 F0 hG=> ?_
 exact sn Qb [0,2] [] p0 <| tn Qb [2] [] (pc 1 (Jk n 0 2) p0) <| Qk <| pb [] (show Ca n=(X9 n 0 2) from rfl)
def Xz (s_:List Yd) (k0:Nat) (a0:Yd) (_:Unit):Rd (Bool) (Unit) (Unit):=(bif ((!(Yi a0.1))|| (bif (a0.2 !=(1:Int)) then ((a0.2 !=(2:Int))|| (decide ((k0:Int)>(0:Int))&&(!(Op.bytesLess ((nth s_ ((k0:Int)-1).toNat).1).toList a0.1.toList)))) else (decide ((k0:Int)>(0:Int))&&(!(Op.bytesLess ((nth s_ ((k0:Int)-1).toNat).1).toList a0.1.toList))))) then (.ret false) else (.next ()))
def Zj (_:Nat) (_:Unit):Unit:=()
def X7 (s_:List Yd):Bool:=(Out.on (Xp (Xz s_) Zj s_ 0 ()) (λ_=>decide ((s_.length:Int)<=(5:Int))))
theorem U7 (s_:List Yd):ACalls Tryz.prog 114 [.h s_] (.b (X7 s_)):=by
 refine en Qb Tryz.func114 λw0 F0 hG=> ?_
 refine sn Qb [0,2] [] p0 <| Qc <| tn Qb [0,2,5,6,7] [] (pl 1 s_ p0) <| mz [(2,.b false),(5,.h s_),(6,.i (s_.length:Int)),(7,.i 0)] [] [] [] <| wT 0 0 .sh s_ (λhw1 hl2=> ?_)
 refine M8 (Xz s_) Zj s_ () (λk0 _=> [(7,.i (k0:Int))]) [7] (λ_=> []) [5,6,7] wf0 (λk0 s0 hk0 U=> ?_) (λk0 s0 hk0 U=> ?_) (λy0 hD0=> ?_)
 ·obtain ⟨a0,V⟩:=Xs (l:=s_) (i:=k0) hk0;refine sn Qb [0,2,5,6,7,8] [] (pe 0 (zB ((k0:Int)<(s_.length:Int))) p0) <| Qc <| ckT <| Qi <| Qc <| Qx <| tn Qb [0,2,3,4,5,6,7] [4] (pn 1 V p0) <| Qc <| mz [(3,.i (k0:Int)),(4,.p 4 0)] [] [(4, [.s a0.1,.i a0.2])] [] <| jn [(40,.b ((!(Yi a0.1))|| (bif (a0.2 !=(1:Int)) then ((a0.2 !=(2:Int))|| (decide ((k0:Int)>(0:Int))&&(!(Op.bytesLess ((nth s_ ((k0:Int)-1).toNat).1).toList a0.1.toList)))) else (decide ((k0:Int)>(0:Int))&&(!(Op.bytesLess ((nth s_ ((k0:Int)-1).toNat).1).toList a0.1.toList))))))] [3,4] [] [4] (!(Yi a0.1)) (λh3=> ?_) (λh3=> ?_) ?_
  ·have h3n:(Yi a0.1)=false:=Ht h3;refine rN Qb Zf [0,2,5,6,7,40] [] (pc 2 (cb h3n (Yz a0.1)) (pe 3 (show .b (!false)= .b true from rfl) p0)) ?_;exact zA (by rw[h3]<;>kernel_rfl)
  ·have h3n:(Yi a0.1)=true:=Ka h3;refine Ya (a0.2 !=(1:Int)) (λh4=> ?_) (λh4=> ?_)
   ·have h4d:=L5 h4;refine Ya (a0.2 !=(2:Int)) (λh5=> ?_) (λh5=> ?_)
    ·refine rN Qb Zf [0,2,5,6,7,40] [] (pc 2 (cb h3n (Yz a0.1)) (pe 3 (show .b (!true)= .b false from rfl) (pt 7 h4 (pt 11 h5 p0)))) ?_;exact zA (by rw[h3,h4,h5]<;>kernel_rfl)
    have h5d:=W9 h5;refine Ya (decide ((k0:Int)>(0:Int))) (λh6=> ?_) (λh6=> ?_)
    ·have h6d:=of_decide_eq_true h6;have hx7:=ng s_ ((k0:Int)-1).toNat;refine rN Qb Zf [0,2,5,6,7,40] [] (pc 2 (cb h3n (Yz a0.1)) (pe 3 (show .b (!true)= .b false from rfl) (pt 7 h4 (pf 11 h5 (pt 16 h6 (pe 20 (Js (IntWalk.i64_in ((k0:Int)-1) (by omega))) (pg 21 ((k0:Int)-1) hx7 p0))))))) ?_;exact zA (by rw[h3,h4,h5,h6]<;>kernel_rfl)
    refine rN Qb Zf [0,2,5,6,7,40] [] (pc 2 (cb h3n (Yz a0.1)) (pe 3 (show .b (!true)= .b false from rfl) (pt 7 h4 (pf 11 h5 (pf 16 h6 p0))))) ?_;exact zA (by rw[h3,h4,h5,h6]<;>kernel_rfl)
   have h4d:=W9 h4;refine Ya (decide ((k0:Int)>(0:Int))) (λh8=> ?_) (λh8=> ?_)
   ·have h8d:=of_decide_eq_true h8;have hx9:=ng s_ ((k0:Int)-1).toNat;refine rN Qb Zf [0,2,5,6,7,40] [] (pc 2 (cb h3n (Yz a0.1)) (pe 3 (show .b (!true)= .b false from rfl) (pf 7 h4 (pt 16 h8 (pe 20 (Js (IntWalk.i64_in ((k0:Int)-1) (by omega))) (pg 21 ((k0:Int)-1) hx9 p0)))))) ?_;exact zA (by rw[h3,h4,h8]<;>kernel_rfl)
   refine rN Qb Zf [0,2,5,6,7,40] [] (pc 2 (cb h3n (Yz a0.1)) (pe 3 (show .b (!true)= .b false from rfl) (pf 7 h4 (pf 16 h8 p0)))) ?_;exact zA (by rw[h3,h4,h8]<;>kernel_rfl)
  refine ck ((!(Yi a0.1))|| (bif (a0.2 !=(1:Int)) then ((a0.2 !=(2:Int))|| (decide ((k0:Int)>(0:Int))&&(!(Op.bytesLess ((nth s_ ((k0:Int)-1).toNat).1).toList a0.1.toList)))) else (decide ((k0:Int)>(0:Int))&&(!(Op.bytesLess ((nth s_ ((k0:Int)-1).toNat).1).toList a0.1.toList))))) (λh10=> ?_) (λh10=> ?_)
  ·refine su Qb [] [40] [] [] p0 <| Qk ?_
   have hr11:(Xp (Xz s_) Zj s_ 0 ())= .ret false:=Z6 V (X6 h10 (rfl)) U;exact pb [] (M5 hr11)
  refine Qi <| rn Qb [0,2,5,6,7] [] (pe 0 (Js (Qq k0 (by omega))) p0) ?_
  exact xw _ (Qw V (Qy h10 (rfl)) U)
 ·exact sn Qb [0,2,5,6,7,8] [] (pe 0 (zC ((k0:Int)<(s_.length:Int))) p0) <| Qc <| ckF <| Xe <| xw _ (Xy hk0 (rfl) U)
 exact sn Qb [2] [] (pl 1 s_ p0) <| Qk <| pb [] (Ur hD0 (rfl))
def Y2 (s_:List Yd) (f:Yh) (k0:Nat) (a0:Jl) (_:Unit):Rd (Bool) (Unit) (Unit):=(bif (bif decide ((k0:Int)>(0:Int)) then ((!(Op.bytesLess ((nth f.2.2.2.2 ((k0:Int)-1).toNat).1).toList a0.1.toList))|| (!(Xx s_ a0.1 a0.2))) else (!(Xx s_ a0.1 a0.2))) then (.ret false) else (.next ()))
def K9 (_:Nat) (_:Unit):Unit:=()
def Yq (s_:List Yd) (f:Yh):Bool:=(Out.on (Xp (Y2 s_ f) K9 f.2.2.2.2 0 ()) (λ_=>((X9 f.1 1 60)&&((Ca f.2.1)&&((X9 f.2.2.2.1 0 60)&&(X7 s_))))))
theorem Al (s_:List Yd) (f:Yh):ACalls Tryz.prog 113 [.h s_,.a [.i f.1,.i f.2.1,.b f.2.2.1,.i f.2.2.2.1,.h f.2.2.2.2]] (.b (Yq s_ f)):=by
 refine en Qb Tryz.func113 λw0 F0 hG=> ?_
 refine sn Qb [0,3,4] [3] p0 <| Qc <| tn Qb [0,3,4,8,9,10] [3] (pl 2 f.2.2.2.2 p0) <| mz [(3,.p 3 0),(4,.b false),(8,.h f.2.2.2.2),(9,.i (f.2.2.2.2.length:Int)),(10,.i 0)] [1] [(3, [.i f.1,.i f.2.1,.b f.2.2.1,.i f.2.2.2.1,.h f.2.2.2.2])] [] <| wT 8 0 .sh f.2.2.2.2 (λhw1 hl2=> ?_)
 refine M8 (Y2 s_ f) K9 f.2.2.2.2 () (λk0 _=> [(10,.i (k0:Int))]) [10] (λ_=> []) [8,9,10] wf0 (λk0 s0 hk0 U=> ?_) (λk0 s0 hk0 U=> ?_) (λy0 hD0=> ?_)
 ·obtain ⟨a0,V⟩:=Xs (l:=f.2.2.2.2) (i:=k0) hk0;refine su Qb [(11,.b true)] [] [] [] (pe 0 (zB ((k0:Int)<(f.2.2.2.2.length:Int))) p0) <| Qc <| ckT <| Qi <| Qc <| Qx <| sn Qb [0,3,4,5,6,8,9,10] [3,6] (pn 1 V p0) <| Qc <| mz [(5,.i (k0:Int)),(6,.p 6 0)] [11] [(6, [.s a0.1,.i a0.2.1,.i a0.2.2.1,.s a0.2.2.2])] [] <| jn [(37,.b (bif decide ((k0:Int)>(0:Int)) then ((!(Op.bytesLess ((nth f.2.2.2.2 ((k0:Int)-1).toNat).1).toList a0.1.toList))|| (!(Xx s_ a0.1 a0.2))) else (!(Xx s_ a0.1 a0.2))))] [5,6] [] [6] (decide ((k0:Int)>(0:Int))) (λh3=> ?_) (λh3=> ?_) ?_
  ·have h3d:=of_decide_eq_true h3;refine Ya (!(Op.bytesLess ((nth f.2.2.2.2 ((k0:Int)-1).toNat).1).toList a0.1.toList)) (λh4=> ?_) (λh4=> ?_)
   ·have hx5:=ng f.2.2.2.2 ((k0:Int)-1).toNat;refine rN Qb Zf [0,3,4,8,9,10,37] [3] (pt 1 h3 (pe 6 (Js (IntWalk.i64_in ((k0:Int)-1) (by omega))) (pg 7 ((k0:Int)-1) hx5 (pt 12 h4 p0)))) ?_;exact zA (by rw[h3,h4]<;>kernel_rfl)
   have hx6:=ng f.2.2.2.2 ((k0:Int)-1).toNat;refine rN Qb Zf [0,3,4,8,9,10,37] [3] (pt 1 h3 (pe 6 (Js (IntWalk.i64_in ((k0:Int)-1) (by omega))) (pg 7 ((k0:Int)-1) hx6 (pf 12 h4 (pc 20 (Fd s_ a0.1 a0.2) p0))))) ?_;exact zA (by rw[h3,h4]<;>kernel_rfl)
  ·refine rN Qb Zf [0,3,4,8,9,10,37] [3] (pf 1 h3 (pc 20 (Fd s_ a0.1 a0.2) p0)) ?_;exact zA (by rw[h3]<;>kernel_rfl)
  refine ck (bif decide ((k0:Int)>(0:Int)) then ((!(Op.bytesLess ((nth f.2.2.2.2 ((k0:Int)-1).toNat).1).toList a0.1.toList))|| (!(Xx s_ a0.1 a0.2))) else (!(Xx s_ a0.1 a0.2))) (λh7=> ?_) (λh7=> ?_)
  ·refine su Qb [] [37] [] [] p0 <| Qk ?_
   have hr8:(Xp (Y2 s_ f) K9 f.2.2.2.2 0 ())= .ret false:=Z6 V (X6 h7 (rfl)) U;exact pb [] (M5 hr8)
  refine Qi <| rn Qb [0,3,4,8,9,10] [3] (pe 0 (Js (Qq k0 (by omega))) p0) ?_
  exact xw _ (Qw V (Qy h7 (rfl)) U)
 ·exact su Qb [(11,.b false)] [] [] [] (pe 0 (zC ((k0:Int)<(f.2.2.2.2.length:Int))) p0) <| Qc <| ckF <| Xe <| xw _ (Xy hk0 (rfl) U)
 refine Qc <| jn [(4,.b ((X9 f.1 1 60)&&((Ca f.2.1)&&((X9 f.2.2.2.1 0 60)&&(X7 s_)))))] [0,3,4] [] [3] (X9 f.1 1 60) (λh9=> ?_) (λh9=> ?_) ?_
 ·have h9w:=Se.1 h9;refine Ya (Ca f.2.1) (λh10=> ?_) (λh10=> ?_)
  ·refine Ya (X9 f.2.2.2.1 0 60) (λh11=> ?_) (λh11=> ?_)
   ·have h11w:=Se.1 h11;refine rn Qb [4] [] (pc 2 (cb h9 (Jk f.1 1 60)) (pc 6 (cb h10 (Mf f.2.1)) (pc 11 (cb h11 (Jk f.2.2.2.1 0 60)) (pc 15 (U7 s_) p0)))) ?_;exact zA (by rw[h9,h10,h11]<;>kernel_rfl)
   refine rn Qb [4] [] (pc 2 (cb h9 (Jk f.1 1 60)) (pc 6 (cb h10 (Mf f.2.1)) (pc 11 (cb h11 (Jk f.2.2.2.1 0 60)) p0))) ?_;exact zA (by rw[h9,h10,h11]<;>kernel_rfl)
  refine rn Qb [4] [] (pc 2 (cb h9 (Jk f.1 1 60)) (pc 6 (cb h10 (Mf f.2.1)) p0)) ?_;exact zA (by rw[h9,h10]<;>kernel_rfl)
 ·refine rn Qb [4] [] (pc 2 (cb h9 (Jk f.1 1 60)) p0) ?_;exact zA (by rw[h9]<;>kernel_rfl)
 exact Qk <| pb [] (Ur hD0 (rfl))
def Yj (s_:X1) (k0:Nat) (a0:Yh) (_:Unit):Rd (Bool) (Unit) (Unit):=(bif ((!(Yq s_.1 a0))|| (decide (a0.1>=s_.2.2)|| (decide ((k0:Int)>(0:Int))&&decide ((nth s_.2.1 ((k0:Int)-1).toNat).1>=a0.1)))) then (.ret false) else (.next ()))
def Zt (_:Nat) (_:Unit):Unit:=()
def Q7 (s_:X1):Bool:=(Out.on (Xp (Yj s_) Zt s_.2.1 0 ()) (λ_=>((X7 s_.1)&&(decide ((s_.2.1.length:Int)<=(12:Int))&&(X9 s_.2.2 1 61)))))
theorem Ue (s_:X1):ACalls Tryz.prog 66 [.a [.h s_.1,.h s_.2.1,.i s_.2.2]] (.b (Q7 s_)):=by
 refine en Qb Tryz.func66 λw0 F0 hG=> ?_
 refine sn Qb [1,2] [1] p0 <| Qc <| tn Qb [1,2,6,7,8] [1] (pl 2 s_.2.1 p0) <| mz [(1,.p 1 0),(2,.b false),(6,.h s_.2.1),(7,.i (s_.2.1.length:Int)),(8,.i 0)] [0] [(1, [.h s_.1,.h s_.2.1,.i s_.2.2])] [] <| wT 6 0 .sh s_.2.1 (λhw1 hl2=> ?_)
 refine M8 (Yj s_) Zt s_.2.1 () (λk0 _=> [(8,.i (k0:Int))]) [8] (λ_=> []) [6,7,8] wf0 (λk0 s0 hk0 U=> ?_) (λk0 s0 hk0 U=> ?_) (λy0 hD0=> ?_)
 ·obtain ⟨a0,V⟩:=Xs (l:=s_.2.1) (i:=k0) hk0;refine sn Qb [1,2,6,7,8,9] [1] (pe 0 (zB ((k0:Int)<(s_.2.1.length:Int))) p0) <| Qc <| ckT <| Qi <| Qc <| Qx <| tn Qb [1,2,3,4,6,7,8] [1,4] (pn 1 V p0) <| Qc <| mz [(3,.i (k0:Int)),(4,.p 4 0)] [] [(4, [.i a0.1,.i a0.2.1,.b a0.2.2.1,.i a0.2.2.2.1,.h a0.2.2.2.2])] [] <| jn [(40,.b ((!(Yq s_.1 a0))|| (decide (a0.1>=s_.2.2)|| (decide ((k0:Int)>(0:Int))&&decide ((nth s_.2.1 ((k0:Int)-1).toNat).1>=a0.1)))))] [3,4] [] [4] (!(Yq s_.1 a0)) (λh3=> ?_) (λh3=> ?_) ?_
  ·have h3n:(Yq s_.1 a0)=false:=Ht h3;refine rN Qb Zf [1,2,6,7,8,40] [1] (pc 3 (cb h3n (Al s_.1 a0)) (pe 4 (show .b (!false)= .b true from rfl) p0)) ?_;exact zA (by rw[h3]<;>kernel_rfl)
  ·have h3n:(Yq s_.1 a0)=true:=Ka h3;refine Ya (decide (a0.1>=s_.2.2)) (λh4=> ?_) (λh4=> ?_)
   ·refine rN Qb Zf [1,2,6,7,8,40] [1] (pc 3 (cb h3n (Al s_.1 a0)) (pe 4 (show .b (!true)= .b false from rfl) (pt 10 h4 p0))) ?_;exact zA (by rw[h3,h4]<;>kernel_rfl)
   have h4d:=of_decide_eq_false h4;refine Ya (decide ((k0:Int)>(0:Int))) (λh5=> ?_) (λh5=> ?_)
   ·have h5d:=of_decide_eq_true h5;have hx6:=ng s_.2.1 ((k0:Int)-1).toNat;refine rN Qb Zf [1,2,6,7,8,40] [1] (pc 3 (cb h3n (Al s_.1 a0)) (pe 4 (show .b (!true)= .b false from rfl) (pf 10 h4 (pt 14 h5 (pe 19 (Js (IntWalk.i64_in ((k0:Int)-1) (by omega))) (pg 20 ((k0:Int)-1) hx6 p0)))))) ?_;exact zA (by rw[h3,h4,h5]<;>kernel_rfl)
   refine rN Qb Zf [1,2,6,7,8,40] [1] (pc 3 (cb h3n (Al s_.1 a0)) (pe 4 (show .b (!true)= .b false from rfl) (pf 10 h4 (pf 14 h5 p0)))) ?_;exact zA (by rw[h3,h4,h5]<;>kernel_rfl)
  refine ck ((!(Yq s_.1 a0))|| (decide (a0.1>=s_.2.2)|| (decide ((k0:Int)>(0:Int))&&decide ((nth s_.2.1 ((k0:Int)-1).toNat).1>=a0.1)))) (λh7=> ?_) (λh7=> ?_)
  ·refine su Qb [] [40] [] [] p0 <| Qk ?_
   have hr8:(Xp (Yj s_) Zt s_.2.1 0 ())= .ret false:=Z6 V (X6 h7 (rfl)) U;exact pb [] (M5 hr8)
  have h7r:((decide (a0.1>=s_.2.2)|| (decide ((k0:Int)>(0:Int))&&decide ((nth s_.2.1 ((k0:Int)-1).toNat).1>=a0.1))))=false:=UJ h7;have h7rl:(decide (a0.1>=s_.2.2))=false:=VL h7r;have h7rld:=of_decide_eq_false h7rl;refine Qi <| rn Qb [1,2,6,7,8] [1] (pe 0 (Js (Qq k0 (by omega))) p0) ?_
  exact xw _ (Qw V (Qy h7 (rfl)) U)
 ·exact sn Qb [1,2,6,7,8,9] [1] (pe 0 (zC ((k0:Int)<(s_.2.1.length:Int))) p0) <| Qc <| ckF <| Xe <| xw _ (Xy hk0 (rfl) U)
 refine Qc <| jn [(2,.b ((X7 s_.1)&&(decide ((s_.2.1.length:Int)<=(12:Int))&&(X9 s_.2.2 1 61))))] [1,2] [] [1] (X7 s_.1) (λh9=> ?_) (λh9=> ?_) ?_
 ·refine Ya (decide ((s_.2.1.length:Int)<=(12:Int))) (λh10=> ?_) (λh10=> ?_)
  ·refine rn Qb [2] [] (pc 2 (cb h9 (U7 s_.1)) (pl 6 s_.2.1 (pt 7 h10 (pc 12 (Jk s_.2.2 1 61) p0)))) ?_;exact zA (by rw[h9,h10]<;>kernel_rfl)
  refine rn Qb [2] [] (pc 2 (cb h9 (U7 s_.1)) (pl 6 s_.2.1 (pf 7 h10 p0))) ?_;exact zA (by rw[h9,h10]<;>kernel_rfl)
 ·refine rn Qb [2] [] (pc 2 (cb h9 (U7 s_.1)) p0) ?_;exact zA (by rw[h9]<;>kernel_rfl)
 exact Qk <| pb [] (Ur hD0 (rfl))
def Kt (name:ByteArray) (_:Nat) (a0:Yd) (_:Unit):Rd (Int) (Unit) (Unit):=(bif (a0.1.toList==name.toList) then (.ret a0.2) else (.next ()))
def Hb (_:Nat) (_:Unit):Unit:=()
def J5 (s_:List Yd) (name:ByteArray):Int:=(Out.on (Xp (Kt name) Hb s_ 0 ()) (λ_=>0))
theorem Fe (s_:List Yd) (name:ByteArray):ACalls Tryz.prog 52 [.h s_,.s name] (.i (J5 s_ name)):=by
 refine en Qb Tryz.func52 λw0 F0 hG=> ?_
 refine sn Qb [0,1,4] [] p0 <| Qc <| tn Qb [0,1,4,5] [] p0 <| mz [(4,.i 0),(5,.i 0)] [] [] [] <| wT 0 0 .sh s_ (λhw1 hl2=> ?_)
 refine M8 (Kt name) Hb s_ () (λk0 _=> [(5,.i (k0:Int))]) [5] (λ_=> []) [0,1,5] wf0 (λk0 s0 hk0 U=> ?_) (λk0 s0 hk0 U=> ?_) (λy0 hD0=> ?_)
 ·obtain ⟨a0,V⟩:=Xs (l:=s_) (i:=k0) hk0;refine Qc <| sn Qb [0,1,4,5,9] [] (pl 2 s_ (pe 3 (zB ((k0:Int)<(s_.length:Int))) p0)) <| ckT <| Qi <| Qc <| Qx <| tn Qb [0,1,4,5,18] [] (pn 2 V p0) <| ck (a0.1.toList==name.toList) (λh3=> ?_) (λh3=> ?_)
  ·refine tu Qb [(4,.i a0.2)] [4] [] [] (pn 2 V p0) <| Qk ?_
   have hr4:(Xp (Kt name) Hb s_ 0 ())= .ret a0.2:=Z6 V (X6 h3 (rfl)) U;exact pi [] (M5 hr4)
  refine Qi <| qu Qb [(5,.i ((k0+1:Nat):Int))] [5] [] [] (pe 1 (Js (Qq k0 (by omega))) p0) ?_
  exact xw _ (Qw V (Qy h3 (rfl)) U)
 ·exact Qc <| sn Qb [0,1,4,5,9] [] (pl 2 s_ (pe 3 (zC ((k0:Int)<(s_.length:Int))) p0)) <| ckF <| Xe <| xw _ (Xy hk0 (rfl) U)
 exact sn Qb [4] [] p0 <| Qk <| pi [] (Ur hD0 (rfl))
def Jf (s_:List Yd) (name:ByteArray) (v:Z4):Bool:=((Zy v)&&((v.1 !=(0:Int))&&(v.1==(J5 s_ name))))
theorem B2 (s_:List Yd) (name:ByteArray) (v:Z4):ACalls Tryz.prog 144 [.h s_,.s name,.a [.i v.1,.i v.2.1,.s v.2.2]] (.b (Jf s_ name v)):=by
 refine en Qb Tryz.func144 λw0 F0 hG=> ?_
 refine sn Qb [0,1,5,6] [5] p0 <| Qc <| mz [(5,.p 5 0),(6,.b false)] [2] [(5, [.i v.1,.i v.2.1,.s v.2.2])] [] <| jn [(6,.b ((Zy v)&&((v.1 !=(0:Int))&&(v.1==(J5 s_ name)))))] [0,1,5,6] [] [5] (Zy v) (λh1=> ?_) (λh1=> ?_) ?_
 ·refine Ya (v.1 !=(0:Int)) (λh2=> ?_) (λh2=> ?_)
  ·refine rN Qb Zf [6] [] (pc 1 (cb h1 (Zr v)) (pt 5 h2 (pc 12 (Fe s_ name) p0))) ?_;exact zA (by rw[h1,h2]<;>kernel_rfl)
  refine rN Qb Zf [6] [] (pc 1 (cb h1 (Zr v)) (pf 5 h2 p0)) ?_;exact zA (by rw[h1,h2]<;>kernel_rfl)
 ·refine rN Qb Zf [6] [] (pc 1 (cb h1 (Zr v)) p0) ?_;exact zA (by rw[h1]<;>kernel_rfl)
 exact Qk <| pb [] (show Jf s_ name v=((Zy v)&&((v.1 !=(0:Int))&&(v.1==(J5 s_ name)))) from rfl)
def We (s_:List Yd) (k0:Nat) (a0:Yd) (_:Unit):Rd (Bool) (Unit) (Unit):=(bif ((!(Xv a0.1))|| ((!(Xi a0.2 1 2))|| (decide ((k0:Int)>(0:Int))&&(!(Op.bytesLess ((nth s_ ((k0:Int)-1).toNat).1).toList a0.1.toList))))) then (.ret false) else (.next ()))
def Uv (_:Nat) (_:Unit):Unit:=()
def Jg (s_:List Yd):Bool:=(Out.on (Xp (We s_) Uv s_ 0 ()) (λ_=>decide ((s_.length:Int)<=(5:Int))))
theorem Kz (s_:List Yd):ACalls Tryz.prog 93 [.h s_] (.b (Jg s_)):=by
 refine en Qb Tryz.func93 λw0 F0 hG=> ?_
 refine sn Qb [0,2] [] p0 <| Qc <| tn Qb [0,2,3] [] p0 <| mz [(2,.b false),(3,.i 0)] [] [] [] <| wT 0 0 .sh s_ (λhw1 hl2=> ?_)
 refine M8 (We s_) Uv s_ () (λk0 _=> [(3,.i (k0:Int))]) [3] (λ_=> []) [3] wf0 (λk0 s0 hk0 U=> ?_) (λk0 s0 hk0 U=> ?_) (λy0 hD0=> ?_)
 ·obtain ⟨a0,V⟩:=Xs (l:=s_) (i:=k0) hk0;refine Qc <| sn Qb [0,2,3,7] [] (pl 2 s_ (pe 3 (zB ((k0:Int)<(s_.length:Int))) p0)) <| ckT <| Qi <| Qc <| Qx <| Qc <| mz [(7,.b true)] [] [] [] <| jn [(43,.b ((!(Xv a0.1))|| ((!(Xi a0.2 1 2))|| (decide ((k0:Int)>(0:Int))&&(!(Op.bytesLess ((nth s_ ((k0:Int)-1).toNat).1).toList a0.1.toList))))))] [7] [] [] (!(Xv a0.1)) (λh3=> ?_) (λh3=> ?_) ?_
  ·have h3n:(Xv a0.1)=false:=Ht h3;refine rN Qb Zf [0,2,3,43] [] (pn 2 V (pc 5 (cb h3n (X8 a0.1)) (pe 6 (show .b (!false)= .b true from rfl) p0))) ?_;exact zA (by rw[h3]<;>kernel_rfl)
  ·have h3n:(Xv a0.1)=true:=Ka h3;refine Ya (!(Xi a0.2 1 2)) (λh4=> ?_) (λh4=> ?_)
   ·have h4n:(Xi a0.2 1 2)=false:=Ht h4;refine rN Qb Zf [0,2,3,43] [] (pn 2 V (pc 5 (cb h3n (X8 a0.1)) (pe 6 (show .b (!true)= .b false from rfl) (pn 10 V (pc 13 (cb h4n (Zz a0.2 1 2)) (pe 14 (show .b (!false)= .b true from rfl) p0)))))) ?_;exact zA (by rw[h3,h4]<;>kernel_rfl)
   have h4n:(Xi a0.2 1 2)=true:=Ka h4;have h4nw:=L8.1 h4n;refine Ya (decide ((k0:Int)>(0:Int))) (λh5=> ?_) (λh5=> ?_)
   ·have h5d:=of_decide_eq_true h5;have hx6:=ng s_ ((k0:Int)-1).toNat;refine rN Qb Zf [0,2,3,43] [] (pn 2 V (pc 5 (cb h3n (X8 a0.1)) (pe 6 (show .b (!true)= .b false from rfl) (pn 10 V (pc 13 (cb h4n (Zz a0.2 1 2)) (pe 14 (show .b (!true)= .b false from rfl) (pt 18 h5 (pe 22 (Js (IntWalk.i64_in ((k0:Int)-1) (by omega))) (pg 23 ((k0:Int)-1) hx6 (pn 28 V p0)))))))))) ?_;exact zA (by rw[h3,h4,h5]<;>kernel_rfl)
   refine rN Qb Zf [0,2,3,43] [] (pn 2 V (pc 5 (cb h3n (X8 a0.1)) (pe 6 (show .b (!true)= .b false from rfl) (pn 10 V (pc 13 (cb h4n (Zz a0.2 1 2)) (pe 14 (show .b (!true)= .b false from rfl) (pf 18 h5 p0))))))) ?_;exact zA (by rw[h3,h4,h5]<;>kernel_rfl)
  refine ck ((!(Xv a0.1))|| ((!(Xi a0.2 1 2))|| (decide ((k0:Int)>(0:Int))&&(!(Op.bytesLess ((nth s_ ((k0:Int)-1).toNat).1).toList a0.1.toList))))) (λh7=> ?_) (λh7=> ?_)
  ·refine sn Qb [0,2,3] [] p0 <| Qk ?_
   have hr8:(Xp (We s_) Uv s_ 0 ())= .ret false:=Z6 V (X6 h7 (rfl)) U;exact pb [] (M5 hr8)
  have h7r:(((!(Xi a0.2 1 2))|| (decide ((k0:Int)>(0:Int))&&(!(Op.bytesLess ((nth s_ ((k0:Int)-1).toNat).1).toList a0.1.toList)))))=false:=UJ h7;have h7rl:((!(Xi a0.2 1 2)))=false:=VL h7r;have h7rln:(Xi a0.2 1 2)=true:=Ka h7rl;have h7rlnw:=L8.1 h7rln;refine Qi <| rn Qb [0,2,3] [] (pe 1 (Js (Qq k0 (by omega))) p0) ?_
  exact xw _ (Qw V (Qy h7 (rfl)) U)
 ·exact Qc <| sn Qb [0,2,3,7] [] (pl 2 s_ (pe 3 (zC ((k0:Int)<(s_.length:Int))) p0)) <| ckF <| Xe <| xw _ (Xy hk0 (rfl) U)
 exact sn Qb [2] [] (pl 1 s_ p0) <| Qk <| pb [] (Ur hD0 (rfl))
def Uf (s_:List Yd) (f:Yh) (k0:Nat) (a0:Jl) (_:Unit):Rd (Bool) (Unit) (Unit):=(bif ((!(Jf s_ a0.1 a0.2))|| (decide ((k0:Int)>(0:Int))&&(!(Op.bytesLess ((nth f.2.2.2.2 ((k0:Int)-1).toNat).1).toList a0.1.toList)))) then (.ret false) else (.next ()))
def Hw (_:Nat) (_:Unit):Unit:=()
def Jb (s_:List Yd) (f:Yh):Bool:=(Out.on (Xp (Uf s_ f) Hw f.2.2.2.2 0 ()) (λ_=>((Jg s_)&&((Xi f.1 1 60)&&((Xi f.2.1 0 2)&&(Xi f.2.2.2.1 0 60))))))
theorem Am (s_:List Yd) (f:Yh):ACalls Tryz.prog 92 [.h s_,.a [.i f.1,.i f.2.1,.b f.2.2.1,.i f.2.2.2.1,.h f.2.2.2.2]] (.b (Jb s_ f)):=by
 refine en Qb Tryz.func92 λw0 F0 hG=> ?_
 refine sn Qb [0,3,4] [3] p0 <| Qc <| tn Qb [0,3,4,5] [3] p0 <| mz [(3,.p 3 0),(4,.b false),(5,.i 0)] [1] [(3, [.i f.1,.i f.2.1,.b f.2.2.1,.i f.2.2.2.1,.h f.2.2.2.2])] [] <| wB 3 4 .sh f.2.2.2.2 (λhw1 hl2=> ?_)
 refine M8 (Uf s_ f) Hw f.2.2.2.2 () (λk0 _=> [(5,.i (k0:Int))]) [5] (λ_=> []) [5] wf0 (λk0 s0 hk0 U=> ?_) (λk0 s0 hk0 U=> ?_) (λy0 hD0=> ?_)
 ·obtain ⟨a0,V⟩:=Xs (l:=f.2.2.2.2) (i:=k0) hk0;refine Qc <| sn Qb [0,3,4,5,10] [3] (pl 3 f.2.2.2.2 (pe 4 (zB ((k0:Int)<(f.2.2.2.2.length:Int))) p0)) <| ckT <| Qi <| Qc <| Qx <| Qc <| mz [(10,.b true)] [] [] [] <| jn [(47,.b ((!(Jf s_ a0.1 a0.2))|| (decide ((k0:Int)>(0:Int))&&(!(Op.bytesLess ((nth f.2.2.2.2 ((k0:Int)-1).toNat).1).toList a0.1.toList)))))] [10] [] [] (!(Jf s_ a0.1 a0.2)) (λh3=> ?_) (λh3=> ?_) ?_
  ·have h3n:(Jf s_ a0.1 a0.2)=false:=Ht h3;refine rN Qb Zf [0,3,4,5,47] [3] (pn 4 V (pn 10 V (pc 13 (cb h3n (B2 s_ a0.1 a0.2)) (pe 14 (show .b (!false)= .b true from rfl) p0)))) ?_;exact zA (by rw[h3]<;>kernel_rfl)
  ·have h3n:(Jf s_ a0.1 a0.2)=true:=Ka h3;refine Ya (decide ((k0:Int)>(0:Int))) (λh4=> ?_) (λh4=> ?_)
   ·have h4d:=of_decide_eq_true h4;have hx5:=ng f.2.2.2.2 ((k0:Int)-1).toNat;refine rN Qb Zf [0,3,4,5,47] [3] (pn 4 V (pn 10 V (pc 13 (cb h3n (B2 s_ a0.1 a0.2)) (pe 14 (show .b (!true)= .b false from rfl) (pt 17 h4 (pe 22 (Js (IntWalk.i64_in ((k0:Int)-1) (by omega))) (pg 23 ((k0:Int)-1) hx5 (pn 29 V p0)))))))) ?_;exact zA (by rw[h3,h4]<;>kernel_rfl)
   refine rN Qb Zf [0,3,4,5,47] [3] (pn 4 V (pn 10 V (pc 13 (cb h3n (B2 s_ a0.1 a0.2)) (pe 14 (show .b (!true)= .b false from rfl) (pf 17 h4 p0))))) ?_;exact zA (by rw[h3,h4]<;>kernel_rfl)
  refine ck ((!(Jf s_ a0.1 a0.2))|| (decide ((k0:Int)>(0:Int))&&(!(Op.bytesLess ((nth f.2.2.2.2 ((k0:Int)-1).toNat).1).toList a0.1.toList)))) (λh6=> ?_) (λh6=> ?_)
  ·refine su Qb [] [47] [] [] p0 <| Qk ?_
   have hr7:(Xp (Uf s_ f) Hw f.2.2.2.2 0 ())= .ret false:=Z6 V (X6 h6 (rfl)) U;exact pb [] (M5 hr7)
  refine Qi <| rn Qb [0,3,4,5] [3] (pe 1 (Js (Qq k0 (by omega))) p0) ?_
  exact xw _ (Qw V (Qy h6 (rfl)) U)
 ·exact Qc <| sn Qb [0,3,4,5,10] [3] (pl 3 f.2.2.2.2 (pe 4 (zC ((k0:Int)<(f.2.2.2.2.length:Int))) p0)) <| ckF <| Xe <| xw _ (Xy hk0 (rfl) U)
 refine Qc <| jn [(4,.b ((Jg s_)&&((Xi f.1 1 60)&&((Xi f.2.1 0 2)&&(Xi f.2.2.2.1 0 60)))))] [0,3,4] [] [3] (Jg s_) (λh8=> ?_) (λh8=> ?_) ?_
 ·refine Ya (Xi f.1 1 60) (λh9=> ?_) (λh9=> ?_)
  ·have h9w:=L8.1 h9;refine Ya (Xi f.2.1 0 2) (λh10=> ?_) (λh10=> ?_)
   ·have h10w:=L8.1 h10;refine rn Qb [4] [] (pc 1 (cb h8 (Kz s_)) (pc 5 (cb h9 (Zz f.1 1 60)) (pc 10 (cb h10 (Zz f.2.1 0 2)) (pc 15 (Zz f.2.2.2.1 0 60) p0)))) ?_;exact zA (by rw[h8,h9,h10]<;>kernel_rfl)
   refine rn Qb [4] [] (pc 1 (cb h8 (Kz s_)) (pc 5 (cb h9 (Zz f.1 1 60)) (pc 10 (cb h10 (Zz f.2.1 0 2)) p0))) ?_;exact zA (by rw[h8,h9,h10]<;>kernel_rfl)
  refine rn Qb [4] [] (pc 1 (cb h8 (Kz s_)) (pc 5 (cb h9 (Zz f.1 1 60)) p0)) ?_;exact zA (by rw[h8,h9]<;>kernel_rfl)
 ·refine rn Qb [4] [] (pc 1 (cb h8 (Kz s_)) p0) ?_;exact zA (by rw[h8]<;>kernel_rfl)
 exact Qk <| pb [] (Ur hD0 (rfl))
def Zh (s_:X1) (k0:Nat) (a0:Yh) (_:Unit):Rd (Bool) (Unit) (Unit):=(bif ((!(Jb s_.1 a0))|| (decide (a0.1>=s_.2.2)|| (decide ((k0:Int)>(0:Int))&&decide ((nth s_.2.1 ((k0:Int)-1).toNat).1>=a0.1)))) then (.ret false) else (.next ()))
def Vn (_:Nat) (_:Unit):Unit:=()
def Xj (s_:X1):Bool:=(Out.on (Xp (Zh s_) Vn s_.2.1 0 ()) (λ_=>((Jg s_.1)&&(decide ((s_.2.1.length:Int)<=(12:Int))&&(Xi s_.2.2 1 61)))))
theorem Ug (s_:X1):ACalls Tryz.prog 51 [.a [.h s_.1,.h s_.2.1,.i s_.2.2]] (.b (Xj s_)):=by
 refine en Qb Tryz.func51 λw0 F0 hG=> ?_
 refine sn Qb [1,2] [1] p0 <| Qc <| tn Qb [1,2,3] [1] p0 <| mz [(1,.p 1 0),(2,.b false),(3,.i 0)] [0] [(1, [.h s_.1,.h s_.2.1,.i s_.2.2])] [] <| wB 1 1 .sh s_.2.1 (λhw1 hl2=> ?_)
 refine M8 (Zh s_) Vn s_.2.1 () (λk0 _=> [(3,.i (k0:Int))]) [3] (λ_=> []) [3] wf0 (λk0 s0 hk0 U=> ?_) (λk0 s0 hk0 U=> ?_) (λy0 hD0=> ?_)
 ·obtain ⟨a0,V⟩:=Xs (l:=s_.2.1) (i:=k0) hk0;refine Qc <| sn Qb [1,2,3,8] [1] (pl 3 s_.2.1 (pe 4 (zB ((k0:Int)<(s_.2.1.length:Int))) p0)) <| ckT <| Qi <| Qc <| Qx <| Qc <| mz [(8,.b true)] [] [] [] <| jn [(50,.b ((!(Jb s_.1 a0))|| (decide (a0.1>=s_.2.2)|| (decide ((k0:Int)>(0:Int))&&decide ((nth s_.2.1 ((k0:Int)-1).toNat).1>=a0.1)))))] [8] [] [] (!(Jb s_.1 a0)) (λh3=> ?_) (λh3=> ?_) ?_
  ·have h3n:(Jb s_.1 a0)=false:=Ht h3;refine rN Qb Zf [1,2,3,50] [1] (pn 5 V (pc 7 (cb h3n (Am s_.1 a0)) (pe 8 (show .b (!false)= .b true from rfl) p0))) ?_;exact zA (by rw[h3]<;>kernel_rfl)
  ·have h3n:(Jb s_.1 a0)=true:=Ka h3;refine Ya (decide (a0.1>=s_.2.2)) (λh4=> ?_) (λh4=> ?_)
   ·refine rN Qb Zf [1,2,3,50] [1] (pn 5 V (pc 7 (cb h3n (Am s_.1 a0)) (pe 8 (show .b (!true)= .b false from rfl) (pn 13 V (pt 18 h4 p0))))) ?_;exact zA (by rw[h3,h4]<;>kernel_rfl)
   have h4d:=of_decide_eq_false h4;refine Ya (decide ((k0:Int)>(0:Int))) (λh5=> ?_) (λh5=> ?_)
   ·have h5d:=of_decide_eq_true h5;have hx6:=ng s_.2.1 ((k0:Int)-1).toNat;refine rN Qb Zf [1,2,3,50] [1] (pn 5 V (pc 7 (cb h3n (Am s_.1 a0)) (pe 8 (show .b (!true)= .b false from rfl) (pn 13 V (pf 18 h4 (pt 22 h5 (pe 27 (Js (IntWalk.i64_in ((k0:Int)-1) (by omega))) (pg 28 ((k0:Int)-1) hx6 (pn 34 V p0))))))))) ?_;exact zA (by rw[h3,h4,h5]<;>kernel_rfl)
   refine rN Qb Zf [1,2,3,50] [1] (pn 5 V (pc 7 (cb h3n (Am s_.1 a0)) (pe 8 (show .b (!true)= .b false from rfl) (pn 13 V (pf 18 h4 (pf 22 h5 p0)))))) ?_;exact zA (by rw[h3,h4,h5]<;>kernel_rfl)
  refine ck ((!(Jb s_.1 a0))|| (decide (a0.1>=s_.2.2)|| (decide ((k0:Int)>(0:Int))&&decide ((nth s_.2.1 ((k0:Int)-1).toNat).1>=a0.1)))) (λh7=> ?_) (λh7=> ?_)
  ·refine su Qb [] [50] [] [] p0 <| Qk ?_
   have hr8:(Xp (Zh s_) Vn s_.2.1 0 ())= .ret false:=Z6 V (X6 h7 (rfl)) U;exact pb [] (M5 hr8)
  have h7r:((decide (a0.1>=s_.2.2)|| (decide ((k0:Int)>(0:Int))&&decide ((nth s_.2.1 ((k0:Int)-1).toNat).1>=a0.1))))=false:=UJ h7;have h7rl:(decide (a0.1>=s_.2.2))=false:=VL h7r;have h7rld:=of_decide_eq_false h7rl;refine Qi <| rn Qb [1,2,3] [1] (pe 1 (Js (Qq k0 (by omega))) p0) ?_
  exact xw _ (Qw V (Qy h7 (rfl)) U)
 ·exact Qc <| sn Qb [1,2,3,8] [1] (pl 3 s_.2.1 (pe 4 (zC ((k0:Int)<(s_.2.1.length:Int))) p0)) <| ckF <| Xe <| xw _ (Xy hk0 (rfl) U)
 refine Qc <| jn [(2,.b ((Jg s_.1)&&(decide ((s_.2.1.length:Int)<=(12:Int))&&(Xi s_.2.2 1 61))))] [1,2] [] [1] (Jg s_.1) (λh9=> ?_) (λh9=> ?_) ?_
 ·refine Ya (decide ((s_.2.1.length:Int)<=(12:Int))) (λh10=> ?_) (λh10=> ?_)
  ·refine rn Qb [2] [] (pc 2 (cb h9 (Kz s_.1)) (pl 6 s_.2.1 (pt 7 h10 (pc 12 (Zz s_.2.2 1 61) p0)))) ?_;exact zA (by rw[h9,h10]<;>kernel_rfl)
  refine rn Qb [2] [] (pc 2 (cb h9 (Kz s_.1)) (pl 6 s_.2.1 (pf 7 h10 p0))) ?_;exact zA (by rw[h9,h10]<;>kernel_rfl)
 ·refine rn Qb [2] [] (pc 2 (cb h9 (Kz s_.1)) p0) ?_;exact zA (by rw[h9]<;>kernel_rfl)
 exact Qk <| pb [] (Ur hD0 (rfl))
theorem Qfp (s : List Yd) (n : ByteArray) : J5 s n = Ak s n := rfl
theorem YZ (s : List Yd) (n : ByteArray) (v : Z4) : Jf s n v = Xx s n v := by
  unfold Jf Xx
  rw [RC, Qfp]
theorem XN (s : List Yd) : Jg s = X7 s := by
  unfold Jg X7
  rw [Fw (f := We s) (g := Xz s) (e := Uv) (e' := Zj) (λk a u => by
    unfold We Xz
    rw [GX]
    have h : (!(Xi a.2 1 2)) = ((a.2 != 1) && (a.2 != 2)) := by
      unfold Xi
      rw [Bool.eq_iff_iff]; simp; omega
    rw [h]
    generalize (!(Op.bytesLess ((nth s (Int.toNat (((k : Nat) : Int) - 1))).1).toList a.1.toList)) = x
    cases Xv a.1 <;> cases (a.2 != (1 : Int)) <;> cases (a.2 != (2 : Int)) <;> cases decide (((k : Nat) : Int) > (0 : Int)) <;> cases x <;> rfl) (λ_ _ => rfl)]
theorem XO (s : List Yd) (f : Yh) : Jb s f = Yq s f := by
  unfold Jb Yq
  rw [Fw (f := Uf s f) (g := Y2 s f) (e := Hw) (e' := K9) (λk a u => by
    unfold Uf Y2
    rw [YZ]
    generalize (!(Op.bytesLess ((nth f.2.2.2.2 (Int.toNat (((k : Nat) : Int) - 1))).1).toList a.1.toList)) = x
    cases Xx s a.1 a.2 <;> cases decide (((k : Nat) : Int) > (0 : Int)) <;> cases x <;> rfl) (λ_ _ => rfl), XN]
  congr 1
  funext y
  unfold Ca
  simp only [← AN]
  cases X7 s <;> cases X9 f.1 1 60 <;> cases X9 f.2.1 0 2 <;> cases X9 f.2.2.2.1 0 60 <;> rfl
theorem Ix (s : X1) : Xj s = Q7 s := by
  unfold Xj Q7
  rw [Fw (f := Zh s) (g := Yj s) (e := Vn) (e' := Zt) (λk a u => by
    unfold Zh Yj
    rw [XO]) (λ_ _ => rfl), XN]
  rfl
open GoE (enc wide)
def Wl (name:ByteArray) (_:Nat) (a0:Jl) (_:Unit):Rd (Z4) (Unit) (Unit):=(bif (a0.1.toList==name.toList) then (.ret a0.2) else (.next ()))
def Hi (_:Nat) (_:Unit):Unit:=()
def Qf (f:Yh) (name:ByteArray):Z4:=(Out.on (Xp (Wl name) Hi f.2.2.2.2 0 ()) (λ_=>(0,0,⟨#[]⟩)))
theorem Eo (f:Yh) (name:ByteArray):ACalls Tryz.prog 68 [.a [.i f.1,.i f.2.1,.b f.2.2.1,.i f.2.2.2.1,.h f.2.2.2.2],.s name] (.a [.i ((Qf f name).1),.i ((Qf f name).2.1),.s ((Qf f name).2.2)]):=by
 refine en Qb Tryz.func68 λw0 F0 hG=> ?_
 refine sn Qb [1,2,4] [2,4] p0 <| Qc <| tn Qb [1,4,8,9,10] [4] (pl 2 f.2.2.2.2 p0) <| mz [(4,.p 4 0),(8,.h f.2.2.2.2),(9,.i (f.2.2.2.2.length:Int)),(10,.i 0)] [0] [(4, [.i 0,.i 0,.s ⟨#[]⟩])] [] <| wT 8 0 .sh f.2.2.2.2 (λhw1 hl2=> ?_)
 refine M8 (Wl name) Hi f.2.2.2.2 () (λk0 _=> [(10,.i (k0:Int))]) [10] (λ_=> []) [1,8,9,10] wf0 (λk0 s0 hk0 U=> ?_) (λk0 s0 hk0 U=> ?_) (λy0 hD0=> ?_)
 ·obtain ⟨a0,V⟩:=Xs (l:=f.2.2.2.2) (i:=k0) hk0;refine su Qb [(11,.b true)] [] [] [] (pe 0 (zB ((k0:Int)<(f.2.2.2.2.length:Int))) p0) <| Qc <| ckT <| Qi <| Qc <| Qx <| sn Qb [1,4,6,8,9,10] [4,6] (pn 0 V p0) <| tn Qb [1,4,6,8,9,10,17] [4,6] p0 <| ck (a0.1.toList==name.toList) (λh3=> ?_) (λh3=> ?_)
  ·refine tu Qb [] [11] [(4, [.i a0.2.1,.i a0.2.2.1,.s a0.2.2.2])] [4] p0 <| Qk ?_
   have hr4:(Xp (Wl name) Hi f.2.2.2.2 0 ())= .ret a0.2:=Z6 V (X6 h3 (rfl)) U;exact pz [] (show Qf f name=_ from M5 hr4) (λz=> .a [.i z.1,.i z.2.1,.s z.2.2])
  refine Qi <| qu Qb [(10,.i ((k0+1:Nat):Int))] [10,11] [] [] (pe 0 (Js (Qq k0 (by omega))) p0) ?_
  exact xw _ (Qw V (Qy h3 (rfl)) U)
 ·exact sn Qb [1,4,8,9,10,11] [4] (pe 0 (zC ((k0:Int)<(f.2.2.2.2.length:Int))) p0) <| Qc <| ckF <| Xe <| xw _ (Xy hk0 (rfl) U)
 exact sn Qb [4] [4] p0 <| Qk <| pz [] (show Qf f name=_ from Ur hD0 (rfl)) (λz=> .a [.i z.1,.i z.2.1,.s z.2.2])
def V6 (f:Yh) (name:ByteArray):Int×Bool:=(bif ((Qf f name).1 !=(1:Int)) then (0,false) else ((Qf f name).2.1,true))
theorem WB (f:Yh) (name:ByteArray):ACalls Tryz.prog 227 [.a [.i f.1,.i f.2.1,.b f.2.2.1,.i f.2.2.2.1,.h f.2.2.2.2],.s name] (.tup [(false, [.i (((V6 f name)).1)]),(false, [.b (((V6 f name)).2)])]):=by
 refine en Qb Tryz.func227 λw0 F0 hG=> ?_
 refine sn Qb [1,2,4,5] [2] p0 <| tn Qb [4,5,6] [6] (pc 2 (Eo f name) p0) <| Qc <| tu Qb [(4,.i 0),(5,.b false),(6,.p 6 0),(12,.b ((Qf f name).1 !=(1:Int)))] [0,1] [(6, [.i ((Qf f name).1),.i ((Qf f name).2.1),.s ((Qf f name).2.2)])] [] p0 <| ck ((Qf f name).1 !=(1:Int)) (λh1=> ?_) (λh1=> ?_)
 ·exact su Qb [] [12] [] [] p0 <| Qk <| pz [] (show V6 f name=_ from X6 h1 (rfl)) (λz=> .tup [(false, [.i z.1]),(false, [.b z.2])])
 exact Qi <| sn Qb [4,5] [] p0 <| Qk <| pz [] (show V6 f name=_ from Qy h1 (rfl)) (λz=> .tup [(false, [.i z.1]),(false, [.b z.2])])
def Ku (name:ByteArray) (_:Nat) (a0:Qg) (_:Unit):Rd (List Int) (Unit) (Unit):=(bif (a0.1.toList==name.toList) then (.ret a0.2) else (.next ()))
def V7 (_:Nat) (_:Unit):Unit:=()
def Xa (r:List Qg) (name:ByteArray):(List Int):=(Out.on (Xp (Ku name) V7 r 0 ()) (λ_=> []))
theorem C1 (r:List Qg) (name:ByteArray):ACalls Tryz.prog 136 [.h r,.s name] (.o 0 (Xa r name)):=by
 refine en Qb Tryz.func136 λw0 F0 hG=> ?_
 refine sn Qb [0,1,4] [] p0 <| Qc <| tn Qb [1,4,7,8,9] [] (pl 1 r p0) <| mz [(4,.e 0),(7,.h r),(8,.i (r.length:Int)),(9,.i 0)] [0] [] [] <| wT 7 0 .sh r (λhw1 hl2=> ?_)
 refine M8 (Ku name) V7 r () (λk0 _=> [(9,.i (k0:Int))]) [9] (λ_=> []) [1,7,8,9] wf0 (λk0 s0 hk0 U=> ?_) (λk0 s0 hk0 U=> ?_) (λy0 hD0=> ?_)
 ·obtain ⟨a0,V⟩:=Xs (l:=r) (i:=k0) hk0;refine sn Qb [1,4,7,8,9,10] [] (pe 0 (zB ((k0:Int)<(r.length:Int))) p0) <| Qc <| ckT <| Qi <| Qc <| Qx <| tn Qb [1,4,6,7,8,9] [6] (pn 0 V p0) <| tu Qb [(6,.p 6 0),(16,.b (a0.1.toList==name.toList))] [] [(6, [.s a0.1,.h a0.2])] [] p0 <| ck (a0.1.toList==name.toList) (λh3=> ?_) (λh3=> ?_)
  ·refine sn Qb [1,4,7,8,9] [] (pc 2 (Sd a0.2) p0) <| Qk ?_
   have hr4:(Xp (Ku name) V7 r 0 ())= .ret a0.2:=Z6 V (X6 h3 (rfl)) U;exact po0 [] (M5 hr4)
  refine Qi <| rn Qb [1,4,7,8,9] [] (pe 0 (Js (Qq k0 (by omega))) p0) ?_
  exact xw _ (Qw V (Qy h3 (rfl)) U)
 ·exact sn Qb [1,4,7,8,9,10] [] (pe 0 (zC ((k0:Int)<(r.length:Int))) p0) <| Qc <| ckF <| Xe <| xw _ (Xy hk0 (rfl) U)
 refine sn Qb [4] [] p0 <| opn [(false,4,0,true,384000,1)] ?_
 exact Qk <| po0 [] (Ur hD0 (rfl))
def Jo (v:Int) (k0:Nat) (a0:Int) (_:Unit):Rd (Int) (Unit) (Unit):=(bif (v==a0) then (.ret (k0:Int)) else (.next ()))
def V1 (_:Nat) (_:Unit):Unit:=()
def Ad (s_:List Int) (v:Int):Int:=(Out.on (Xp (Jo v) V1 s_ 0 ()) (λ_=> -1))
theorem Sl (s_:List Int) (v:Int):ACalls Tryz.prog 211 [.h s_,.i v] (.i (Ad s_ v)):=by
 refine en Qb Tryz.func211 λw0 F0 hG=> ?_
 refine sn Qb [0,1,4] [] p0 <| Qc <| tn Qb [0,1,4,7,8] [] (pl 1 s_ p0) <| mz [(4,.i 0),(7,.i (s_.length:Int)),(8,.i 0)] [] [] [] <| wT 0 0 .sh s_ (λhw1 hl2=> ?_)
 refine M8 (Jo v) V1 s_ () (λk0 _=> [(8,.i (k0:Int))]) [8] (λ_=> []) [0,1,7,8] wf0 (λk0 s0 hk0 U=> ?_) (λk0 s0 hk0 U=> ?_) (λy0 hD0=> ?_)
 ·obtain ⟨a0,V⟩:=Xs (l:=s_) (i:=k0) hk0;refine sn Qb [0,1,4,7,8,9] [] (pe 0 (zB ((k0:Int)<(s_.length:Int))) p0) <| Qc <| ckT <| Qi <| Qc <| Qx <| tn Qb [0,1,4,5,7,8] [] p0 <| tu Qb [(5,.i (k0:Int)),(16,.b (v==a0))] [] [] [] (pn 3 V p0) <| ck (v==a0) (λh3=> ?_) (λh3=> ?_)
  ·refine sn Qb [0,1,4,7,8] [] p0 <| Qk ?_
   have hr4:(Xp (Jo v) V1 s_ 0 ())= .ret (k0:Int):=Z6 V (X6 h3 (rfl)) U;exact pi [] (M5 hr4)
  have h3d:=Zq h3;refine Qi <| rn Qb [0,1,4,7,8] [] (pe 0 (Js (Qq k0 (by omega))) p0) ?_
  exact xw _ (Qw V (Qy h3 (rfl)) U)
 ·exact sn Qb [0,1,4,7,8,9] [] (pe 0 (zC ((k0:Int)<(s_.length:Int))) p0) <| Qc <| ckF <| Xe <| xw _ (Xy hk0 (rfl) U)
 exact sn Qb [4] [] p0 <| Qk <| pi [] (Ur hD0 (rfl))
def Kj (s_:List Int) (v:Int):Bool:=decide ((Ad s_ v)>=(0:Int))
theorem Ef (s_:List Int) (v:Int):ACalls Tryz.prog 196 [.h s_,.i v] (.b (Kj s_ v)):=by
 refine en Qb Tryz.func196 λw0 F0 hG=> ?_
 exact sn Qb [0,1,4] [] p0 <| tn Qb [4] [] (pc 2 (Sl s_ v) p0) <| Qk <| pb [] (show Kj s_ v=decide ((Ad s_ v)>=(0:Int)) from rfl)
def K5 (ids:List Int) (id:Int):Bool:=(Kj ids id)
theorem Ld (ids:List Int) (id:Int):ACalls Tryz.prog 228 [.h ids,.i id] (.b (K5 ids id)):=by
 refine en Qb Tryz.func228 λw0 F0 hG=> ?_
 exact sn Qb [0,1,4] [] p0 <| tn Qb [4] [] (pc 2 (Ef ids id) p0) <| Qk <| pb [] (show K5 ids id=(Kj ids id) from rfl)
def Ym (n_:Nat) (q:List Yy) (at_:Int) (f:Yh) (r:List Qg):Bool:=match n_ with
 | 0=>default
 | n_+1=>(bif ((nth q at_.toNat).1==(2:Int)) then ((Qf f ((nth q at_.toNat).2.2.2.1)).1 !=(0:Int)) else (bif ((nth q at_.toNat).1==(3:Int)) then (((Qf f ((nth q at_.toNat).2.2.2.1)).1==(nth q at_.toNat).2.2.2.2.1)&&(((Qf f ((nth q at_.toNat).2.2.2.1)).2.1==(nth q at_.toNat).2.2.2.2.2.1)&&((((Qf f ((nth q at_.toNat).2.2.2.1)).2.2).toList==((nth q at_.toNat).2.2.2.2.2.2).toList)&&true))) else (bif ((nth q at_.toNat).1==(4:Int)) then (((V6 f ((nth q at_.toNat).2.2.2.1))).2&&decide (((V6 f ((nth q at_.toNat).2.2.2.1))).1<(nth q at_.toNat).2.2.2.2.2.1)) else (bif ((nth q at_.toNat).1==(5:Int)) then (!(Ym n_ q ((nth q at_.toNat).2.1) f r)) else (bif ((nth q at_.toNat).1==(6:Int)) then ((Ym n_ q ((nth q at_.toNat).2.1) f r)&&(Ym n_ q ((nth q at_.toNat).2.2.1) f r)) else (bif ((nth q at_.toNat).1==(7:Int)) then ((Ym n_ q ((nth q at_.toNat).2.1) f r)|| (Ym n_ q ((nth q at_.toNat).2.2.1) f r)) else (bif ((nth q at_.toNat).1==(8:Int)) then (K5 (Xa r ((nth q at_.toNat).2.2.2.1)) f.1) else (bif ((nth q at_.toNat).1==(9:Int)) then ((f.2.2.2.1 !=(0:Int))&&(K5 (Xa r ((nth q at_.toNat).2.2.2.1)) f.2.2.2.1)) else true))))))))
theorem XP:∀(n_:Nat) (q:List Yy) (at_:Int) (f:Yh) (r:List Qg) (hv:Q9 q=true) (ha:0<=at_) (hb:at_<(q.length:Int)) (hn:at_<((n_:Nat):Int)),ACalls Tryz.prog 209 [.h q,.i at_,.a [.i f.1,.i f.2.1,.b f.2.2.1,.i f.2.2.2.1,.h f.2.2.2.2],.h r] (.b (Ym n_ q at_ f r)):=by
 intro n_
 induction n_ with
 | zero=>intro q at_ f r hv ha hb hn;exact (by omega:False).elim
 | succ n_ ih=>
  intro q at_ f r hv ha hb hn
  refine en Qb Tryz.func209 λw0 F0 hG=> ?_
  refine sn Qb [0,1,3,6,8] [6] p0 <| wT 0 0 .sh q (λhw2 hl3=> ?_)
  have hx1:=ng q at_.toNat;refine tn Qb [0,3,6,8,9] [6,9] (pg 2 at_ hx1 p0) <| Qc <| tu Qb [(6,.p 6 0),(8,.b false),(9,.p 9 0),(17,.i ((nth q at_.toNat).1))] [1,2] [(6, [.i f.1,.i f.2.1,.b f.2.2.1,.i f.2.2.2.1,.h f.2.2.2.2]),(9, [.i ((nth q at_.toNat).1),.i ((nth q at_.toNat).2.1),.i ((nth q at_.toNat).2.2.1),.s ((nth q at_.toNat).2.2.2.1),.i ((nth q at_.toNat).2.2.2.2.1),.i ((nth q at_.toNat).2.2.2.2.2.1),.s ((nth q at_.toNat).2.2.2.2.2.2)])] [] p0 <| Qx <| sn Qb [0,3,6,8,9,17,18] [6,9] p0 <| ck ((nth q at_.toNat).1==(2:Int)) (λh4=> ?_) (λh4=> ?_)
  ·exact tn Qb [8] [] (pc 3 (Eo f ((nth q at_.toNat).2.2.2.1)) p0) <| Qk <| pb [] (X6 h4 (rfl))
  have h4d:=Zq h4;refine tn Qb [0,3,6,8,9,17,26] [6,9] p0 <| ck ((nth q at_.toNat).1==(3:Int)) (λh5=> ?_) (λh5=> ?_)
  ·exact tU Qb Zf [(8,.b (((Qf f ((nth q at_.toNat).2.2.2.1)).1==(nth q at_.toNat).2.2.2.2.1)&&(((Qf f ((nth q at_.toNat).2.2.2.1)).2.1==(nth q at_.toNat).2.2.2.2.2.1)&&((((Qf f ((nth q at_.toNat).2.2.2.1)).2.2).toList==((nth q at_.toNat).2.2.2.2.2.2).toList)&&true))))] [0,3,6,8,9,17] [] [6,9] (pc 3 (Eo f ((nth q at_.toNat).2.2.2.1)) p0) <| Qk <| pb [] (Qy h4 (X6 h5 (rfl)))
  have h5d:=Zq h5;refine tu Qb [(35,.b ((nth q at_.toNat).1==(4:Int)))] [] [] [] p0 <| ck ((nth q at_.toNat).1==(4:Int)) (λh6=> ?_) (λh6=> ?_)
  ·refine sn Qb [8,9,10,11] [9] (pc 3 (WB f ((nth q at_.toNat).2.2.2.1)) p0) <| Qc <| mz [(10,.i (((V6 f ((nth q at_.toNat).2.2.2.1))).1)),(11,.b (((V6 f ((nth q at_.toNat).2.2.2.1))).2))] [0,3,6,17,35] [] [6] <| jn [(8,.b (((V6 f ((nth q at_.toNat).2.2.2.1))).2&&decide (((V6 f ((nth q at_.toNat).2.2.2.1))).1<(nth q at_.toNat).2.2.2.2.2.1)))] [8,9,10,11] [] [9] (((V6 f ((nth q at_.toNat).2.2.2.1))).2) (λh7=> ?_) (λh7=> ?_) ?_
   ·refine rn Qb [8] [] (pt 0 h7 p0) ?_;exact zA (by rw[h7]<;>kernel_rfl)
   ·refine rn Qb [8] [] (pf 0 h7 p0) ?_;exact zA (by rw[h7]<;>kernel_rfl)
   exact Qk <| pb [] (Qy h4 (Qy h5 (X6 h6 (rfl))))
  have h6d:=Zq h6;refine sn Qb [0,3,6,8,9,17,52] [6,9] p0 <| ck ((nth q at_.toNat).1==(5:Int)) (λh8=> ?_) (λh8=> ?_)
  ·have h8d:=eq_of_beq h8;exact tn Qb [8] [] (pc 5 (ih q ((nth q at_.toNat).2.1) f r hv (by have hz:=Qdp hv ha hb h8;omega) (by have hz:=Qdp hv ha hb h8;omega) (by have hz:=Qdp hv ha hb h8;omega)) p0) <| Qk <| pb [] (Qy h4 (Qy h5 (Qy h6 (X6 h8 (rfl)))))
  have h8d:=Zq h8;refine tn Qb [0,3,6,8,9,17,61] [6,9] p0 <| ck ((nth q at_.toNat).1==(6:Int)) (λh9=> ?_) (λh9=> ?_)
  ·have h9d:=eq_of_beq h9;refine Qc <| mz [(61,.b ((nth q at_.toNat).1==(6:Int)))] [35] [] [] <| jn [(8,.b ((Ym n_ q ((nth q at_.toNat).2.1) f r)&&(Ym n_ q ((nth q at_.toNat).2.2.1) f r)))] [0,3,6,8,9,17,61] [] [6,9] (Ym n_ q ((nth q at_.toNat).2.1) f r) (λh10=> ?_) (λh10=> ?_) ?_
   ·refine rn Qb [8] [] (pc 5 (cb h10 (ih q ((nth q at_.toNat).2.1) f r hv (by have hz:=GY hv ha hb h9;omega) (by have hz:=GY hv ha hb h9;omega) (by have hz:=GY hv ha hb h9;omega))) (pc 12 (ih q ((nth q at_.toNat).2.2.1) f r hv (by have hz:=Qdq hv ha hb h9;omega) (by have hz:=Qdq hv ha hb h9;omega) (by have hz:=Qdq hv ha hb h9;omega)) p0)) ?_;exact zA (by rw[h10]<;>kernel_rfl)
   ·refine rn Qb [8] [] (pc 5 (cb h10 (ih q ((nth q at_.toNat).2.1) f r hv (by have hz:=GY hv ha hb h9;omega) (by have hz:=GY hv ha hb h9;omega) (by have hz:=GY hv ha hb h9;omega))) p0) ?_;exact zA (by rw[h10]<;>kernel_rfl)
   exact Qk <| pb [] (Qy h4 (Qy h5 (Qy h6 (Qy h8 (X6 h9 (rfl))))))
  have h9d:=Zq h9;refine tu Qb [(77,.b ((nth q at_.toNat).1==(7:Int)))] [35] [] [] p0 <| ck ((nth q at_.toNat).1==(7:Int)) (λh11=> ?_) (λh11=> ?_)
  ·have h11d:=eq_of_beq h11;refine Qc <| jn [(8,.b ((Ym n_ q ((nth q at_.toNat).2.1) f r)|| (Ym n_ q ((nth q at_.toNat).2.2.1) f r)))] [0,3,6,8,9,17,77] [] [6,9] (Ym n_ q ((nth q at_.toNat).2.1) f r) (λh12=> ?_) (λh12=> ?_) ?_
   ·refine rn Qb [8] [] (pc 5 (cb h12 (ih q ((nth q at_.toNat).2.1) f r hv (by have hz:=MO hv ha hb h11;omega) (by have hz:=MO hv ha hb h11;omega) (by have hz:=MO hv ha hb h11;omega))) p0) ?_;exact zA (by rw[h12]<;>kernel_rfl)
   ·refine rn Qb [8] [] (pc 5 (cb h12 (ih q ((nth q at_.toNat).2.1) f r hv (by have hz:=MO hv ha hb h11;omega) (by have hz:=MO hv ha hb h11;omega) (by have hz:=MO hv ha hb h11;omega))) (pc 12 (ih q ((nth q at_.toNat).2.2.1) f r hv (by have hz:=Qfj hv ha hb h11;omega) (by have hz:=Qfj hv ha hb h11;omega) (by have hz:=Qfj hv ha hb h11;omega)) p0)) ?_;exact zA (by rw[h12]<;>kernel_rfl)
   exact Qk <| pb [] (Qy h4 (Qy h5 (Qy h6 (Qy h8 (Qy h9 (X6 h11 (rfl)))))))
  refine sn Qb [3,6,8,9,17,93] [6,9] p0 <| ck ((nth q at_.toNat).1==(8:Int)) (λh13=> ?_) (λh13=> ?_)
  ·exact tN Qb Zf [8] [] (pc 3 (C1 r ((nth q at_.toNat).2.2.2.1)) (pc 6 (Ld (Xa r ((nth q at_.toNat).2.2.2.1)) f.1) p0)) <| Qk <| pb [] (Qy h4 (Qy h5 (Qy h6 (Qy h8 (Qy h9 (Qy h11 (X6 h13 (rfl))))))))
  refine tn Qb [3,6,8,9,102] [6,9] p0 <| ck ((nth q at_.toNat).1==(9:Int)) (λh14=> ?_) (λh14=> ?_)
  ·refine Qc <| mz [(102,.b ((nth q at_.toNat).1==(9:Int)))] [0,17,77] [] [] <| jn [(8,.b ((f.2.2.2.1 !=(0:Int))&&(K5 (Xa r ((nth q at_.toNat).2.2.2.1)) f.2.2.2.1)))] [3,6,8,9,102] [] [6,9] (f.2.2.2.1 !=(0:Int)) (λh15=> ?_) (λh15=> ?_) ?_
   ·refine rN Qb Zf [8] [] (pt 2 h15 (pc 7 (C1 r ((nth q at_.toNat).2.2.2.1)) (pc 10 (Ld (Xa r ((nth q at_.toNat).2.2.2.1)) f.2.2.2.1) p0))) ?_;exact zA (by rw[h15]<;>kernel_rfl)
   ·refine rN Qb Zf [8] [] (pf 2 h15 p0) ?_;exact zA (by rw[h15]<;>kernel_rfl)
   exact Qk <| pb [] (Qy h4 (Qy h5 (Qy h6 (Qy h8 (Qy h9 (Qy h11 (Qy h13 (X6 h14 (rfl)))))))))
  exact Qi <| tu Qb [(8,.b true)] [0,3,6,8,9,17,77] [] [6,9] p0 <| Qk <| pb [] (Qy h4 (Qy h5 (Qy h6 (Qy h8 (Qy h9 (Qy h11 (Qy h13 (Qy h14 (rfl)))))))))
def V8 (q:List Yy) (f:Yh) (r:List Qg):Bool:=((Q9 q)&&(Ym (List.length q) q ((q.length:Int)-1) f r))
theorem WC (q:List Yy) (f:Yh) (r:List Qg):ACalls Tryz.prog 193 [.h q,.a [.i f.1,.i f.2.1,.b f.2.2.1,.i f.2.2.2.1,.h f.2.2.2.2],.h r] (.b (V8 q f r)):=by
 refine en Qb Tryz.func193 λw0 F0 hG=> ?_
 refine sn Qb [0,2,4,6] [4] p0 <| Qc <| mz [(4,.p 4 0),(6,.b false)] [1] [(4, [.i f.1,.i f.2.1,.b f.2.2.1,.i f.2.2.2.1,.h f.2.2.2.2])] [] <| jn [(6,.b ((Q9 q)&&(Ym (List.length q) q ((q.length:Int)-1) f r)))] [0,2,4,6] [] [4] (Q9 q) (λh1=> ?_) (λh1=> ?_) ?_
 ·refine wT 0 0 .sh q (λhw2 hl3=> ?_);refine rn Qb [6] [] (pc 1 (cb h1 (Ua q)) (pl 5 q (pe 6 (Js (IntWalk.i64_in ((q.length:Int)-1) (by omega))) (pc 9 (XP (List.length q) q ((q.length:Int)-1) f r h1 (by have:=XA h1;omega) (by omega) (by omega)) p0)))) ?_;exact zA (by rw[h1]<;>kernel_rfl)
 ·refine rn Qb [6] [] (pc 1 (cb h1 (Ua q)) p0) ?_;exact zA (by rw[h1]<;>kernel_rfl)
 exact Qk <| pb [] (show V8 q f r=((Q9 q)&&(Ym (List.length q) q ((q.length:Int)-1) f r)) from rfl)
def Uh (q:List Yy) (r:List Qg) (_:Nat) (a0:Yh) (s0:List Int):Rd (List Int) (List Int) (List Int):=(bif (V8 q a0 r) then (.next (s0++ [a0.1])) else (.next s0))
def C2 (_:Nat) (s0:List Int):(List Int):=s0
def Yr (s_:X1) (q:List Yy) (r:List Qg):(List Int):=(Out.on (Xp (Uh q r) C2 s_.2.1 0 []) (λy0=>y0))
theorem Sm (s_:X1) (q:List Yy) (r:List Qg):ACalls Tryz.prog 167 [.a [.h s_.1,.h s_.2.1,.i s_.2.2],.h q,.h r] (.o 0 (Yr s_ q r)):=by
 refine en Qb Tryz.func167 λw0 F0 hG=> ?_
 refine sn Qb [1,2,3,6] [3] p0 <| tn Qb [1,2,3,6,7] [3] p0 <| Qc <| tu Qb [(6,.e 0),(7,.one (.slc (.own true 640) 1 [])),(12,.h s_.2.1),(13,.i (s_.2.1.length:Int)),(14,.i 0)] [0] [] [] (pl 2 s_.2.1 p0) <| wT 12 0 .sh s_.2.1 (λhw1 hl2=> ?_)
 refine AK (Uh q r) C2 s_.2.1 [] (λk0 s0=> [(7,.o 147203 s0),(14,.i (k0:Int))]) [7,14] (λy0=> [(7,.o 147353 y0)]) [1,2,7,12,13,14] (λk0 s0=>List.length s0<=k0) (Yg [(640,147203)] (by kernel_rfl)) (by simp) (λk0 s0 hk0 U=> ?_) (λk0 s0 hk0 U=> ?_) (λy0 hD0=> ?_)
 ·have hA0_0:=U.2;obtain ⟨a0,V⟩:=Xs (l:=s_.2.1) (i:=k0) hk0;refine su Qb [(15,.b true)] [] [] [] (pe 0 (zB ((k0:Int)<(s_.2.1.length:Int))) p0) <| Qc <| ckT <| Qi <| Qc <| Qx <| sn Qb [1,2,6,7,9,12,13,14] [9] (pn 0 V p0) <| tn Qb [1,2,6,7,9,12,13,14,21] [9] (pc 3 (WC q a0 r) p0) <| ck (V8 q a0 r) (λh3=> ?_) (λh3=> ?_)
  ·refine wT 7 0 (.own true 147203) s0 (λhw4 hl5=> ?_);refine qu Qb [(7,.one (.slc (.own true 1664) 1 ((eL s0)++ [[.i a0.1]])))] [7,15] [] [] (pa s0 [a0.1] p0) ?_;refine eqn [(7,.o 1664 (s0++ [a0.1]))] [7] [] [] (by rw[show ((eL s0)++ [[.i a0.1]])=(eL (s0++ [a0.1])) from Uw (rfl) (rfl)];first | done | kernel_rfl) ?_;refine rn Qb [1,2,6,7,12,13,14] [] (pe 0 (Js (Qq k0 (by omega))) p0) ?_;exact Exists.intro (s0++ [a0.1]) (And.intro (Yg [(1664,147203)] (by kernel_rfl)) ⟨Qw V (X6 h3 (rfl)) U.1,by first|omega|(simp;omega) | simp⟩)
  refine Qi <| qu Qb [(14,.i ((k0+1:Nat):Int))] [14,15] [] [] (pe 0 (Js (Qq k0 (by omega))) p0) ?_
  exact xw s0 ⟨Qw V (Qy h3 (rfl)) U.1,by first|omega|(simp;omega) | simp⟩
 ·have hA0_0:=U.2;exact su Qb [(15,.b false)] [] [] [] (pe 0 (zC ((k0:Int)<(s_.2.1.length:Int))) p0) <| Qc <| ckF <| Xe <| Exists.intro _ (And.intro (Yg [(147203,147353)] (by kernel_rfl)) (Xy hk0 (rfl) U.1))
 exact sn Qb [6] [] p0 <| Qk <| po0 [] (Ur hD0 (rfl))
def Ga (name:ByteArray) (_:Nat) (a0:Jl) (_:Unit):Rd (Z4) (Unit) (Unit):=(bif (a0.1.toList==name.toList) then (.ret a0.2) else (.next ()))
def Gb (_:Nat) (_:Unit):Unit:=()
def Qn (f:Yh) (name:ByteArray):Z4:=(Out.on (Xp (Ga name) Gb f.2.2.2.2 0 ()) (λ_=>(0,0,⟨#[]⟩)))
theorem P4 (f:Yh) (name:ByteArray):ACalls Tryz.prog 54 [.a [.i f.1,.i f.2.1,.b f.2.2.1,.i f.2.2.2.1,.h f.2.2.2.2],.s name] (.a [.i ((Qn f name).1),.i ((Qn f name).2.1),.s ((Qn f name).2.2)]):=by
 refine en Qb Tryz.func54 λw0 F0 hG=> ?_
 refine sn Qb [1,2,4] [2,4] p0 <| Qc <| tn Qb [1,2,4,5] [2,4] p0 <| mz [(2,.p 2 0),(4,.p 4 0),(5,.i 0)] [0] [(2, [.i f.1,.i f.2.1,.b f.2.2.1,.i f.2.2.2.1,.h f.2.2.2.2]),(4, [.i 0,.i 0,.s ⟨#[]⟩])] [] <| wB 2 4 .sh f.2.2.2.2 (λhw1 hl2=> ?_)
 refine Qia (Ga name) Gb f.2.2.2.2 () (λk0 _=> [(5,.i (k0:Int))]) [5] (λ_ _=> []) [] (λ_=> []) [1,2,5] (λ_=> []) [2] wf0 (λk0 s0 hk0 U=> ?_) (λk0 s0 hk0 U=> ?_) (λy0 hD0=> ?_)
 ·obtain ⟨a0,V⟩:=Xs (l:=f.2.2.2.2) (i:=k0) hk0;refine Qc <| sn Qb [1,2,4,5,10] [2,4] (pl 3 f.2.2.2.2 (pe 4 (zB ((k0:Int)<(f.2.2.2.2.length:Int))) p0)) <| ckT <| Qi <| Qc <| Qx <| tn Qb [1,2,4,5,20] [2,4] (pn 3 V p0) <| ck (a0.1.toList==name.toList) (λh3=> ?_) (λh3=> ?_)
  ·refine tu Qb [] [] [(4, [.i a0.2.1,.i a0.2.2.1,.s a0.2.2.2])] [4] (pn 3 V p0) <| Qk ?_
   have hr4:(Xp (Ga name) Gb f.2.2.2.2 0 ())= .ret a0.2:=Z6 V (X6 h3 (rfl)) U;exact pz [] (show Qn f name=_ from M5 hr4) (λz=> .a [.i z.1,.i z.2.1,.s z.2.2])
  refine Qi <| qu Qb [(5,.i ((k0+1:Nat):Int))] [5] [] [] (pe 1 (Js (Qq k0 (by omega))) p0) ?_
  exact xw _ (Qw V (Qy h3 (rfl)) U)
 ·exact Qc <| sn Qb [1,2,4,5,10] [2,4] (pl 3 f.2.2.2.2 (pe 4 (zC ((k0:Int)<(f.2.2.2.2.length:Int))) p0)) <| ckF <| Xe <| xw _ (Xy hk0 (rfl) U)
 exact sn Qb [4] [4] p0 <| Qk <| pz [] (show Qn f name=_ from Ur hD0 (rfl)) (λz=> .a [.i z.1,.i z.2.1,.s z.2.2])
def Eb (name:ByteArray) (_:Nat) (a0:Qg) (_:Unit):Rd (List Int) (Unit) (Unit):=(bif (a0.1.toList==name.toList) then (.ret a0.2) else (.next ()))
def Ec (_:Nat) (_:Unit):Unit:=()
def Xf (a_:List Qg) (name:ByteArray):(List Int):=(Out.on (Xp (Eb name) Ec a_ 0 ()) (λ_=> []))
theorem C3 (a_:List Qg) (name:ByteArray):ACalls Tryz.prog 102 [.h a_,.s name] (.o 0 (Xf a_ name)):=by
 refine en Qb Tryz.func102 λw0 F0 hG=> ?_
 refine sn Qb [0,1,4] [] p0 <| Qc <| tn Qb [0,1,4,5] [] p0 <| mz [(4,.e 0),(5,.i 0)] [] [] [] <| wT 0 0 .sh a_ (λhw1 hl2=> ?_)
 refine M8 (Eb name) Ec a_ () (λk0 _=> [(5,.i (k0:Int))]) [5] (λ_=> []) [0,1,5] wf0 (λk0 s0 hk0 U=> ?_) (λk0 s0 hk0 U=> ?_) (λy0 hD0=> ?_)
 ·obtain ⟨a0,V⟩:=Xs (l:=a_) (i:=k0) hk0;refine Qc <| sn Qb [0,1,4,5,9] [] (pl 2 a_ (pe 3 (zB ((k0:Int)<(a_.length:Int))) p0)) <| ckT <| Qi <| Qc <| Qx <| tn Qb [0,1,4,5,18] [] (pn 2 V p0) <| ck (a0.1.toList==name.toList) (λh3=> ?_) (λh3=> ?_)
  ·have hl4:List.length a0.2<=1073741824:=Ei (VI (VH V (hw1)));refine tu Qb [(4,.o 1600 a0.2)] [4] [] [] (pn 3 V (po 6 (.flat) (px (Ft (n:=(([]:List (List PV)).length+((eL a0.2):List (List PV)).length)) (Lb (rfl) (Y5 a0.2) (by first|omega|(simp only[List.length_cons,List.length_nil];omega) | (simp;omega) | simp))) (px (U5 (Up a0.2)) p0)))) <| Qk ?_
   have hr5:(Xp (Eb name) Ec a_ 0 ())= .ret a0.2:=Z6 V (X6 h3 (rfl)) U;exact po0 [] (M5 hr5)
  refine Qi <| qu Qb [(5,.i ((k0+1:Nat):Int))] [5] [] [] (pe 1 (Js (Qq k0 (by omega))) p0) ?_
  exact xw _ (Qw V (Qy h3 (rfl)) U)
 ·exact Qc <| sn Qb [0,1,4,5,9] [] (pl 2 a_ (pe 3 (zC ((k0:Int)<(a_.length:Int))) p0)) <| ckF <| Xe <| xw _ (Xy hk0 (rfl) U)
 exact sn Qb [4] [] p0 <| Qk <| po0 [] (Ur hD0 (rfl))
def Wn (id:Int) (_:Nat) (a0:Int) (_:Unit):Rd (Bool) (Unit) (Unit):=(bif (a0==id) then (.ret true) else (.next ()))
def An (_:Nat) (_:Unit):Unit:=()
def Z1 (ids:List Int) (id:Int):Bool:=(Out.on (Xp (Wn id) An ids 0 ()) (λ_=>false))
theorem Bp (ids:List Int) (id:Int):ACalls Tryz.prog 151 [.h ids,.i id] (.b (Z1 ids id)):=by
 refine en Qb Tryz.func151 λw0 F0 hG=> ?_
 refine sn Qb [0,1,4] [] p0 <| Qc <| tn Qb [0,1,4,5] [] p0 <| mz [(4,.b false),(5,.i 0)] [] [] [] <| wT 0 0 .sh ids (λhw1 hl2=> ?_)
 refine M8 (Wn id) An ids () (λk0 _=> [(5,.i (k0:Int))]) [5] (λ_=> []) [0,1,5] wf0 (λk0 s0 hk0 U=> ?_) (λk0 s0 hk0 U=> ?_) (λy0 hD0=> ?_)
 ·obtain ⟨a0,V⟩:=Xs (l:=ids) (i:=k0) hk0;refine Qc <| sn Qb [0,1,4,5,9] [] (pl 2 ids (pe 3 (zB ((k0:Int)<(ids.length:Int))) p0)) <| ckT <| Qi <| Qc <| Qx <| tn Qb [0,1,4,5,17] [] (pn 2 V p0) <| ck (a0==id) (λh3=> ?_) (λh3=> ?_)
  ·refine tu Qb [(4,.b true)] [4] [] [] p0 <| Qk ?_
   have hr4:(Xp (Wn id) An ids 0 ())= .ret true:=Z6 V (X6 h3 (rfl)) U;exact pb [] (M5 hr4)
  have h3d:=Zq h3;refine Qi <| qu Qb [(5,.i ((k0+1:Nat):Int))] [5] [] [] (pe 1 (Js (Qq k0 (by omega))) p0) ?_
  exact xw _ (Qw V (Qy h3 (rfl)) U)
 ·exact Qc <| sn Qb [0,1,4,5,9] [] (pl 2 ids (pe 3 (zC ((k0:Int)<(ids.length:Int))) p0)) <| ckF <| Xe <| xw _ (Xy hk0 (rfl) U)
 exact sn Qb [4] [] p0 <| Qk <| pb [] (Ur hD0 (rfl))
def Jw (n_:Nat) (q:List Yy) (at_:Int) (f:Yh) (a_:List Qg):Bool:=match n_ with
 | 0=>default
 | n_+1=>(bif ((nth q at_.toNat).1==(1:Int)) then true else (bif ((nth q at_.toNat).1==(2:Int)) then ((Qn f ((nth q at_.toNat).2.2.2.1)).1 !=(0:Int)) else (bif ((nth q at_.toNat).1==(3:Int)) then (((Qn f ((nth q at_.toNat).2.2.2.1)).1==(nth q at_.toNat).2.2.2.2.1)&&(((Qn f ((nth q at_.toNat).2.2.2.1)).2.1==(nth q at_.toNat).2.2.2.2.2.1)&&((((Qn f ((nth q at_.toNat).2.2.2.1)).2.2).toList==((nth q at_.toNat).2.2.2.2.2.2).toList)&&true))) else (bif ((nth q at_.toNat).1==(4:Int)) then (((Qn f ((nth q at_.toNat).2.2.2.1)).1==(1:Int))&&decide ((Qn f ((nth q at_.toNat).2.2.2.1)).2.1<(nth q at_.toNat).2.2.2.2.2.1)) else (bif ((nth q at_.toNat).1==(5:Int)) then (!(Jw n_ q ((nth q at_.toNat).2.1) f a_)) else (bif ((nth q at_.toNat).1==(6:Int)) then ((Jw n_ q ((nth q at_.toNat).2.1) f a_)&&(Jw n_ q ((nth q at_.toNat).2.2.1) f a_)) else (bif ((nth q at_.toNat).1==(7:Int)) then ((Jw n_ q ((nth q at_.toNat).2.1) f a_)|| (Jw n_ q ((nth q at_.toNat).2.2.1) f a_)) else (bif ((nth q at_.toNat).1==(8:Int)) then (Z1 (Xf a_ ((nth q at_.toNat).2.2.2.1)) f.1) else ((f.2.2.2.1 !=(0:Int))&&(Z1 (Xf a_ ((nth q at_.toNat).2.2.2.1)) f.2.2.2.1))))))))))
theorem WD:∀(n_:Nat) (q:List Yy) (at_:Int) (f:Yh) (a_:List Qg) (hv:Q9 q=true) (ha:0<=at_) (hb:at_<(q.length:Int)) (hn:at_<((n_:Nat):Int)),ACalls Tryz.prog 180 [.h q,.i at_,.a [.i f.1,.i f.2.1,.b f.2.2.1,.i f.2.2.2.1,.h f.2.2.2.2],.h a_] (.b (Jw n_ q at_ f a_)):=by
 intro n_
 induction n_ with
 | zero=>intro q at_ f a_ hv ha hb hn;exact (by omega:False).elim
 | succ n_ ih=>
  intro q at_ f a_ hv ha hb hn
  refine en Qb Tryz.func180 λw0 F0 hG=> ?_
  refine sn Qb [0,1,3,6,8] [6] p0 <| wT 0 0 .sh q (λhw2 hl3=> ?_)
  have hx1:=ng q at_.toNat;refine tn Qb [0,3,6,8,9] [6,9] (pg 2 at_ hx1 p0) <| tu Qb [(6,.p 6 0),(8,.b false),(9,.p 9 0),(10,.p 10 0)] [1,2] [(6, [.i f.1,.i f.2.1,.b f.2.2.1,.i f.2.2.2.1,.h f.2.2.2.2]),(9, [.i ((nth q at_.toNat).1),.i ((nth q at_.toNat).2.1),.i ((nth q at_.toNat).2.2.1),.s ((nth q at_.toNat).2.2.2.1),.i ((nth q at_.toNat).2.2.2.2.1),.i ((nth q at_.toNat).2.2.2.2.2.1),.s ((nth q at_.toNat).2.2.2.2.2.2)]),(10, [.i ((Qn f ((nth q at_.toNat).2.2.2.1)).1),.i ((Qn f ((nth q at_.toNat).2.2.2.1)).2.1),.s ((Qn f ((nth q at_.toNat).2.2.2.1)).2.2)])] [] (pc 3 (P4 f ((nth q at_.toNat).2.2.2.1)) p0) <| Qc <| sn Qb [0,3,6,8,9,10,20] [6,9,10] p0 <| Qx <| tn Qb [0,3,6,8,9,10,20,21] [6,9,10] p0 <| ck ((nth q at_.toNat).1==(1:Int)) (λh4=> ?_) (λh4=> ?_)
  ·exact tu Qb [(8,.b true)] [0,8,10] [] [10] p0 <| Qk <| pb [] (X6 h4 (rfl))
  have h4d:=Zq h4;refine tu Qb [(20,.i ((nth q at_.toNat).1)),(23,.b ((nth q at_.toNat).1==(2:Int)))] [] [] [] p0 <| ck ((nth q at_.toNat).1==(2:Int)) (λh5=> ?_) (λh5=> ?_)
  ·exact sn Qb [3,6,8,9] [6,9] p0 <| Qk <| pb [] (Qy h4 (X6 h5 (rfl)))
  have h5d:=Zq h5;refine sn Qb [0,3,6,8,9,10,20,28] [6,9,10] p0 <| ck ((nth q at_.toNat).1==(3:Int)) (λh6=> ?_) (λh6=> ?_)
  ·exact tn Qb [3,6,8,9] [6,9] p0 <| Qk <| pb [] (Qy h4 (Qy h5 (X6 h6 (rfl))))
  have h6d:=Zq h6;refine tn Qb [0,3,6,8,9,10,20,34] [6,9,10] p0 <| ck ((nth q at_.toNat).1==(4:Int)) (λh7=> ?_) (λh7=> ?_)
  ·refine Qc <| mz [(34,.b ((nth q at_.toNat).1==(4:Int)))] [23] [] [] <| jn [(8,.b (((Qn f ((nth q at_.toNat).2.2.2.1)).1==(1:Int))&&decide ((Qn f ((nth q at_.toNat).2.2.2.1)).2.1<(nth q at_.toNat).2.2.2.2.2.1)))] [0,8,10,20,34] [] [10] ((Qn f ((nth q at_.toNat).2.2.2.1)).1==(1:Int)) (λh8=> ?_) (λh8=> ?_) ?_
   ·refine rn Qb [3,6,8,9] [6,9] (pt 2 h8 p0) ?_;exact zA (by rw[h8]<;>kernel_rfl)
   ·refine rn Qb [3,6,8,9] [6,9] (pf 2 h8 p0) ?_;exact zA (by rw[h8]<;>kernel_rfl)
   exact Qk <| pb [] (Qy h4 (Qy h5 (Qy h6 (X6 h7 (rfl)))))
  have h7d:=Zq h7;refine tu Qb [(47,.b ((nth q at_.toNat).1==(5:Int)))] [10,23] [] [10] p0 <| ck ((nth q at_.toNat).1==(5:Int)) (λh9=> ?_) (λh9=> ?_)
  ·have h9d:=eq_of_beq h9;exact sn Qb [3,6,8,9] [6,9] (pc 5 (ih q ((nth q at_.toNat).2.1) f a_ hv (by have hz:=Qdp hv ha hb h9;omega) (by have hz:=Qdp hv ha hb h9;omega) (by have hz:=Qdp hv ha hb h9;omega)) p0) <| Qk <| pb [] (Qy h4 (Qy h5 (Qy h6 (Qy h7 (X6 h9 (rfl))))))
  have h9d:=Zq h9;refine sn Qb [0,3,6,8,9,20,56] [6,9] p0 <| ck ((nth q at_.toNat).1==(6:Int)) (λh10=> ?_) (λh10=> ?_)
  ·have h10d:=eq_of_beq h10;refine Qc <| mz [(56,.b ((nth q at_.toNat).1==(6:Int)))] [47] [] [] <| jn [(8,.b ((Jw n_ q ((nth q at_.toNat).2.1) f a_)&&(Jw n_ q ((nth q at_.toNat).2.2.1) f a_)))] [0,8,20,56] [] [] (Jw n_ q ((nth q at_.toNat).2.1) f a_) (λh11=> ?_) (λh11=> ?_) ?_
   ·refine rn Qb [3,6,8,9] [6,9] (pc 5 (cb h11 (ih q ((nth q at_.toNat).2.1) f a_ hv (by have hz:=GY hv ha hb h10;omega) (by have hz:=GY hv ha hb h10;omega) (by have hz:=GY hv ha hb h10;omega))) (pc 12 (ih q ((nth q at_.toNat).2.2.1) f a_ hv (by have hz:=Qdq hv ha hb h10;omega) (by have hz:=Qdq hv ha hb h10;omega) (by have hz:=Qdq hv ha hb h10;omega)) p0)) ?_;exact zA (by rw[h11]<;>kernel_rfl)
   ·refine rn Qb [3,6,8,9] [6,9] (pc 5 (cb h11 (ih q ((nth q at_.toNat).2.1) f a_ hv (by have hz:=GY hv ha hb h10;omega) (by have hz:=GY hv ha hb h10;omega) (by have hz:=GY hv ha hb h10;omega))) p0) ?_;exact zA (by rw[h11]<;>kernel_rfl)
   exact Qk <| pb [] (Qy h4 (Qy h5 (Qy h6 (Qy h7 (Qy h9 (X6 h10 (rfl)))))))
  have h10d:=Zq h10;refine tn Qb [0,3,6,8,9,20,72] [6,9] p0 <| ck ((nth q at_.toNat).1==(7:Int)) (λh12=> ?_) (λh12=> ?_)
  ·have h12d:=eq_of_beq h12;refine Qc <| mz [(72,.b ((nth q at_.toNat).1==(7:Int)))] [47] [] [] <| jn [(8,.b ((Jw n_ q ((nth q at_.toNat).2.1) f a_)|| (Jw n_ q ((nth q at_.toNat).2.2.1) f a_)))] [0,8,20,72] [] [] (Jw n_ q ((nth q at_.toNat).2.1) f a_) (λh13=> ?_) (λh13=> ?_) ?_
   ·refine rn Qb [3,6,8,9] [6,9] (pc 5 (cb h13 (ih q ((nth q at_.toNat).2.1) f a_ hv (by have hz:=MO hv ha hb h12;omega) (by have hz:=MO hv ha hb h12;omega) (by have hz:=MO hv ha hb h12;omega))) p0) ?_;exact zA (by rw[h13]<;>kernel_rfl)
   ·refine rn Qb [3,6,8,9] [6,9] (pc 5 (cb h13 (ih q ((nth q at_.toNat).2.1) f a_ hv (by have hz:=MO hv ha hb h12;omega) (by have hz:=MO hv ha hb h12;omega) (by have hz:=MO hv ha hb h12;omega))) (pc 12 (ih q ((nth q at_.toNat).2.2.1) f a_ hv (by have hz:=Qfj hv ha hb h12;omega) (by have hz:=Qfj hv ha hb h12;omega) (by have hz:=Qfj hv ha hb h12;omega)) p0)) ?_;exact zA (by rw[h13]<;>kernel_rfl)
   exact Qk <| pb [] (Qy h4 (Qy h5 (Qy h6 (Qy h7 (Qy h9 (Qy h10 (X6 h12 (rfl))))))))
  refine tu Qb [(88,.b ((nth q at_.toNat).1==(8:Int)))] [0,20,47] [] [] p0 <| ck ((nth q at_.toNat).1==(8:Int)) (λh14=> ?_) (λh14=> ?_)
  ·exact sN Qb Zf [3,6,8,9] [6,9] (pc 3 (C3 a_ ((nth q at_.toNat).2.2.2.1)) (pc 6 (Bp (Xf a_ ((nth q at_.toNat).2.2.2.1)) f.1) p0)) <| Qk <| pb [] (Qy h4 (Qy h5 (Qy h6 (Qy h7 (Qy h9 (Qy h10 (Qy h12 (X6 h14 (rfl)))))))))
  refine Qi <| Qc <| jn [(8,.b ((f.2.2.2.1 !=(0:Int))&&(Z1 (Xf a_ ((nth q at_.toNat).2.2.2.1)) f.2.2.2.1)))] [3,6,8,9,88] [] [6,9] (f.2.2.2.1 !=(0:Int)) (λh15=> ?_) (λh15=> ?_) ?_
  ·refine rN Qb Zf [8] [] (pt 2 h15 (pc 7 (C3 a_ ((nth q at_.toNat).2.2.2.1)) (pc 10 (Bp (Xf a_ ((nth q at_.toNat).2.2.2.1)) f.2.2.2.1) p0))) ?_;exact zA (by rw[h15]<;>kernel_rfl)
  ·refine rN Qb Zf [8] [] (pf 2 h15 p0) ?_;exact zA (by rw[h15]<;>kernel_rfl)
  exact Qk <| pb [] (Qy h4 (Qy h5 (Qy h6 (Qy h7 (Qy h9 (Qy h10 (Qy h12 (Qy h14 (rfl)))))))))
def Dk (q:List Yy) (f:Yh) (a_:List Qg):Bool:=((Yw q)&&(Jw (List.length q) q ((q.length:Int)-1) f a_))
theorem WE (q:List Yy) (f:Yh) (a_:List Qg):ACalls Tryz.prog 150 [.h q,.a [.i f.1,.i f.2.1,.b f.2.2.1,.i f.2.2.2.1,.h f.2.2.2.2],.h a_] (.b (Dk q f a_)):=by
 refine en Qb Tryz.func150 λw0 F0 hG=> ?_
 refine sn Qb [0,2,4,6] [4] p0 <| Qc <| mz [(4,.p 4 0),(6,.b false)] [1] [(4, [.i f.1,.i f.2.1,.b f.2.2.1,.i f.2.2.2.1,.h f.2.2.2.2])] [] <| jn [(6,.b ((Yw q)&&(Jw (List.length q) q ((q.length:Int)-1) f a_)))] [0,2,4,6] [] [4] (Yw q) (λh1=> ?_) (λh1=> ?_) ?_
 ·refine wT 0 0 .sh q (λhw2 hl3=> ?_);refine rn Qb [6] [] (pc 1 (cb h1 (Vz q)) (pl 5 q (pe 6 (Js (IntWalk.i64_in ((q.length:Int)-1) (by omega))) (pc 9 (WD (List.length q) q ((q.length:Int)-1) f a_ (Oh h1) (by have:=XA (Oh h1);omega) (by omega) (by omega)) p0)))) ?_;exact zA (by rw[h1]<;>kernel_rfl)
 ·refine rn Qb [6] [] (pc 1 (cb h1 (Vz q)) p0) ?_;exact zA (by rw[h1]<;>kernel_rfl)
 exact Qk <| pb [] (show Dk q f a_=((Yw q)&&(Jw (List.length q) q ((q.length:Int)-1) f a_)) from rfl)
def Hx (q:List Yy) (a_:List Qg) (_:Nat) (a0:Yh) (s0:List Int):Rd (List Int) (List Int) (List Int):=(bif (Dk q a0 a_) then (.next (s0++ [a0.1])) else (.next s0))
def C4 (_:Nat) (s0:List Int):(List Int):=s0
def X3 (s_:X1) (q:List Yy) (a_:List Qg):(List Int):=(Out.on (Xp (Hx q a_) C4 s_.2.1 0 []) (λy0=>y0))
theorem G2 (s_:X1) (q:List Yy) (a_:List Qg):ACalls Tryz.prog 105 [.a [.h s_.1,.h s_.2.1,.i s_.2.2],.h q,.h a_] (.o 0 (X3 s_ q a_)):=by
 refine en Qb Tryz.func105 λw0 F0 hG=> ?_
 refine sn Qb [1,2,3,6] [3] p0 <| tn Qb [1,2,3,6,7] [3] p0 <| Qc <| tu Qb [(3,.p 3 0),(6,.e 0),(7,.one (.slc (.own true 576) 1 [])),(8,.i 0)] [0] [(3, [.h s_.1,.h s_.2.1,.i s_.2.2])] [] p0 <| wB 3 1 .sh s_.2.1 (λhw1 hl2=> ?_)
 refine Qbn (Hx q a_) C4 s_.2.1 [] (λk0 s0=> [(7,.o 147204 s0),(8,.i (k0:Int))]) [7,8] (λ_ _=> []) [] (λy0=> [(7,.o 147354 y0)]) [1,2,3,7,8] (λ_=> []) [3] (λk0 s0=>List.length s0<=k0) (Yg [(576,147204)] (by kernel_rfl)) (by simp) (λk0 s0 hk0 U=> ?_) (λk0 s0 hk0 U=> ?_) (λy0 hD0=> ?_)
 ·have hA0_0:=U.2;obtain ⟨a0,V⟩:=Xs (l:=s_.2.1) (i:=k0) hk0;refine Qc <| su Qb [(14,.b true)] [] [] [] (pl 3 s_.2.1 (pe 4 (zB ((k0:Int)<(s_.2.1.length:Int))) p0)) <| ckT <| Qi <| Qc <| Qx <| sn Qb [1,2,3,6,7,8,24] [3] (pn 4 V (pc 7 (WE q a0 a_) p0)) <| ck (Dk q a0 a_) (λh3=> ?_) (λh3=> ?_)
  ·refine wT 7 0 (.own true 147204) s0 (λhw4 hl5=> ?_);refine qu Qb [(7,.one (.slc (.own true 2112) 1 ((eL s0)++ [[.i a0.1]])))] [7,14] [] [] (pn 4 V (pa s0 [a0.1] p0)) ?_;refine eqn [(7,.o 2112 (s0++ [a0.1]))] [7] [] [] (by rw[show ((eL s0)++ [[.i a0.1]])=(eL (s0++ [a0.1])) from Uw (rfl) (rfl)];first | done | kernel_rfl) ?_;refine rn Qb [1,2,3,6,7,8] [3] (pe 1 (Js (Qq k0 (by omega))) p0) ?_;exact Exists.intro (s0++ [a0.1]) (And.intro (Yg [(2112,147204)] (by kernel_rfl)) ⟨Qw V (X6 h3 (rfl)) U.1,by first|omega|(simp;omega) | simp⟩)
  refine Qi <| qn Qb [1,2,3,6,7,8] [3] (pe 1 (Js (Qq k0 (by omega))) p0) ?_
  exact xw s0 ⟨Qw V (Qy h3 (rfl)) U.1,by first|omega|(simp;omega) | simp⟩
 ·have hA0_0:=U.2;exact Qc <| su Qb [(14,.b false)] [] [] [] (pl 3 s_.2.1 (pe 4 (zC ((k0:Int)<(s_.2.1.length:Int))) p0)) <| ckF <| Xe <| Exists.intro _ (And.intro (Yg [(147204,147354)] (by kernel_rfl)) (Xy hk0 (rfl) U.1))
 exact sn Qb [6] [] p0 <| Qk <| po0 [] (Ur hD0 (rfl))
theorem Qdu (l : List Int) (x : Int) : K5 l x = Z1 l x := by
  unfold K5 Kj Ad Z1
  have key : ∀ (l : List Int) (k : Nat), decide (((Xp (Jo x) V1 l k ()).on λ_ => -1) ≥ 0) = ((Xp (Wn x) An l k ()).on λ_ => false) := by
    intro l
    induction l with
    | nil => intro k; rfl
    | cons a l ih =>
      intro k
      by_cases h : x = a
      · subst h; simp [Xp, Jo, Wn, Out.on]
      have e1 : (x == a) = false := beq_eq_false_iff_ne.2 h
      have e2 : (a == x) = false := beq_eq_false_iff_ne.2 (Ne.symm h)
      simp only [Xp, Jo, Wn, e1, e2, cond_false]
      exact ih (k + 1)
  exact key l 0
theorem SA (r : List Qg) (s : ByteArray) : Xa r s = Xf r s := rfl
theorem Qfq (f : Yh) (s : ByteArray) : Qf f s = Qn f s := rfl
theorem Qg7 {n : Yy} {k : Int} (h : Zg n k = true) : n.1 = 1 ∨ n.1 = 2 ∨ n.1 = 3 ∨ n.1 = 4 ∨ n.1 = 5 ∨ n.1 = 6 ∨ n.1 = 7 ∨ n.1 = 8 ∨ n.1 = 9 := by
  refine Classical.byContradiction λhn => ?_
  simp only [not_or] at hn
  obtain ⟨h1, h2, h3, h4, h5, h6, h7, h8, h9⟩ := hn
  unfold Zg at h
  simp only [beq_eq_false_iff_ne.2 h1, beq_eq_false_iff_ne.2 h2, beq_eq_false_iff_ne.2 h3, beq_eq_false_iff_ne.2 h4, beq_eq_false_iff_ne.2 h5, beq_eq_false_iff_ne.2 h6, beq_eq_false_iff_ne.2 h7, beq_eq_false_iff_ne.2 h8, beq_eq_false_iff_ne.2 h9, cond_false] at h
  cases h
theorem IK {q : List Yy} (hv : Q9 q = true) (f : Yh) (r : List Qg) : ∀ (n : Nat) (k : Int), 0 ≤ k → k < (q.length : Int) → Ym n q k f r = Jw n q k f r
  | 0, _, _, _ => rfl
  | n + 1, k, h0, h1 => by
    have hn := DY hv (Wr (l := q) (i := Int.toNat k) (by omega))
    rw [Int.toNat_of_nonneg h0] at hn
    obtain ⟨hl, hr⟩ := Ea hv h0 h1
    unfold Ym Jw
    have ih := IK hv f r n
    unfold V6
    simp only [Qfq, SA, Qdu]
    generalize nth q (Int.toNat k) = m at hn hl hr ⊢
    rcases Qg7 hn with h | h | h | h | h | h | h | h | h
    · simp [h]
    · simp [h]
    · simp [h]
    · rw [h]
      cases hz : ((Qn f m.2.2.2.1).1 == (1 : Int)) with
      | true => simp [bne, hz]
      | false => simp [bne, hz]
    · simp [h, ih _ (hl (by simp [h])).1 (by have := (hl (by simp [h])).2; omega)]
    · simp [h, ih _ (hl (by simp [h])).1 (by have := (hl (by simp [h])).2; omega), ih _ (hr (by simp [h])).1 (by have := (hr (by simp [h])).2; omega)]
    · simp [h, ih _ (hl (by simp [h])).1 (by have := (hl (by simp [h])).2; omega), ih _ (hr (by simp [h])).1 (by have := (hr (by simp [h])).2; omega)]
    · simp [h]
    simp [h]
theorem MU (q : List Yy) (f : Yh) (r : List Qg) : V8 q f r = Dk q f r := by
  unfold V8 Dk
  rw [← Qbq]
  cases hv : Q9 q with
  | false => rfl
  | true => rw [IK hv f r _ _ (by have := XA hv; omega) (by omega)]
theorem XQ (s : X1) (q : List Yy) (r : List Qg) : Yr s q r = X3 s q r := by
  unfold Yr X3
  rw [Fw (f := Uh q r) (g := Hx q r) (e := C2) (e' := C4) (λi a s => by
    unfold Uh Hx
    rw [MU]) (λ_ _ => rfl)]
end
section
section
variable {φ:Type} (fs:List φ) (idOf:φ->Int)
def sel (p:φ->Bool):List Int:=(fs.filter p).map idOf
theorem XR {p q:φ->Bool}:∀(l:List φ),(∀f,f∈l->p f=true->q f=true)->(l.filter p).length<=(l.filter q).length/\((l.filter q).length<=(l.filter p).length->l.filter p=l.filter q)
 | [],_=>⟨Nat.le_refl _,λ_=>rfl⟩
 | f :: l,h=>by
   obtain ⟨h1,h2⟩:=XR l λg hg=>h g (List.mem_cons_of_mem _ hg)
   have h0:=h f (List.mem_cons_self ..);cases hp:p f with
   | true=>
     have hq:=h0 hp;simp only[List.filter_cons,hp,hq,if_true,List.length_cons];exact ⟨by omega,λhl=>by rw[h2 (by omega)]⟩
   | false=>
     cases hq:q f with
     | true=>
       simp only[List.filter_cons,hp,hq,if_true,List.length_cons,Bool.false_eq_true,if_false];exact ⟨by omega,λhl=>absurd hl (by omega)⟩
     | false=>
       simp only[List.filter_cons,hp,hq,Bool.false_eq_true,if_false];exact ⟨h1,h2⟩
theorem EI (p:φ->Bool):(sel fs idOf p).length<=fs.length:=by
 unfold sel;rw[List.length_map];exact List.length_filter_le _ _
variable {fs idOf}
theorem Qb0 {p q:φ->Bool} (h:∀f,f∈fs->p f=true->q f=true) (hn:sel fs idOf p≠sel fs idOf q):(sel fs idOf p).length+1<=(sel fs idOf q).length:=by
 obtain ⟨h1,h2⟩:=XR fs h;unfold sel at hn⊢;rw[List.length_map,List.length_map];refine Nat.lt_of_le_of_ne h1 λe=>hn ?_
 rw[h2 (by omega)]
theorem Qfr {p q:φ->Bool} (h:∀f,f∈fs->p f=true->q f=true) {x:Int} (hx:x∈sel fs idOf p):x∈sel fs idOf q:=by
 unfold sel at hx⊢;obtain ⟨f,hf,rfl⟩:=List.mem_map.1 hx;obtain ⟨h1,h2⟩:=List.mem_filter.1 hf;exact List.mem_map.2 ⟨f,List.mem_filter.2 ⟨h1,h f h1 h2⟩,rfl⟩
end
abbrev CD:=ByteArray×List Int
def SB (out:List CD) (k:Nat) (ids:List Int):List CD:=out.set k ((nth out k).1,ids)
theorem Tv {out:List CD} {k:Nat} (x:CD) (hk:k<out.length) (j:Nat):nth (out.set k x) j=if j=k then x else nth out j:=by
 unfold nth;simp only[List.getD_eq_getElem?_getD,List.getElem?_set];by_cases h:k=j
 . subst h;simp[hk]
 simp[h,Ne.symm h]
theorem MV {out:List CD} {k:Nat} (ids:List Int) (hk:k<out.length):(SB out k ids).map (·.1)=out.map (·.1):=by
 unfold SB;rw[List.map_set];refine List.ext_getElem (by simp) λi h1 h2=> ?_
 rw[List.getElem_set];split
 . rename_i h;subst h;simp[nth,List.getD,hk]
 rfl
def Tw (B:Nat) (act:Nat->Bool):Nat->List CD->Nat
 | _, []=>0
 | k,r::l=>(bif act k then B-r.2.length else 0)+Tw B act (k+1) l
theorem SC (B:Nat) (act:Nat->Bool):∀(l:List CD) (k:Nat),Tw B act k l<=l.length*B
 | [],k=>by simp[Tw]
 | r::l,k=>by
   have:=SC B act l (k+1);simp only[Tw,List.length_cons,Nat.add_mul,Nat.one_mul];cases act k with
   | true=>simp only[cond_true];omega
   | false=>simp only[cond_false];omega
theorem IL (B:Nat) (act:Nat->Bool) (x:CD):∀(l:List CD) (k i:Nat),i<l.length->act (k+i)=true->(nth l i).2.length+1<=x.2.length->x.2.length<=B->Tw B act k (l.set i x)+1<=Tw B act k l
 | [],k,i,hi,_,_,_=>by simp at hi
 | r::l,k,0,_,ha,h1,h2=>by
   have e:nth (r::l) 0=r:=rfl;rw[e] at h1;rw[Nat.add_zero] at ha;simp only[List.set,Tw,ha,cond_true];omega
 | r::l,k,i+1,hi,ha,h1,h2=>by
   have:=IL B act x l (k+1) i (by simpa using hi) (by rwa [show k+1+i=k+(i+1) by omega]) h1 h2;simp only[List.set,Tw];omega
section
variable {φ:Type} {fs:List φ} {idOf:φ->Int} (m:Nat->List CD->φ->Bool) (act:Nat->Bool)
def LeC (a b:List CD):Prop:=∀j,(∀x,x∈(nth a j).2->x∈(nth b j).2)/\(act j=false->(nth a j).2=(nth b j).2)
variable (fs idOf)
def Qif (out:List CD):Prop:=∀k,k<out.length->act k=true->∃p:φ->Bool,(nth out k).2=sel fs idOf p/\∀f,f∈fs->p f=true->m k out f=true
def Qb1 (nm:List ByteArray):Prop:=∀a b:List CD,a.map (·.1)=nm->b.map (·.1)=nm->LeC act a b->∀k,k<nm.length->act k=true->∀f,f∈fs->m k a f=true->m k b f=true
def BC (s:List CD×Bool) (k:Nat):List CD×Bool:=bif act k then (if sel fs idOf (m k s.1)=(nth s.1 k).2 then s else (SB s.1 k (sel fs idOf (m k s.1)),true)) else s
def WF (ks:List Nat) (s:List CD×Bool):List CD×Bool:=ks.foldl (BC fs idOf m act) s
variable {fs idOf m act} {nm:List ByteArray}
structure StateC (fs:List φ) (idOf:φ->Int) (m:Nat->List CD->φ->Bool) (act:Nat->Bool) (nm:List ByteArray) (o out:List CD):Prop where
 names:out.map (·.1)=nm
 good:Qif fs idOf m act out
 rest:∀j,act j=false->nth out j=nth o j
theorem Qb2 (hm:Qb1 fs m act nm) {o:List CD} {s:List CD×Bool} (h:StateC fs idOf m act nm o s.1) {k:Nat} (hk:k<nm.length):
 StateC fs idOf m act nm o (BC fs idOf m act s k).1/\Tw fs.length act 0 (BC fs idOf m act s k).1<=Tw fs.length act 0 s.1/\((BC fs idOf m act s k).2=true->s.2=true\/Tw fs.length act 0 (BC fs idOf m act s k).1+1<=Tw fs.length act 0 s.1):=by
 unfold BC;cases ha:act k with
 | false=>exact ⟨h,Nat.le_refl _,.inl⟩
 | true=>
   simp only[cond_true];split
   . exact ⟨h,Nat.le_refl _,.inl⟩
   rename_i hne;have hlen:nm.length=s.1.length:=by rw[←h.names,List.length_map]
   have hk':k<s.1.length:=by omega
   obtain ⟨p,hp1,hp2⟩:=h.good k hk' ha;rw[hp1] at hne;have hgrow:=Qb0 (idOf:=idOf) hp2 (Ne.symm hne);have hnames:(SB s.1 k (sel fs idOf (m k s.1))).map (·.1)=nm:=by rw[MV _ hk',h.names]
   have hle:LeC act s.1 (SB s.1 k (sel fs idOf (m k s.1))):=λj=>by
    unfold SB;rw[Tv _ hk'];by_cases hj:j=k
    . subst hj;rw[if_pos rfl];exact ⟨λx hx=>Qfr hp2 (hp1▸hx),λhf=>absurd ha (by simp[hf])⟩
    rw[if_neg hj];exact ⟨λ_ hx=>hx,λ_=>rfl⟩
   have hmono:=hm _ _ h.names hnames hle
   have hr:Tw fs.length act 0 (SB s.1 k (sel fs idOf (m k s.1)))+1<=Tw fs.length act 0 s.1:=
    IL _ _ _ _ 0 k hk' (by rw[Nat.zero_add];exact ha) (by rw[hp1];exact hgrow) (EI _ _ _)
   refine ⟨⟨hnames,λj hj hja=> ?_,λj hj=> ?_⟩,Nat.le_of_succ_le hr,λ_=> .inr hr⟩
   . have hj':j<s.1.length:=by unfold SB at hj;rwa [List.length_set] at hj
     by_cases e:j=k
     . subst e;refine ⟨m j s.1, ?_,λf hf hmf=>hmono j (by omega) hja f hf hmf⟩;unfold SB;rw[Tv _ hk',if_pos rfl]
     obtain ⟨p',h1,h2⟩:=h.good j hj' hja;refine ⟨p', ?_,λf hf hpf=>hmono j (by omega) hja f hf (h2 f hf hpf)⟩;unfold SB;rw[Tv _ hk',if_neg e];exact h1
   have e:j≠k:=λe=>absurd ha (by simp[←e,hj])
   unfold SB;rw[Tv _ hk',if_neg e];exact h.rest j hj
theorem IM (hm:Qb1 fs m act nm) {o:List CD}:∀(ks:List Nat) (s:List CD×Bool),(∀k,k∈ks->k<nm.length)->StateC fs idOf m act nm o s.1->
 StateC fs idOf m act nm o (WF fs idOf m act ks s).1/\Tw fs.length act 0 (WF fs idOf m act ks s).1<=Tw fs.length act 0 s.1/\((WF fs idOf m act ks s).2=true->s.2=true\/Tw fs.length act 0 (WF fs idOf m act ks s).1+1<=Tw fs.length act 0 s.1)
 | [],s,_,h=>⟨h,Nat.le_refl _,.inl⟩
 | k ::ks,s,hks,h=>by
   obtain ⟨h1,h2,h3⟩:=Qb2 hm h (hks k (List.mem_cons_self ..));obtain ⟨g1,g2,g3⟩:=IM hm ks _ (λj hj=>hks j (List.mem_cons_of_mem _ hj)) h1;refine ⟨g1,Nat.le_trans g2 h2,λhc=> ?_⟩;rcases g3 hc with hc | hc
   . rcases h3 hc with hc | hc
     . exact .inl hc
     exact .inr (Nat.le_trans (Nat.add_le_add_right g2 1) hc)
   exact .inr (Nat.le_trans hc h2)
theorem Qir {R S T:Type} {F:S->Rd R S T} {out:S->List CD} {ch:S->Bool} {n:Nat} (hn:n=nm.length)
 (hF:∀s,ch s=true->∃s',F s= .next s'/\(out s',ch s')=WF fs idOf m act (List.range n) (out s,false))
 (hE:∀s,ch s=false->∃t,F s= .brk t)
 (hm:Qb1 fs m act nm) {o:List CD}:∀(k:Nat) (s:S),StateC fs idOf m act nm o (out s)->Tw fs.length act 0 (out s)+(bif ch s then 2 else 1)<=k->
 ∃s',StateC fs idOf m act nm o (out s')/\ch s'=false/\∃t,F s'= .brk t/\whl F k s=some (.brk t)
 | 0,s,_,hk=>by cases hc:ch s<;>simp[hc] at hk
 | k +1,s,h,hk=>by
   cases hc:ch s with
   | false=>
     obtain ⟨t,ht⟩:=hE s hc;exact ⟨s,h,hc,t,ht,by simp only[whl,ht]⟩
   | true=>
     rw[hc] at hk;simp only[cond_true] at hk;obtain ⟨s',h1,h2⟩:=hF s hc;obtain ⟨g1,g2,g3⟩:=IM hm (o:=o) (List.range n) (out s,false) (λj hj=>by rw[←hn];exact List.mem_range.1 hj) h;rw[←h2] at g1 g2 g3;simp only[whl,h1];refine Qir hn hF hE hm k s' g1 ?_;simp only[Bool.false_eq_true,false_or] at g3;cases hc':ch s' with
     | false=>simp only[cond_false];have:Tw fs.length act 0 (out s')<=Tw fs.length act 0 (out s):=g2;omega
     | true=>simp only[cond_true];have:Tw fs.length act 0 (out s')+1<=Tw fs.length act 0 (out s):=g3 hc';omega
end
open Go.RowKit in
def ArgLe (a b:AV):Prop:=∀(J:Inj) (w:World) (v:Value),AR J w v a->AR J w v b
theorem ArgLe.rfl (a:AV):ArgLe a a:=λ_ _ _ h=>h
theorem ArgLe.nil (n:Nat):ArgLe (.one (.slc .sh 0 [])) (.one (.slc .sh n [])):=λJ w v h=>by
 have h':VV J.F w v (.slc 0 []):=h;show VV J.F w v (.slc n []);generalize hp:PV.slc 0 ([]:List (List PV))=p at h';cases h' with
 | int | bool | str | any | raw=>cases hp
 | emp oa m hc=>exact .emp oa n hc
 | @slc b off cap m cs l hx hcells hr hle hcap=>
   cases hp
   exact .emp _ n hcap.1
theorem EJ {P:Program} {f:Nat} {r:AV} {args args':List AV} (h:All2 ArgLe args args') (c:ACalls P f args' r):ACalls P f args r:=⟨c.1,λw hg F vals hF hall=>c.2 w hg F vals hF (by
 clear c
 induction h generalizing vals with
 | nil=>exact hall
 | cons h1 h2 ih=>
   cases hall with
   | cons g1 g2=>exact .cons (h1 _ _ _ g1) (ih _ g2))⟩
end
section
open Go.RowKit
def B3 (n:Yy) (c:Int):Bool:=((n.2.1==c)&&(n.1==6|| n.1==7|| n.1==5))|| ((n.2.2.1==c)&&(n.1==6|| n.1==7))
theorem SD (c:Int) (k:Nat) (a:Yy) (s:Int) (h0:0<=s) (h1:s<=1000):∃s',Jm c k a s= .next s'/\s+(bif B3 a c then 1 else 0)<=s'/\s'<=s+2:=by
 have w1:IntKind.i64.wrap (s+1)=s+1:=IntWalk.i64_in _ (by omega);have w2:IntKind.i64.wrap (s+1+1)=s+1+1:=IntWalk.i64_in _ (by omega);unfold Jm B3;rw[w1,w2];cases (a.2.1==c)<;>cases (a.2.2.1==c)<;>cases (a.1==6)<;>cases (a.1==7)<;>cases (a.1==5)<;>exact ⟨_,rfl,by first | (simp;done) | (simp;omega) | omega,by omega⟩
theorem BD (c:Int):∀(l:List Yy) (k:Nat) (s:Int),0<=s->s+2*l.length<=1000->∃s',Xp (Jm c) Wz l k s= .brk s'/\s+(l.filter λn=>B3 n c).length<=s'
 | [],k,s,_,_=>⟨s,rfl,by simp⟩
 | a::l,k,s,h0,h1=>by
   rw[List.length_cons] at h1;obtain ⟨s1,e1,g1,g2⟩:=SD c k a s h0 (by omega);have hp:0<=s1:=by cases hb:B3 a c<;>(rw[hb] at g1;simp at g1;omega)
   obtain ⟨s2,e2,g3⟩:=BD c l (k+1) s1 hp (by omega);refine ⟨s2,by simp only[Xp,e1];exact e2, ?_⟩;rw[List.filter_cons];cases hb:B3 a c with
   | true=>rw[hb] at g1;simp only[cond_true] at g1;simp only[if_true,List.length_cons];omega
   | false=>rw[hb] at g1;simp only[cond_false] at g1;simp only[Bool.false_eq_true,if_false];omega
theorem Qg8 {α:Type} {p:α->Bool} {l:List α} {i j:Nat} {a b:α} (hij:i<j) (hi:l[i]? =some a) (hj:l[j]? =some b) (ha:p a=true) (hb:p b=true):2<=(l.filter p).length:=by
 have e:l=l.take j++l.drop j:=(List.take_append_drop j l).symm;rw[e,List.filter_append,List.length_append];have h1:1<=((l.take j).filter p).length:=List.length_pos_of_mem (a:=a) (List.mem_filter.2 ⟨List.mem_of_getElem? (i:=i) (by rw[List.getElem?_take,if_pos hij];exact hi),ha⟩);have h2:1<=((l.drop j).filter p).length:=List.length_pos_of_mem (a:=b) (List.mem_filter.2 ⟨List.mem_of_getElem? (i:=0) (by rw[List.getElem?_drop];exact hj),hb⟩);omega
theorem Qfs {q:List Yy} (h:Q9 q=true) {i:Nat} (hi:i+1<q.length):Z7 q (i:Int)=1:=by
 obtain ⟨⟨t,ht⟩,_⟩:=RD h;have:=Ej (λk a t=>by unfold Y3;generalize (_|| _:Bool)=c;cases c<;>simp) ht i (nth q i) (Wr (by omega));unfold Y3 at this;rw[Nat.zero_add] at this;have hd:decide (((i:Nat):Int)<((q.length:Int)-1))=true:=decide_eq_true (by omega);rw[hd,Bool.true_and] at this;cases hn:(Z7 q ((i:Nat):Int) !=(1:Int)) with
 | false=>exact W9 hn
 | true=>rw[hn,Bool.or_true] at this;simp at this
theorem Qb3 {q:List Yy} (h:Q9 q=true) {c i j:Nat} (hc:c+1<q.length) (hij:i<j) (hj:j<q.length) (h1:B3 (nth q i) (c:Int)=true) (h2:B3 (nth q j) (c:Int)=true):False:=by
 have hr:=Qfs h hc;have hl:=(XA h).2;obtain ⟨s,e,g⟩:=BD (c:Int) q 0 0 (by omega) (by omega);unfold Z7 at hr;rw[e] at hr;have:=Qg8 (p:=λn=>B3 n (c:Int)) hij (Wr (by omega)) (Wr hj) h1 h2;simp only[Out.on] at hr;omega
theorem SE {q:List Yy} (h:Q9 q=true) {c i:Nat} (hi:i<q.length) (hr:B3 (nth q i) (c:Int)=true):c<i:=by
 obtain ⟨h1,h2⟩:=Ea h (k:=(i:Int)) (by omega) (by omega);rw[Int.toNat_natCast] at h1 h2;unfold B3 at hr;simp only[Bool.or_eq_true,Bool.and_eq_true,beq_iff_eq] at hr;rcases hr with ⟨e,hop⟩ | ⟨e,hop⟩
 . have:=h1 (by omega);omega
 have:=h2 (by omega);omega
theorem WG {L:List Bool} {i:Nat} (x:Bool) (hi:i<L.length) (j:Nat):nth (L.set i x) j=if j=i then x else nth L j:=by
 unfold nth;simp only[List.getD_eq_getElem?_getD,List.getElem?_set];by_cases h:i=j
 . subst h;simp[hi]
 simp[h,Ne.symm h]
theorem Qb4 {q:List Yy} (h:Q9 q=true) {k:Nat} (hk:k<q.length) (s:List Bool) (hs:s.length=q.length):∃s',Zb q k s= .next s'/\s'.length=q.length/\
 (∀j:Nat,B3 (nth q (q.length-1-k)) (j:Int)=false->nth s' j=nth s j)/\
 (∀j:Nat,B3 (nth q (q.length-1-k)) (j:Int)=true->nth s' j=(nth s (q.length-1-k)|| ((nth q (q.length-1-k)).1==5))):=by
 have hdn:Int.toNat (dn ((q.length:Int)-1) k)=q.length-1-k:=by rw[DR];omega
 obtain ⟨hl,hr⟩:=Ea h (k:=((q.length-1-k:Nat):Int)) (by omega) (by omega);rw[Int.toNat_natCast] at hl hr;have hlt:q.length-1-k<s.length:=by omega
 unfold Zb;rw[hdn];generalize q.length-1-k=i at hl hr hlt⊢;generalize nth q i=n at hl hr⊢;generalize (nth s i|| (n.1==5))=b
 have both:∀(e5:(n.1==(5:Int))=false),(n.1=6\/n.1=7)->(List.set (List.set s (Int.toNat n.2.1) b) (Int.toNat n.2.2.1) b).length=q.length/\(∀j:Nat,B3 n (j:Int)=false->nth (List.set (List.set s (Int.toNat n.2.1) b) (Int.toNat n.2.2.1) b) j=nth s j)/\(∀j:Nat,B3 n (j:Int)=true->nth (List.set (List.set s (Int.toNat n.2.1) b) (Int.toNat n.2.2.1) b) j=b):=λe5 h67=>by
  obtain ⟨g1,g2⟩:=hl (.inr h67);obtain ⟨g3,g4⟩:=hr h67;have hop:(n.1==6|| n.1==7)=true:=by rcases h67 with e | e<;>simp[e]
  have hlen:(List.set s (Int.toNat n.2.1) b).length=s.length:=List.length_set ..;refine ⟨by rw[List.length_set,hlen,hs],λj hj=> ?_,λj hj=> ?_⟩
  . simp only[B3,hop,Bool.true_or,Bool.and_true,Bool.or_eq_false_iff,beq_eq_false_iff_ne,ne_eq] at hj;rw[Gz _ (by omega),Gz _ (by omega)]
  simp only[B3,hop,Bool.true_or,Bool.and_true,Bool.or_eq_true,beq_iff_eq] at hj;rw[WG _ (by omega),WG _ (by omega)];split
  . rfl
  rw[if_pos (by omega)]
 by_cases h5:n.1=5
 . obtain ⟨g1,g2⟩:=hl (.inl h5);simp only[h5,beq_self_eq_true,cond_true];refine ⟨_,rfl,by rw[List.length_set,hs],λj hj=> ?_,λj hj=> ?_⟩
   . have:n.2.1≠(j:Int):=by simpa [B3,h5] using hj
     exact Gz _ (by omega)
   have:n.2.1=(j:Int):=by simpa [B3,h5] using hj
   rw[WG _ (by omega),if_pos (by omega)]
 have e5:(n.1==(5:Int))=false:=beq_eq_false_iff_ne.2 h5;rw[e5,cond_false];by_cases h6:n.1=6
 . simp only[h6,beq_self_eq_true,cond_true];exact ⟨_,rfl,both e5 (.inl h6)⟩
 by_cases h7:n.1=7
 . simp only[h7,beq_self_eq_true,cond_true];exact ⟨_,rfl,both e5 (.inr h7)⟩
 have e6:(n.1==(6:Int))=false:=beq_eq_false_iff_ne.2 h6;have e7:(n.1==(7:Int))=false:=beq_eq_false_iff_ne.2 h7;rw[e6,e7,cond_false,cond_false];refine ⟨_,rfl,hs,λ_ _=>rfl,λj hj=> ?_⟩;simp[B3,e5,e6,e7] at hj
def SF (q:List Yy) (k:Nat) (s:List Bool):Prop:=s.length=q.length/\∀i,q.length<=i+k->i<q.length->∀c:Nat,B3 (nth q i) (c:Int)=true->nth s c=(nth s i|| ((nth q i).1==5))
theorem Qb5 {q:List Yy} (h:Q9 q=true) {k:Nat} (hk:k<q.length) {s:List Bool} (hs:SF q k s):∃s',Zb q k s= .next s'/\SF q (k+1) s':=by
 obtain ⟨s',h1,h2,h3,h4⟩:=Qb4 h hk s hs.1
 have hself:nth s' (q.length-1-k)=nth s (q.length-1-k):=h3 _ (by
  cases hr:B3 (nth q (q.length-1-k)) ((q.length-1-k:Nat):Int) with
  | false=>rfl
  | true=>have:=SE h (by omega) hr;omega)
 refine ⟨s',h1,h2,λi hi1 hi2 c hc=> ?_⟩;by_cases e:i=q.length-1-k
 . subst e;rw[h4 c hc,hself]
 have hci:=SE h hi2 hc
 have n1:B3 (nth q (q.length-1-k)) (c:Int)=false:=by
  cases hr:B3 (nth q (q.length-1-k)) (c:Int) with
  | false=>rfl
  | true=>exact (Qb3 h (c:=c) (i:=q.length-1-k) (j:=i) (by omega) (by omega) hi2 hr hc).elim
 have n2:B3 (nth q (q.length-1-k)) (i:Int)=false:=by
  cases hr:B3 (nth q (q.length-1-k)) (i:Int) with
  | false=>rfl
  | true=>have:=SE h (by omega) hr;omega
 rw[h3 c n1,h3 i n2];exact hs.2 i (by omega) hi2 c hc
theorem IN {q:List Yy} (h:Q9 q=true):∀(n k:Nat) (s:List Bool),k+n=q.length->SF q k s->∃s',Wb (Zb q) Wt n k s= .brk s'/\SF q q.length s'
 | 0,k,s,hk,hs=>⟨s,rfl,by rw[show k=q.length by omega] at hs;exact hs⟩
 | n+1,k,s,hk,hs=>by
   obtain ⟨s1,h1,h2⟩:=Qb5 h (by omega) hs;obtain ⟨s2,h3,h4⟩:=IN h n (k+1) s1 (by omega) h2;exact ⟨s2,by simp only[Wb,h1];exact h3,h4⟩
theorem Qb6 {q:List Yy} (h:Q9 q=true):SF q q.length (Xt q):=by
 unfold Xt;obtain ⟨s,h1,h2⟩:=IN h (List.length q) 0 (List.replicate (Int.toNat (q.length:Int)) false) (by omega) ⟨by simp,λi h1 h2=>by omega⟩;rw[h];simp only[Bool.not_true,cond_false,h1,Out.on];exact h2
theorem Qb7 {q:List Yy} {i:Nat} (hi:i<(Xt q).length) (hn:nth (Xt q) i=true) (hd:Jv (nth q i)=true):(nth q i).2.2.2.1∈Xu q:=by
 have key:∀(l:List Bool) (k:Nat) (s:List ByteArray),∃t,Xp (Vg q true) W4 l k s= .brk t/\(∀x,x∈s->x∈t)/\∀j,l[j]? =some true->Jv (nth q (k+j))=true->(nth q (k+j)).2.2.2.1∈t:=by
  intro l
  induction l with
  | nil=>intro k s;exact ⟨s,rfl,λ_ h=>h,λj h=>by simp at h⟩
  | cons a l ih=>
    intro k s;simp only[Xp,Vg];cases hc:(Jv (nth q k)&&(a==true)) with
    | true=>
      obtain ⟨t,h1,h2,h3⟩:=ih (k+1) (s++ [(nth q k).2.2.2.1]);refine ⟨t,h1,λx hx=>h2 x (List.mem_append_left _ hx),λj hj hnm=> ?_⟩;cases j with
      | zero=>exact h2 _ (List.mem_append_right _ (by simp))
      | succ j=>
        have:=h3 j (by simpa using hj) (by rwa [show k+1+j=k+(j+1) by omega])
        rwa [show k+1+j=k+(j+1) by omega] at this
    | false=>
      obtain ⟨t,h1,h2,h3⟩:=ih (k+1) s;refine ⟨t,h1,h2,λj hj hnm=> ?_⟩;cases j with
      | zero=>
        obtain rfl:a=true:=by simpa using hj
        rw[Nat.add_zero] at hnm;rw[hnm] at hc;cases hc
      | succ j=>
        have:=h3 j (by simpa using hj) (by rwa [show k+1+j=k+(j+1) by omega])
        rwa [show k+1+j=k+(j+1) by omega] at this
 unfold Xu Vs;obtain ⟨t,h1,_,h3⟩:=key (Xt q) 0 [];rw[h1];simp only[Out.on];have:=h3 i (by rw[Wr hi,hn]) (by rwa [Nat.zero_add]);rw[Nat.zero_add] at this;exact ((XF t).2 _).2 this
theorem WH (l:List Int) (x:Int):K5 l x=true↔x∈l:=by
 unfold K5 Kj Ad
 have key:∀(l:List Int) (k:Nat),decide (((Xp (Jo x) V1 l k ()).on λ_=> -1)>=0)=true↔x∈l:=by
  intro l
  induction l with
  | nil=>intro k;simp[Xp,Out.on,V1]
  | cons a l ih=>
    intro k;by_cases h:x=a
    . subst h;simp[Xp,Jo,Out.on]
    have e1:(x==a)=false:=beq_eq_false_iff_ne.2 h;simp only[Xp,Jo,e1,cond_false];rw[ih (k+1)];simp[h]
 exact key l 0
structure Seen (q:List Yy) (a b:List Qg):Prop where
 grow:∀nm x,x∈Xa a nm->x∈Xa b nm
 same:∀nm,nm∈Xu q->Xa a nm=Xa b nm
theorem JU {q:List Yy} (hv:Q9 q=true) {a b:List Qg} (hs:Seen q a b) (f:Yh):∀(n:Nat) (k:Nat),k<n->k<q.length->
 (nth (Xt q) k=true->Ym n q (k:Int) f a=Ym n q (k:Int) f b)/\(Ym n q (k:Int) f a=true->Ym n q (k:Int) f b=true)
 | 0,_,h,_=>absurd h (by omega)
 | n +1,k,hkn,hk=>by
   obtain ⟨hl,hr⟩:=Ea hv (k:=(k:Int)) (by omega) (by omega);rw[Int.toNat_natCast] at hl hr;obtain ⟨hlen,hneg⟩:=Qb6 hv;have hneg:=hneg k (by omega) hk;have hop:=Qg7 (DY hv (Wr hk));have hnm:=Qb7 (q:=q) (i:=k) (by omega);have ih:=JU hv hs f n;unfold Ym;rw[Int.toNat_natCast];generalize nth q k=m at hl hr hneg hop hnm⊢
   have kid:∀c:Int,0<=c->c<(k:Int)->B3 m c=true->((nth (Xt q) k|| (m.1==5))=true->Ym n q c f a=Ym n q c f b)/\(Ym n q c f a=true->Ym n q c f b=true):=λc h0 h1 hrf=>by
    obtain ⟨j,rfl⟩:∃j:Nat,c=(j:Int):=⟨Int.toNat c,by omega⟩;obtain ⟨g1,g2⟩:=ih j (by omega) (by omega);exact ⟨λhn=>g1 ((hneg j hrf).trans hn),g2⟩
   rcases hop with h | h | h | h | h | h | h | h | h
   . simp[h]
   . simp[h]
   . simp[h]
   . simp[h]
   . obtain ⟨k1,k2⟩:=hl (.inl h);obtain ⟨g1,_⟩:=kid m.2.1 k1 k2 (by simp[B3,h]);have:=g1 (by simp[h]);simp[h,this]
   . obtain ⟨k1,k2⟩:=hl (.inr (.inl h));obtain ⟨k3,k4⟩:=hr (.inl h);obtain ⟨g1,g2⟩:=kid m.2.1 k1 k2 (by simp[B3,h]);obtain ⟨g3,g4⟩:=kid m.2.2.1 k3 k4 (by simp[B3,h]);refine ⟨λhn=> ?_,λhm=> ?_⟩
     . simp[h,g1 (by simp[hn]),g3 (by simp[hn])]
     simp[h] at hm⊢;exact ⟨g2 hm.1,g4 hm.2⟩
   . obtain ⟨k1,k2⟩:=hl (.inr (.inr h));obtain ⟨k3,k4⟩:=hr (.inr h);obtain ⟨g1,g2⟩:=kid m.2.1 k1 k2 (by simp[B3,h]);obtain ⟨g3,g4⟩:=kid m.2.2.1 k3 k4 (by simp[B3,h]);refine ⟨λhn=> ?_,λhm=> ?_⟩
     . simp[h,g1 (by simp[hn]),g3 (by simp[hn])]
     simp[h] at hm⊢;exact hm.imp g2 g4
   . refine ⟨λhn=> ?_,λhm=> ?_⟩
     . simp[h,hs.same _ (hnm hn (by simp[Jv,h]))]
     simp[h] at hm⊢;exact (WH _ _).2 (hs.grow _ _ ((WH _ _).1 hm))
   refine ⟨λhn=> ?_,λhm=> ?_⟩
   . simp[h,hs.same _ (hnm hn (by simp[Jv,h]))]
   simp[h] at hm⊢;exact ⟨hm.1,(WH _ _).2 (hs.grow _ _ ((WH _ _).1 hm.2))⟩
theorem BE {q:List Yy} {a b:List Qg} (hs:Seen q a b) (f:Yh) (h:V8 q f a=true):V8 q f b=true:=by
 unfold V8 at h⊢;cases hv:Q9 q with
 | false=>rw[hv] at h;cases h
 | true=>
   rw[hv,Bool.true_and] at h;rw[Bool.true_and];have hl:=XA hv;have e:((q.length:Int)-1)=((q.length-1:Nat):Int):=by omega
   rw[e] at h⊢;exact (JU hv hs f q.length (q.length-1) (by omega) (by omega)).2 h
theorem MW (s:X1) (q:List Yy) (r:List Qg):Yr s q r=sel s.2.1 (λf=>f.1) λf=>V8 q f r:=by
 unfold Yr;rw[E6 (f:=Uh q r) (p:=λf=>V8 q f r) (g:=λf=>f.1) (λ_ _ _=>rfl)];rfl
theorem XS {d:List Y8} {L:List Int} (h:Qo d=(L,true)):Ja d=true/\L.length=d.length/\Sat (Jr d) d.length L/\∀j,0<=nth L j:=by
 unfold Qo at h;cases hv:Ja d with
 | false=>rw[hv] at h;simp at h
 | true=>
   rw[hv] at h;simp only[Bool.not_true,cond_false] at h;have h5:=Fb hv;have hw:=G1 (d:=d) (f:=Uc d) (e:=Ud) (F:=Vt d) (λ_ _ _=>rfl) (λ_ _=>rfl) (λ_=>rfl) (by omega) (d.length*d.length+3) (List.replicate d.length 0) true (Bo _).1 (Bo _).2
   have hsome:(Sf (Jr d) d.length d.length (d.length*d.length+3) (true,List.replicate d.length 0)).isSome=true:=by
    have:=D2 d h5;rw[Int.toNat_natCast,hw,Option.isSome_map] at this;exact this
   obtain ⟨r,hr⟩:=Option.isSome_iff_exists.1 hsome;unfold Lh at h;rw[Int.toNat_natCast,hw,hr] at h;have hw':∀i e,e∈Jr d i->e.2<=1/\e.1<d.length:=λi e he=>⟨(Md d i e he).1,(Md d i e he).2.1⟩
   obtain ⟨h1,_⟩:=Tr hw' _ 0 true r (λe=>by cases e) hr;cases r with
   | none=>simp[Qgl,Out.on] at h
   | some M=>
     have e:M=L:=by simpa [Qgl,Out.on] using h
     subst e;obtain ⟨hrest,hM⟩:=h1 M rfl;rw[hM];exact ⟨rfl,Wd _ _ _,Py (Wd _ _ _) hrest,λj=>H9 _ _ j _⟩
theorem SG {d:List Y8} {L:List Int} (h:Qo d=(L,true)):∀j,nth L j<=(d.length:Int):=by
 obtain ⟨hv,hlen,_,_⟩:=XS h;have h5:=Fb hv;unfold Qo at h;rw[hv] at h;simp only[Bool.not_true,cond_false] at h;have hw:=G1 (d:=d) (f:=Uc d) (e:=Ud) (F:=Vt d) (λ_ _ _=>rfl) (λ_ _=>rfl) (λ_=>rfl) (by omega) (d.length*d.length+3) (List.replicate d.length 0) true (Bo _).1 (Bo _).2
 have hsome:(Sf (Jr d) d.length d.length (d.length*d.length+3) (true,List.replicate d.length 0)).isSome=true:=by
  have:=D2 d h5;rw[Int.toNat_natCast,hw,Option.isSome_map] at this;exact this
 obtain ⟨r,hr⟩:=Option.isSome_iff_exists.1 hsome;unfold Lh at h;rw[Int.toNat_natCast,hw,hr] at h;have hw':∀i e,e∈Jr d i->e.2<=1/\e.1<d.length:=λi e he=>⟨(Md d i e he).1,(Md d i e he).2.1⟩
 obtain ⟨h1,_⟩:=Tr hw' _ 0 true r (λe=>by cases e) hr;cases r with
 | none=>simp[Qgl,Out.on] at h
 | some M=>
   have e:M=L:=by simpa [Qgl,Out.on] using h
   subst e;obtain ⟨hrest,hM⟩:=h1 M rfl;intro j;by_cases hj:j<d.length
   . rw[hM];exact Int.le_of_lt (EC hw' hrest j hj)
   have:nth M j=0:=XG (by omega);omega
theorem Mg {d:List Y8} {w:Int} {nm:ByteArray}:∀{l:List ByteArray},nm∈l->0<=Xw d nm->(Int.toNat (Xw d nm),w)∈Ks d w l
 | x::l,h,h0=>by
   simp only[Ks];rcases List.mem_cons.1 h with rfl | h
   . rw[if_pos h0];exact List.mem_cons_self ..
   split
   . exact List.mem_cons_of_mem _ (Mg h h0)
   exact Mg h h0
theorem MX {d:List Y8} {L:List Int} (h:Qo d=(L,true)) {i:Nat} (hi:i<d.length) {nm:ByteArray} (hn:nm∈Xu (nth d i).2) (h0:0<=Xw d nm):nth L (Int.toNat (Xw d nm))<nth L i:=by
 obtain ⟨_,_,hs,_⟩:=XS h
 have hm:(Int.toNat (Xw d nm),(1:Int))∈Jr d i:=by
  unfold Jr;rw[if_pos hi];exact List.mem_append_right _ (Mg hn h0)
 have:=(By.1 (hs i hi)).2 _ hm;simp only at this;omega
theorem SH (nm:ByteArray):∀(d:List Y8) (o:List Qg) (k:Nat),o.map (·.1)=d.map (·.1)->
 (Xp (X5 nm) Yv d k ()= .brk ()/\Xp (Ku nm) V7 o k ()= .brk ())\/
 ∃i:Nat,i<d.length/\Xp (X5 nm) Yv d k ()= .ret (((k+i:Nat)):Int)/\Xp (Ku nm) V7 o k ()= .ret (nth o i).2
 | [], [],_,_=> .inl ⟨rfl,rfl⟩
 | [],_::_,_,h=>by simp at h
 | _::_, [],_,h=>by simp at h
 | a ::d,b::o,k,h=>by
   simp only[List.map_cons,List.cons.injEq] at h;obtain ⟨h1,h2⟩:=h;simp only[Xp,X5,Ku,B0,h1];cases (a.1.toList==nm.toList) with
   | true=>exact .inr ⟨0,by simp,rfl,rfl⟩
   | false=>
     simp only[cond_false];rcases SH nm d o (k+1) h2 with h | ⟨i,hi,h3,h4⟩
     . exact .inl h
     exact .inr ⟨i+1,by simpa using hi,by rw[h3,show k+1+i=k+(i+1) by omega],h4⟩
theorem XT {d:List Y8} {o:List Qg} (h:o.map (·.1)=d.map (·.1)) (nm:ByteArray):(Xw d nm<0/\Xa o nm= [])\/(0<=Xw d nm/\Int.toNat (Xw d nm)<d.length/\Xa o nm=(nth o (Int.toNat (Xw d nm))).2):=by
 unfold Xw Z0 Xa;rcases SH nm d o 0 h with ⟨h1,h2⟩ | ⟨i,hi,h1,h2⟩
 . rw[h1,h2];refine .inl ⟨?_, ?_⟩
   . show (-1:Int)<0;omega
   rfl
 rw[h1,h2];simp only[Out.on,Nat.zero_add,Int.toNat_natCast];exact .inr ⟨by omega,hi,trivial⟩
abbrev WI (d:List Y8) (k:Nat) (o:List Qg) (f:Yh):Bool:=V8 (nth d k).2 f o
theorem Qft {d:List Y8} {L:List Int} (h:Qo d=(L,true)) (fs:List Yh) {act:Nat->Bool} {level:Int} (ha:∀k,act k=true->nth L k=level):Qb1 fs (WI d) act (d.map (·.1)):=by
 intro a b hna hnb hle k hk hact f _ hm;rw[List.length_map] at hk;refine BE (⟨λnm x hx=> ?_,λnm hn=> ?_⟩:Seen (nth d k).2 a b) f hm
 . rcases XT hna nm with ⟨h1,h2⟩ | ⟨h1,h2,h3⟩
   . rw[h2] at hx;simp at hx
   rcases XT hnb nm with ⟨g1,_⟩ | ⟨_,_,g3⟩
   . omega
   rw[h3] at hx;rw[g3];exact (hle _).1 x hx
 rcases XT hna nm with ⟨h1,h2⟩ | ⟨h1,h2,h3⟩
 . rcases XT hnb nm with ⟨_,g2⟩ | ⟨g1,_,_⟩
   . rw[h2,g2]
   omega
 rcases XT hnb nm with ⟨g1,_⟩ | ⟨_,_,g3⟩
 . omega
 rw[h3,g3];refine (hle _).2 ?_;have hlt:=MX h hk hn h1;cases hp:act (Int.toNat (Xw d nm)) with
 | false=>rfl
 | true=>have:=ha _ hp;have:=ha _ hact;omega
structure EvS (d:List Y8) (L:List Int) (on:Nat->Bool) (fs:List Yh) (k:Int) (o:List Qg):Prop where
 names:o.map (·.1)=d.map (·.1)
 none:∀j,k<=nth L j->on j=true->(nth o j).2= []
 some_:∀j,j<d.length->on j=true->∃p:Yh->Bool,(nth o j).2=sel fs (λf=>f.1) p
def BF (L:List Int) (on:Nat->Bool) (k:Int) (j:Nat):Bool:=(nth L j==k)&&on j
theorem SI {d:List Y8} {L:List Int} {on:Nat->Bool} {fs:List Yh} {k:Int} {o:List Qg} (h:EvS d L on fs k o):StateC fs (λf:Yh=>f.1) (WI d) (BF L on k) (d.map (·.1)) o o:=
 ⟨h.names,λj _ hj=>⟨λ_=>false,by
  unfold BF at hj;simp only[Bool.and_eq_true,beq_iff_eq] at hj;rw[h.none j (by omega) hj.2];simp[sel],λf _ hf=>by cases hf⟩,λ_ _=>rfl⟩
theorem Qb8 {d:List Y8} {L:List Int} {on:Nat->Bool} {k:Int} {o o':List Qg} {fs:List Yh} (h:EvS d L on fs k o) (h':StateC fs (λf:Yh=>f.1) (WI d) (BF L on k) (d.map (·.1)) o o'):EvS d L on fs (k+1) o':=
 ⟨h'.names,λj hj hon=>by
  rw[h'.rest j (by unfold BF;rw[Bool.and_eq_false_iff];exact .inl (beq_eq_false_iff_ne.2 (by omega)))];exact h.none j (by omega) hon,λj hj hon=>by
  cases ha:BF L on k j with
  | false=>rw[h'.rest j ha];exact h.some_ j hj hon
  | true=>
    have hlen:o'.length=d.length:=by have:=congrArg List.length h'.names;simpa using this
    obtain ⟨p,hp,_⟩:=h'.good j (by omega) ha;exact ⟨p,hp⟩⟩
theorem U8 {d:List Y8} {L:List Int} {on:Nat->Bool} {fs:List Yh} {k:Int} {o:List Qg} (h:EvS d L on fs k o):List.length o=List.length d:=by have:=congrArg List.length h.names;simpa using this
theorem Tx (a b:List Int):Z8 a b=decide (a=b):=by
 by_cases h:a.length=b.length
 . exact RZ a b h
 have hb:((a.length:Int) !=(b.length:Int))=true:=by simpa using λe:(a.length:Int)=(b.length:Int)=>h (by omega)
 unfold Z8;rw[hb,decide_eq_false (λe=>h (congrArg List.length e))];rfl
def SJ (s:X1) (d:List Y8) (L:List Int) (on:Nat->Bool) (lv:Int) {R T:Type} (f:Nat->Y8->List Qg×Bool->Rd R (List Qg×Bool) T):Prop:=
 ∀k a o c,d[k]? =some a->f k a (o,c)=bif BF L on lv k then (bif !(decide (Yr s a.2 o=(nth o k).2)) then .next (List.set o k ((nth o k).1,Yr s a.2 o),true) else .next (o,c)) else .next (o,c)
theorem Sn {R:Type} {s:X1} {d:List Y8} {L:List Int} {on:Nat->Bool} {lv:Int} {f:Nat->Y8->List Qg×Bool->Rd R (List Qg×Bool) (List Qg×Bool)} {e:Nat->List Qg×Bool->List Qg×Bool}
 (hf:SJ s d L on lv f) (he:∀k s,e k s=s):∀(l:List Y8) (k:Nat) (o:List Qg) (c:Bool),d.drop k=l->Xp f e l k (o,c)= .brk (WF s.2.1 (λf:Yh=>f.1) (WI d) (BF L on lv) (List.range' k l.length) (o,c))
 | [],k,o,c,_=>by simp[Xp,WF,he]
 | a ::l,k,o,c,hl=>by
   have hk:d[k]? =some a:=by
    have:=congrArg (·[0]?) hl;simpa using this
   have ha:nth d k=a:=Gw hk;have hrest:d.drop (k+1)=l:=by rw[←List.drop_drop,hl];rfl
   have hp:WF s.2.1 (λf:Yh=>f.1) (WI d) (BF L on lv) (List.range' k (a::l).length) (o,c)=WF s.2.1 (λf:Yh=>f.1) (WI d) (BF L on lv) (List.range' (k+1) l.length) (BC s.2.1 (λf:Yh=>f.1) (WI d) (BF L on lv) (o,c) k):=by
    rw[List.length_cons,List.range'_succ];rfl
   have hsel:sel s.2.1 (λf:Yh=>f.1) (WI d k o)=Yr s a.2 o:=by rw[MW,←ha]
   rw[hp];simp only[Xp,hf k a o c hk];unfold BC;cases BF L on lv k with
   | false=>simp only[cond_false];exact Sn hf he l (k+1) o c hrest
   | true=>
     simp only[cond_true,hsel];by_cases hq:Yr s a.2 o=(nth o k).2
     . rw[decide_eq_true hq,if_pos hq];exact Sn hf he l (k+1) o c hrest
     rw[decide_eq_false hq,if_neg hq];exact Sn hf he l (k+1) _ true hrest
theorem Qdv {R':Type} {s:X1} {d:List Y8} {L:List Int} {on:Nat->Bool} {lv:Int} {f:Nat->Y8->List Qg×Bool->Rd (Rd R' (List Qg×Int×Bool) (List Qg×Int)) (List Qg×Bool) (List Qg×Bool)} {e:Nat->List Qg×Bool->List Qg×Bool} {F:List Qg×Int×Bool->Rd R' (List Qg×Int×Bool) (List Qg×Int)}
 (hf:SJ s d L on lv f) (he:∀k s,e k s=s) (hF:∀x,F x=bif x.2.2 then (Out.on (Xp f e d 0 (x.1,false)) λy=> .next (y.1,IntKind.i64.wrap (x.2.1+1),y.2)) else .brk (x.1,x.2.1))
 (hS:Qo d=(L,true)) {o:List Qg} (h:EvS d L on s.2.1 lv o) (p:Int):
 ∃o' p',whl F (List.length d*List.length s.2.1+2) (o,p,true)=some (.brk (o',p'))/\EvS d L on s.2.1 (lv+1) o':=by
 have hlen:o.length=d.length:=by have:=congrArg List.length h.names;simpa using this
 have hroom:=SC s.2.1.length (BF L on lv) o 0;rw[hlen] at hroom
 obtain ⟨s',h1,hc,t,h2,h3⟩:=Qir (fs:=s.2.1) (idOf:=λf:Yh=>f.1) (m:=WI d) (act:=BF L on lv) (nm:=d.map (·.1)) (F:=F) (out:=λx=>x.1) (ch:=λx=>x.2.2) (n:=d.length) (by simp)
  (λx hx=>⟨_,by rw[hF,hx,cond_true,Sn hf he d 0 x.1 false rfl];rfl,by rw[List.range_eq_range']⟩)
  (λx hx=>⟨_,by rw[hF,hx,cond_false]⟩) (Qft hS s.2.1 λk hk=>by unfold BF at hk;simp only[Bool.and_eq_true,beq_iff_eq] at hk;exact hk.1) (o:=o) (List.length d*List.length s.2.1+2) (o,p,true) (SI h) (by simp only[cond_true];omega)
 have hc':s'.2.2=false:=hc;have hb:F s'= .brk (s'.1,s'.2.1):=by rw[hF,hc'];rfl
 rw[hb] at h2;cases h2
 exact ⟨s'.1,s'.2.1,h3,Qb8 h h1⟩
theorem Iy {R T:Type} {d:List Y8} {L:List Int} {on:Nat->Bool} {fs:List Yh} {g:Y8->List Int} {f:Nat->Y8->List Qg->Rd R (List Qg) T} {e:Nat->List Qg->T} (hf:∀k a s,f k a s= .next (s++ [(a.1,g a)])) (hg:∀j,j<d.length->on j=true->g (nth d j)= []):
 Xp f e d 0 []= .brk (e d.length (d.map λa=>(a.1,g a)))/\EvS d L on fs 0 (d.map λa=>(a.1,g a)):=by
 refine ⟨by rw[Cr (g:=λa=>((a.1,g a):Qg)) hf];simp, ?_,λj _ hj=> ?_,λj hj hon=> ?_⟩
 . rw[List.map_map];rfl
 . by_cases hjl:j<d.length
   . have:nth (d.map λa=>((a.1,g a):Qg)) j=((nth d j).1,g (nth d j)):=by simp[nth,List.getD,hjl]
     rw[this];exact hg j hjl hj
   have:nth (d.map λa=>((a.1,g a):Qg)) j=default:=by simp[nth,List.getD,hjl]
   rw[this];rfl
 have:nth (d.map λa=>((a.1,g a):Qg)) j=((nth d j).1,g (nth d j)):=by simp[nth,List.getD,hj]
 exact ⟨λ_=>false,by rw[this,hg j hj hon];simp[sel]⟩
theorem Fz {d:List Y8} (h:((Qo d)).2=true):List.length ((Qo d)).1=List.length d/\List.length d<=5/\∀x,x∈((Qo d)).1->0<=x/\x<=5:=by
 have hS:Qo d=((Qo d).1,true):=Prod.ext rfl h;obtain ⟨hv,hlen,hs,h0⟩:=XS hS;have h5:=Fb hv;refine ⟨hlen,h5,λx hx=> ?_⟩;obtain ⟨i,hi,rfl⟩:=VX hx;refine ⟨h0 i, ?_⟩;have hb:=SG hS i;omega
end
end Go.Proofs.YtcfmffieckchiaaGreatDoor
