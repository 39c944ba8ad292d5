/- Texts of this proof, put together by a program: Nga, Ngb, Zd, Sh, Ts, Dpa, Dpb, Dpc, Dpd, Sta, Stb, Stc, Stg, Sth, Std, Ste, Isa, Isb, Ckc, Slb, Ev, Ex, Ey. -/
import Derived.Test.YtkekndahbiefaaaGreatDoorP3
import Derived.KernelRfl
import Derived.Sort.EncStr
import Derived.Sort.Grow
import Derived.Lib.SlicesCompact
import Derived.Sort.Walk0
import Derived.Shelf.Small.Bits
import Derived.Shelf.Strconv.Itoa0
import Derived.Shelf.Strconv.Itoa1
import Derived.Shelf.LaysM
import Derived.Shelf.Strconv.Itoa2
import Derived.Shelf.Strconv.Itoa3
import Derived.Shelf.Sort.Plain
import Derived.Shelf.Slices.Turned
import Derived.Ground.Names2Prog
import Derived.Shelf.Slices.Clone
import Derived.Shelf.Slices.CompactS
import Derived.Shelf.Slices.Cells
import Derived.Shelf.Slices.In.SortNone
import Derived.Ground.SlgnProg
import Derived.Shelf.SlicesE.Equal
import Derived.Shelf.SlicesE.Compact
import Derived.Shelf.SlicesE.Clone
import Derived.Ground.SlgfProg
import Derived.Shelf.SlicesE.IndexFunc
import Derived.Shelf.SlicesE.DeleteFunc
import Derived.Test.YtkekndahbiefaaaGreatDoorProg
set_option linter.unusedVariables false
set_option linter.unusedSimpArgs false
namespace Go.Proofs.YtkekndahbiefaaaGreatDoor
open Go.RowKit
open GoE (enc wide)
def Z0 (q:(List Yu)) (k0:Nat) (s0:(List Bool)):Rd ((List Bool)) ((List Bool)) ((List Bool)):=(bif ((nth q (Int.toNat (dn ((q.length:Int)-1) k0))).1==(5:Int)) then (.next (List.set s0 (Int.toNat ((nth q (Int.toNat (dn ((q.length:Int)-1) k0))).2.1)) ((nth s0 (Int.toNat (dn ((q.length:Int)-1) k0)))|| ((nth q (Int.toNat (dn ((q.length:Int)-1) k0))).1==(5:Int))))) else (bif ((nth q (Int.toNat (dn ((q.length:Int)-1) k0))).1==(6:Int)) then (.next (List.set (List.set s0 (Int.toNat ((nth q (Int.toNat (dn ((q.length:Int)-1) k0))).2.1)) ((nth s0 (Int.toNat (dn ((q.length:Int)-1) k0)))|| ((nth q (Int.toNat (dn ((q.length:Int)-1) k0))).1==(5:Int)))) (Int.toNat ((nth q (Int.toNat (dn ((q.length:Int)-1) k0))).2.2.1)) ((nth s0 (Int.toNat (dn ((q.length:Int)-1) k0)))|| ((nth q (Int.toNat (dn ((q.length:Int)-1) k0))).1==(5:Int))))) else (bif ((nth q (Int.toNat (dn ((q.length:Int)-1) k0))).1==(7:Int)) then (.next (List.set (List.set s0 (Int.toNat ((nth q (Int.toNat (dn ((q.length:Int)-1) k0))).2.1)) ((nth s0 (Int.toNat (dn ((q.length:Int)-1) k0)))|| ((nth q (Int.toNat (dn ((q.length:Int)-1) k0))).1==(5:Int)))) (Int.toNat ((nth q (Int.toNat (dn ((q.length:Int)-1) k0))).2.2.1)) ((nth s0 (Int.toNat (dn ((q.length:Int)-1) k0)))|| ((nth q (Int.toNat (dn ((q.length:Int)-1) k0))).1==(5:Int))))) else (.next s0))))
def Hj (_:Nat) (s0:(List Bool)):(List Bool):=s0
def Yc (q:(List Yu)):(List Bool):=(bif (!(Q3 q)) then [] else (Out.on (Wu (Z0 q) Hj (List.length q) 0 (List.replicate (Int.toNat (q.length:Int)) false)) (fun y0=>y0)))
theorem T6 (q:(List Yu)):ACalls Tryz.prog 307 [.h q] (.o 0 (Yc q)):=by
 refine en Qa Tryz.func307 fun w0 F0 hG=> ?_
 refine sn Qa [0,2] [] (p0) <| Qc <| tn Qa [0,2,8] [] (pc 1 (H8 q) p0) <| ck (!(Q3 q)) (fun h1=> ?_) (fun h1=> ?_)
 ·
  refine tu Qa [(2, .e 0)] [] [] [] (p0) <| opn [(false,2,0,true,384000,1)] ?_
  exact Qg <| po0 [] (Xf h1 (rfl))
 have h1n:(Q3 q)=true:=Y3 h1;refine Qf <| wT 0 0 .sh q (fun hw2 hl3=> ?_)
 refine tu Qa [(2, .e 0),(3, .one (.slc (.own true 704) 1 (List.replicate (Int.toNat (q.length:Int)) [.b false])))] [] [] [] (pl 1 q (px (Tw (lo:=0) (hi:=(q.length:Int)) (n:=1073741824) (⟨by omega,by omega,by omega⟩)) p0)) <| eqn [(3, .o 704 (List.replicate (Int.toNat (q.length:Int)) false))] [3] [] [] (by rw[show (List.replicate (Int.toNat (q.length:Int)) [.b false])=(eL (List.replicate (Int.toNat (q.length:Int)) false)) from Qek _ false];first | done | kernel_rfl) ?_
 refine Qc <| sn Qa [0,2,3,4] [] (pl 1 q (pe 2 (Jh (IntWalk.i64_in ((q.length:Int)-1) (by omega))) p0)) <| mz [(4, .i ((q.length:Int)-1))] [] [] [] <| Qkw (Z0 q) Hj (List.length q) (List.replicate (Int.toNat (q.length:Int)) false) (fun k0 s0=> [(3, .o 704 s0),(4, .i (dn ((q.length:Int)-1) k0))]) [3,4] (fun y0=> [(3, .o 704 y0)]) [0,3,4] (fun _ s0=>List.length s0=(Int.toNat (q.length:Int))) (fun y0=>List.length y0=(Int.toNat (q.length:Int))) wf0 (by simp) (fun k0 s0 hk0 hI0=> ?_) (fun k0 s0 hk0 hI0=> ?_) (fun y0 hD0=> ?_)
 ·
  have hA0_0:=hI0.2;have hdn0:=LH ((q.length:Int)-1) k0;refine Qc <| sn Qa [0,2,3,4,16] [] (pe 1 (Qp (decide_eq_true (p:=(dn ((q.length:Int)-1) k0)>=(0:Int)) (by omega))) p0) <| ckT <| Qf <| Qc <| Qu <| Qc <| mz [(16, .b true)] [] [] [] <| jn [(5, .b ((nth s0 (Int.toNat (dn ((q.length:Int)-1) k0)))|| ((nth q (Int.toNat (dn ((q.length:Int)-1) k0))).1==(5:Int))))] [16] [] [] (nth s0 (Int.toNat (dn ((q.length:Int)-1) k0))) (fun h4=> ?_) (fun h4=> ?_) ?_
  ·
   refine wT 3 0 (.own true 704) s0 (fun hw6 hl7=> ?_);have hx5:=ng s0 (Int.toNat (dn ((q.length:Int)-1) k0));refine rn Qa [0,2,3,4,5] [] (pG 2 (dn ((q.length:Int)-1) k0) hx5 (pt 3 h4 p0)) ?_;exact ⟨rfl,Qd (by rw[h4]<;>kernel_rfl)⟩
  ·
   refine wT 3 0 (.own true 704) s0 (fun hw9 hl10=> ?_);have hx8:=ng s0 (Int.toNat (dn ((q.length:Int)-1) k0));have hx11:=ng q (Int.toNat (dn ((q.length:Int)-1) k0));refine rn Qa [0,2,3,4,5] [] (pG 2 (dn ((q.length:Int)-1) k0) hx8 (pf 3 h4 (pg 7 (dn ((q.length:Int)-1) k0) hx11 p0))) ?_;exact ⟨rfl,Qd (by rw[h4]<;>kernel_rfl)⟩
  have hx12:=ng q (Int.toNat (dn ((q.length:Int)-1) k0));refine sn Qa [0,2,3,4,5,35] [] (pg 2 (dn ((q.length:Int)-1) k0) hx12 p0) <| Qu <| tn Qa [0,2,3,4,5,35,36] [] (p0) <| ck ((nth q (Int.toNat (dn ((q.length:Int)-1) k0))).1==(5:Int)) (fun h13=> ?_) (fun h13=> ?_)
  ·
   have h13k:=Qg3 h1n (by omega) (by omega) h13;have h13d:=eq_of_beq h13;refine wT 3 0 (.own true 704) s0 (fun hw15 hl16=> ?_);have hx14:=ng s0 (Int.toNat ((nth q (Int.toNat (dn ((q.length:Int)-1) k0))).2.1));refine qu Qa [(3, .one (.slc (.own true 704) 1 (setRow (eL s0) (Int.toNat ((nth q (Int.toNat (dn ((q.length:Int)-1) k0))).2.1)) 0 [.b ((nth s0 (Int.toNat (dn ((q.length:Int)-1) k0)))|| ((nth q (Int.toNat (dn ((q.length:Int)-1) k0))).1==(5:Int)))])))] [3,5] [] [] (pg 3 (dn ((q.length:Int)-1) k0) hx12 (pG 7 ((nth q (Int.toNat (dn ((q.length:Int)-1) k0))).2.1) hx14 p0)) ?_;refine eqn [(3, .o 704 (List.set s0 (Int.toNat ((nth q (Int.toNat (dn ((q.length:Int)-1) k0))).2.1)) ((nth s0 (Int.toNat (dn ((q.length:Int)-1) k0)))|| ((nth q (Int.toNat (dn ((q.length:Int)-1) k0))).1==(5:Int)))))] [3] [] [] (by rw[Kh (y:=((nth s0 (Int.toNat (dn ((q.length:Int)-1) k0)))|| ((nth q (Int.toNat (dn ((q.length:Int)-1) k0))).1==(5:Int)))) hx14 rfl]<;>kernel_rfl) ?_;refine rn Qa [0,2,3,4] [] (pe 1 (show .i (IntKind.i64.wrap ((dn ((q.length:Int)-1) k0)-1))= .i (dn ((q.length:Int)-1) (k0+1)) from Jh (show IntKind.i64.wrap ((dn ((q.length:Int)-1) k0)-1)=(dn ((q.length:Int)-1) (k0+1)) from IntWalk.i64_in ((dn ((q.length:Int)-1) k0)-1) (by omega))) p0) ?_;exact xw (List.set s0 (Int.toNat ((nth q (Int.toNat (dn ((q.length:Int)-1) k0))).2.1)) ((nth s0 (Int.toNat (dn ((q.length:Int)-1) k0)))|| ((nth q (Int.toNat (dn ((q.length:Int)-1) k0))).1==(5:Int)))) ⟨Vi hk0 (Xf h13 (rfl)) hI0.1,(by first | omega | (simp only[List.length_set];omega))⟩
  have h13d:=Z2 h13;refine Qc <| tu Qa [(35, .i ((nth q (Int.toNat (dn ((q.length:Int)-1) k0))).1)),(46, .b ((nth q (Int.toNat (dn ((q.length:Int)-1) k0))).1==(6:Int)))] [] [] [] (p0) <| ck ((nth q (Int.toNat (dn ((q.length:Int)-1) k0))).1==(6:Int)) (fun h17=> ?_) (fun h17=> ?_)
  ·
   have h17k:=OE h1n (by omega) (by omega) h17;have h17m:=Qg4 h1n (by omega) (by omega) h17;have h17d:=eq_of_beq h17;refine Qf <| ckt h17 ?_
   refine wT 3 0 (.own true 704) s0 (fun hw19 hl20=> ?_);have hx18:=ng s0 (Int.toNat ((nth q (Int.toNat (dn ((q.length:Int)-1) k0))).2.1));have hx21:(List.set s0 (Int.toNat ((nth q (Int.toNat (dn ((q.length:Int)-1) k0))).2.1)) ((nth s0 (Int.toNat (dn ((q.length:Int)-1) k0)))|| ((nth q (Int.toNat (dn ((q.length:Int)-1) k0))).1==(5:Int))))[(Int.toNat ((nth q (Int.toNat (dn ((q.length:Int)-1) k0))).2.2.1))]? =some (nth (List.set s0 (Int.toNat ((nth q (Int.toNat (dn ((q.length:Int)-1) k0))).2.1)) ((nth s0 (Int.toNat (dn ((q.length:Int)-1) k0)))|| ((nth q (Int.toNat (dn ((q.length:Int)-1) k0))).1==(5:Int)))) (Int.toNat ((nth q (Int.toNat (dn ((q.length:Int)-1) k0))).2.2.1))):=V7 (by first | omega | (simp only[List.length_set];omega));refine rU Qa Zh [(3, .one (.slc (.own true 704) 1 (setRow (setRow (eL s0) (Int.toNat ((nth q (Int.toNat (dn ((q.length:Int)-1) k0))).2.1)) 0 [.b ((nth s0 (Int.toNat (dn ((q.length:Int)-1) k0)))|| ((nth q (Int.toNat (dn ((q.length:Int)-1) k0))).1==(5:Int)))]) (Int.toNat ((nth q (Int.toNat (dn ((q.length:Int)-1) k0))).2.2.1)) 0 [.b ((nth s0 (Int.toNat (dn ((q.length:Int)-1) k0)))|| ((nth q (Int.toNat (dn ((q.length:Int)-1) k0))).1==(5:Int)))])))] [3,5,35,46] [] [] (pg 3 (dn ((q.length:Int)-1) k0) hx12 (pg 9 (dn ((q.length:Int)-1) k0) hx12 (pG 14 ((nth q (Int.toNat (dn ((q.length:Int)-1) k0))).2.1) hx18 (pR 16 (l:=(setRow (eL s0) (Int.toNat ((nth q (Int.toNat (dn ((q.length:Int)-1) k0))).2.1)) 0 [.b ((nth s0 (Int.toNat (dn ((q.length:Int)-1) k0)))|| ((nth q (Int.toNat (dn ((q.length:Int)-1) k0))).1==(5:Int)))])) (j:=((nth q (Int.toNat (dn ((q.length:Int)-1) k0))).2.2.1)) (r:= [.b (nth (List.set s0 (Int.toNat ((nth q (Int.toNat (dn ((q.length:Int)-1) k0))).2.1)) ((nth s0 (Int.toNat (dn ((q.length:Int)-1) k0)))|| ((nth q (Int.toNat (dn ((q.length:Int)-1) k0))).1==(5:Int)))) (Int.toNat ((nth q (Int.toNat (dn ((q.length:Int)-1) k0))).2.2.1)))]) (by rw[Kh (y:=((nth s0 (Int.toNat (dn ((q.length:Int)-1) k0)))|| ((nth q (Int.toNat (dn ((q.length:Int)-1) k0))).1==(5:Int)))) hx18 rfl];exact RH (by omega) rfl hx21) p0)))) ?_;refine eqn [(3, .o 704 (List.set (List.set s0 (Int.toNat ((nth q (Int.toNat (dn ((q.length:Int)-1) k0))).2.1)) ((nth s0 (Int.toNat (dn ((q.length:Int)-1) k0)))|| ((nth q (Int.toNat (dn ((q.length:Int)-1) k0))).1==(5:Int)))) (Int.toNat ((nth q (Int.toNat (dn ((q.length:Int)-1) k0))).2.2.1)) ((nth s0 (Int.toNat (dn ((q.length:Int)-1) k0)))|| ((nth q (Int.toNat (dn ((q.length:Int)-1) k0))).1==(5:Int)))))] [3] [] [] (by rw[Kh (y:=((nth s0 (Int.toNat (dn ((q.length:Int)-1) k0)))|| ((nth q (Int.toNat (dn ((q.length:Int)-1) k0))).1==(5:Int)))) hx18 rfl,Kh (y:=((nth s0 (Int.toNat (dn ((q.length:Int)-1) k0)))|| ((nth q (Int.toNat (dn ((q.length:Int)-1) k0))).1==(5:Int)))) hx21 rfl]<;>kernel_rfl) ?_;refine rn Qa [0,2,3,4] [] (pe 1 (show .i (IntKind.i64.wrap ((dn ((q.length:Int)-1) k0)-1))= .i (dn ((q.length:Int)-1) (k0+1)) from Jh (show IntKind.i64.wrap ((dn ((q.length:Int)-1) k0)-1)=(dn ((q.length:Int)-1) (k0+1)) from IntWalk.i64_in ((dn ((q.length:Int)-1) k0)-1) (by omega))) p0) ?_;exact xw (List.set (List.set s0 (Int.toNat ((nth q (Int.toNat (dn ((q.length:Int)-1) k0))).2.1)) ((nth s0 (Int.toNat (dn ((q.length:Int)-1) k0)))|| ((nth q (Int.toNat (dn ((q.length:Int)-1) k0))).1==(5:Int)))) (Int.toNat ((nth q (Int.toNat (dn ((q.length:Int)-1) k0))).2.2.1)) ((nth s0 (Int.toNat (dn ((q.length:Int)-1) k0)))|| ((nth q (Int.toNat (dn ((q.length:Int)-1) k0))).1==(5:Int)))) ⟨Vi hk0 (Qs h13 (Xf h17 (rfl))) hI0.1,(by first | omega | (simp only[List.length_set];omega))⟩
  have h17d:=Z2 h17;refine rn Qa [0,2,3,4,5,46] [] (p0) ?_;refine ck ((nth q (Int.toNat (dn ((q.length:Int)-1) k0))).1==(7:Int)) (fun h22=> ?_) (fun h22=> ?_)
  ·
   have h22k:=RP h1n (by omega) (by omega) h22;have h22m:=Qip h1n (by omega) (by omega) h22;have h22d:=eq_of_beq h22;refine wT 3 0 (.own true 704) s0 (fun hw24 hl25=> ?_);have hx23:=ng s0 (Int.toNat ((nth q (Int.toNat (dn ((q.length:Int)-1) k0))).2.1));have hx26:(List.set s0 (Int.toNat ((nth q (Int.toNat (dn ((q.length:Int)-1) k0))).2.1)) ((nth s0 (Int.toNat (dn ((q.length:Int)-1) k0)))|| ((nth q (Int.toNat (dn ((q.length:Int)-1) k0))).1==(5:Int))))[(Int.toNat ((nth q (Int.toNat (dn ((q.length:Int)-1) k0))).2.2.1))]? =some (nth (List.set s0 (Int.toNat ((nth q (Int.toNat (dn ((q.length:Int)-1) k0))).2.1)) ((nth s0 (Int.toNat (dn ((q.length:Int)-1) k0)))|| ((nth q (Int.toNat (dn ((q.length:Int)-1) k0))).1==(5:Int)))) (Int.toNat ((nth q (Int.toNat (dn ((q.length:Int)-1) k0))).2.2.1))):=V7 (by first | omega | (simp only[List.length_set];omega));refine qU Qa Zh [(3, .one (.slc (.own true 704) 1 (setRow (setRow (eL s0) (Int.toNat ((nth q (Int.toNat (dn ((q.length:Int)-1) k0))).2.1)) 0 [.b ((nth s0 (Int.toNat (dn ((q.length:Int)-1) k0)))|| ((nth q (Int.toNat (dn ((q.length:Int)-1) k0))).1==(5:Int)))]) (Int.toNat ((nth q (Int.toNat (dn ((q.length:Int)-1) k0))).2.2.1)) 0 [.b ((nth s0 (Int.toNat (dn ((q.length:Int)-1) k0)))|| ((nth q (Int.toNat (dn ((q.length:Int)-1) k0))).1==(5:Int)))])))] [3,5,35,46] [] [] (pg 3 (dn ((q.length:Int)-1) k0) hx12 (pg 9 (dn ((q.length:Int)-1) k0) hx12 (pG 14 ((nth q (Int.toNat (dn ((q.length:Int)-1) k0))).2.1) hx23 (pR 16 (l:=(setRow (eL s0) (Int.toNat ((nth q (Int.toNat (dn ((q.length:Int)-1) k0))).2.1)) 0 [.b ((nth s0 (Int.toNat (dn ((q.length:Int)-1) k0)))|| ((nth q (Int.toNat (dn ((q.length:Int)-1) k0))).1==(5:Int)))])) (j:=((nth q (Int.toNat (dn ((q.length:Int)-1) k0))).2.2.1)) (r:= [.b (nth (List.set s0 (Int.toNat ((nth q (Int.toNat (dn ((q.length:Int)-1) k0))).2.1)) ((nth s0 (Int.toNat (dn ((q.length:Int)-1) k0)))|| ((nth q (Int.toNat (dn ((q.length:Int)-1) k0))).1==(5:Int)))) (Int.toNat ((nth q (Int.toNat (dn ((q.length:Int)-1) k0))).2.2.1)))]) (by rw[Kh (y:=((nth s0 (Int.toNat (dn ((q.length:Int)-1) k0)))|| ((nth q (Int.toNat (dn ((q.length:Int)-1) k0))).1==(5:Int)))) hx23 rfl];exact RH (by omega) rfl hx26) p0)))) ?_;refine eqn [(3, .o 704 (List.set (List.set s0 (Int.toNat ((nth q (Int.toNat (dn ((q.length:Int)-1) k0))).2.1)) ((nth s0 (Int.toNat (dn ((q.length:Int)-1) k0)))|| ((nth q (Int.toNat (dn ((q.length:Int)-1) k0))).1==(5:Int)))) (Int.toNat ((nth q (Int.toNat (dn ((q.length:Int)-1) k0))).2.2.1)) ((nth s0 (Int.toNat (dn ((q.length:Int)-1) k0)))|| ((nth q (Int.toNat (dn ((q.length:Int)-1) k0))).1==(5:Int)))))] [3] [] [] (by rw[Kh (y:=((nth s0 (Int.toNat (dn ((q.length:Int)-1) k0)))|| ((nth q (Int.toNat (dn ((q.length:Int)-1) k0))).1==(5:Int)))) hx23 rfl,Kh (y:=((nth s0 (Int.toNat (dn ((q.length:Int)-1) k0)))|| ((nth q (Int.toNat (dn ((q.length:Int)-1) k0))).1==(5:Int)))) hx26 rfl]<;>kernel_rfl) ?_;refine rn Qa [0,2,3,4] [] (pe 1 (show .i (IntKind.i64.wrap ((dn ((q.length:Int)-1) k0)-1))= .i (dn ((q.length:Int)-1) (k0+1)) from Jh (show IntKind.i64.wrap ((dn ((q.length:Int)-1) k0)-1)=(dn ((q.length:Int)-1) (k0+1)) from IntWalk.i64_in ((dn ((q.length:Int)-1) k0)-1) (by omega))) p0) ?_;exact xw (List.set (List.set s0 (Int.toNat ((nth q (Int.toNat (dn ((q.length:Int)-1) k0))).2.1)) ((nth s0 (Int.toNat (dn ((q.length:Int)-1) k0)))|| ((nth q (Int.toNat (dn ((q.length:Int)-1) k0))).1==(5:Int)))) (Int.toNat ((nth q (Int.toNat (dn ((q.length:Int)-1) k0))).2.2.1)) ((nth s0 (Int.toNat (dn ((q.length:Int)-1) k0)))|| ((nth q (Int.toNat (dn ((q.length:Int)-1) k0))).1==(5:Int)))) ⟨Vi hk0 (Qs h13 (Qs h17 (Xf h22 (rfl)))) hI0.1,(by first | omega | (simp only[List.length_set];omega))⟩
  have h22d:=Z2 h22;refine Qf <| qn Qa [0,2,3,4] [] (pe 1 (show .i (IntKind.i64.wrap ((dn ((q.length:Int)-1) k0)-1))= .i (dn ((q.length:Int)-1) (k0+1)) from Jh (show IntKind.i64.wrap ((dn ((q.length:Int)-1) k0)-1)=(dn ((q.length:Int)-1) (k0+1)) from IntWalk.i64_in ((dn ((q.length:Int)-1) k0)-1) (by omega))) p0) ?_
  exact xw s0 ⟨Vi hk0 (Qs h13 (Qs h17 (Qs h22 (rfl)))) hI0.1,(by first | omega | (simp only[List.length_set];omega))⟩
 ·
  have hA0_0:=hI0.2;have hdn0:=LH ((q.length:Int)-1) k0;exact Qc <| sn Qa [0,2,3,4,16] [] (pe 1 (Qp (decide_eq_false (p:=(dn ((q.length:Int)-1) k0)>=(0:Int)) (by omega))) p0) <| ckF <| Q2 <| xw s0 ⟨Cw hk0 (rfl) hI0.1,by first | omega | (simp only[List.length_set];omega)⟩
 have hD0_0:=hD0.2;exact sn Qa [2] [] (p0) <| Qg <| po0 [] (Qs h1 (Wj hD0.1 (rfl)))
def Hk (q:(List Yu)) (k0:Nat) (s0:(List Bool)):Rd ((List Bool)) ((List Bool)) ((List Bool)):=(bif ((nth q (Int.toNat (dn ((q.length:Int)-1) k0))).1==(5:Int)) then (bif (((nth q (Int.toNat (dn ((q.length:Int)-1) k0))).1==(6:Int))|| ((nth q (Int.toNat (dn ((q.length:Int)-1) k0))).1==(7:Int))) then (.next (List.set (List.set (List.set s0 (Int.toNat ((nth q (Int.toNat (dn ((q.length:Int)-1) k0))).2.1)) true) (Int.toNat ((nth q (Int.toNat (dn ((q.length:Int)-1) k0))).2.1)) (nth (List.set s0 (Int.toNat ((nth q (Int.toNat (dn ((q.length:Int)-1) k0))).2.1)) true) (Int.toNat (dn ((q.length:Int)-1) k0)))) (Int.toNat ((nth q (Int.toNat (dn ((q.length:Int)-1) k0))).2.2.1)) (nth (List.set (List.set s0 (Int.toNat ((nth q (Int.toNat (dn ((q.length:Int)-1) k0))).2.1)) true) (Int.toNat ((nth q (Int.toNat (dn ((q.length:Int)-1) k0))).2.1)) (nth (List.set s0 (Int.toNat ((nth q (Int.toNat (dn ((q.length:Int)-1) k0))).2.1)) true) (Int.toNat (dn ((q.length:Int)-1) k0)))) (Int.toNat (dn ((q.length:Int)-1) k0))))) else (.next (List.set s0 (Int.toNat ((nth q (Int.toNat (dn ((q.length:Int)-1) k0))).2.1)) true))) else (bif (((nth q (Int.toNat (dn ((q.length:Int)-1) k0))).1==(6:Int))|| ((nth q (Int.toNat (dn ((q.length:Int)-1) k0))).1==(7:Int))) then (.next (List.set (List.set s0 (Int.toNat ((nth q (Int.toNat (dn ((q.length:Int)-1) k0))).2.1)) (nth s0 (Int.toNat (dn ((q.length:Int)-1) k0)))) (Int.toNat ((nth q (Int.toNat (dn ((q.length:Int)-1) k0))).2.2.1)) (nth (List.set s0 (Int.toNat ((nth q (Int.toNat (dn ((q.length:Int)-1) k0))).2.1)) (nth s0 (Int.toNat (dn ((q.length:Int)-1) k0)))) (Int.toNat (dn ((q.length:Int)-1) k0))))) else (.next s0)))
def Ea (_:Nat) (s0:(List Bool)):(List Bool):=s0
def Ji (q:(List Yu)):(List Bool):=(bif (!(Zi q)) then [] else (Out.on (Wu (Hk q) Ea (List.length q) 0 (List.replicate (Int.toNat (q.length:Int)) false)) (fun y0=>y0)))
theorem T7 (q:(List Yu)):ACalls Tryz.prog 317 [.h q] (.o 0 (Ji q)):=by
 refine en Qa Tryz.func317 fun w0 F0 hG=> ?_
 refine sn Qa [0,2] [] (p0) <| Qc <| tn Qa [0,2,9] [] (pc 1 (Ue q) p0) <| ck (!(Zi q)) (fun h1=> ?_) (fun h1=> ?_)
 ·
  exact tu Qa [(2, .one (.slc (.own true 640) 1 []))] [] [] [] (p0) <| Qg <| po0 [] (Xf h1 (rfl))
 have h1n:(Zi q)=true:=Y3 h1;refine Qf <| wT 0 0 .sh q (fun hw2 hl3=> ?_)
 refine tu Qa [(2, .e 0),(3, .one (.slc (.own true 832) 1 (List.replicate (Int.toNat (q.length:Int)) [.b false])))] [] [] [] (pl 1 q (px (Tw (lo:=0) (hi:=(q.length:Int)) (n:=1073741824) (⟨by omega,by omega,by omega⟩)) p0)) <| eqn [(3, .o 832 (List.replicate (Int.toNat (q.length:Int)) false))] [3] [] [] (by rw[show (List.replicate (Int.toNat (q.length:Int)) [.b false])=(eL (List.replicate (Int.toNat (q.length:Int)) false)) from Qek _ false];first | done | kernel_rfl) ?_
 refine Qc <| sn Qa [0,2,3,4] [] (pl 1 q (pe 2 (Jh (IntWalk.i64_in ((q.length:Int)-1) (by omega))) p0)) <| mz [(4, .i ((q.length:Int)-1))] [] [] [] <| Qkw (Hk q) Ea (List.length q) (List.replicate (Int.toNat (q.length:Int)) false) (fun k0 s0=> [(3, .o 832 s0),(4, .i (dn ((q.length:Int)-1) k0))]) [3,4] (fun y0=> [(3, .o 832 y0)]) [0,3,4] (fun _ s0=>List.length s0=(Int.toNat (q.length:Int))) (fun y0=>List.length y0=(Int.toNat (q.length:Int))) wf0 (by simp) (fun k0 s0 hk0 hI0=> ?_) (fun k0 s0 hk0 hI0=> ?_) (fun y0 hD0=> ?_)
 ·
  have hA0_0:=hI0.2;have hdn0:=LH ((q.length:Int)-1) k0;refine Qc <| sn Qa [0,2,3,4,18] [] (pe 1 (Qp (decide_eq_true (p:=(dn ((q.length:Int)-1) k0)>=(0:Int)) (by omega))) p0) <| ckT <| Qf <| Qc <| Qu ?_
  have hx4:=ng q (Int.toNat (dn ((q.length:Int)-1) k0));refine tn Qa [0,2,3,4,5] [5] (pg 2 (dn ((q.length:Int)-1) k0) hx4 p0) <| Qc <| mz [(5, .p 5 0)] [] [(5, [.i ((nth q (Int.toNat (dn ((q.length:Int)-1) k0))).1), .i ((nth q (Int.toNat (dn ((q.length:Int)-1) k0))).2.1), .i ((nth q (Int.toNat (dn ((q.length:Int)-1) k0))).2.2.1), .s ((nth q (Int.toNat (dn ((q.length:Int)-1) k0))).2.2.2.1), .i ((nth q (Int.toNat (dn ((q.length:Int)-1) k0))).2.2.2.2.1), .i ((nth q (Int.toNat (dn ((q.length:Int)-1) k0))).2.2.2.2.2.1), .s ((nth q (Int.toNat (dn ((q.length:Int)-1) k0))).2.2.2.2.2.2)])] [] <| jn [(6, .b (((nth q (Int.toNat (dn ((q.length:Int)-1) k0))).1==(6:Int))|| ((nth q (Int.toNat (dn ((q.length:Int)-1) k0))).1==(7:Int))))] [] [] [] ((nth q (Int.toNat (dn ((q.length:Int)-1) k0))).1==(6:Int)) (fun h5=> ?_) (fun h5=> ?_) ?_
  ·
   have h5k:=OE (Sy h1n) (by omega) (by omega) h5;have h5m:=Qg4 (Sy h1n) (by omega) (by omega) h5;refine rn Qa [0,2,3,4,5,6] [5] (pt 2 h5 p0) ?_;exact ⟨rfl,Qd (by rw[h5]<;>kernel_rfl)⟩
  ·
   refine rn Qa [0,2,3,4,5,6] [5] (pf 2 h5 p0) ?_;exact ⟨rfl,Qd (by rw[h5]<;>kernel_rfl)⟩
  refine Qc <| sn Qa [0,2,3,4,5,6,35] [5] (p0) <| ck ((nth q (Int.toNat (dn ((q.length:Int)-1) k0))).1==(5:Int)) (fun h6=> ?_) (fun h6=> ?_)
  ·
   have h6k:=Qg3 (Sy h1n) (by omega) (by omega) h6;have h6d:=eq_of_beq h6;refine wT 3 0 (.own true 832) s0 (fun hw8 hl9=> ?_);have hx7:=ng s0 (Int.toNat ((nth q (Int.toNat (dn ((q.length:Int)-1) k0))).2.1));refine qu Qa [(3, .one (.slc (.own true 832) 1 (setRow (eL s0) (Int.toNat ((nth q (Int.toNat (dn ((q.length:Int)-1) k0))).2.1)) 0 [.b true])))] [3] [] [] (pG 3 ((nth q (Int.toNat (dn ((q.length:Int)-1) k0))).2.1) hx7 p0) ?_;refine eqn [(3, .o 832 (List.set s0 (Int.toNat ((nth q (Int.toNat (dn ((q.length:Int)-1) k0))).2.1)) true))] [3] [] [] (by rw[Kh (y:=true) hx7 rfl]<;>kernel_rfl) ?_;refine sn Qa [0,2,3,4,5,40] [5] (p0) <| ck (((nth q (Int.toNat (dn ((q.length:Int)-1) k0))).1==(6:Int))|| ((nth q (Int.toNat (dn ((q.length:Int)-1) k0))).1==(7:Int))) (fun h10=> ?_) (fun h10=> ?_)
   ·
    have h10k:=Qg5 (Sy h1n) (by omega) (by omega) h10;refine wT 3 0 (.own true 832) (List.set s0 (Int.toNat ((nth q (Int.toNat (dn ((q.length:Int)-1) k0))).2.1)) true) (fun hw12 hl13=> ?_);have hx11:=ng (List.set s0 (Int.toNat ((nth q (Int.toNat (dn ((q.length:Int)-1) k0))).2.1)) true) (Int.toNat (dn ((q.length:Int)-1) k0)) (by first | omega | (simp only[List.length_set];omega));have hx14:=ng (List.set s0 (Int.toNat ((nth q (Int.toNat (dn ((q.length:Int)-1) k0))).2.1)) true) (Int.toNat ((nth q (Int.toNat (dn ((q.length:Int)-1) k0))).2.1)) (by first | omega | (simp only[List.length_set];omega));refine tU Qa Zh [(3, .one (.slc (.own true 832) 1 (setRow (eL (List.set s0 (Int.toNat ((nth q (Int.toNat (dn ((q.length:Int)-1) k0))).2.1)) true)) (Int.toNat ((nth q (Int.toNat (dn ((q.length:Int)-1) k0))).2.1)) 0 [.b (nth (List.set s0 (Int.toNat ((nth q (Int.toNat (dn ((q.length:Int)-1) k0))).2.1)) true) (Int.toNat (dn ((q.length:Int)-1) k0)))])))] [3,6] [] [] (pG 5 (dn ((q.length:Int)-1) k0) hx11 (pG 7 ((nth q (Int.toNat (dn ((q.length:Int)-1) k0))).2.1) hx14 p0)) <| eqn [(3, .o 832 (List.set (List.set s0 (Int.toNat ((nth q (Int.toNat (dn ((q.length:Int)-1) k0))).2.1)) true) (Int.toNat ((nth q (Int.toNat (dn ((q.length:Int)-1) k0))).2.1)) (nth (List.set s0 (Int.toNat ((nth q (Int.toNat (dn ((q.length:Int)-1) k0))).2.1)) true) (Int.toNat (dn ((q.length:Int)-1) k0)))))] [3] [] [] (by rw[Kh (y:=(nth (List.set s0 (Int.toNat ((nth q (Int.toNat (dn ((q.length:Int)-1) k0))).2.1)) true) (Int.toNat (dn ((q.length:Int)-1) k0)))) hx14 rfl]<;>kernel_rfl) ?_
    refine wT 3 0 (.own true 832) (List.set (List.set s0 (Int.toNat ((nth q (Int.toNat (dn ((q.length:Int)-1) k0))).2.1)) true) (Int.toNat ((nth q (Int.toNat (dn ((q.length:Int)-1) k0))).2.1)) (nth (List.set s0 (Int.toNat ((nth q (Int.toNat (dn ((q.length:Int)-1) k0))).2.1)) true) (Int.toNat (dn ((q.length:Int)-1) k0)))) (fun hw16 hl17=> ?_);have hx15:=ng (List.set (List.set s0 (Int.toNat ((nth q (Int.toNat (dn ((q.length:Int)-1) k0))).2.1)) true) (Int.toNat ((nth q (Int.toNat (dn ((q.length:Int)-1) k0))).2.1)) (nth (List.set s0 (Int.toNat ((nth q (Int.toNat (dn ((q.length:Int)-1) k0))).2.1)) true) (Int.toNat (dn ((q.length:Int)-1) k0)))) (Int.toNat (dn ((q.length:Int)-1) k0)) (by first | omega | (simp only[List.length_set];omega));have hx18:=ng (List.set (List.set s0 (Int.toNat ((nth q (Int.toNat (dn ((q.length:Int)-1) k0))).2.1)) true) (Int.toNat ((nth q (Int.toNat (dn ((q.length:Int)-1) k0))).2.1)) (nth (List.set s0 (Int.toNat ((nth q (Int.toNat (dn ((q.length:Int)-1) k0))).2.1)) true) (Int.toNat (dn ((q.length:Int)-1) k0)))) (Int.toNat ((nth q (Int.toNat (dn ((q.length:Int)-1) k0))).2.2.1)) (by first | omega | (simp only[List.length_set];omega));refine rU Qa Zh [(3, .one (.slc (.own true 832) 1 (setRow (eL (List.set (List.set s0 (Int.toNat ((nth q (Int.toNat (dn ((q.length:Int)-1) k0))).2.1)) true) (Int.toNat ((nth q (Int.toNat (dn ((q.length:Int)-1) k0))).2.1)) (nth (List.set s0 (Int.toNat ((nth q (Int.toNat (dn ((q.length:Int)-1) k0))).2.1)) true) (Int.toNat (dn ((q.length:Int)-1) k0))))) (Int.toNat ((nth q (Int.toNat (dn ((q.length:Int)-1) k0))).2.2.1)) 0 [.b (nth (List.set (List.set s0 (Int.toNat ((nth q (Int.toNat (dn ((q.length:Int)-1) k0))).2.1)) true) (Int.toNat ((nth q (Int.toNat (dn ((q.length:Int)-1) k0))).2.1)) (nth (List.set s0 (Int.toNat ((nth q (Int.toNat (dn ((q.length:Int)-1) k0))).2.1)) true) (Int.toNat (dn ((q.length:Int)-1) k0)))) (Int.toNat (dn ((q.length:Int)-1) k0)))])))] [3,5] [] [5] (pG 5 (dn ((q.length:Int)-1) k0) hx15 (pG 7 ((nth q (Int.toNat (dn ((q.length:Int)-1) k0))).2.2.1) hx18 p0)) ?_;refine eqn [(3, .o 832 (List.set (List.set (List.set s0 (Int.toNat ((nth q (Int.toNat (dn ((q.length:Int)-1) k0))).2.1)) true) (Int.toNat ((nth q (Int.toNat (dn ((q.length:Int)-1) k0))).2.1)) (nth (List.set s0 (Int.toNat ((nth q (Int.toNat (dn ((q.length:Int)-1) k0))).2.1)) true) (Int.toNat (dn ((q.length:Int)-1) k0)))) (Int.toNat ((nth q (Int.toNat (dn ((q.length:Int)-1) k0))).2.2.1)) (nth (List.set (List.set s0 (Int.toNat ((nth q (Int.toNat (dn ((q.length:Int)-1) k0))).2.1)) true) (Int.toNat ((nth q (Int.toNat (dn ((q.length:Int)-1) k0))).2.1)) (nth (List.set s0 (Int.toNat ((nth q (Int.toNat (dn ((q.length:Int)-1) k0))).2.1)) true) (Int.toNat (dn ((q.length:Int)-1) k0)))) (Int.toNat (dn ((q.length:Int)-1) k0)))))] [3] [] [] (by rw[Kh (y:=(nth (List.set (List.set s0 (Int.toNat ((nth q (Int.toNat (dn ((q.length:Int)-1) k0))).2.1)) true) (Int.toNat ((nth q (Int.toNat (dn ((q.length:Int)-1) k0))).2.1)) (nth (List.set s0 (Int.toNat ((nth q (Int.toNat (dn ((q.length:Int)-1) k0))).2.1)) true) (Int.toNat (dn ((q.length:Int)-1) k0)))) (Int.toNat (dn ((q.length:Int)-1) k0)))) hx18 rfl]<;>kernel_rfl) ?_;refine rn Qa [0,2,3,4] [] (pe 1 (show .i (IntKind.i64.wrap ((dn ((q.length:Int)-1) k0)-1))= .i (dn ((q.length:Int)-1) (k0+1)) from Jh (show IntKind.i64.wrap ((dn ((q.length:Int)-1) k0)-1)=(dn ((q.length:Int)-1) (k0+1)) from IntWalk.i64_in ((dn ((q.length:Int)-1) k0)-1) (by omega))) p0) ?_;exact xw (List.set (List.set (List.set s0 (Int.toNat ((nth q (Int.toNat (dn ((q.length:Int)-1) k0))).2.1)) true) (Int.toNat ((nth q (Int.toNat (dn ((q.length:Int)-1) k0))).2.1)) (nth (List.set s0 (Int.toNat ((nth q (Int.toNat (dn ((q.length:Int)-1) k0))).2.1)) true) (Int.toNat (dn ((q.length:Int)-1) k0)))) (Int.toNat ((nth q (Int.toNat (dn ((q.length:Int)-1) k0))).2.2.1)) (nth (List.set (List.set s0 (Int.toNat ((nth q (Int.toNat (dn ((q.length:Int)-1) k0))).2.1)) true) (Int.toNat ((nth q (Int.toNat (dn ((q.length:Int)-1) k0))).2.1)) (nth (List.set s0 (Int.toNat ((nth q (Int.toNat (dn ((q.length:Int)-1) k0))).2.1)) true) (Int.toNat (dn ((q.length:Int)-1) k0)))) (Int.toNat (dn ((q.length:Int)-1) k0)))) ⟨Vi hk0 (Xf h6 (Xf h10 (rfl))) hI0.1,(by first | omega | (simp only[List.length_set];omega))⟩
   have h10l:(((nth q (Int.toNat (dn ((q.length:Int)-1) k0))).1==(6:Int)))=false:=Rc h10;have h10ld:=Z2 h10l;have h10r:(((nth q (Int.toNat (dn ((q.length:Int)-1) k0))).1==(7:Int)))=false:=Re h10;have h10rd:=Z2 h10r;refine Qf <| qn Qa [0,2,3,4] [] (pe 1 (show .i (IntKind.i64.wrap ((dn ((q.length:Int)-1) k0)-1))= .i (dn ((q.length:Int)-1) (k0+1)) from Jh (show IntKind.i64.wrap ((dn ((q.length:Int)-1) k0)-1)=(dn ((q.length:Int)-1) (k0+1)) from IntWalk.i64_in ((dn ((q.length:Int)-1) k0)-1) (by omega))) p0) ?_
   exact xw (List.set s0 (Int.toNat ((nth q (Int.toNat (dn ((q.length:Int)-1) k0))).2.1)) true) ⟨Vi hk0 (Xf h6 (Qs h10 (rfl))) hI0.1,(by first | omega | (simp only[List.length_set];omega))⟩
  have h6d:=Z2 h6;refine Qf <| tn Qa [0,2,3,4,5,40] [5] (p0) <| ck (((nth q (Int.toNat (dn ((q.length:Int)-1) k0))).1==(6:Int))|| ((nth q (Int.toNat (dn ((q.length:Int)-1) k0))).1==(7:Int))) (fun h19=> ?_) (fun h19=> ?_)
  ·
   have h19k:=Qg5 (Sy h1n) (by omega) (by omega) h19;refine wT 3 0 (.own true 832) s0 (fun hw21 hl22=> ?_);have hx20:=ng s0 (Int.toNat (dn ((q.length:Int)-1) k0));have hx23:=ng s0 (Int.toNat ((nth q (Int.toNat (dn ((q.length:Int)-1) k0))).2.1));refine tU Qa Zh [(3, .one (.slc (.own true 832) 1 (setRow (eL s0) (Int.toNat ((nth q (Int.toNat (dn ((q.length:Int)-1) k0))).2.1)) 0 [.b (nth s0 (Int.toNat (dn ((q.length:Int)-1) k0)))])))] [3,6] [] [] (pG 5 (dn ((q.length:Int)-1) k0) hx20 (pG 7 ((nth q (Int.toNat (dn ((q.length:Int)-1) k0))).2.1) hx23 p0)) <| eqn [(3, .o 832 (List.set s0 (Int.toNat ((nth q (Int.toNat (dn ((q.length:Int)-1) k0))).2.1)) (nth s0 (Int.toNat (dn ((q.length:Int)-1) k0)))))] [3] [] [] (by rw[Kh (y:=(nth s0 (Int.toNat (dn ((q.length:Int)-1) k0)))) hx23 rfl]<;>kernel_rfl) ?_
   refine wT 3 0 (.own true 832) (List.set s0 (Int.toNat ((nth q (Int.toNat (dn ((q.length:Int)-1) k0))).2.1)) (nth s0 (Int.toNat (dn ((q.length:Int)-1) k0)))) (fun hw25 hl26=> ?_);have hx24:=ng (List.set s0 (Int.toNat ((nth q (Int.toNat (dn ((q.length:Int)-1) k0))).2.1)) (nth s0 (Int.toNat (dn ((q.length:Int)-1) k0)))) (Int.toNat (dn ((q.length:Int)-1) k0)) (by first | omega | (simp only[List.length_set];omega));have hx27:=ng (List.set s0 (Int.toNat ((nth q (Int.toNat (dn ((q.length:Int)-1) k0))).2.1)) (nth s0 (Int.toNat (dn ((q.length:Int)-1) k0)))) (Int.toNat ((nth q (Int.toNat (dn ((q.length:Int)-1) k0))).2.2.1)) (by first | omega | (simp only[List.length_set];omega));refine rU Qa Zh [(3, .one (.slc (.own true 832) 1 (setRow (eL (List.set s0 (Int.toNat ((nth q (Int.toNat (dn ((q.length:Int)-1) k0))).2.1)) (nth s0 (Int.toNat (dn ((q.length:Int)-1) k0))))) (Int.toNat ((nth q (Int.toNat (dn ((q.length:Int)-1) k0))).2.2.1)) 0 [.b (nth (List.set s0 (Int.toNat ((nth q (Int.toNat (dn ((q.length:Int)-1) k0))).2.1)) (nth s0 (Int.toNat (dn ((q.length:Int)-1) k0)))) (Int.toNat (dn ((q.length:Int)-1) k0)))])))] [3,5] [] [5] (pG 5 (dn ((q.length:Int)-1) k0) hx24 (pG 7 ((nth q (Int.toNat (dn ((q.length:Int)-1) k0))).2.2.1) hx27 p0)) ?_;refine eqn [(3, .o 832 (List.set (List.set s0 (Int.toNat ((nth q (Int.toNat (dn ((q.length:Int)-1) k0))).2.1)) (nth s0 (Int.toNat (dn ((q.length:Int)-1) k0)))) (Int.toNat ((nth q (Int.toNat (dn ((q.length:Int)-1) k0))).2.2.1)) (nth (List.set s0 (Int.toNat ((nth q (Int.toNat (dn ((q.length:Int)-1) k0))).2.1)) (nth s0 (Int.toNat (dn ((q.length:Int)-1) k0)))) (Int.toNat (dn ((q.length:Int)-1) k0)))))] [3] [] [] (by rw[Kh (y:=(nth (List.set s0 (Int.toNat ((nth q (Int.toNat (dn ((q.length:Int)-1) k0))).2.1)) (nth s0 (Int.toNat (dn ((q.length:Int)-1) k0)))) (Int.toNat (dn ((q.length:Int)-1) k0)))) hx27 rfl]<;>kernel_rfl) ?_;refine rn Qa [0,2,3,4] [] (pe 1 (show .i (IntKind.i64.wrap ((dn ((q.length:Int)-1) k0)-1))= .i (dn ((q.length:Int)-1) (k0+1)) from Jh (show IntKind.i64.wrap ((dn ((q.length:Int)-1) k0)-1)=(dn ((q.length:Int)-1) (k0+1)) from IntWalk.i64_in ((dn ((q.length:Int)-1) k0)-1) (by omega))) p0) ?_;exact xw (List.set (List.set s0 (Int.toNat ((nth q (Int.toNat (dn ((q.length:Int)-1) k0))).2.1)) (nth s0 (Int.toNat (dn ((q.length:Int)-1) k0)))) (Int.toNat ((nth q (Int.toNat (dn ((q.length:Int)-1) k0))).2.2.1)) (nth (List.set s0 (Int.toNat ((nth q (Int.toNat (dn ((q.length:Int)-1) k0))).2.1)) (nth s0 (Int.toNat (dn ((q.length:Int)-1) k0)))) (Int.toNat (dn ((q.length:Int)-1) k0)))) ⟨Vi hk0 (Qs h6 (Xf h19 (rfl))) hI0.1,(by first | omega | (simp only[List.length_set];omega))⟩
  have h19l:(((nth q (Int.toNat (dn ((q.length:Int)-1) k0))).1==(6:Int)))=false:=Rc h19;have h19ld:=Z2 h19l;have h19r:(((nth q (Int.toNat (dn ((q.length:Int)-1) k0))).1==(7:Int)))=false:=Re h19;have h19rd:=Z2 h19r;refine Qf <| qu Qa [(4, .i (dn ((q.length:Int)-1) (k0+1)))] [4,5,6] [] [5] (pe 1 (show .i (IntKind.i64.wrap ((dn ((q.length:Int)-1) k0)-1))= .i (dn ((q.length:Int)-1) (k0+1)) from Jh (show IntKind.i64.wrap ((dn ((q.length:Int)-1) k0)-1)=(dn ((q.length:Int)-1) (k0+1)) from IntWalk.i64_in ((dn ((q.length:Int)-1) k0)-1) (by omega))) p0) ?_
  exact xw s0 ⟨Vi hk0 (Qs h6 (Qs h19 (rfl))) hI0.1,(by first | omega | (simp only[List.length_set];omega))⟩
 ·
  have hA0_0:=hI0.2;have hdn0:=LH ((q.length:Int)-1) k0;exact Qc <| sn Qa [0,2,3,4,18] [] (pe 1 (Qp (decide_eq_false (p:=(dn ((q.length:Int)-1) k0)>=(0:Int)) (by omega))) p0) <| ckF <| Q2 <| xw s0 ⟨Cw hk0 (rfl) hI0.1,by first | omega | (simp only[List.length_set];omega)⟩
 have hD0_0:=hD0.2;exact sn Qa [2] [] (p0) <| Qg <| po0 [] (Qs h1 (Wj hD0.1 (rfl)))
theorem Np {α:Type} [Inhabited α] {l:List α} {i j:Nat} (x:α) (h:j≠i):nth (l.set j x) i=nth l i:=by
 simp[nth,List.getD,List.getElem?_set_ne h]
theorem Qba {q:List Yu} (hv:Q3 q=true) {k:Nat} (hk:k<q.length) (s:List Bool):Z0 q k s=Hk q k s:=by
 have hdn:=LH ((q.length:Int)-1) k;obtain ⟨hl,hr⟩:=Ip hv (k:=dn ((q.length:Int)-1) k) (by omega) (by omega);unfold Z0 Hk;generalize hi:dn ((q.length:Int)-1) k=i at hl hr⊢;generalize nth q (Int.toNat i)=n at hl hr⊢;by_cases h5:n.1=5
 . simp[h5]
 by_cases h6:n.1=6
 . have:=hl (.inr (.inl h6));simp[h6];rw[Np _ (by omega)]
 by_cases h7:n.1=7
 . have:=hl (.inr (.inr h7));simp[h7];rw[Np _ (by omega)]
 simp only[beq_eq_false_iff_ne.2 h5,beq_eq_false_iff_ne.2 h6,beq_eq_false_iff_ne.2 h7,Bool.or_false,cond_false]
theorem AP (q:List Yu):Ji q=Yc q:=by
 unfold Ji Yc;rw[←Qet];cases hv:Q3 q with
 | false=>rfl
 | true=>
   simp only[Bool.not_true,cond_false];rw[AM (f:=Hk q) (g:=Z0 q) (e:=Ea) (e':=Hj) (fun _ _=>rfl) _ _ _ fun i s _ hi=>(Qba hv (by omega) s).symm]
theorem FH (q:List Yu) (k:Nat) (s:List Bool):∃s',Z0 q k s= .next s'/\s'.length=s.length:=by
 unfold Z0;generalize ((nth q (Int.toNat (dn ((q.length:Int)-1) k))).1==(5:Int))=a;generalize ((nth q (Int.toNat (dn ((q.length:Int)-1) k))).1==(6:Int))=b;generalize ((nth q (Int.toNat (dn ((q.length:Int)-1) k))).1==(7:Int))=c;cases a<;>cases b<;>cases c<;>exact ⟨_,rfl,by simp⟩
theorem ZE (q:List Yu):∀(n k:Nat) (s:List Bool),∃s',Wu (Z0 q) Hj n k s= .brk s'/\s'.length=s.length
 | 0,k,s=>⟨s,rfl,rfl⟩
 | n+1,k,s=>by
   obtain ⟨s1,h1,h2⟩:=FH q k s;obtain ⟨s2,h3,h4⟩:=ZE q n (k+1) s1;refine ⟨s2, ?_,h4.trans h2⟩;simp only[Wu,h1];exact h3
theorem Sz (q:List Yu):List.length (Yc q)<=List.length q:=by
 unfold Yc;cases Q3 q with
 | false=>exact Nat.zero_le _
 | true=>
   obtain ⟨s,h1,h2⟩:=ZE q (List.length q) 0 (List.replicate (Int.toNat (q.length:Int)) false);simp only[Bool.not_true,cond_false,h1,Out.on];rw[h2];simp
theorem FI (q:List Yu):List.length (Ji q)<=List.length q:=by rw[AP];exact Sz q
end Go.Proofs.YtkekndahbiefaaaGreatDoor
namespace Go.Proofs.YtkekndahbiefaaaGreatDoor
open Go.RowKit Go.Sort
open GoE (enc)
structure OneC (α σ:Type) [GoE α] where
 to:α->σ
 of:σ->α
 cell:σ->Value
 pv:α->PV
 ok:α->Prop
 of_to:∀a,of (to a)=a
 to_of:∀s,to (of s)=s
 enc_eq:∀a,enc a= [pv a]
 flat:∀a,(pv a).flat
 vv:∀(X:Nat->Prop) (w:World) v a,VV X w v (pv a)↔v=cell (to a)/\ok a
def oneS:OneC ByteArray (List UInt8) where
 to b:=b.data.toList
 of s:=⟨s.toArray⟩
 cell:=encStr
 pv:= .str
 ok b:=b.size<=maxLen
 of_to b:=by cases b;simp
 to_of s:=by simp
 enc_eq _:=rfl
 flat _:=trivial
 vv X w v a:=by
  have e:encStr a.data.toList= .string a:=by cases a;simp[encStr]
  rw[e];exact ⟨fun h=>by cases h with | str h=>exact ⟨rfl,h⟩,fun ⟨h1,h2⟩=>by subst h1;exact .str h2⟩
section
variable {α σ:Type} [GoE α] (C:OneC α σ)
theorem Qbb {X:Nat->Prop} {w:World}:∀{l:List α} {cs:List Value},VR X w 1 cs (eL l)->cs=(l.map C.to).map C.cell/\∀a,a∈l->C.ok a
 | [],cs,h=>by
   generalize hr:eL ([]:List α)=r at h;cases h with
   | nil=>exact ⟨rfl,fun a ha=>by simp at ha⟩
   | cons=>cases hr
 | a :: l,cs,h=>by
   generalize hr:eL (a::l)=r at h;cases h with
   | nil=>cases hr
   | cons h1 h2 h3=>
     rw[CC,C.enc_eq] at hr;obtain ⟨rfl,rfl⟩: [C.pv a]=_/\eL l=_:=by simpa using hr
     obtain ⟨e,hok⟩:=Qbb h3;cases h1 with
     | cons h4 h5=>
       cases h5
       obtain ⟨rfl,ha⟩:=(C.vv X w _ a).1 h4;exact ⟨by rw[e];rfl,fun b hb=>(List.mem_cons.1 hb).elim (fun e=>e▸ha) (hok b)⟩
theorem Qbc {X:Nat->Prop} {w:World}:∀{l:List α},(∀a,a∈l->C.ok a)->VR X w 1 ((l.map C.to).map C.cell) (eL l)
 | [],_=> .nil 1
 | a::l,h=>by
   rw[CC,C.enc_eq];exact VR.cons (ce:= [C.cell (C.to a)]) (.cons ((C.vv X w _ a).2 ⟨rfl,h a List.mem_cons_self⟩) .nil) rfl (Qbc fun b hb=>h b (List.mem_cons_of_mem _ hb))
theorem Qiq (l:List α):(eL l).flatten=l.map C.pv:=by
 induction l with
 | nil=>rfl
 | cons a l ih=>rw[CC,C.enc_eq,List.flatten_cons,ih];rfl
theorem Qlf (l:List α):eL l=(l.map C.pv).map fun c=> [c]:=by
 simp[eL,C.enc_eq,Function.comp_def]
theorem OF (e:σ->Value) [Inhabited σ] (d:Array σ) (cur:Array Value) (h:d.size<=cur.size):(Go.Sort.putCells e 0 d cur).toList=d.toList.map e++cur.toList.drop d.size:=by
 apply List.ext_getElem?;intro j;unfold Go.Sort.putCells;rw[Array.getElem?_toList,Array.getElem?_mapIdx];by_cases hj:j<d.size
 . rw[List.getElem?_append_left (by simpa using hj),Array.getElem?_eq_getElem (by omega:j<cur.size),List.getElem?_map,Array.getElem?_toList,Array.getElem?_eq_getElem hj];simp only[Option.map_some];rw[if_pos ⟨Nat.zero_le _,by omega⟩,Nat.sub_zero,getElem!_pos d j hj]
 rw[List.getElem?_append_right (by simpa using Nat.le_of_not_lt hj),List.getElem?_drop];have e1:d.size+(j-(d.toList.map e).length)=j:=by simp;omega
 rw[e1,Array.getElem?_toList];cases cur[j]? with
 | none=>rfl
 | some x=>simp;omega
theorem S0 {e:σ->Value} [Inhabited σ] {w:World} {g:Nat} {cur:Array Value} {ty:TypeId} (hg:w.heap[g]? =some (.cells cur ty (0,0))) (q:Nat) (d:Array σ) (os:Array Obj):
 (grow (putRow e (Sort.ahead w q) g 0 d) os).heap[g]? =some (.cells (Go.Sort.putCells e 0 d cur) ty (0,0)):=by
 have hlt:g<w.heap.size:=Xn hg;unfold grow putRow mapBlock Sort.ahead;simp only[Array.getElem?_append,Array.size_modify];rw[if_pos hlt,Array.getElem?_modify,if_pos rfl,hg];rfl
theorem ZF {e:σ->Value} [Inhabited σ] (w:World) (g q:Nat) (d:Array σ) (os:Array Obj):(∀b,b<w.heap.size->b≠g->(grow (putRow e (Sort.ahead w q) g 0 d) os).heap[b]? =w.heap[b]?)/\∀m,m<=g->m<=w.heap.size->Below m w (grow (putRow e (Sort.ahead w q) g 0 d) os):=by
 have h:∀b,b<w.heap.size->b≠g->(grow (putRow e (Sort.ahead w q) g 0 d) os).heap[b]? =w.heap[b]? :=fun b hb hn=>by
  unfold grow putRow mapBlock Sort.ahead;simp only[Array.getElem?_append,Array.size_modify];rw[if_pos hb,Array.getElem?_modify,if_neg (fun e=>hn e.symm)]
 refine ⟨h,fun m hm hs=>⟨rfl,rfl,rfl, ?_,fun b hb=>h b (by omega) (by omega)⟩⟩;unfold grow putRow mapBlock Sort.ahead;simp
theorem OG {e:σ->Value} [Inhabited σ] {g:Nat} {w:World} {cur:Array Value} {ty:TypeId} {l:List σ} (hg:w.heap[g]? =some (.cells cur ty (0,0))) (ht:cur.toList.take l.length=l.map e):Holds e w g 0 l.toArray:=by
 intro j hj;have hjl:j<l.length:=by simpa using hj
 have hc:cur[j]? =some (e l[j]):=by
  have h5:(cur.toList.take l.length)[j]? =(l.map e)[j]? :=by rw[ht]
  rw[List.getElem?_take,if_pos hjl,List.getElem?_map,List.getElem?_eq_getElem hjl,Array.getElem?_toList] at h5;exact h5
 refine ⟨?_, ?_⟩
 . rw[Nat.zero_add];simp[World.cell?,hg,hc,getElem!_pos,hjl]
 simp[World.frozen?,hg]
variable {P:Program} [Inhabited σ]
theorem Qbd (F:Nat->Prop) (L:List Nat) (w:World) (oa:Option Addr):Qkt F L w 1 true [] (.returned (.tuple #[])) w:=
 ⟨_,rfl,fun m _ _=>Below.refl _ _,fun _ _ _=>rfl,rfl,fun v2 l2 h=>by simpa [JZ] using h⟩
theorem RQ {f:Nat} (hok:My P f) (srt:List σ->List σ) (hlen:∀l,(srt l).length=l.length) (hmem:∀l x,x∈srt l->x∈l)
 (h0:∀oa cap w,Calls P f #[.slice oa 0 cap] w fun e w'=>e= .returned (.tuple #[])/\w'=w)
 (h1:∀g cap (l:List σ) w,Holds C.cell w g 0 l.toArray->g<w.heap.size->l.length<4611686018427387904->Calls P f #[.slice (some ⟨g,0,none⟩) l.length cap] w fun e w'=>e= .returned (.tuple #[])/\∃n os,w'=grow (putRow C.cell (Sort.ahead w n) g 0 (srt l).toArray) os)
 (l:List α):ATake P f 1 (eL l) [] false true (eL ((srt (l.map C.to)).map C.of)):=by
 refine ⟨hok,fun w F G L v vals _ hFG _ hGs _ hLG hrow hargs=> ?_⟩;cases hargs
 rcases hrow with ⟨hl,oa,rfl⟩ | ⟨g,cap,cur,ty,rfl,rfl,hg,hs,hr,h5,h6⟩
 . obtain rfl:l= []:=by simpa [eL] using hl
   have hs0:srt []= []:=List.eq_nil_of_length_eq_zero (by rw[hlen];rfl);refine (h0 oa 0 w).mono ?_
   rintro e w' ⟨rfl,rfl⟩
   rw[List.map_nil,hs0];exact Qbd F L w' oa
 have hll:(eL l).length=l.length:=by simp[eL]
 rw[hll] at hr h5 h6⊢;rw[Nat.mul_one] at hr hs;obtain ⟨hcs,hok'⟩:=Qbb C hr;have hH:Holds C.cell w g 0 (l.map C.to).toArray:=OG hg (by rw[List.length_map];exact hcs);have hc:=h1 g cap (l.map C.to) w hH (Xn hg) (by rw[List.length_map];have:=h6.2;omega);rw[List.length_map] at hc;refine hc.mono ?_
 rintro e w' ⟨rfl,n,os,rfl⟩
 have hother:=ZF (e:=C.cell) w g n (srt (l.map C.to)).toArray os;have hgl:=Xn hg;refine ⟨_,rfl,fun m hm hL=>hother.2 m (hL g (by simp)) hm,fun b hb hn=>hother.1 b hb (by simpa using hn),rfl,fun v2 l2 h2=> ?_⟩;rcases h2 with ⟨rfl,oa,rfl⟩ | ⟨g2,cap2,cur2,ty2,hL2,rfl,hg2,hs2,hr2,h7,h8⟩
 . exact .inl ⟨by simp[JZ],oa,rfl⟩
 obtain rfl:g=g2:=by simpa using hL2
 rw[hg] at hg2;cases hg2
 rw[Qiq C,JZ];have hd:(srt (l.map C.to)).toArray.size<=cur.size:=by simp only[List.size_toArray,hlen,List.length_map];omega
 have hlen2:(List.map (fun c=> [c]) (List.take l2.length (List.map C.pv (List.map C.of (srt (l.map C.to)))))++List.drop (List.map C.pv (List.map C.of (srt (l.map C.to)))).length l2).length=l2.length:=by
  simp only[List.length_append,List.length_map,List.length_take,List.length_drop];omega
 refine .inr ⟨g,cap2,_,ty,rfl,by rw[hlen2],S0 hg n _ os, ?_, ?_,by rw[hlen2];exact h7,by rw[hlen2];exact h8⟩
 . simp[Go.Sort.putCells,hs2]
 rw[hlen2,Nat.mul_one,OF C.cell _ cur hd,List.take_append];rw[Nat.mul_one] at hr2;refine VR.append ?_ ?_
 . have hk:VR F (grow (putRow C.cell (Sort.ahead w n) g 0 (srt (l.map C.to)).toArray) os) 1 (cur.toList.take l2.length) l2:=by
    refine hr2.keep fun b hb=>⟨hb,hother.1 b (hGs b (hFG b hb)) fun e=>(hLG g (by simp)).2 (hFG g (e▸hb))⟩
   have:=VR.drop (srt (l.map C.to)).length hk;rw[Nat.mul_one,List.drop_take] at this;simpa using this
 have hm:∀a,a∈(srt (l.map C.to)).map C.of->C.ok a:=fun a ha=>by
  obtain ⟨x,hx,rfl⟩:=List.mem_map.1 ha;obtain ⟨b,hb,rfl⟩:=List.mem_map.1 (hmem _ _ hx);rw[C.of_to];exact hok' b hb
 have:=VR.take l2.length (Qbc C (X:=F) (w:=grow (putRow C.cell (Sort.ahead w n) g 0 (srt (l.map C.to)).toArray) os) hm);rw[Nat.mul_one,Qlf C] at this;simpa [List.map_take,Function.comp_def,C.to_of] using this
theorem RR {f:Nat} (hok:My P f) (cmp:List σ->List σ) (hlen:∀l,(cmp l).length<=l.length) (hmem:∀l x,x∈cmp l->x∈l)
 (h0:∀oa cap w,Calls P f #[.slice oa 0 cap] w fun e w'=>e= .returned (.slice oa 0 cap)/\w'=w)
 (h1:∀g cap (l:List σ) w,Holds C.cell w g 0 l.toArray->l.length<=9223372036854775807->l.length<=cap->Calls P f #[.slice (some ⟨g,0,none⟩) l.length cap] w fun e w'=>e= .returned (.slice (some ⟨g,0,none⟩) (cmp l).length cap)/\∃q pad,(cmp l++pad).length=l.length/\w'=putRow C.cell (Sort.ahead w q) g 0 (cmp l++pad).toArray)
 (l:List α):ATake P f 1 (eL l) [] false false (eL ((cmp (l.map C.to)).map C.of)):=by
 refine ⟨hok,fun w F G L v vals _ hFG _ hGs _ hLG hrow hargs=> ?_⟩;cases hargs
 rcases hrow with ⟨hl,oa,rfl⟩ | ⟨g,cap,cur,ty,rfl,rfl,hg,hs,hr,h5,h6⟩
 . obtain rfl:l= []:=by simpa [eL] using hl
   have hs0:cmp []= []:=List.eq_nil_of_length_eq_zero (by have:=hlen [];simpa using this);refine (h0 oa 0 w).mono ?_
   rintro e w' ⟨rfl,rfl⟩
   rw[List.map_nil,hs0];exact ⟨_,rfl,fun m _ _=>Below.refl _ _,fun _ _ _=>rfl, [],List.nodup_nil,fun b hb=>(by simp at hb), .inl ⟨rfl,oa,rfl⟩⟩
 have hll:(eL l).length=l.length:=by simp[eL]
 rw[hll] at hr h5 h6⊢;rw[Nat.mul_one] at hr hs;obtain ⟨hcs,hok'⟩:=Qbb C hr;have hH:Holds C.cell w g 0 (l.map C.to).toArray:=OG hg (by rw[List.length_map];exact hcs);have hc:=h1 g cap (l.map C.to) w hH (by rw[List.length_map];have:=h6.2;omega) (by rw[List.length_map];exact h5);rw[List.length_map] at hc;refine hc.mono ?_
 rintro e w' ⟨rfl,q,pad,hpad,rfl⟩
 have hw:putRow C.cell (Sort.ahead w q) g 0 (cmp (l.map C.to)++pad).toArray=grow (putRow C.cell (Sort.ahead w q) g 0 (cmp (l.map C.to)++pad).toArray) #[]:=(grow_empty _).symm;rw[hw];have hother:=ZF (e:=C.cell) w g q (cmp (l.map C.to)++pad).toArray #[];have hgl:=Xn hg;have hd:(cmp (l.map C.to)++pad).toArray.size<=cur.size:=by rw[List.size_toArray,hpad];omega
 have hle:=hlen (l.map C.to);rw[List.length_map] at hle;have hel:(eL ((cmp (l.map C.to)).map C.of)).length=(cmp (l.map C.to)).length:=by simp[eL]
 have hsz:g<(grow (putRow C.cell (Sort.ahead w q) g 0 (cmp (l.map C.to)++pad).toArray) #[]).heap.size:=Xn (S0 hg q _ #[]);refine ⟨_,rfl,fun m hm hL=>hother.2 m (hL g (by simp)) hm,fun b hb hn=>hother.1 b hb (by simpa using hn), [g],by simp,fun b hb=> ?_, .inr ⟨g,cap,_,ty,rfl,by rw[hel],S0 hg q _ #[], ?_, ?_,by rw[hel];omega,h6.1,by rw[hel];have:=h6.2;omega⟩⟩
 . obtain rfl:=List.mem_singleton.1 hb;exact ⟨hsz, .inr (by simp)⟩
 . simp[Go.Sort.putCells,hs]
 rw[hel,Nat.mul_one,OF C.cell _ cur hd]
 have hm:∀a,a∈(cmp (l.map C.to)).map C.of->C.ok a:=fun a ha=>by
  obtain ⟨x,hx,rfl⟩:=List.mem_map.1 ha;obtain ⟨b,hb,rfl⟩:=List.mem_map.1 (hmem _ _ hx);rw[C.of_to];exact hok' b hb
 have:=Qbc C (X:=F) (w:=grow (putRow C.cell (Sort.ahead w q) g 0 (cmp (l.map C.to)++pad).toArray) #[]) hm;have e1:((cmp (l.map C.to)).map C.of).map C.to=cmp (l.map C.to):=by simp[Function.comp_def,C.to_of]
 rw[e1] at this;rw[List.map_append,List.append_assoc,List.take_left' (by simp)];exact VR.keep (fun b hb=>⟨.inl hb,rfl⟩) this
end
def Pk (l:List ByteArray):List ByteArray:=((l.map oneS.to).mergeSort fun x y=>decide (x<=y)).map oneS.of
def VI (l:List ByteArray):List ByteArray:=(Lib.compact (l.map oneS.to)).map oneS.of
theorem Qeu {σ:Type} [Inhabited σ] [DecidableEq σ] (l:List σ) (x:σ) (h:x∈Lib.compact l):x∈l:=by
 unfold Lib.compact Lib.compactUpTo at h;simp only[List.mem_map,List.mem_filter,List.mem_range] at h;obtain ⟨j,⟨hj,_⟩,e⟩:=h;have e1:l.toArray[j]! =l[j]:=by rw[getElem!_pos l.toArray j (by simpa using hj)];simp
 rw[e1] at e;exact e▸List.getElem_mem hj
theorem CM {σ:Type} [Inhabited σ] [DecidableEq σ] (l:List σ):(Lib.compact l).length<=l.length:=by
 unfold Lib.compact Lib.compactUpTo;rw[List.length_map];exact Nat.le_trans (List.length_filter_le _ _) (by rw[List.length_range];exact Nat.le_refl _)
theorem FJ (l:List ByteArray):(Pk l).length=l.length:=by simp[Pk,List.length_mergeSort]
theorem Qbe (l:List ByteArray):(VI l).length<=l.length:=by
 have:=CM (l.map oneS.to);rw[List.length_map] at this;simpa [VI] using this
theorem Qev {α:Type} [GoE α] {l k:List α} (h1:∀a:α,(enc a).length=1) (h:k.length=l.length):Qhk (eL l) 0 4294967296 (eL k).flatten=eL k:=by
 have hk:∀k:List α,((eL k).flatten.map fun c=> [c])=eL k:=fun k=>by
  induction k with
  | nil=>rfl
  | cons a k ih=>
    rw[CC,List.flatten_cons,List.map_append,ih];have:=h1 a
    match enc a,this with
    | [p],_=>rfl
 have hf:(eL k).flatten.length=k.length:=by
  have:=congrArg List.length (hk k);rw[List.length_map] at this;rw[this];simp[eL]
 show JZ (eL l) (eL k).flatten=eL k;unfold JZ;have e1:(eL l).length=l.length:=by simp[eL]
 rw[e1,List.take_of_length_le (by omega),hk,List.drop_of_length_le (by omega),List.append_nil]
end Go.Proofs.YtkekndahbiefaaaGreatDoor
namespace Go.Proofs.YtkekndahbiefaaaGreatDoor
open Go.RowKit
section
variable {σ:Type} (lt:σ->σ->Prop)
theorem OH (irr:∀a,¬lt a a) (tr:∀a b c,lt a b->lt b c->lt a c):∀(a b:List σ),a.Pairwise lt->b.Pairwise lt->(∀x,x∈a↔x∈b)->a=b
 | [], [],_,_,_=>rfl
 | [],y::b,_,_,h=>by have:=(h y).2 (by simp);simp at this
 | x::a, [],_,_,h=>by have:=(h x).1 (by simp);simp at this
 | x ::a,y::b,ha,hb,h=>by
   rw[List.pairwise_cons] at ha hb
   have h1:x=y:=by
    have hx:=(h x).1 (by simp);have hy:=(h y).2 (by simp);simp only[List.mem_cons] at hx hy;rcases hx with e | hx
    . exact e
    rcases hy with e | hy
    . exact e.symm
    exact (irr x (tr _ _ _ (ha.1 y hy) (hb.1 x hx))).elim
   subst h1
   congr 1
   refine OH irr tr a b ha.2 hb.2 fun z=> ?_
   have hz:=h z;simp only[List.mem_cons] at hz;constructor
   . intro hm;have hlt:=ha.1 z hm;rcases hz.1 (.inr hm) with e | e
     . subst e;exact (irr z hlt).elim
     exact e
   intro hm;have hlt:=hb.1 z hm;rcases hz.2 (.inr hm) with e | e
   . subst e;exact (irr z hlt).elim
   exact e
theorem OI [Inhabited σ] [DecidableEq σ] (d:Array σ) (tr:∀a b c,¬lt b a->lt b c->lt a c) (tri:∀a b,¬lt b a->a≠b->lt a b) (hs:∀i j,i<=j->j<d.size->¬lt d[j]! d[i]!):
 ∀m,m<=d.size->(Lib.compactUpTo d m).Pairwise lt/\∀x,x∈Lib.compactUpTo d m↔∃j,j<m/\d[j]! =x
 | 0,_=>by simp[Lib.compactUpTo]
 | m + 1,hm=>by
   obtain ⟨h1,h2⟩:=OI d tr tri hs m (by omega);rw[Lib.compactUpTo_succ];by_cases hk:Lib.keeps d m=true
   . rw [if_pos hk];refine ⟨?_,fun x=> ?_⟩
     . rw[List.pairwise_append];refine ⟨h1,by simp,fun a ha b hb=> ?_⟩;obtain ⟨j,hj,rfl⟩:=(h2 a).1 ha;obtain rfl:b=d[m]! :=by simpa using hb
       have hle:=hs j (m-1) (by omega) (by omega);have hle2:=hs (m-1) m (by omega) (by omega)
       have hne:d[m]! ≠d[m-1]! :=by
        unfold Lib.keeps at hk;simp only[Bool.or_eq_true,beq_iff_eq,bne_iff_ne,decide_eq_true_eq] at hk;rcases hk with h | h
        . omega
        exact h
       exact tr _ _ _ hle (tri _ _ hle2 fun e=>hne e.symm)
     rw[List.mem_append,h2 x];constructor
     . rintro (⟨j,hj,e⟩ | h)
       . exact ⟨j,by omega,e⟩
       exact ⟨m,by omega,by simpa using (by simpa using h:x=d[m]!).symm⟩
     rintro ⟨j,hj,e⟩
     by_cases hjm:j=m
     . subst hjm;exact .inr (by simp[e])
     exact .inl ⟨j,by omega,e⟩
   rw[if_neg hk,List.append_nil];refine ⟨h1,fun x=> ?_⟩;rw[h2 x]
   have hm0:m≠0/\d[m]! =d[m-1]! :=by
    unfold Lib.keeps at hk;simp only[Bool.or_eq_true,beq_iff_eq,bne_iff_ne,decide_eq_true_eq,not_or,Decidable.not_not] at hk;exact hk
   constructor
   . rintro ⟨j,hj,e⟩;exact ⟨j,by omega,e⟩
   rintro ⟨j,hj,e⟩
   by_cases hjm:j=m
   . subst hjm;exact ⟨j-1,by omega,hm0.2▸e⟩
   exact ⟨j,by omega,e⟩
end
def bl (a b:ByteArray):Bool:=Op.bytesLess a.toList b.toList
theorem FK {a b c:List UInt8} (h:a<b) (h':b<c):a<c:=List.lt_trans h h'
theorem Qbf (a:List UInt8):¬a<a:=List.lt_irrefl a
theorem LS {a b:List UInt8} (h:¬b<a) (hn:a≠b):a<b:=Classical.byContradiction fun h'=>hn (List.le_antisymm h h')
theorem VJ (a b:ByteArray):bl a b=true↔a.data.toList<b.data.toList:=by
 unfold bl;rw[bytesLess_eq,ByteArray.toList_eq,ByteArray.toList_eq,decide_eq_true_iff]
theorem OJ (a:ByteArray):bl a a=false:=by
 cases h:bl a a with
 | false=>rfl
 | true=>exact (Qbf _ ((VJ a a).1 h)).elim
theorem JP {a b c:ByteArray} (h:bl a b=true) (h':bl b c=true):bl a c=true:=(VJ _ _).2 (FK ((VJ _ _).1 h) ((VJ _ _).1 h'))
theorem Qg6 {a b:ByteArray} (h:bl b a=false) (hn:a≠b):bl a b=true:=(VJ _ _).2 (LS (fun hb=>by rw[(VJ _ _).2 hb] at h;cases h) fun e=>hn (by cases a;cases b;simp at e;rw[e]))
def CN:List ByteArray->ByteArray->List ByteArray
 | [],s=> [s]
 | x::l,s=>if bl x s then x::CN l s else if x=s then x::l else s::x::l
def YB (l:List ByteArray):Prop:=l.Pairwise fun a b=>bl a b=true
theorem Mj (s x:ByteArray):∀l,x∈CN l s↔x=s\/x∈l
 | []=>by simp[CN]
 | y ::l=>by
   simp only[CN];split
   . rw[List.mem_cons,Mj s x l,List.mem_cons];constructor
     . rintro (h | h | h)<;>simp[h]
     rintro (h | h | h)<;>simp[h]
   split
   . rename_i e;subst e;simp
   simp
theorem T8 (s:ByteArray):∀l,YB l->YB (CN l s)
 | [],_=>by simp[YB,CN]
 | y ::l,h=>by
   have h:=List.pairwise_cons.1 h;simp only[CN];split
   . rename_i hl;refine List.pairwise_cons.2 ⟨fun z hz=> ?_,T8 s l h.2⟩;rcases (Mj s z l).1 hz with e | hz
     . exact e▸hl
     exact h.1 z hz
   split
   . exact List.pairwise_cons.2 h
   rename_i hl hn;have hs:bl s y=true:=Qg6 (by simpa using hl) fun e=>hn e.symm
   refine List.pairwise_cons.2 ⟨fun z hz=> ?_,List.pairwise_cons.2 h⟩;rcases List.mem_cons.1 hz with rfl | hz
   . exact hs
   exact JP hs (h.1 z hz)
theorem OK (s:ByteArray):∀l,(CN l s).length<=l.length+1
 | []=>by simp[CN]
 | y::l=>by
   have:=OK s l;simp only[CN];split
   . simp only[List.length_cons];omega
   split<;>simp
def Dh (l xs:List ByteArray):List ByteArray:=xs.foldl CN l
theorem Og (x:ByteArray):∀xs l,x∈Dh l xs↔x∈xs\/x∈l
 | [],l=>by simp[Dh]
 | y::xs,l=>by
   show x∈Dh (CN l y) xs↔_;rw[Og x xs,Mj,List.mem_cons];constructor
   . rintro (h | h | h)<;>simp[h]
   rintro ((h | h) | h)<;>simp[h]
theorem Oh:∀xs l,YB l->YB (Dh l xs)
 | [],_,h=>h
 | y::xs,l,h=>Oh xs (CN l y) (T8 y l h)
theorem CO (a b:List ByteArray) (ha:YB a) (hb:YB b) (h:∀x,x∈a↔x∈b):a=b:=
 OH (fun a b=>bl a b=true) (fun a h=>by rw[OJ] at h;cases h) (fun _ _ _=>JP) a b ha hb h
theorem VK (l:List ByteArray):YB (VI (Pk l))/\∀x,x∈VI (Pk l)↔x∈l:=by
 have hto:(Pk l).map oneS.to=(l.map oneS.to).mergeSort fun x y=>decide (x<=y):=by simp[Pk,Function.comp_def,oneS.to_of]
 unfold VI;rw[hto];generalize hm:l.map oneS.to=m;have hp:=List.mergeSort_perm m (fun x y=>decide (x<=y))
 have hs:=List.pairwise_mergeSort (le:=fun (x y:List UInt8)=>decide (x<=y)) (fun a b c h1 h2=>by
  simp only[decide_eq_true_eq] at h1 h2⊢;exact List.le_trans h1 h2) (fun a b=>by
  have:=List.le_total a b;simpa using this) m
 generalize (m.mergeSort fun x y=>decide (x<=y))=s at hp hs;have hget:∀j,j<s.length->s.toArray[j]! =s[j]! :=fun j hj=>by simp
 have hmono:∀i j,i<=j->j<s.toArray.size->¬s.toArray[j]! <s.toArray[i]! :=fun i j hij hj=>by
  have hj:j<s.length:=by simpa using hj
  rw[hget i (by omega),hget j hj,getElem!_pos s i (by omega),getElem!_pos s j hj];by_cases e:i=j
  . subst e;exact Qbf _
  have:=List.pairwise_iff_getElem.1 hs i j (by omega) hj (by omega);simpa using this
 obtain ⟨h1,h2⟩:=OI (fun a b:List UInt8=>a<b) s.toArray (fun a b c hab hbc=>by
  by_cases e:a=b
  . exact e▸hbc
  exact FK (LS hab e) hbc) (fun a b h hn=>LS h hn) hmono s.length (by simp)
 refine ⟨?_,fun x=> ?_⟩
 . refine List.pairwise_map.2 (h1.imp fun {a b} h=>(VJ _ _).2 ?_);simpa [oneS] using h
 have hmem:x∈l↔oneS.to x∈m:=by
  rw[←hm,List.mem_map];refine ⟨fun h=>⟨x,h,rfl⟩,fun ⟨y,h,e⟩=> ?_⟩;have:=congrArg oneS.of e;rw[oneS.of_to,oneS.of_to] at this;exact this▸h
 rw[hmem,←hp.mem_iff,List.mem_map];constructor
 . rintro ⟨y,hy,rfl⟩
   obtain ⟨j,hj,e⟩:=(h2 y).1 hy;rw[hget j hj,getElem!_pos s j hj] at e;rw[oneS.to_of];exact e▸List.getElem_mem hj
 intro h;obtain ⟨j,hj,e⟩:=List.getElem_of_mem h;exact ⟨oneS.to x,(h2 _).2 ⟨j,hj,by rw[hget j hj,getElem!_pos s j hj];exact e⟩,oneS.of_to x⟩
theorem OL (l:List ByteArray):VI (Pk l)=Dh [] l:=
 CO _ _ (VK l).1 (Oh l [] List.Pairwise.nil) fun x=>by rw[(VK l).2,Og];simp
end Go.Proofs.YtkekndahbiefaaaGreatDoor
namespace Go.Proofs.YtkekndahbiefaaaGreatDoor
abbrev W0:=List (Nat×Int)
def Mk (E:W0) (L:List Int):Int:=E.foldl (fun m e=>max m (nth L e.1+e.2)) 0
theorem Oi (L:List Int) (x:Int):∀(E:W0) (m:Int),E.foldl (fun m e=>max m (nth L e.1+e.2)) m<=x↔m<=x/\∀e,e∈E->nth L e.1+e.2<=x
 | [],m=>by simp
 | e ::E,m=>by
   rw[List.foldl_cons,Oi L x E];constructor
   . rintro ⟨h1,h2⟩
     refine ⟨by omega,fun e' he=> ?_⟩;rcases List.mem_cons.1 he with rfl | he
     . omega
     exact h2 e' he
   rintro ⟨h1,h2⟩
   have:=h2 e List.mem_cons_self;exact ⟨by omega,fun e' he=>h2 e' (List.mem_cons_of_mem _ he)⟩
theorem Cd {E:W0} {L:List Int} {x:Int}:Mk E L<=x↔0<=x/\∀e,e∈E->nth L e.1+e.2<=x:=Oi L x E 0
theorem S1 (E:W0) (L:List Int):0<=Mk E L:=(Cd.1 (Int.le_refl _)).1
theorem FL {E:W0} {L M:List Int} (h:∀j,nth L j<=nth M j):Mk E L<=Mk E M:=
 Cd.2 ⟨S1 E M,fun e he=>by
  have:=(Cd.1 (Int.le_refl (Mk E M))).2 e he;have:=h e.1;omega⟩
theorem S3 {L:List Int} {i:Nat} (x:Int) (j:Nat) (hi:i<L.length):nth (L.set i x) j=if j=i then x else nth L j:=by
 unfold nth;by_cases h:j=i
 . subst h;simp[List.getD,hi]
 rw[if_neg h];simp[List.getD,List.getElem?_set,Ne.symm h]
theorem S4 {L:List Int} {i:Nat} (h:L.length<=i):nth L i=0:=by
 unfold nth;simp[List.getD,List.getElem?_eq_none h]
def Ar (E:Nat->W0) (L:List Int) (i:Nat):List Int:=if nth L i<Mk (E i) L then L.set i (Mk (E i) L) else L
theorem Lw (E:Nat->W0) (L:List Int) (i:Nat):(Ar E L i).length=L.length:=by unfold Ar;split<;>simp
theorem CP (E:Nat->W0) (L:List Int) (i j:Nat):nth L j<=nth (Ar E L i) j:=by
 unfold Ar;split
 . rename_i h;by_cases hi:i<L.length
   . rw[S3 _ _ hi];split
     . rename_i e;subst e;omega
     omega
   rw[List.set_eq_of_length_le (by omega)];omega
 omega
def rounds (E:Nat->W0) (is:List Nat) (L:List Int):List Int:=is.foldl (Ar E) L
theorem Rf (E:Nat->W0):∀(is:List Nat) (L:List Int),(rounds E is L).length=L.length
 | [],_=>rfl
 | i::is,L=>(Rf E is (Ar E L i)).trans (Lw E L i)
theorem T9 (E:Nat->W0) (j:Nat):∀(is:List Nat) (L:List Int),nth L j<=nth (rounds E is L) j
 | [],_=>Int.le_refl _
 | i::is,L=>Int.le_trans (CP E L i j) (T9 E j is (Ar E L i))
theorem Qbg {L M:List Int} (hl:L.length=M.length) (h:∀j,nth L j=nth M j):L=M:=by
 apply List.ext_getElem hl;intro i h1 h2;have:=h i;simpa [nth,List.getD,h1,h2] using this
theorem AQ (E:Nat->W0):∀(is:List Nat) (L:List Int),rounds E is L=L->∀i,i∈is->Ar E L i=L
 | [],_,_,i,hi=>by simp at hi
 | a ::is,L,h,i,hi=>by
   have h1:Ar E L a=L:=Qbg (Lw E L a) fun j=>by
    have h2:=CP E L a j;have h3:=T9 E j is (Ar E L a);have h4:nth (rounds E is (Ar E L a)) j=nth L j:=congrArg (nth · j) h;omega
   rcases List.mem_cons.1 hi with rfl | hi
   . exact h1
   refine AQ E is L ?_ i hi;have:rounds E is (Ar E L a)=L:=h
   rwa [h1] at this
theorem AS {E:Nat->W0} {L:List Int} {i:Nat} (hi:i<L.length):Ar E L i=L↔Mk (E i) L<=nth L i:=by
 unfold Ar;constructor
 . intro h;split at h
   . rename_i hlt;have h2:nth (L.set i (Mk (E i) L)) i=nth L i:=by rw[h]
     rw[S3 _ _ hi,if_pos rfl] at h2;omega
   omega
 intro h;rw[if_neg (by omega)]
def Sat (E:Nat->W0) (n:Nat) (g:List Int):Prop:=∀i,i<n->Mk (E i) g<=nth g i
theorem LT {E:Nat->W0} {n:Nat} {L g:List Int} {i:Nat} (hi:i<n) (hn:L.length=n) (hs:Sat E n g) (h:∀j,nth L j<=nth g j):∀j,nth (Ar E L i) j<=nth g j:=by
 intro j;unfold Ar;split
 . rw[S3 _ _ (by omega)];split
   . rename_i e;subst e;exact Int.le_trans (FL h) (hs j hi)
   exact h j
 exact h j
theorem Pm {E:Nat->W0} {n:Nat} {g:List Int} (hs:Sat E n g):∀(is:List Nat) (L:List Int),(∀i,i∈is->i<n)->L.length=n->(∀j,nth L j<=nth g j)->∀j,nth (rounds E is L) j<=nth g j
 | [],_,_,_,h=>h
 | i::is,L,hi,hn,h=>Pm hs is (Ar E L i) (fun k hk=>hi k (List.mem_cons_of_mem _ hk)) ((Lw E L i).trans hn) (LT (hi i List.mem_cons_self) hn hs h)
theorem Qg7:∀(m:Nat) (l:List Int),(∀v:Nat,v<m->((v:Nat):Int)∈l)->m<=l.length
 | 0,_,_=>Nat.zero_le _
 | m+1,l,h=>by
   have hm:=h m (by omega);have:=Qg7 m (l.erase (m:Int)) fun v hv=>(List.mem_erase_of_ne (by omega)).2 (h v (by omega))
   rw[List.length_erase_of_mem hm] at this;have:0<l.length:=List.length_pos_of_mem hm;omega
theorem LU {L:List Int} {i:Nat} (h:i<L.length):nth L i∈L:=by
 have:nth L i=L[i]:=by simp[nth,List.getD,h]
 rw[this];exact List.getElem_mem h
theorem VL {L:List Int} {x:Int} (h:x∈L):∃i,i<L.length/\nth L i=x:=by
 obtain ⟨i,hi,e⟩:=List.getElem_of_mem h;exact ⟨i,hi,by rw[←e];simp[nth,List.getD,hi]⟩
theorem Qir {L:List Int} {f:Int->Int} {i:Nat} (h:i<L.length):nth (L.map f) i=f (nth L i):=by simp[nth,List.getD,h]
theorem RS {E:Nat->W0} {n:Nat} {f:List Int} (hw:∀i e,e∈E i->e.2<=1/\e.1<n) (hlen:f.length=n) (hs:Sat E n f) (hleast:∀g:List Int,g.length=n->Sat E n g->(∀j,0<=nth g j)->∀j,nth f j<=nth g j) (h0:∀j,0<=nth f j):
 ∀i,i<n->nth f i<(n:Int):=by
 intro i hi
 have hall:∀v:Nat,(v:Int)<=nth f i->((v:Nat):Int)∈f:=fun v hv=>by
  refine Classical.byContradiction fun hno=> ?_
  have hne:∀j,j<n->nth f j≠v:=fun j hj e=>hno (e▸LU (by omega))
  have hvi:(v:Int)<nth f i:=by have:=hne i hi;omega
  let g:=f.map fun x=>if (v:Int)<x then x-1 else x
  have hg:∀j,j<n->nth g j=if (v:Int)<nth f j then nth f j-1 else nth f j:=fun j hj=>Qir (by omega)
  have hg0:∀j,¬j<n->nth g j=0:=fun j hj=>S4 (by simp only[g,List.length_map];omega)
  have hf0:∀j,¬j<n->nth f j=0:=fun j hj=>S4 (by omega)
  have hpos:∀j,0<=nth g j:=fun j=>by
   by_cases hj:j<n
   . rw[hg j hj];have:=h0 j;split<;>omega
   rw[hg0 j hj];omega
  have:=hleast g (by simp only[g,List.length_map];exact hlen) (fun k hk=>Cd.2 ⟨hpos k,fun e he=> ?_⟩) hpos i
  . rw[hg i hi,if_pos hvi] at this;omega
  have h1:=(Cd.1 (hs k hk)).2 e he;obtain ⟨h2,hj⟩:=hw k e he;have h3:=hne k hk;rw[hg k hk];have h4:=hne e.1 hj;rw[hg e.1 hj];split<;>split<;>omega
 have hp:=Qg7 ((nth f i).toNat+1) f fun v hv=>hall v (by have:=h0 i;omega)
 have:=h0 i;omega
theorem Qbh:∀(L:List Int) (i:Nat) (x:Int),i<L.length->(L.set i x).sum=L.sum+(x-nth L i)
 | [],i,x,h=>by simp at h
 | a::L,0,x,_=>by simp[nth];omega
 | a::L,i+1,x,h=>by
   have:=Qbh L i x (by simpa using h);have e:nth (a::L) (i+1)=nth L i:=rfl;rw[e,List.set_cons_succ,List.sum_cons,List.sum_cons,this];omega
theorem FM:∀(L:List Int) (N:Int),(∀x,x∈L->x<=N)->L.sum<=(L.length:Int)*N
 | [],N,_=>by simp
 | a::L,N,h=>by
   have h1:=FM L N fun x hx=>h x (List.mem_cons_of_mem _ hx)
   have h2:=h a List.mem_cons_self;rw[List.sum_cons,List.length_cons,Int.natCast_add,Int.add_mul];omega
theorem FN {E:Nat->W0} {L:List Int} {i:Nat} (hi:i<L.length):L.sum<=(Ar E L i).sum/\(Ar E L i≠L->L.sum+1<=(Ar E L i).sum):=by
 unfold Ar;split
 . rename_i h;have:=Qbh L i (Mk (E i) L) hi;omega
 exact ⟨Int.le_refl _,fun h=>(h rfl).elim⟩
theorem Rg {E:Nat->W0}:∀(is:List Nat) (L:List Int),(∀i,i∈is->i<L.length)->L.sum<=(rounds E is L).sum/\(rounds E is L≠L->L.sum+1<=(rounds E is L).sum)
 | [],L,_=>⟨Int.le_refl _,fun h=>(h rfl).elim⟩
 | i::is,L,h=>by
   obtain ⟨h1,h2⟩:=FN (E:=E) (h i List.mem_cons_self);obtain ⟨h3,h4⟩:=Rg (E:=E) is (Ar E L i) fun k hk=>by rw[Lw];exact h k (List.mem_cons_of_mem _ hk)
   show L.sum<=(rounds E is (Ar E L i)).sum/\(rounds E is (Ar E L i)≠L->L.sum+1<=(rounds E is (Ar E L i)).sum);refine ⟨by omega,fun hn=> ?_⟩;by_cases e:Ar E L i=L
   . have:=h4 (by rw[e] at hn⊢;exact hn);omega
   have:=h2 e;omega
def Gk (E:Nat->W0) (N:Int):List Nat->Bool×List Int->Option (Bool×List Int)
 | [],s=>some s
 | i::is,s=>if N<Mk (E i) s.2 then none else Gk E N is (if nth s.2 i<Mk (E i) s.2 then (true,s.2.set i (Mk (E i) s.2)) else s)
theorem Ih {E:Nat->W0} {N:Int}:∀(is:List Nat) (c:Bool) (L:List Int) (s:Bool×List Int),(∀i,i∈is->i<L.length)->Gk E N is (c,L)=some s->s.2=rounds E is L/\(s.1=true->c=true\/rounds E is L≠L)/\(s.1=false->c=false/\rounds E is L=L)/\((∀j,nth L j<=N)->∀j,nth s.2 j<=N)
 | [],c,L,s,_,h=>by
   obtain rfl:=Option.some.inj h;exact ⟨rfl,fun h=> .inl h,fun h=>⟨h,rfl⟩,fun h=>h⟩
 | i :: is,c,L,s,hi,h=>by
   have hil:=hi i List.mem_cons_self;have hlen:∀k,k∈is->k<(Ar E L i).length:=fun k hk=>by rw[Lw];exact hi k (List.mem_cons_of_mem _ hk)
   simp only[Gk] at h;split at h
   . cases h
   rename_i hN;split at h
   . rename_i hlt;have er:Ar E L i=L.set i (Mk (E i) L):=by unfold Ar;rw[if_pos hlt]
     rw[←er] at h;obtain ⟨h1,h2,h3,h4⟩:=Ih is true (Ar E L i) s hlen h
     have hne:rounds E (i::is) L≠L:=fun e=>by
      have:=(Rg (E:=E) is (Ar E L i) hlen).1
      have h5:=(FN (E:=E) hil).2 fun e'=>by
       have:=(AS hil).1 e';omega
      have h6:(rounds E is (Ar E L i)).sum=L.sum:=congrArg List.sum e;omega
     refine ⟨h1,fun _=> .inr hne,fun h=>(by have:=(h3 h).1;cases this),fun hb j=>h4 (fun j=> ?_) j⟩;rw[er,S3 _ _ hil];split
     . omega
     exact hb j
   rename_i hlt;have er:Ar E L i=L:=by unfold Ar;rw[if_neg hlt]
   have e2:rounds E (i::is) L=rounds E is L:=by show rounds E is (Ar E L i)=_;rw[er]
   rw[e2];exact Ih is c L s (fun k hk=>hi k (List.mem_cons_of_mem _ hk)) h
theorem ZG {E:Nat->W0} {N:Int}:∀(is:List Nat) (c:Bool) (L:List Int),Gk E N is (c,L)=none->∃pre i,(∀k,k∈pre->k∈is)/\i∈is/\N<Mk (E i) (rounds E pre L)
 | [],c,L,h=>by cases h
 | i ::is,c,L,h=>by
   simp only[Gk] at h;split at h
   . rename_i hN;exact ⟨[],i,fun k hk=>by simp at hk,List.mem_cons_self,hN⟩
   have key:∀c' L',L'=Ar E L i->Gk E N is (c',L')=none->∃pre k,(∀x,x∈pre->x∈i::is)/\k∈i::is/\N<Mk (E k) (rounds E pre L):=fun c' L' e h=>by
    obtain ⟨pre,k,h1,h2,h3⟩:=ZG is c' L' h;subst e;refine ⟨i::pre,k,fun x hx=> ?_,List.mem_cons_of_mem _ h2,h3⟩;rcases List.mem_cons.1 hx with rfl | hx
    . exact List.mem_cons_self
    exact List.mem_cons_of_mem _ (h1 x hx)
   split at h
   . rename_i hlt;exact key true _ (by unfold Ar;rw[if_pos hlt]) h
   rename_i hlt;exact key c _ (by unfold Ar;rw[if_neg hlt]) h
def QA (E:Nat->W0) (N:Int) (n:Nat):Nat->Bool×List Int->Option (Option (List Int))
 | 0,_=>none
 | k +1,s=>match s.1 with
   | true=>(match Gk E N (List.range n) (false,s.2) with
     | none=>some none
     | some s'=>QA E N n k s')
   | false=>some (some s.2)
theorem Dx {n i:Nat} (h:i∈List.range n):i<n:=List.mem_range.1 h
theorem AT {E:Nat->W0} {n:Nat}:∀(k:Nat) (c:Bool) (L:List Int),L.length=n->(∀j,nth L j<=(n:Int))->(n:Int)*(n:Int)-L.sum+2<=(k:Int)->(QA E n n k (c,L)).isSome=true
 | 0,c,L,hl,hb,hk=>by
   have:=FM L n fun x hx=>by obtain ⟨i,_,e⟩:=VL hx;exact e▸hb i
   rw[hl] at this;omega
 | k+1,false,L,hl,hb,hk=>rfl
 | k + 1, true,L,hl,hb,hk=>by
   simp only[QA];cases hc:Gk E n (List.range n) (false,L) with
   | none=>rfl
   | some s=>
     obtain ⟨h1,h2,h3,h4⟩:=Ih (List.range n) false L s (fun i hi=>by rw[hl];exact Dx hi) hc;obtain ⟨c',L'⟩:=s;simp only at h1 h2 h3 h4⊢;have hl':L'.length=n:=by rw[h1,Rf,hl]
     have hs:=Rg (E:=E) (List.range n) L fun i hi=>by rw[hl];exact Dx hi
     rw[←h1] at hs;cases c' with
     | false=>
       cases k with
       | zero=>
         have:=FM L n fun x hx=>by obtain ⟨i,_,e⟩:=VL hx;exact e▸hb i
         rw[hl] at this;omega
       | succ k=>rfl
     | true=>
       have hne:L'≠L:=by
        rcases h2 rfl with h | h
        . cases h
        rw[h1];exact h
       have:=hs.2 hne;exact AT k true L' hl' (h4 hb) (by omega)
def after (E:Nat->W0) (n:Nat):Nat->List Int
 | 0=>List.replicate n 0
 | k+1=>rounds E (List.range n) (after E n k)
theorem W6 (E:Nat->W0) (n:Nat):∀k,(after E n k).length=n
 | 0=>by simp[after]
 | k+1=>by rw[after,Rf,W6 E n k]
def OM (E:Nat->W0) (n:Nat) (L:List Int):Prop:=rounds E (List.range n) L=L
theorem JQ (n j:Nat):nth (List.replicate n (0:Int)) j=0:=by
 by_cases h:j<n
 . simp[nth,List.getD,h]
 exact S4 (by simp;omega)
theorem Ce (E:Nat->W0) (n j:Nat):∀k,0<=nth (after E n k) j
 | 0=>by rw[after,JQ];omega
 | k+1=>Int.le_trans (Ce E n j k) (T9 E j _ _)
theorem QB {E:Nat->W0} {n:Nat} {L:List Int} (hl:L.length=n) (h:OM E n L):Sat E n L:=fun i hi=>(AS (by omega)).1 (AQ E _ L h i (List.mem_range.2 hi))
theorem Lx {E:Nat->W0} {n:Nat} {g:List Int} (hs:Sat E n g) (h0:∀j,0<=nth g j):∀k j,nth (after E n k) j<=nth g j
 | 0,j=>by rw[after,JQ];exact h0 j
 | k+1,j=>Pm hs _ _ (fun i hi=>Dx hi) (W6 E n k) (Lx hs h0 k) j
theorem Rh {E:Nat->W0} {n k:Nat} (h:OM E n (after E n k)):∀d,after E n (k+d)=after E n k
 | 0=>rfl
 | d+1=>by
   show rounds E (List.range n) (after E n (k+d))=_;rw[Rh h d];exact h
theorem Qbi {E:Nat->W0} {n k m:Nat} (hk:OM E n (after E n k)) (hm:OM E n (after E n m)):after E n k=after E n m:=by
 rcases Nat.le_total k m with h | h
 . have:=Rh hk (m-k);rw[show k+(m-k)=m by omega] at this;exact this.symm
 have:=Rh hm (k-m)
 rwa [show m+(k-m)=k by omega] at this
theorem S5 {E:Nat->W0} {n:Nat}:∀k,(∀j,j<k->¬OM E n (after E n j))->(k:Int)<=(after E n k).sum
 | 0,_=>by
   have:∀n:Nat,(List.replicate n (0:Int)).sum=0:=fun n=>by simp
   rw[after,this];omega
 | k+1,h=>by
   have h1:=S5 k fun j hj=>h j (by omega)
   have h2:=(Rg (E:=E) (List.range n) (after E n k) fun i hi=>by rw[W6];exact Dx hi).2 (h k (by omega));show ((k+1:Nat):Int)<=(rounds E (List.range n) (after E n k)).sum;omega
variable {E:Nat->W0} {n:Nat} (hw:∀i e,e∈E i->e.2<=1/\e.1<n)
include hw in
theorem LV {k:Nat} (h:OM E n (after E n k)):∀i,i<n->nth (after E n k) i<(n:Int):=
 RS hw (W6 E n k) (QB (W6 E n k) h) (fun _ _ hs h0=>Lx hs h0 k) fun j=>Ce E n j k
include hw in
theorem FO {k:Nat} (h:OM E n (after E n k)):OM E n (after E n (n*n+2)):=by
 have hex:∃j,j<=n*n+1/\OM E n (after E n j):=Classical.byContradiction fun hno=>by
  have h1:=S5 (E:=E) (n:=n) (n*n+2) fun j hj hr=>hno ⟨j,by omega,hr⟩
  have h2:=FM (after E n (n*n+2)) n fun x hx=>by
   obtain ⟨i,hi,e⟩:=VL hx;rw[W6] at hi;have h3:=Lx (QB (W6 E n k) h) (fun j=>Ce E n j k) (n*n+2) i;have:=LV hw h i hi;omega
  rw[W6] at h2;have h3:((n*n+2:Nat):Int)=(n:Int)*(n:Int)+2:=by rw[Int.natCast_add,Int.natCast_mul];rfl
  omega
 obtain ⟨j,hj,hr⟩:=hex;have:=Rh hr (n*n+2-j);rw[show j+(n*n+2-j)=n*n+2 by omega] at this;rw[this];exact hr
include hw in
theorem QC:∀(k m:Nat) (c:Bool) (r:Option (List Int)),(c=false->OM E n (after E n m))->QA E n n k (c,after E n m)=some r->
 (∀L,r=some L->OM E n (after E n (n*n+2))/\L=after E n (n*n+2))/\(r=none->¬OM E n (after E n (n*n+2)))
 | 0,m,c,r,_,h=>by cases h
 | k+1,m,false,r,hc,h=>by
   obtain rfl:=Option.some.inj h;have hr:=hc rfl;have hs:=FO hw hr;refine ⟨fun L e=>⟨hs, ?_⟩,fun e=>by cases e⟩;obtain rfl:=Option.some.inj e;exact Qbi hr hs
 | k +1,m,true,r,_,h=>by
   simp only[QA] at h;have hlt:∀i,i∈List.range n->i<(after E n m).length:=fun i hi=>by rw[W6];exact Dx hi
   cases hcr:Gk E n (List.range n) (false,after E n m) with
   | none=>
     rw[hcr] at h;obtain rfl:=Option.some.inj h;refine ⟨fun L e=>(by cases e),fun _ hr=> ?_⟩;obtain ⟨pre,i,h1,h2,h3⟩:=ZG _ _ _ hcr;have hsat:=QB (W6 E n _) hr;have h4:=Pm hsat pre (after E n m) (fun i hi=>Dx (h1 i hi)) (W6 E n m) (Lx hsat (fun j=>Ce E n j _) m);have h5:=FL (E:=E i) h4;have h6:=hsat i (Dx h2);have h7:=LV hw hr i (Dx h2);omega
   | some s=>
     rw[hcr] at h;obtain ⟨h1,_,h3,_⟩:=Ih _ _ _ s hlt hcr;obtain ⟨c',L'⟩:=s;simp only at h1 h3 h;have e:L'=after E n (m+1):=h1;subst e;refine QC k (m+1) c' r (fun hc=> ?_) h;have h5:=(h3 hc).2;show rounds E (List.range n) (after E n (m+1))=after E n (m+1);have e2:after E n (m+1)=after E n m:=h5;rw[e2];exact h5
omit hw
def XI (i:Nat) (L:List Int) (e:Nat×Int):List Int:=if nth L i<nth L e.1+e.2 then L.set i (nth L e.1+e.2) else L
def Eb (i:Nat) (E:W0) (L:List Int):List Int:=E.foldl (XI i) L
theorem Oj (i:Nat) (L:List Int) (e:Nat×Int):(XI i L e).length=L.length:=by unfold XI;split<;>simp
theorem Ly (i:Nat):∀(E:W0) (L:List Int),(Eb i E L).length=L.length
 | [],_=>rfl
 | e::E,L=>(Ly i E (XI i L e)).trans (Oj i L e)
theorem JR {i:Nat} {L:List Int} (e:Nat×Int) (hi:i<L.length) (j:Nat):nth (XI i L e) j=if j=i then max (nth L i) (nth L e.1+e.2) else nth L j:=by
 unfold XI;split
 . rw[S3 _ _ hi];split<;>omega
 split
 . rename_i h;subst h;omega
 rfl
theorem FP {i:Nat}:∀(E:W0) {L M:List Int},i<M.length->(∀j,j≠i->nth M j=nth L j)->nth L i<=nth M i->(∀e,e∈E->e.1=i->e.2<=0)->∀j,nth (Eb i E M) j=if j=i then E.foldl (fun m e=>max m (nth L e.1+e.2)) (nth M i) else nth L j
 | [],L,M,hi,hj,h0,hs,j=>by
   show nth M j=_;split
   . rename_i e;subst e;rfl
   rename_i e;exact hj j e
 | e ::E,L,M,hi,hj,h0,hs,j=>by
   show nth (Eb i E (XI i M e)) j=_;have hb:=JR e hi
   have hmax:nth (XI i M e) i=max (nth M i) (nth L e.1+e.2):=by
    rw[hb,if_pos rfl];by_cases he:e.1=i
    . have:=hs e List.mem_cons_self he;rw[he];omega
    rw[hj e.1 he]
   rw[FP E (L:=L) (M:=XI i M e) (by rw[Oj];exact hi) (fun k hk=>by rw[hb,if_neg hk];exact hj k hk) (by rw[hmax];omega) (fun e' he'=>hs e' (List.mem_cons_of_mem _ he')) j,hmax,List.foldl_cons]
theorem Qew (L:List Int):∀(E:W0) (m:Int),0<=m->E.foldl (fun m e=>max m (nth L e.1+e.2)) m=max m (Mk E L):=fun E m hm=>by
 have h1:=Oi L (E.foldl (fun m e=>max m (nth L e.1+e.2)) m) E m;have h2:=h1.1 (Int.le_refl _);have h3:Mk E L<=E.foldl (fun m e=>max m (nth L e.1+e.2)) m:=Cd.2 ⟨by omega,h2.2⟩;have h4:=(Oi L (max m (Mk E L)) E m).2 ⟨by omega,fun e he=>by have:=(Cd.1 (Int.le_refl (Mk E L))).2 e he;omega⟩;omega
theorem Qex {E:Nat->W0} {L:List Int} {i:Nat} (hi:i<L.length) (h0:0<=nth L i) (hs:∀e,e∈E i->e.1=i->e.2<=0):Eb i (E i) L=Ar E L i:=
 Qbg ((Ly i (E i) L).trans (Lw E L i).symm) fun j=>by
  rw[FP (E i) hi (fun _ _=>rfl) (Int.le_refl _) hs,Qew _ _ _ h0];unfold Ar;by_cases hlt:nth L i<Mk (E i) L
  . rw[if_pos hlt,S3 _ _ hi];split<;>omega
  rw[if_neg hlt];split
  . rename_i e;subst e;omega
  rfl
theorem JS {i:Nat}:∀(E:W0) {L:List Int},i<L.length->∀j,nth L j<=nth (Eb i E L) j
 | [],_,_,_=>Int.le_refl _
 | e::E,L,hi,j=>by
   have h1:=JS E (L:=XI i L e) (by rw[Oj];exact hi) j;have h2:=JR e hi j;show _<=nth (Eb i E (XI i L e)) j;split at h2
   . rename_i h;subst h;omega
   omega
theorem AU {i:Nat}:∀(E:W0) {L:List Int},i<L.length->(∃e,e∈E/\e.1=i/\1<=e.2)->nth L i+1<=nth (Eb i E L) i
 | [],_,_,⟨e,he,_⟩=>by simp at he
 | e::E,L,hi,⟨e',he,h1,h2⟩=>by
   have h3:=JR e hi i;rw[if_pos rfl] at h3;have hb:=JS E (L:=XI i L e) (by rw[Oj];exact hi) i;show _<=nth (Eb i E (XI i L e)) i;rcases List.mem_cons.1 he with rfl | he
   . rw[h1] at h3;omega
   have:=AU E (L:=XI i L e) (by rw[Oj];exact hi) ⟨e',he,h1,h2⟩;omega
def Di (E:Nat->W0) (is:List Nat) (L:List Int):List Int:=is.foldl (fun L i=>Eb i (E i) L) L
theorem S6 (E:Nat->W0):∀(is:List Nat) (L:List Int),(Di E is L).length=L.length
 | [],_=>rfl
 | i::is,L=>(S6 E is (Eb i (E i) L)).trans (Ly i _ L)
theorem YC {E:Nat->W0} (hs:∀i e,e∈E i->e.1=i->e.2<=0):∀(is:List Nat) (L:List Int),(∀i,i∈is->i<L.length)->(∀j,0<=nth L j)->Di E is L=rounds E is L
 | [],_,_,_=>rfl
 | i::is,L,hi,h0=>by
   have hil:=hi i List.mem_cons_self;show Di E is (Eb i (E i) L)=rounds E is (Ar E L i);rw[Qex hil (h0 i) (hs i)];exact YC hs is _ (fun k hk=>by rw[Lw];exact hi k (List.mem_cons_of_mem _ hk)) fun j=>Int.le_trans (h0 j) (CP E L i j)
theorem AW {E:Nat->W0}:∀(is:List Nat) (L:List Int),(∀i,i∈is->i<L.length)->∀j,nth L j<=nth (Di E is L) j
 | [],_,_,_=>Int.le_refl _
 | i::is,L,hi,j=>Int.le_trans (JS (E i) (hi i List.mem_cons_self) j) (AW is (Eb i (E i) L) (fun k hk=>by rw[Ly];exact hi k (List.mem_cons_of_mem _ hk)) j)
theorem ZH {E:Nat->W0} {i:Nat} (he:∃e,e∈E i/\e.1=i/\1<=e.2):∀(is:List Nat) (L:List Int),(∀i,i∈is->i<L.length)->i∈is->nth L i+1<=nth (Di E is L) i
 | [],_,_,h=>by simp at h
 | k::is,L,hi,h=>by
   have hk:=hi k List.mem_cons_self;have hl:∀x,x∈is->x<(Eb k (E k) L).length:=fun x hx=>by rw[Ly];exact hi x (List.mem_cons_of_mem _ hx)
   show _<=nth (Di E is (Eb k (E k) L)) i;have h1:=JS (E k) hk i;have h2:=AW (E:=E) is (Eb k (E k) L) hl i;rcases List.mem_cons.1 h with rfl | h
   . have:=AU (E i) hk he;omega
   have:=ZH he is (Eb k (E k) L) hl h;omega
def Cf (E:Nat->W0) (n:Nat):Nat->List Int
 | 0=>List.replicate n 0
 | k+1=>Di E (List.range n) (Cf E n k)
theorem Ri (E:Nat->W0) (n:Nat):∀k,(Cf E n k).length=n
 | 0=>by simp[Cf]
 | k+1=>by rw[Cf,S6,Ri E n k]
theorem FQ {E:Nat->W0} {n:Nat} (hs:∀i e,e∈E i->e.1=i->e.2<=0):∀k,Cf E n k=after E n k
 | 0=>rfl
 | k+1=>by
   rw[Cf,after,FQ hs k];exact YC hs _ _ (fun i hi=>by rw[W6];exact Dx hi) fun j=>Ce E n j k
theorem Qbj {E:Nat->W0} {n:Nat} (hw:∀i e,e∈E i->e.2<=1/\e.1<n/\i<n) {k:Nat} {r:Option (List Int)} (h:QA E n n k (true,List.replicate n 0)=some r):
 (Di E (List.range n) (Cf E n (n*n+2))=Cf E n (n*n+2)->r=some (Cf E n (n*n+2)))/\(Di E (List.range n) (Cf E n (n*n+2))≠Cf E n (n*n+2)->r=none):=by
 have hw':∀i e,e∈E i->e.2<=1/\e.1<n:=fun i e he=>⟨(hw i e he).1,(hw i e he).2.1⟩
 obtain ⟨h1,h2⟩:=QC hw' k 0 true r (fun e=>by cases e) h;by_cases hself:∃i,∃e,e∈E i/\e.1=i/\1<=e.2
 . obtain ⟨i,e,he,hei,h3⟩:=hself;have hi:i<n:=(hw i e he).2.2
   have hne:Di E (List.range n) (Cf E n (n*n+2))≠Cf E n (n*n+2):=fun heq=>by
    have:=ZH (E:=E) ⟨e,he,hei,h3⟩ (List.range n) (Cf E n (n*n+2)) (fun k hk=>by rw[Ri];exact Dx hk) (List.mem_range.2 hi);rw[heq] at this;omega
   refine ⟨fun h=>(hne h).elim,fun _=> ?_⟩;cases r with
   | none=>rfl
   | some L=>
     obtain ⟨hr,_⟩:=h1 L rfl;have h4:=QB (W6 E n _) hr i hi;have h5:=(Cd.1 h4).2 e he;rw[hei] at h5;omega
 have hs:∀i e,e∈E i->e.1=i->e.2<=0:=fun i e he hei=>Classical.byContradiction fun hn=>hself ⟨i,e,he,hei,by omega⟩
 rw[FQ hs,YC hs _ _ (fun i hi=>by rw[W6];exact Dx hi) fun j=>Ce E n j _];refine ⟨fun hr=> ?_,fun hr=> ?_⟩
 . cases r with
   | none=>exact (h2 rfl hr).elim
   | some L=>rw[(h1 L rfl).2]
 cases r with
 | none=>rfl
 | some L=>exact (hr (h1 L rfl).1).elim
end Go.Proofs.YtkekndahbiefaaaGreatDoor
namespace Go.Proofs.YtkekndahbiefaaaGreatDoor
open Go.Shelf
def Sh.laysM171_ren:Go.Shelf.Ren:=⟨fun | 171=>263 | 243=>301 | 246=>316 | 283=>321 | 284=>322 | 285=>323 | 286=>324 | 129=>300 | 317=>325 | 318=>326 | 319=>327 | 320=>328 | 337=>329 | 338=>330 | n=>n,fun | 3=>3 | 9=>9 | 2=>2 | 4=>4 | 171=>308 | 0=>0 | 53=>291 | 37=>62 | 5=>5 | 173=>310 | 212=>314 | 51=>289 | 20=>20 | 213=>315 | 46=>247 | 232=>316 | 233=>317 | n=>n,fun | 17=>0 | 18=>1 | 19=>2 | n=>n⟩
theorem Sh.laysM171:Go.Proofs.LaysM.n171 Tryz.prog Sh.laysM171_ren:={
 mixed:=by kernel_rfl
 f129:=Tryz.func300.trans (congrArg some (by kernel_rfl))
 f171:=Tryz.func263.trans (congrArg some (by kernel_rfl))
 f243:=Tryz.func301.trans (congrArg some (by kernel_rfl))
 f246:=Tryz.func316.trans (congrArg some (by kernel_rfl))
 f283:=Tryz.func321.trans (congrArg some (by kernel_rfl))
 f284:=Tryz.func322.trans (congrArg some (by kernel_rfl))
 f285:=Tryz.func323.trans (congrArg some (by kernel_rfl))
 f286:=Tryz.func324.trans (congrArg some (by kernel_rfl))
 f317:=Tryz.func325.trans (congrArg some (by kernel_rfl))
 f318:=Tryz.func326.trans (congrArg some (by kernel_rfl))
 f319:=Tryz.func327.trans (congrArg some (by kernel_rfl))
 f320:=Tryz.func328.trans (congrArg some (by kernel_rfl))
 f337:=Tryz.func329.trans (congrArg some (by kernel_rfl))
 f338:=Tryz.func330.trans (congrArg some (by kernel_rfl))
 t0:=Tryz.underlying0
 a0:=Tryz.isAgg0
 z0:=Tryz.sizeOf0
 v0:=Tryz.zeroValue0
 t2:=Tryz.underlying2
 a2:=Tryz.isAgg2
 z2:=Tryz.sizeOf2
 v2:=Tryz.zeroValue2
 t3:=Tryz.underlying3
 a3:=Tryz.isAgg3
 z3:=Tryz.sizeOf3
 v3:=Tryz.zeroValue3
 t4:=Tryz.underlying4
 a4:=Tryz.isAgg4
 z4:=Tryz.sizeOf4
 v4:=Tryz.zeroValue4
 t5:=Tryz.underlying5
 a5:=Tryz.isAgg5
 z5:=Tryz.sizeOf5
 v5:=Tryz.zeroValue5
 t9:=Tryz.underlying9
 a9:=Tryz.isAgg9
 z9:=Tryz.sizeOf9
 v9:=Tryz.zeroValue9
 t20:=Tryz.underlying20
 a20:=Tryz.isAgg20
 z20:=Tryz.sizeOf20
 v20:=Tryz.zeroValue20
 t37:=Tryz.underlying62
 a37:=Tryz.isAgg62
 z37:=Tryz.sizeOf62
 v37:=Tryz.zeroValue62
 t46:=Tryz.underlying247
 a46:=Tryz.isAgg247
 z46:=Tryz.sizeOf247
 v46:=Tryz.zeroValue247
 t51:=Tryz.underlying289
 a51:=Tryz.isAgg289
 z51:=Tryz.sizeOf289
 v51:=Tryz.zeroValue289
 t53:=Tryz.underlying291
 a53:=Tryz.isAgg291
 z53:=Tryz.sizeOf291
 v53:=Tryz.zeroValue291
 t171:=Tryz.underlying308
 a171:=Tryz.isAgg308
 z171:=Tryz.sizeOf308
 v171:=Tryz.zeroValue308
 t173:=Tryz.underlying310
 a173:=Tryz.isAgg310
 z173:=Tryz.sizeOf310
 v173:=Tryz.zeroValue310
 t212:=Tryz.underlying314
 a212:=Tryz.isAgg314
 z212:=Tryz.sizeOf314
 v212:=Tryz.zeroValue314
 t213:=Tryz.underlying315
 a213:=Tryz.isAgg315
 z213:=Tryz.sizeOf315
 t232:=Tryz.underlying316
 a232:=Tryz.isAgg316
 z232:=Tryz.sizeOf316
 v232:=Tryz.zeroValue316
 t233:=Tryz.underlying317
 a233:=Tryz.isAgg317
 z233:=Tryz.sizeOf317
 v233:=Tryz.zeroValue317
 g17:=by kernel_rfl
 g18:=by kernel_rfl
 g19:=by kernel_rfl
 i0:=by kernel_rfl
 i2:=by kernel_rfl
 i3:=by kernel_rfl
 i4:=by kernel_rfl
 i5:=by kernel_rfl
 i9:=by kernel_rfl
 i20:=by kernel_rfl
 i37:=by kernel_rfl
 i46:=by kernel_rfl
 i51:=by kernel_rfl
 i53:=by kernel_rfl
 i171:=by kernel_rfl
 i173:=by kernel_rfl
 i212:=by kernel_rfl
 i232:=by kernel_rfl
 i233:=by kernel_rfl
 m17:=by kernel_rfl
 m18:=by kernel_rfl
 m19:=by kernel_rfl}
open Go.RowKit Go.Sort Go.Lib in
theorem Sh.strconv_Itoa (n : Int) (h0 : -9223372036854775808 ≤ n) (h1 : n ≤ 9223372036854775807) (w : World) (htab : Lib.TabIs Tryz.prog w "internal/strconv.uint64pow10" .u64 Lib.pow10Tab) :
 Calls Tryz.prog 263 #[.int .i64 n] w fun e w'=>e= .returned (.string ⟨(Lib.itoa n).toArray⟩)/\∃k os,w'=grow (w.drewN k) os:=Any.strconv_Itoa Sh.laysM171 n h0 h1 w htab
def Sh.lays190_ren:Go.Shelf.Ren:=⟨fun | 190=>213 | 125=>260 | 258=>259 | 128=>299 | 129=>300 | 302=>290 | 303=>291 | 304=>292 | 305=>293 | 306=>294 | 307=>295 | 308=>296 | 309=>297 | 310=>298 | 333=>310 | 329=>311 | 330=>312 | 334=>313 | 335=>314 | 336=>315 | 344=>320 | n=>n,fun | 31=>77 | 9=>9 | 3=>3 | 46=>247 | 0=>0 | 51=>289 | 53=>291 | 4=>4 | 183=>281 | 182=>280 | 131=>286 | 5=>5 | 218=>297 | 222=>301 | 228=>305 | 229=>306 | n=>n,fun | n=>n⟩
theorem Sh.lays190:Go.Proofs.Lays.n190 Tryz.prog Sh.lays190_ren:={
 mixed:=by kernel_rfl
 f125:=Tryz.func260.trans (congrArg some (by kernel_rfl))
 f128:=Tryz.func299.trans (congrArg some (by kernel_rfl))
 f129:=Tryz.func300.trans (congrArg some (by kernel_rfl))
 f190:=Tryz.func213.trans (congrArg some (by kernel_rfl))
 f258:=Tryz.func259.trans (congrArg some (by kernel_rfl))
 f302:=Tryz.func290.trans (congrArg some (by kernel_rfl))
 f303:=Tryz.func291.trans (congrArg some (by kernel_rfl))
 f304:=Tryz.func292.trans (congrArg some (by kernel_rfl))
 f305:=Tryz.func293.trans (congrArg some (by kernel_rfl))
 f306:=Tryz.func294.trans (congrArg some (by kernel_rfl))
 f307:=Tryz.func295.trans (congrArg some (by kernel_rfl))
 f308:=Tryz.func296.trans (congrArg some (by kernel_rfl))
 f309:=Tryz.func297.trans (congrArg some (by kernel_rfl))
 f310:=Tryz.func298.trans (congrArg some (by kernel_rfl))
 f329:=Tryz.func311.trans (congrArg some (by kernel_rfl))
 f330:=Tryz.func312.trans (congrArg some (by kernel_rfl))
 f333:=Tryz.func310.trans (congrArg some (by kernel_rfl))
 f334:=Tryz.func313.trans (congrArg some (by kernel_rfl))
 f335:=Tryz.func314.trans (congrArg some (by kernel_rfl))
 f336:=Tryz.func315.trans (congrArg some (by kernel_rfl))
 f344:=Tryz.func320.trans (congrArg some (by kernel_rfl))
 t0:=Tryz.underlying0
 a0:=Tryz.isAgg0
 z0:=Tryz.sizeOf0
 v0:=Tryz.zeroValue0
 t3:=Tryz.underlying3
 a3:=Tryz.isAgg3
 z3:=Tryz.sizeOf3
 v3:=Tryz.zeroValue3
 t4:=Tryz.underlying4
 a4:=Tryz.isAgg4
 z4:=Tryz.sizeOf4
 v4:=Tryz.zeroValue4
 t5:=Tryz.underlying5
 a5:=Tryz.isAgg5
 z5:=Tryz.sizeOf5
 v5:=Tryz.zeroValue5
 t9:=Tryz.underlying9
 a9:=Tryz.isAgg9
 z9:=Tryz.sizeOf9
 v9:=Tryz.zeroValue9
 t31:=Tryz.underlying77
 a31:=Tryz.isAgg77
 z31:=Tryz.sizeOf77
 v31:=Tryz.zeroValue77
 t46:=Tryz.underlying247
 a46:=Tryz.isAgg247
 z46:=Tryz.sizeOf247
 v46:=Tryz.zeroValue247
 t51:=Tryz.underlying289
 a51:=Tryz.isAgg289
 z51:=Tryz.sizeOf289
 v51:=Tryz.zeroValue289
 t53:=Tryz.underlying291
 a53:=Tryz.isAgg291
 z53:=Tryz.sizeOf291
 v53:=Tryz.zeroValue291
 t131:=Tryz.underlying286
 a131:=Tryz.isAgg286
 z131:=Tryz.sizeOf286
 v131:=Tryz.zeroValue286
 t182:=Tryz.underlying280
 a182:=Tryz.isAgg280
 z182:=Tryz.sizeOf280
 v182:=Tryz.zeroValue280
 t183:=Tryz.underlying281
 a183:=Tryz.isAgg281
 z183:=Tryz.sizeOf281
 v183:=Tryz.zeroValue281
 t218:=Tryz.underlying297
 a218:=Tryz.isAgg297
 z218:=Tryz.sizeOf297
 v218:=Tryz.zeroValue297
 t222:=Tryz.underlying301
 a222:=Tryz.isAgg301
 z222:=Tryz.sizeOf301
 v222:=Tryz.zeroValue301
 t228:=Tryz.underlying305
 a228:=Tryz.isAgg305
 z228:=Tryz.sizeOf305
 v228:=Tryz.zeroValue305
 t229:=Tryz.underlying306
 a229:=Tryz.isAgg306
 z229:=Tryz.sizeOf306
 v229:=Tryz.zeroValue306}
open Go.Sort Go.RowKit in
theorem Sh.slices_Sort_string (blk off cap:Nat) (ss:List (List UInt8)) (w:World) (hH:Holds encStr w blk off ss.toArray) (hblk:blk<w.heap.size) (hsz:ss.length<4611686018427387904):
 Calls Tryz.prog 213 #[.slice (some ⟨blk,off,none⟩) ss.length cap] w fun e w'=>
  e= .returned (.tuple #[])/\∃n os,w'=grow (putRow encStr (Sort.ahead w n) blk off (ss.mergeSort fun x y=>decide (x<=y)).toArray) os:=Any.slices_Sort_string Sh.lays190 blk off cap ss w hH hblk hsz
def Sh.lays194_ren:Go.Shelf.Ren:=⟨fun | 194=>214 | n=>n,fun | 31=>77 | 9=>9 | 3=>3 | 4=>4 | 0=>0 | n=>n,fun | n=>n⟩
theorem Sh.lays194:Go.Proofs.Lays.n194 Tryz.prog Sh.lays194_ren:={
 mixed:=by kernel_rfl
 f194:=Tryz.func214.trans (congrArg some (by kernel_rfl))
 t0:=Tryz.underlying0
 a0:=Tryz.isAgg0
 z0:=Tryz.sizeOf0
 v0:=Tryz.zeroValue0
 t3:=Tryz.underlying3
 a3:=Tryz.isAgg3
 z3:=Tryz.sizeOf3
 v3:=Tryz.zeroValue3
 t4:=Tryz.underlying4
 a4:=Tryz.isAgg4
 z4:=Tryz.sizeOf4
 v4:=Tryz.zeroValue4
 t9:=Tryz.underlying9
 a9:=Tryz.isAgg9
 z9:=Tryz.sizeOf9
 v9:=Tryz.zeroValue9
 t31:=Tryz.underlying77
 a31:=Tryz.isAgg77
 z31:=Tryz.sizeOf77
 v31:=Tryz.zeroValue77}
open Go.RowKit Go.Lib Go.Sort in
theorem Sh.slices_Compact_string (blk off cap:Nat) (zs:List (List UInt8)) (w:World) (hH:Holds encStr w blk off zs.toArray) (hsz:zs.length<=9223372036854775807) (hcap:zs.length<=cap):
 Calls Tryz.prog 214 #[.slice (some ⟨blk,off,none⟩) zs.length cap] w fun e w'=>e= .returned (.slice (some ⟨blk,off,none⟩) (Lib.compact zs).length cap)/\∃q,w'=putRow encStr (Sort.ahead w q) blk off (Lib.compact zs++List.replicate (zs.length-(Lib.compact zs).length) []).toArray:=Any.slices_Compact_string Sh.lays194 blk off cap zs w hH hsz hcap
open Go.RowKit Go.Lib Go.Sort in
theorem Sh.slices_Compact_string_empty (a:Option Addr) (cap:Nat) (w:World):
 Calls Tryz.prog 214 #[.slice a 0 cap] w fun e w'=>e= .returned (.slice a 0 cap)/\w'=w:=Any.slices_Compact_string_empty Sh.lays194 a cap w
open Go.RowKit Go.Sort in
theorem Sh.slices_Sort_string_none (p:Option Addr) (cap:Nat) (w:World):
 Calls Tryz.prog 213 #[.slice p 0 cap] w fun e w'=>e= .returned (.tuple #[])/\w'=w:=Any.slices_Sort_string_none Sh.lays190 p cap w
end Go.Proofs.YtkekndahbiefaaaGreatDoor
namespace Go.Proofs.YtkekndahbiefaaaGreatDoor
open Go.RowKit
theorem Qis (l:List ByteArray):ATake Tryz.prog 213 1 (eL l) [] false true (eL (Pk l)):=by
 have h:=RQ oneS (P:=Tryz.prog) (f:=213) (by unfold My;kernel_rfl) (fun l=>l.mergeSort fun x y=>decide (x<=y)) (fun l=>List.length_mergeSort _) (fun l x h=>(List.mergeSort_perm l _).mem_iff.1 h) (fun oa cap w=>Sh.slices_Sort_string_none oa cap w) (fun g cap l w h h2 h3=>Sh.slices_Sort_string g 0 cap l w h h2 h3) l;exact h
theorem Qit (l:List ByteArray):ATake Tryz.prog 214 1 (eL l) [] false false (eL (VI l)):=by
 have h:=RR oneS (P:=Tryz.prog) (f:=214) (by unfold My;kernel_rfl) Lib.compact CM Qeu (fun oa cap w=>Sh.slices_Compact_string_empty oa cap w) (fun g cap l w h h2 h3=>(Sh.slices_Compact_string g 0 cap l w h h2 h3).mono (by rintro e w' ⟨h4,q,h5⟩;exact ⟨h4,q,_,by have:=CM l;simp;omega,h5⟩)) l;exact h
open GoE (enc wide)
def I7 (s_:ByteArray) (k0:Nat) (a0:ByteArray) (_:Unit):Rd ((List ByteArray)) (Unit) (Int):=(bif (Op.bytesLess a0.toList s_.toList) then (.next ()) else (.brk ((k0:Nat):Int)))
def I8 (k0:Nat) (_:Unit):Int:=((k0:Nat):Int)
def J6 (list:(List ByteArray)) (s_:ByteArray):(List ByteArray):=(Out.on (Xp (I7 s_) I8 list 0 ()) (fun y0=>(bif (decide (y0<(list.length:Int))&&((nth list (Int.toNat y0)).toList==s_.toList)) then list else List.take (Int.toNat y0) list++ [s_]++(List.drop (Int.toNat y0) list))))
theorem Ev (list:(List ByteArray)) (s_:ByteArray) (hp:list.length<1073741824):ACalls Tryz.prog 178 [.h list, .s s_] (.h (J6 list s_)):=by
 refine en Qa Tryz.func178 fun w0 F0 hG=> ?_
 refine sn Qa [0,1,4] [] (p0) <| tn Qa [0,1,4,5] [] (p0) <| Qc <| mz [(4, .e 0),(5, .i 0)] [] [] [] <| wT 0 0 .sh list (fun hw1 hl2=> ?_)
 refine Qlu (I7 s_) I8 list () (fun k0 _=> [(5, .i ((k0:Nat):Int))]) [5] (fun y0=> [(5, .i y0)]) [5] (fun y0=>0<=y0/\y0<=(list.length:Int)) wf0 (fun k0 s0 hk0 hI0=> ?_) (fun k0 s0 hk0 hI0=> ?_) (fun y0 hD0=> ?_)
 ·
  obtain ⟨a0,hx0⟩:=Xh (l:=list) (i:=k0) hk0;refine Qc <| sn Qa [0,1,4,5,18] [] (pl 2 list (pe 3 (Qp (decide_eq_true (p:=((k0:Nat):Int)<(list.length:Int)) (by omega))) (pn 7 hx0 p0))) <| ck (Op.bytesLess a0.toList s_.toList) (fun h3=> ?_) (fun h3=> ?_)
  ·
   refine Qf <| Qu <| qn Qa [0,1,4,5] [] (pe 1 (Jh (Ql k0 (by omega))) p0) ?_
   exact xw _ (Qr hx0 (Xf h3 (rfl)) hI0)
  exact Q2 <| xw ((k0:Nat):Int) ⟨Qel hx0 (Qs h3 (rfl)) hI0,by first | omega | (simp only[List.length_set];omega)⟩
 ·
  exact Qc <| sn Qa [0,1,4,5,18] [] (pl 2 list (pe 3 (Qp (decide_eq_false (p:=((k0:Nat):Int)<(list.length:Int)) (by omega))) p0)) <| ckF <| Q2 <| xw ((k0:Nat):Int) ⟨Xi hk0 (rfl) hI0,by first | omega | (simp only[List.length_set];omega)⟩
 have hD0_0:=hD0.2;refine Qc <| Qc <| jn [(32, .b (decide (y0<(list.length:Int))&&((nth list (Int.toNat y0)).toList==s_.toList)))] [] [] [] (decide (y0<(list.length:Int))) (fun h4=> ?_) (fun h4=> ?_) ?_
 ·
  have h4d:=of_decide_eq_true h4;have hx5:=ng list (Int.toNat y0);refine rn Qa [0,1,4,5,32] [] (pl 2 list (pt 3 h4 (pg 7 y0 hx5 p0))) ?_;exact ⟨rfl,Qd (by rw[h4]<;>kernel_rfl)⟩
 ·
  refine rn Qa [0,1,4,5,32] [] (pl 2 list (pf 3 h4 p0)) ?_;exact ⟨rfl,Qd (by rw[h4]<;>kernel_rfl)⟩
 refine ck (decide (y0<(list.length:Int))&&((nth list (Int.toNat y0)).toList==s_.toList)) (fun h6=> ?_) (fun h6=> ?_)
 ·
  exact sn Qa [0,1,4,5] [] (p0) <| Qg <| ph0 [] (Wj hD0.1 (Xf h6 (rfl)))
 refine Qf ?_;have hl7:List.length (List.take (Int.toNat y0) list)<=1073741824:=I5 (FA (Int.toNat y0) (hw1));refine su Qa [(6, .one (.slc (.own true 2624) 1 (([]++(eL (List.take (Int.toNat y0) list)))++ [[.s s_]])))] [1,32] [] [] (pe 3 (LI .sh 1 (Int.toNat y0) y0 list rfl) (px (Tw (lo:=0) (hi:=y0) (n:=(List.length (eL list))) (Qg1 (by omega) (by omega) (by omega))) (po 4 (.flat) (px (Ff (n:=(([]:List (List PV)).length+((eL (List.take (Int.toNat y0) list)):List (List PV)).length)) (Ig (rfl) (Zj (List.take (Int.toNat y0) list)) (by first | omega | (simp only[List.length_cons,List.length_nil];omega) | (simp;omega) | simp))) (px (Dg (Ca (List.take (Int.toNat y0) list))) (px (Ff (n:=((([]++(eL (List.take (Int.toNat y0) list))):List (List PV)).length+([[.s s_]]:List (List PV)).length)) (by simp[Zj];omega)) p0)))))) <| eqn [(6, .o 2624 (List.take (Int.toNat y0) list++ [s_]))] [6] [] [] (by rw[show (([]++(eL (List.take (Int.toNat y0) list)))++ [[.s s_]])=(eL (List.take (Int.toNat y0) list++ [s_])) from Ks (rfl) (rfl)];first | done | kernel_rfl) ?_
 refine wT 6 0 (.own true 2624) (List.take (Int.toNat y0) list++ [s_]) (fun hw8 hl9=> ?_);have hl10:List.length (List.drop (Int.toNat y0) list)<=1073741824:=I5 (FB (Int.toNat y0) (hw1));refine su Qa [(4, .one (.slc (.own true 2944) 1 ((eL (List.take (Int.toNat y0) list++ [s_]))++(eL (List.drop (Int.toNat y0) list)))))] [0,4,5,6] [] [] (pe 3 (Qa0 .sh 1 (Int.toNat y0) y0 list rfl) (px (Tw (lo:=y0) (hi:=(((eL list):List (List PV)).length:Int)) (n:=(List.length (eL list))) (Qa1 (by omega) (by omega))) (po 4 (.flat) (pa (List.take (Int.toNat y0) list++ [s_]) (List.drop (Int.toNat y0) list) (px (Dg (Ca (List.drop (Int.toNat y0) list))) p0))))) <| eqn [(4, .o 2944 (List.take (Int.toNat y0) list++ [s_]++(List.drop (Int.toNat y0) list)))] [4] [] [] (by rw[show ((eL (List.take (Int.toNat y0) list++ [s_]))++(eL (List.drop (Int.toNat y0) list)))=(eL (List.take (Int.toNat y0) list++ [s_]++(List.drop (Int.toNat y0) list))) from Ks (rfl) (rfl)];first | done | kernel_rfl) ?_
 exact Qg <| ph0 [2944] (Wj hD0.1 (Qs h6 (rfl)))
theorem toList_inj {a b:ByteArray}:(a.toList==b.toList)=decide (a=b):=by
 rw[ByteArray.toList_eq,ByteArray.toList_eq,Bool.eq_iff_iff];simp only[beq_iff_eq,decide_eq_true_eq];exact ⟨fun h=>ByteArray.ext (Array.ext' h),fun h=>h▸rfl⟩
def Gc (l:List ByteArray) (s:ByteArray):Nat:=(l.takeWhile fun x=>bl x s).length
theorem VM (a:ByteArray) (l:List ByteArray) (s:ByteArray):Gc (a::l) s=if bl a s=true then Gc l s+1 else 0:=by
 unfold Gc;rw[List.takeWhile_cons];cases bl a s<;>simp
theorem AX (s:ByteArray):∀(l:List ByteArray) (k:Nat),Xp (I7 s) I8 l k ()= .brk (((k+Gc l s:Nat)):Int)
 | [],k=>by simp[Xp,I8,Gc]
 | a ::l,k=>by
   rw[VM];simp only[Xp,I7];cases h:Op.bytesLess a.toList s.toList with
   | true=>
     have h':bl a s=true:=h;simp only[cond_true,h',if_true];rw[AX s l (k+1),show k+1+Gc l s=k+(Gc l s+1) by omega]
   | false=>
     have h':bl a s=false:=h;simp[h']
theorem Qbk (s:ByteArray):∀l:List ByteArray,CN l s=bif (decide (((Gc l s:Nat):Int)<(l.length:Int))&&((nth l (Gc l s)).toList==s.toList)) then l else List.take (Gc l s) l++ [s]++List.drop (Gc l s) l
 | []=>by simp[CN,Gc]
 | a ::l=>by
   rw[VM,CN];cases h:bl a s with
   | true=>
     simp only[if_true];rw[Qbk s l];have e:nth (a::l) (Gc l s+1)=nth l (Gc l s):=rfl
     rw[e,show decide ((((Gc l s+1:Nat)):Int)<((a::l).length:Int))=decide (((Gc l s:Nat):Int)<(l.length:Int)) by
      rw[Bool.eq_iff_iff];simp only[decide_eq_true_eq,List.length_cons];omega]
     generalize (decide (((Gc l s:Nat):Int)<(l.length:Int))&&((nth l (Gc l s)).toList==s.toList))=c;cases c<;>simp
   | false=>
     have e:nth (a::l) 0=a:=rfl;simp only[Bool.false_eq_true,if_false];rw[e,toList_inj];by_cases hs:a=s
     . simp[hs]
     simp[hs]
theorem Pn (l:List ByteArray) (s:ByteArray):J6 l s=CN l s:=by
 unfold J6;rw[AX,Qbk];simp only[Out.on,Nat.zero_add,Int.toNat_natCast]
theorem Po (l:List ByteArray) (s:ByteArray):List.length (J6 l s)<=List.length l+1:=by rw[Pn];exact OK s l
open GoE (enc wide)
def Jc (n:Yu):Bool:=((n.1==(8:Int))|| (n.1==(9:Int)))
theorem M3 (n:Yu):ACalls Tryz.prog 258 [.a [.i n.1, .i n.2.1, .i n.2.2.1, .s n.2.2.2.1, .i n.2.2.2.2.1, .i n.2.2.2.2.2.1, .s n.2.2.2.2.2.2]] (.b (Jc n)):=by
 refine en Qa Tryz.func258 fun w0 F0 hG=> ?_
 refine sn Qa [1,2] [1] (p0) <| Qc <| mz [(1, .p 1 0),(2, .b false)] [0] [(1, [.i n.1, .i n.2.1, .i n.2.2.1, .s n.2.2.2.1, .i n.2.2.2.2.1, .i n.2.2.2.2.2.1, .s n.2.2.2.2.2.2])] [] <| jn [(2, .b ((n.1==(8:Int))|| (n.1==(9:Int))))] [1,2] [] [1] (n.1==(8:Int)) (fun h1=> ?_) (fun h1=> ?_) ?_
 ·
  refine rn Qa [2] [] (pt 2 h1 p0) ?_;exact ⟨rfl,Qd (by rw[h1]<;>kernel_rfl)⟩
 ·
  refine rn Qa [2] [] (pf 2 h1 p0) ?_;exact ⟨rfl,Qd (by rw[h1]<;>kernel_rfl)⟩
 exact Qg <| pb [] (show Jc n=((n.1==(8:Int))|| (n.1==(9:Int))) from rfl)
def G1 (l:(List ByteArray)):(List ByteArray):=VI (Pk l)
theorem Oy (l:(List ByteArray)):ACalls Tryz.prog 150 [.h l] (.h (G1 l)):=by
 refine en Qa Tryz.func150 fun w0 F0 hG=> ?_
 refine sn Qa [0,2] [] (p0) <| tn Qa [2,3] [] (pc 1 (T4 l) p0) <| mz [(2, .e 0),(3, .o 320 l)] [0] [] [] <| Ge [320] rfl ?_
 refine su Qa [(3, .one (.slc (.own false 320) 1 (Qhk (eL l) 0 4294967296 (List.flatten (eL (Pk l))))))] [3] [] [] (po 1 (.take false true (eL (Pk l))) (px (Sq (Qis l)) p0)) <| eqn [(3, .q 320 (Pk l))] [3] [] [] (by rw[Qev (fun _=>rfl) (FJ _)]<;>kernel_rfl) ?_
 exact sn Qa [2] [] (po 1 (.take false false (eL (VI (Pk l)))) (px (Sq (Qit (Pk l))) p0)) <| Qg <| ph0 [576] (show G1 l=VI (Pk l) from rfl)
def Wl (q:(List Yu)) (negated:Bool) (k0:Nat) (a0:Bool) (s0:(List ByteArray)):Rd ((List ByteArray)) ((List ByteArray)) ((List ByteArray)):=(bif ((Jc (nth q k0))&&(a0==negated)) then (.next (s0++ [(nth q k0).2.2.2.1])) else (.next s0))
def H2 (_:Nat) (s0:(List ByteArray)):(List ByteArray):=s0
def W4 (q:(List Yu)) (negated:Bool):(List ByteArray):=(Out.on (Xp (Wl q negated) H2 (Yc q) 0 []) (fun y0=>(G1 y0)))
theorem Pp (q:(List Yu)) (negated:Bool):ACalls Tryz.prog 286 [.h q, .b negated] (.h (W4 q negated)):=by
 refine en Qa Tryz.func286 fun w0 F0 hG=> ?_
 have hnl:=Sz q;refine sn Qa [0,1,4] [] (p0) <| tn Qa [0,1,4,5] [] (p0) <| Qc <| tu Qa [(4, .e 0),(5, .one (.slc (.own true 512) 1 [])),(10, .o 640 (Yc q)),(11, .i ((Yc q).length:Int)),(12, .i 0)] [] [] [] (pc 1 (T6 q) (pl 2 (Yc q) p0)) <| wT 10 0 (.own true 640) (Yc q) (fun hw1 hl2=> ?_)
 refine XY (Wl q negated) H2 (Yc q) [] (fun k0 s0=> [(5, .o 147203 s0),(12, .i ((k0:Nat):Int))]) [5,12] (fun y0=> [(5, .o 147353 y0)]) [0,1,5,10,11,12] (fun k0 s0=>List.length s0<=k0) (Xl [(512,147203)] (by kernel_rfl)) (by simp) (fun k0 s0 hk0 hI0=> ?_) (fun k0 s0 hk0 hI0=> ?_) (fun y0 hD0=> ?_)
 ·
  have hA0_0:=hI0.2;obtain ⟨a0,hx0⟩:=Xh (l:=Yc q) (i:=k0) hk0;refine su Qa [(13, .b true)] [] [] [] (pe 0 (Qp (decide_eq_true (p:=((k0:Nat):Int)<((Yc q).length:Int)) (by omega))) p0) <| Qc <| ckT <| Qf <| Qc <| Qu <| sn Qa [0,1,4,5,6,7,10,11,12] [] (pN 1 hx0 p0) <| Qc <| mz [(6, .i ((k0:Nat):Int)),(7, .b a0)] [13] [] [] <| jn [(26, .b ((Jc (nth q k0))&&(a0==negated)))] [7] [] [] (Jc (nth q k0)) (fun h3=> ?_) (fun h3=> ?_) ?_
  ·
   refine wT 0 0 .sh q (fun hw5 hl6=> ?_);have hx4:=ng q k0;refine rn Qa [0,1,4,5,6,10,11,12,26] [] (pn 2 hx4 (pc 4 (cb h3 (M3 (nth q k0))) p0)) ?_;exact ⟨rfl,Qd (by rw[h3]<;>kernel_rfl)⟩
  ·
   refine wT 0 0 .sh q (fun hw8 hl9=> ?_);have hx7:=ng q k0;refine ru Qa [(26, .b false)] [7] [] [] (pn 2 hx7 (pc 4 (cb h3 (M3 (nth q k0))) p0)) ?_;exact ⟨rfl,Qd (by rw[h3]<;>kernel_rfl)⟩
  refine ck ((Jc (nth q k0))&&(a0==negated)) (fun h10=> ?_) (fun h10=> ?_)
  ·
   have h10r:((a0==negated))=true:=CJ h10;have h10rd:=eq_of_beq h10r;refine wT 0 0 .sh q (fun hw12 hl13=> ?_);have hx11:=ng q k0;refine wT 5 0 (.own true 147203) s0 (fun hw14 hl15=> ?_);refine ru Qa [(5, .one (.slc (.own true 2176) 1 ((eL s0)++ [[.s ((nth q k0).2.2.2.1)]])))] [5,6,26] [] [] (pn 3 hx11 (pa s0 [(nth q k0).2.2.2.1] p0)) ?_;refine eqn [(5, .o 2176 (s0++ [(nth q k0).2.2.2.1]))] [5] [] [] (by rw[show ((eL s0)++ [[.s ((nth q k0).2.2.2.1)]])=(eL (s0++ [(nth q k0).2.2.2.1])) from Ks (rfl) (rfl)];first | done | kernel_rfl) ?_;refine rn Qa [0,1,4,5,10,11,12] [] (pe 0 (Jh (Ql k0 (by omega))) p0) ?_;exact Exists.intro (s0++ [(nth q k0).2.2.2.1]) (And.intro (Xl [(2176,147203)] (by kernel_rfl)) ⟨Qr hx0 (Xf h10 (rfl)) hI0.1,by first | omega | (simp;omega) | simp⟩)
  refine Qf <| rn Qa [0,1,4,5,10,11,12] [] (pe 0 (Jh (Ql k0 (by omega))) p0) ?_
  exact xw s0 ⟨Qr hx0 (Qs h10 (rfl)) hI0.1,by first | omega | (simp;omega) | simp⟩
 ·
  have hA0_0:=hI0.2;exact su Qa [(13, .b false)] [] [] [] (pe 0 (Qp (decide_eq_false (p:=((k0:Nat):Int)<((Yc q).length:Int)) (by omega))) p0) <| Qc <| ckF <| Q2 <| Exists.intro _ (And.intro (Xl [(147203,147353)] (by kernel_rfl)) (Xi hk0 (rfl) hI0.1))
 exact sn Qa [4] [] (pc 1 (Oy y0) p0) <| Qg <| ph0 [] (Wj hD0 (rfl))
def Yr (q:(List Yu)):(List ByteArray):=(W4 q false)
theorem QD (q:(List Yu)):ACalls Tryz.prog 253 [.h q] (.h (Yr q)):=by
 refine en Qa Tryz.func253 fun w0 F0 hG=> ?_
 exact sn Qa [0,2] [] (p0) <| tn Qa [2] [] (pc 1 (Pp q false) p0) <| Qg <| ph0 [] (show Yr q=(W4 q false) from rfl)
def X7 (q:(List Yu)):(List ByteArray):=(W4 q true)
theorem QE (q:(List Yu)):ACalls Tryz.prog 254 [.h q] (.h (X7 q)):=by
 refine en Qa Tryz.func254 fun w0 F0 hG=> ?_
 exact sn Qa [0,2] [] (p0) <| tn Qa [2] [] (pc 1 (Pp q true) p0) <| Qg <| ph0 [] (show X7 q=(W4 q true) from rfl)
def Fi (q:(List Yu)) (under:Bool) (k0:Nat) (a0:Bool) (s0:(List ByteArray)):Rd ((List ByteArray)) ((List ByteArray)) ((List ByteArray)):=(bif ((Q6 ((nth q k0).1) 8 9)&&(a0==under)) then (.next (J6 s0 ((nth q k0).2.2.2.1))) else (.next s0))
def Fj (_:Nat) (s0:(List ByteArray)):(List ByteArray):=s0
def Cg (q:(List Yu)) (under:Bool):(List ByteArray):=(Out.on (Xp (Fi q under) Fj (Ji q) 0 []) (fun y0=>y0))
theorem Rz (q:(List Yu)) (under:Bool):ACalls Tryz.prog 304 [.h q, .b under] (.o 0 (Cg q under)):=by
 refine en Qa Tryz.func304 fun w0 F0 hG=> ?_
 have hnl:=FI q;refine sn Qa [0,1,4] [] (p0) <| tn Qa [0,1,4,5] [] (p0) <| tu Qa [(4, .e 0),(5, .one (.slc (.own true 512) 1 [])),(6, .o 640 (Ji q))] [] [] [] (pc 1 (T7 q) p0) <| Qc <| su Qa [(7, .i 0)] [] [] [] (p0) <| wT 6 0 (.own true 640) (Ji q) (fun hw1 hl2=> ?_)
 refine XY (Fi q under) Fj (Ji q) [] (fun k0 s0=> [(5, .h s0),(7, .i ((k0:Nat):Int))]) [5,7] (fun y0=> [(5, .h y0)]) [0,1,5,6,7] (fun k0 s0=>List.length s0<=k0) (M2 [] [512] [] [] (by kernel_rfl)) (by simp) (fun k0 s0 hk0 hI0=> ?_) (fun k0 s0 hk0 hI0=> ?_) (fun y0 hD0=> ?_)
 ·
  have hA0_0:=hI0.2;obtain ⟨a0,hx0⟩:=Xh (l:=Ji q) (i:=k0) hk0;refine Qc <| su Qa [(14, .b true)] [] [] [] (pl 2 (Ji q) (pe 3 (Qp (decide_eq_true (p:=((k0:Nat):Int)<((Ji q).length:Int)) (by omega))) p0)) <| ckT <| Qf <| Qc <| Qu <| Qc <| jn [(30, .b ((Q6 ((nth q k0).1) 8 9)&&(a0==under)))] [14] [] [] (Q6 ((nth q k0).1) 8 9) (fun h3=> ?_) (fun h3=> ?_) ?_
  ·
   refine wT 0 0 .sh q (fun hw5 hl6=> ?_);have hx4:=ng q k0;refine rn Qa [0,1,4,5,6,7,30] [] (pn 2 hx4 (pc 5 (cb h3 (Zo ((nth q k0).1) 8 9)) (pN 9 hx0 p0))) ?_;exact ⟨rfl,Qd (by rw[h3]<;>kernel_rfl)⟩
  ·
   refine wT 0 0 .sh q (fun hw8 hl9=> ?_);have hx7:=ng q k0;refine rn Qa [0,1,4,5,6,7,30] [] (pn 2 hx7 (pc 5 (cb h3 (Zo ((nth q k0).1) 8 9)) p0)) ?_;exact ⟨rfl,Qd (by rw[h3]<;>kernel_rfl)⟩
  refine ck ((Q6 ((nth q k0).1) 8 9)&&(a0==under)) (fun h10=> ?_) (fun h10=> ?_)
  ·
   have h10r:((a0==under))=true:=CJ h10;have h10rd:=eq_of_beq h10r;refine wT 0 0 .sh q (fun hw12 hl13=> ?_);have hx11:=ng q k0;refine rn Qa [0,1,4,5,6,7] [] (pn 3 hx11 (pc 6 (Ev s0 ((nth q k0).2.2.2.1) (by omega)) p0)) ?_;refine qn Qa [0,1,4,5,6,7] [] (pe 1 (Jh (Ql k0 (by omega))) p0) ?_;exact xw (J6 s0 ((nth q k0).2.2.2.1)) ⟨Qr hx0 (Xf h10 (rfl)) hI0.1,(by first | omega | (have hz:=Po s0 (nth q k0).2.2.2.1;omega))⟩
  refine Qf <| rn Qa [0,1,4,5,6,7] [] (pe 1 (Jh (Ql k0 (by omega))) p0) ?_
  exact xw s0 ⟨Qr hx0 (Qs h10 (rfl)) hI0.1,(by first | omega | (have hz:=Po s0 (nth q k0).2.2.2.1;omega))⟩
 ·
  have hA0_0:=hI0.2;exact Qc <| su Qa [(14, .b false)] [] [] [] (pl 2 (Ji q) (pe 3 (Qp (decide_eq_false (p:=((k0:Nat):Int)<((Ji q).length:Int)) (by omega))) p0)) <| ckF <| Q2 <| xw _ (Xi hk0 (rfl) hI0.1)
 refine wT 5 0 .sh y0 (fun hw14 hl15=> ?_);exact sn Qa [4] [] (po 2 (.flat) (px (Ff (n:=(([]:List (List PV)).length+((eL y0):List (List PV)).length)) (Ig (rfl) (Zj y0) (by first | omega | (simp only[List.length_cons,List.length_nil];omega) | (simp;omega) | simp))) (px (Dg (Ca y0)) p0))) <| Qg <| po0 [] (Wj hD0 (rfl))
def Jj (q:(List Yu)):(List ByteArray):=(Cg q false)
theorem QF (q:(List Yu)):ACalls Tryz.prog 276 [.h q] (.o 0 (Jj q)):=by
 refine en Qa Tryz.func276 fun w0 F0 hG=> ?_
 exact sn Qa [0,2] [] (p0) <| tn Qa [2] [] (pc 1 (Rz q false) p0) <| Qg <| po0 [] (show Jj q=(Cg q false) from rfl)
def Jk (q:(List Yu)):(List ByteArray):=(Cg q true)
theorem QG (q:(List Yu)):ACalls Tryz.prog 277 [.h q] (.o 0 (Jk q)):=by
 refine en Qa Tryz.func277 fun w0 F0 hG=> ?_
 exact sn Qa [0,2] [] (p0) <| tn Qa [2] [] (pc 1 (Rz q true) p0) <| Qg <| po0 [] (show Jk q=(Cg q true) from rfl)
theorem VN (n:Yu):Q6 n.1 8 9=Jc n:=by
 unfold Q6 Jc;rw[Bool.eq_iff_iff];simp;omega
theorem VO (q:List Yu) (b:Bool):∀(l:List Bool) (k:Nat) (s:List ByteArray),∃m,Xp (Wl q b) H2 l k s= .brk (s++m)/\∀t,Xp (Fi q b) Fj l k t= .brk (Dh t m)
 | [],k,s=>⟨[],by simp[Xp,H2],fun t=>by simp[Xp,Fj,Dh]⟩
 | a ::l,k,s=>by
   simp only[Xp,Wl,Fi,VN];cases h:(Jc (nth q k)&&(a==b)) with
   | true=>
     obtain ⟨m,h1,h2⟩:=VO q b l (k+1) (s++ [(nth q k).2.2.2.1]);refine ⟨(nth q k).2.2.2.1::m, ?_,fun t=> ?_⟩
     . simp only[cond_true];rw[h1,List.append_assoc];rfl
     simp only[cond_true];rw[h2,Pn];rfl
   | false=>
     obtain ⟨m,h1,h2⟩:=VO q b l (k+1) s;exact ⟨m,by simp only[cond_false];exact h1,fun t=>by simp only[cond_false];exact h2 t⟩
theorem Qbl (q:List Yu) (b:Bool):Cg q b=W4 q b:=by
 unfold Cg W4;obtain ⟨m,h1,h2⟩:=VO q b (Yc q) 0 [];rw[AP,h1,h2];simp only[Out.on,List.nil_append];exact (OL m).symm
theorem RT (q:List Yu):Jj q=Yr q:=Qbl q false
theorem RU (q:List Yu):Jk q=X7 q:=Qbl q true
open GoE (enc wide)
def Y0 (d:(List Xw)) (k0:Nat) (a0:Xw) (_:Unit):Rd (Bool) (Unit) (Unit):=(bif ((!(Yv a0.1))|| (bif decide (((k0:Nat):Int)>(0:Int)) then ((!(Op.bytesLess ((nth d (Int.toNat (((k0:Nat):Int)-1))).1).toList a0.1.toList))|| (!(Q3 a0.2))) else (!(Q3 a0.2)))) then (.ret false) else (.next ()))
def Vj (_:Nat) (_:Unit):Unit:=()
def Qo (d:(List Xw)):Bool:=(Out.on (Xp (Y0 d) Vj d 0 ()) (fun _=>decide ((d.length:Int)<=(5:Int))))
theorem Jl (d:(List Xw)):ACalls Tryz.prog 143 [.h d] (.b (Qo d)):=by
 refine en Qa Tryz.func143 fun w0 F0 hG=> ?_
 refine sn Qa [0,2] [] (p0) <| Qc <| tn Qa [0,2,5,6,7] [] (pl 1 d p0) <| mz [(2, .b false),(5, .h d),(6, .i (d.length:Int)),(7, .i 0)] [] [] [] <| wT 0 0 .sh d (fun hw1 hl2=> ?_)
 refine Ox (Y0 d) Vj d () (fun k0 _=> [(7, .i ((k0:Nat):Int))]) [7] (fun _=> []) [5,6,7] wf0 (fun k0 s0 hk0 hI0=> ?_) (fun k0 s0 hk0 hI0=> ?_) (fun y0 hD0=> ?_)
 ·
  obtain ⟨a0,hx0⟩:=Xh (l:=d) (i:=k0) hk0;refine sn Qa [0,2,5,6,7,8] [] (pe 0 (Qp (decide_eq_true (p:=((k0:Nat):Int)<(d.length:Int)) (by omega))) p0) <| Qc <| ckT <| Qf <| Qc <| Qu <| tn Qa [0,2,3,4,5,6,7] [4] (pn 1 hx0 p0) <| Qc <| mz [(3, .i ((k0:Nat):Int)),(4, .p 4 0)] [] [(4, [.s a0.1, .h a0.2])] [] <| jn [(36, .b ((!(Yv a0.1))|| (bif decide (((k0:Nat):Int)>(0:Int)) then ((!(Op.bytesLess ((nth d (Int.toNat (((k0:Nat):Int)-1))).1).toList a0.1.toList))|| (!(Q3 a0.2))) else (!(Q3 a0.2)))))] [3,4] [] [4] (!(Yv a0.1)) (fun h3=> ?_) (fun h3=> ?_) ?_
  ·
   have h3n:(Yv a0.1)=false:=Vd h3;refine rN Qa Zh [0,2,5,6,7,36] [] (pc 2 (cb h3n (K3 a0.1)) (pe 3 (show .b (!false)= .b true from rfl) p0)) ?_;exact ⟨rfl,Qd (by rw[h3]<;>kernel_rfl)⟩
  ·
   have h3n:(Yv a0.1)=true:=Y3 h3;refine X5 (decide (((k0:Nat):Int)>(0:Int))) (fun h4=> ?_) (fun h4=> ?_)
   ·
    have h4d:=of_decide_eq_true h4;refine X5 (!(Op.bytesLess ((nth d (Int.toNat (((k0:Nat):Int)-1))).1).toList a0.1.toList)) (fun h5=> ?_) (fun h5=> ?_)
    ·
     have hx6:=ng d (Int.toNat (((k0:Nat):Int)-1));refine rN Qa Zh [0,2,5,6,7,36] [] (pc 2 (cb h3n (K3 a0.1)) (pe 3 (show .b (!true)= .b false from rfl) (pt 6 h4 (pe 10 (Jh (IntWalk.i64_in (((k0:Nat):Int)-1) (by omega))) (pg 11 (((k0:Nat):Int)-1) hx6 (pt 16 h5 p0)))))) ?_;exact ⟨rfl,Qd (by rw[h3,h4,h5]<;>kernel_rfl)⟩
    have hx7:=ng d (Int.toNat (((k0:Nat):Int)-1));refine rN Qa Zh [0,2,5,6,7,36] [] (pc 2 (cb h3n (K3 a0.1)) (pe 3 (show .b (!true)= .b false from rfl) (pt 6 h4 (pe 10 (Jh (IntWalk.i64_in (((k0:Nat):Int)-1) (by omega))) (pg 11 (((k0:Nat):Int)-1) hx7 (pf 16 h5 (pc 22 (H8 a0.2) p0))))))) ?_;exact ⟨rfl,Qd (by rw[h3,h4,h5]<;>kernel_rfl)⟩
   refine rN Qa Zh [0,2,5,6,7,36] [] (pc 2 (cb h3n (K3 a0.1)) (pe 3 (show .b (!true)= .b false from rfl) (pf 6 h4 (pc 22 (H8 a0.2) p0)))) ?_;exact ⟨rfl,Qd (by rw[h3,h4]<;>kernel_rfl)⟩
  refine ck ((!(Yv a0.1))|| (bif decide (((k0:Nat):Int)>(0:Int)) then ((!(Op.bytesLess ((nth d (Int.toNat (((k0:Nat):Int)-1))).1).toList a0.1.toList))|| (!(Q3 a0.2))) else (!(Q3 a0.2)))) (fun h8=> ?_) (fun h8=> ?_)
  ·
   refine su Qa [] [36] [] [] (p0) <| Qg ?_
   have hr9:(Xp (Y0 d) Vj d 0 ())= .ret false:=Jg hx0 (Xf h8 (rfl)) hI0;exact pb [] (Oa hr9)
  refine Qf <| rn Qa [0,2,5,6,7] [] (pe 0 (Jh (Ql k0 (by omega))) p0) ?_
  exact xw _ (Qr hx0 (Qs h8 (rfl)) hI0)
 ·
  exact sn Qa [0,2,5,6,7,8] [] (pe 0 (Qp (decide_eq_false (p:=((k0:Nat):Int)<(d.length:Int)) (by omega))) p0) <| Qc <| ckF <| Q2 <| xw _ (Xi hk0 (rfl) hI0)
 exact sn Qa [2] [] (pl 1 d p0) <| Qg <| pb [] (Wj hD0 (rfl))
def H9 (d:(List Xw)) (k0:Nat) (a0:Xw) (_:Unit):Rd (Bool) (Unit) (Unit):=(bif ((!(Y1 a0.1))|| ((!(Zi a0.2))|| (decide (((k0:Nat):Int)>(0:Int))&&(!(Op.bytesLess ((nth d (Int.toNat (((k0:Nat):Int)-1))).1).toList a0.1.toList))))) then (.ret false) else (.next ()))
def Bu (_:Nat) (_:Unit):Unit:=()
def Ye (d:(List Xw)):Bool:=(Out.on (Xp (H9 d) Bu d 0 ()) (fun _=>decide ((d.length:Int)<=(5:Int))))
theorem U8 (d:(List Xw)):ACalls Tryz.prog 176 [.h d] (.b (Ye d)):=by
 refine en Qa Tryz.func176 fun w0 F0 hG=> ?_
 refine sn Qa [0,2] [] (p0) <| Qc <| tn Qa [0,2,3] [] (p0) <| mz [(2, .b false),(3, .i 0)] [] [] [] <| wT 0 0 .sh d (fun hw1 hl2=> ?_)
 refine Ox (H9 d) Bu d () (fun k0 _=> [(3, .i ((k0:Nat):Int))]) [3] (fun _=> []) [3] wf0 (fun k0 s0 hk0 hI0=> ?_) (fun k0 s0 hk0 hI0=> ?_) (fun y0 hD0=> ?_)
 ·
  obtain ⟨a0,hx0⟩:=Xh (l:=d) (i:=k0) hk0;refine Qc <| sn Qa [0,2,3,7] [] (pl 2 d (pe 3 (Qp (decide_eq_true (p:=((k0:Nat):Int)<(d.length:Int)) (by omega))) p0)) <| ckT <| Qf <| Qc <| Qu <| Qc <| mz [(7, .b true)] [] [] [] <| jn [(43, .b ((!(Y1 a0.1))|| ((!(Zi a0.2))|| (decide (((k0:Nat):Int)>(0:Int))&&(!(Op.bytesLess ((nth d (Int.toNat (((k0:Nat):Int)-1))).1).toList a0.1.toList))))))] [7] [] [] (!(Y1 a0.1)) (fun h3=> ?_) (fun h3=> ?_) ?_
  ·
   have h3n:(Y1 a0.1)=false:=Vd h3;refine rN Qa Zh [0,2,3,43] [] (pn 2 hx0 (pc 5 (cb h3n (Ju a0.1)) (pe 6 (show .b (!false)= .b true from rfl) p0))) ?_;exact ⟨rfl,Qd (by rw[h3]<;>kernel_rfl)⟩
  ·
   have h3n:(Y1 a0.1)=true:=Y3 h3;refine X5 (!(Zi a0.2)) (fun h4=> ?_) (fun h4=> ?_)
   ·
    have h4n:(Zi a0.2)=false:=Vd h4;refine rN Qa Zh [0,2,3,43] [] (pn 2 hx0 (pc 5 (cb h3n (Ju a0.1)) (pe 6 (show .b (!true)= .b false from rfl) (pn 10 hx0 (pc 13 (cb h4n (Ue a0.2)) (pe 14 (show .b (!false)= .b true from rfl) p0)))))) ?_;exact ⟨rfl,Qd (by rw[h3,h4]<;>kernel_rfl)⟩
   have h4n:(Zi a0.2)=true:=Y3 h4;refine X5 (decide (((k0:Nat):Int)>(0:Int))) (fun h5=> ?_) (fun h5=> ?_)
   ·
    have h5d:=of_decide_eq_true h5;have hx6:=ng d (Int.toNat (((k0:Nat):Int)-1));refine rN Qa Zh [0,2,3,43] [] (pn 2 hx0 (pc 5 (cb h3n (Ju a0.1)) (pe 6 (show .b (!true)= .b false from rfl) (pn 10 hx0 (pc 13 (cb h4n (Ue a0.2)) (pe 14 (show .b (!true)= .b false from rfl) (pt 18 h5 (pe 22 (Jh (IntWalk.i64_in (((k0:Nat):Int)-1) (by omega))) (pg 23 (((k0:Nat):Int)-1) hx6 (pn 28 hx0 p0)))))))))) ?_;exact ⟨rfl,Qd (by rw[h3,h4,h5]<;>kernel_rfl)⟩
   refine rN Qa Zh [0,2,3,43] [] (pn 2 hx0 (pc 5 (cb h3n (Ju a0.1)) (pe 6 (show .b (!true)= .b false from rfl) (pn 10 hx0 (pc 13 (cb h4n (Ue a0.2)) (pe 14 (show .b (!true)= .b false from rfl) (pf 18 h5 p0))))))) ?_;exact ⟨rfl,Qd (by rw[h3,h4,h5]<;>kernel_rfl)⟩
  refine ck ((!(Y1 a0.1))|| ((!(Zi a0.2))|| (decide (((k0:Nat):Int)>(0:Int))&&(!(Op.bytesLess ((nth d (Int.toNat (((k0:Nat):Int)-1))).1).toList a0.1.toList))))) (fun h7=> ?_) (fun h7=> ?_)
  ·
   refine sn Qa [0,2,3] [] (p0) <| Qg ?_
   have hr8:(Xp (H9 d) Bu d 0 ())= .ret false:=Jg hx0 (Xf h7 (rfl)) hI0;exact pb [] (Oa hr8)
  refine Qf <| rn Qa [0,2,3] [] (pe 1 (Jh (Ql k0 (by omega))) p0) ?_
  exact xw _ (Qr hx0 (Qs h7 (rfl)) hI0)
 ·
  exact Qc <| sn Qa [0,2,3,7] [] (pl 2 d (pe 3 (Qp (decide_eq_false (p:=((k0:Nat):Int)<(d.length:Int)) (by omega))) p0)) <| ckF <| Q2 <| xw _ (Xi hk0 (rfl) hI0)
 exact sn Qa [2] [] (pl 1 d p0) <| Qg <| pb [] (Wj hD0 (rfl))
def Ch (x:Xw) (q0:ByteArray):Bool:=(x.1.toList==q0.toList)
theorem CQ (x:Xw) (q0:ByteArray):ACalls Tryz.prog 206 [.a [.s x.1, .h x.2], .one (.rptr .sh [.s q0])] (.b (Ch x q0)):=by
 refine en Qa Tryz.func206 fun w0 F0 hG=> ?_
 exact sn Qa [1,2,3] [2] (p0) <| tn Qa [3] [] (p0) <| Qg <| pb [] (show Ch x q0=(x.1.toList==q0.toList) from rfl)
def Xt (c0:ByteArray) (k0:Nat) (a0:Xw) (_:Unit):Rd (Int) (Unit) (Unit):=(bif (Ch a0 c0) then (.ret ((k0:Nat):Int)) else (.next ()))
def Ym (_:Nat) (_:Unit):Unit:=()
def Z4 (s_:(List Xw)) (c0:ByteArray):Int:=(Out.on (Xp (Xt c0) Ym s_ 0 ()) (fun _=> -1))
theorem Fk (s_:(List Xw)) (c0:ByteArray):ACalls Tryz.prog 202 [.h s_, .one (.fnr 206 [[.s c0]])] (.i (Z4 s_ c0)):=by
 refine en Qa Tryz.func202 fun w0 F0 hG=> ?_
 refine sn Qa [0,1,4] [] (p0) <| Qc <| tn Qa [0,1,4,7,8] [] (pl 1 s_ p0) <| mz [(4, .i 0),(7, .i (s_.length:Int)),(8, .i 0)] [] [] [] <| wT 0 0 .sh s_ (fun hw1 hl2=> ?_)
 refine Ox (Xt c0) Ym s_ () (fun k0 _=> [(8, .i ((k0:Nat):Int))]) [8] (fun _=> []) [0,1,7,8] wf0 (fun k0 s0 hk0 hI0=> ?_) (fun k0 s0 hk0 hI0=> ?_) (fun y0 hD0=> ?_)
 ·
  obtain ⟨a0,hx0⟩:=Xh (l:=s_) (i:=k0) hk0;refine sn Qa [0,1,4,7,8,9] [] (pe 0 (Qp (decide_eq_true (p:=((k0:Nat):Int)<(s_.length:Int)) (by omega))) p0) <| Qc <| ckT <| Qf <| Qc <| Qu <| tn Qa [0,1,4,5,7,8] [] (p0) <| tu Qa [(5, .i ((k0:Nat):Int)),(16, .b (Ch a0 c0))] [] [] [] (pn 3 hx0 (pc 5 (CQ a0 c0) p0)) <| ck (Ch a0 c0) (fun h3=> ?_) (fun h3=> ?_)
  ·
   refine sn Qa [0,1,4,7,8] [] (p0) <| Qg ?_
   have hr4:(Xp (Xt c0) Ym s_ 0 ())= .ret ((k0:Nat):Int):=Jg hx0 (Xf h3 (rfl)) hI0;exact pi [] (Oa hr4)
  refine Qf <| rn Qa [0,1,4,7,8] [] (pe 0 (Jh (Ql k0 (by omega))) p0) ?_
  exact xw _ (Qr hx0 (Qs h3 (rfl)) hI0)
 ·
  exact sn Qa [0,1,4,7,8,9] [] (pe 0 (Qp (decide_eq_false (p:=((k0:Nat):Int)<(s_.length:Int)) (by omega))) p0) <| Qc <| ckF <| Q2 <| xw _ (Xi hk0 (rfl) hI0)
 exact sn Qa [4] [] (p0) <| Qg <| pi [] (Wj hD0 (rfl))
def Q1 (d:(List Xw)) (name:ByteArray):Int:=(Z4 d name)
theorem S7 (d:(List Xw)) (name:ByteArray):ACalls Tryz.prog 142 [.h d, .s name] (.i (Q1 d name)):=by
 refine en Qa Tryz.func142 fun w0 F0 hG=> ?_
 exact sn Qa [0,3,4] [3] (p0) <| tn Qa [4] [] (pc 2 (Fk d name) p0) <| Qg <| pi [] (show Q1 d name=(Z4 d name) from rfl)
def Lz (name:ByteArray) (k0:Nat) (a0:Xw) (_:Unit):Rd (Int) (Unit) (Unit):=(bif (a0.1.toList==name.toList) then (.ret ((k0:Nat):Int)) else (.next ()))
def L4 (_:Nat) (_:Unit):Unit:=()
def Xj (d:(List Xw)) (name:ByteArray):Int:=(Out.on (Xp (Lz name) L4 d 0 ()) (fun _=> -1))
theorem M4 (d:(List Xw)) (name:ByteArray):ACalls Tryz.prog 181 [.h d, .s name] (.i (Xj d name)):=by
 refine en Qa Tryz.func181 fun w0 F0 hG=> ?_
 refine sn Qa [0,1,4] [] (p0) <| Qc <| tn Qa [0,1,4,5] [] (p0) <| mz [(4, .i 0),(5, .i 0)] [] [] [] <| wT 0 0 .sh d (fun hw1 hl2=> ?_)
 refine Ox (Lz name) L4 d () (fun k0 _=> [(5, .i ((k0:Nat):Int))]) [5] (fun _=> []) [0,1,5] wf0 (fun k0 s0 hk0 hI0=> ?_) (fun k0 s0 hk0 hI0=> ?_) (fun y0 hD0=> ?_)
 ·
  obtain ⟨a0,hx0⟩:=Xh (l:=d) (i:=k0) hk0;refine Qc <| sn Qa [0,1,4,5,9] [] (pl 2 d (pe 3 (Qp (decide_eq_true (p:=((k0:Nat):Int)<(d.length:Int)) (by omega))) p0)) <| ckT <| Qf <| Qc <| Qu <| tn Qa [0,1,4,5,18] [] (pn 2 hx0 p0) <| ck (a0.1.toList==name.toList) (fun h3=> ?_) (fun h3=> ?_)
  ·
   refine tu Qa [(4, .i ((k0:Nat):Int))] [4] [] [] (p0) <| Qg ?_
   have hr4:(Xp (Lz name) L4 d 0 ())= .ret ((k0:Nat):Int):=Jg hx0 (Xf h3 (rfl)) hI0;exact pi [] (Oa hr4)
  refine Qf <| qu Qa [(5, .i ((k0+1:Nat):Int))] [5] [] [] (pe 1 (Jh (Ql k0 (by omega))) p0) ?_
  exact xw _ (Qr hx0 (Qs h3 (rfl)) hI0)
 ·
  exact Qc <| sn Qa [0,1,4,5,9] [] (pl 2 d (pe 3 (Qp (decide_eq_false (p:=((k0:Nat):Int)<(d.length:Int)) (by omega))) p0)) <| ckF <| Q2 <| xw _ (Xi hk0 (rfl) hI0)
 exact sn Qa [4] [] (p0) <| Qg <| pi [] (Wj hD0 (rfl))
theorem Bv (d:List Xw):Qo d=Ye d:=by
 unfold Qo Ye
 rw[Dw (f:=Y0 d) (g:=H9 d) (e:=Vj) (e':=Bu) (fun k a s=>by
  unfold Y0 H9;rw[Qet,Qa7];cases Y1 a.1<;>cases Zi a.2<;>cases decide (((k:Nat):Int)>(0:Int))<;>simp) (fun _ _=>rfl)]
theorem Qey (d:List Xw) (s:ByteArray):Xj d s=Q1 d s:=rfl
theorem ON (s:ByteArray):∀(l:List Xw) (k:Nat),Xp (Xt s) Ym l k ()= .brk ()\/∃i:Nat,i<l.length/\Xp (Xt s) Ym l k ()= .ret (((k+i:Nat)):Int)
 | [],_=> .inl rfl
 | a ::l,k=>by
   simp only[Xp,Xt];unfold Ch;cases (a.1.toList==s.toList) with
   | true=>exact .inr ⟨0,by simp,rfl⟩
   | false=>
     simp only[cond_false];rcases ON s l (k+1) with h | ⟨i,hi,h⟩
     . exact .inl h
     exact .inr ⟨i+1,by simpa using hi,by rw[h,show k+1+i=k+(i+1) by omega]⟩
theorem QH (d:List Xw) (s:ByteArray): -1<=Q1 d s/\Q1 d s<(List.length d:Int):=by
 unfold Q1 Z4;rcases ON s d 0 with h | ⟨i,hi,h⟩
 . rw[h];simp only[Out.on];omega
 rw[h];simp only[Out.on];omega
theorem QI (d:List Xw) (s:ByteArray): -1<=Xj d s/\Xj d s<(List.length d:Int):=QH d s
open GoE (enc wide)
def Bw (d:(List Xw)) (strata:(List Int)) (more:Int) (_:Nat) (a0:ByteArray) (s0:Int):Rd (Int) (Int) (Int):=(bif decide ((Q1 d a0)>=(0:Int)) then (.next (max s0 (IntKind.i64.wrap ((nth strata (Int.toNat (Q1 d a0)))+more)))) else (.next s0))
def Fl (_:Nat) (s0:Int):Int:=s0
def X2 (d:(List Xw)) (strata:(List Int)) (names:(List ByteArray)) (more:Int):Int:=(Out.on (Xp (Bw d strata more) Fl names 0 0) (fun y0=>y0))
theorem Nq (d:(List Xw)) (strata:(List Int)) (names:(List ByteArray)) (more:Int) (hp:List.length d<=List.length strata):ACalls Tryz.prog 252 [.h d, .h strata, .h names, .i more] (.i (X2 d strata names more)):=by
 refine en Qa Tryz.func252 fun w0 F0 hG=> ?_
 refine sn Qa [0,1,2,3,8] [] (p0) <| tn Qa [0,1,2,3,8,9] [] (p0) <| Qc <| tu Qa [(8, .i 0),(9, .i 0),(13, .h names),(14, .i (names.length:Int)),(15, .i 0)] [2] [] [] (pl 1 names p0) <| wT 13 0 .sh names (fun hw1 hl2=> ?_)
 refine Ox (Bw d strata more) Fl names 0 (fun k0 s0=> [(9, .i s0),(15, .i ((k0:Nat):Int))]) [9,15] (fun y0=> [(9, .i y0)]) [0,1,3,9,13,14,15] wf0 (fun k0 s0 hk0 hI0=> ?_) (fun k0 s0 hk0 hI0=> ?_) (fun y0 hD0=> ?_)
 ·
  obtain ⟨a0,hx0⟩:=Xh (l:=names) (i:=k0) hk0;refine su Qa [(16, .b true)] [] [] [] (pe 0 (Qp (decide_eq_true (p:=((k0:Nat):Int)<(names.length:Int)) (by omega))) p0) <| Qc <| ckT <| Qf <| Qc <| Qu <| su Qa [(11, .s a0)] [16] [] [] (pn 0 hx0 p0) <| sn Qa [0,1,3,8,9,12,13,14,15] [] (pc 2 (S7 d a0) p0) <| tn Qa [0,1,3,8,9,12,13,14,15,23] [] (p0) <| ck (decide ((Q1 d a0)>=(0:Int))) (fun h3=> ?_) (fun h3=> ?_)
  ·
   have h3p:=QH d a0;have h3d:=of_decide_eq_true h3;refine wT 1 0 .sh strata (fun hw5 hl6=> ?_);have hx4:=ng strata (Int.toNat (Q1 d a0));refine qu Qa [(9, .i (max s0 (IntKind.i64.wrap ((nth strata (Int.toNat (Q1 d a0)))+more))))] [9,11] [] [] (pg 3 (Q1 d a0) hx4 p0) ?_;refine rn Qa [0,1,3,8,9,13,14,15] [] (pe 0 (Jh (Ql k0 (by omega))) p0) ?_;exact xw _ (Qr hx0 (Xf h3 (rfl)) hI0)
  have h3d:=of_decide_eq_false h3;refine Qf <| qu Qa [(15, .i ((k0+1:Nat):Int))] [11,15] [] [] (pe 0 (Jh (Ql k0 (by omega))) p0) ?_
  exact xw _ (Qr hx0 (Qs h3 (rfl)) hI0)
 ·
  exact su Qa [(16, .b false)] [] [] [] (pe 0 (Qp (decide_eq_false (p:=((k0:Nat):Int)<(names.length:Int)) (by omega))) p0) <| Qc <| ckF <| Q2 <| xw _ (Xi hk0 (rfl) hI0)
 exact sn Qa [8] [] (p0) <| Qg <| pi [] (Wj hD0 (rfl))
def Ay (d:(List Xw)) (k0:Nat) (_:Nat) (a1:ByteArray) (s1:(List Int)):Rd (Rd ((List Int)) ((List Int)) ((List Int))) ((List Int)) ((List Int)):=(bif (decide ((Xj d a1)>=(0:Int))&&decide ((nth s1 (Int.toNat (Xj d a1)))>(nth s1 k0))) then (.next (List.set s1 k0 (nth s1 (Int.toNat (Xj d a1))))) else (.next s1))
def Ci (_:Nat) (s1:(List Int)):(List Int):=s1
def Az (d:(List Xw)) (k0:Nat) (_:Nat) (a2:ByteArray) (s2:(List Int)):Rd (Rd ((List Int)) ((List Int)) ((List Int))) ((List Int)) ((List Int)):=(bif (decide ((Xj d a2)>=(0:Int))&&decide (IntKind.i64.wrap ((nth s2 (Int.toNat (Xj d a2)))+1)>(nth s2 k0))) then (.next (List.set s2 k0 (IntKind.i64.wrap ((nth s2 (Int.toNat (Xj d a2)))+1)))) else (.next s2))
def Fm (_:Nat) (s2:(List Int)):(List Int):=s2
def Hl (d:(List Xw)) (k0:Nat) (a0:Xw) (s0:(List Int)):Rd ((List Int)) ((List Int)) ((List Int)):=(Out.on (Xp (Ay d k0) Ci (Jj a0.2) 0 s0) (fun y1=>(Out.on (Xp (Az d k0) Fm (Jk a0.2) 0 y1) (fun y2=>(.next y2)))))
def Fn (_:Nat) (s0:(List Int)):(List Int):=s0
def W7 (d:(List Xw)) (lev:(List Int)):(List Int):=(Out.on (Xp (Hl d) Fn d 0 lev) (fun y0=>y0))
theorem R0 (d:(List Xw)) (lev:(List Int)) (hp:List.length d<=List.length lev):ACalls Tryz.prog 236 [.h d, .h lev] (.o 0 (W7 d lev)):=by
 refine en Qa Tryz.func236 fun w0 F0 hG=> ?_
 refine sn Qa [0,1,4] [] (p0) <| wT 1 0 .sh lev (fun hw1 hl2=> ?_)
 refine tn Qa [0,4,5] [] (po 2 (.flat) (px (Ff (n:=(([]:List (List PV)).length+((eL lev):List (List PV)).length)) (Ig (rfl) (Zj lev) (by first | omega | (simp only[List.length_cons,List.length_nil];omega) | (simp;omega) | simp))) (px (Dg (Ca lev)) p0))) <| Qc <| tu Qa [(4, .e 0),(5, .o 960 lev),(6, .i 0)] [1] [] [] (p0) <| wT 0 0 .sh d (fun hw3 hl4=> ?_)
 refine Qa5 (Hl d) Fn d lev (fun k0 s0=> [(5, .o 960 s0),(6, .i ((k0:Nat):Int))]) [5,6] (fun y0=> [(5, .o 960 y0)]) [0,5,6] (fun _ s0=>List.length s0=List.length lev) (fun y0=>List.length y0=List.length lev) wf0 (by simp) (fun k0 s0 hk0 hI0=> ?_) (fun k0 s0 hk0 hI0=> ?_) (fun y0 hD0=> ?_)
 ·
  have hA0_0:=hI0.2;obtain ⟨a0,hx0⟩:=Xh (l:=d) (i:=k0) hk0;refine Qc <| sn Qa [0,4,5,6,19] [] (pl 2 d (pe 3 (Qp (decide_eq_true (p:=((k0:Nat):Int)<(d.length:Int)) (by omega))) p0)) <| ckT <| Qf <| Qc <| Qu <| tn Qa [0,4,5,6,7] [] (pn 2 hx0 (pc 5 (QF a0.2) p0)) <| Qc <| tu Qa [(7, .o 1728 (Jj a0.2)),(8, .i 0)] [] [] [] (p0) <| wT 7 0 (.own true 1728) (Jj a0.2) (fun hw5 hl6=> ?_)
  refine Qa5 (Ay d k0) Ci (Jj a0.2) s0 (fun k1 s1=> [(5, .o 960 s1),(8, .i ((k1:Nat):Int))]) [5,8] (fun y1=> [(5, .o 960 y1)]) [5,7,8] (fun _ s1=>List.length s1=List.length s0) (fun y1=>List.length y1=List.length s0) wf0 (by simp) (fun k1 s1 hk1 hI1=> ?_) (fun k1 s1 hk1 hI1=> ?_) (fun y1 hD1=> ?_)
  ·
   have hA1_0:=hI1.2;obtain ⟨a1,hx1⟩:=Xh (l:=Jj a0.2) (i:=k1) hk1;refine Qc <| su Qa [(31, .b true)] [] [] [] (pl 2 (Jj a0.2) (pe 3 (Qp (decide_eq_true (p:=((k1:Nat):Int)<((Jj a0.2).length:Int)) (by omega))) p0)) <| ckT <| Qf <| Qc <| Qu <| sn Qa [0,4,5,6,7,8,9] [] (pN 3 hx1 (pc 5 (M4 d a1) p0)) <| Qc <| mz [(9, .i (Xj d a1))] [31] [] [] <| jn [(52, .b (decide ((Xj d a1)>=(0:Int))&&decide ((nth s1 (Int.toNat (Xj d a1)))>(nth s1 k0))))] [] [] [] (decide ((Xj d a1)>=(0:Int))) (fun h7=> ?_) (fun h7=> ?_) ?_
   ·
    have h7p:=QI d a1;have h7d:=of_decide_eq_true h7;refine wT 5 0 (.own true 960) s1 (fun hw9 hl10=> ?_);have hx8:=ng s1 (Int.toNat (Xj d a1));have hx11:=ng s1 k0;refine rN Qa Zh [0,4,5,6,7,8,9,52] [] (pt 1 h7 (pG 5 (Xj d a1) hx8 (pN 9 hx11 p0))) ?_;exact ⟨rfl,Qd (by rw[h7]<;>kernel_rfl)⟩
   ·
    refine rU Qa Zh [(52, .b false)] [] [] [] (pf 1 h7 p0) ?_;exact ⟨rfl,Qd (by rw[h7]<;>kernel_rfl)⟩
   refine ck (decide ((Xj d a1)>=(0:Int))&&decide ((nth s1 (Int.toNat (Xj d a1)))>(nth s1 k0))) (fun h12=> ?_) (fun h12=> ?_)
   ·
    have h12l:(decide ((Xj d a1)>=(0:Int)))=true:=UP h12;have h12lp:=QI d a1;have h12ld:=of_decide_eq_true h12l;have h12r:(decide ((nth s1 (Int.toNat (Xj d a1)))>(nth s1 k0)))=true:=CJ h12;have h12rd:=of_decide_eq_true h12r;refine wT 5 0 (.own true 960) s1 (fun hw14 hl15=> ?_);have hx13:=ng s1 (Int.toNat (Xj d a1));have hx16:=ng s1 k0;refine ru Qa [(5, .one (.slc (.own true 960) 1 (setRow (eL s1) k0 0 [.i (nth s1 (Int.toNat (Xj d a1)))])))] [5,9,52] [] [] (pG 4 (Xj d a1) hx13 (pN 6 hx16 p0)) ?_;refine eqn [(5, .o 960 (List.set s1 k0 (nth s1 (Int.toNat (Xj d a1)))))] [5] [] [] (by rw[Kh (y:=(nth s1 (Int.toNat (Xj d a1)))) hx16 rfl]<;>kernel_rfl) ?_;refine rn Qa [0,4,5,6,7,8] [] (pe 1 (Jh (Ql k1 (by omega))) p0) ?_;exact xw (List.set s1 k0 (nth s1 (Int.toNat (Xj d a1)))) ⟨Qr hx1 (Xf h12 (rfl)) hI1.1,(by first | omega | (simp only[List.length_set];omega))⟩
   refine Qf <| rn Qa [0,4,5,6,7,8] [] (pe 1 (Jh (Ql k1 (by omega))) p0) ?_
   exact xw s1 ⟨Qr hx1 (Qs h12 (rfl)) hI1.1,(by first | omega | (simp only[List.length_set];omega))⟩
  ·
   have hA1_0:=hI1.2;exact Qc <| su Qa [(31, .b false)] [] [] [] (pl 2 (Jj a0.2) (pe 3 (Qp (decide_eq_false (p:=((k1:Nat):Int)<((Jj a0.2).length:Int)) (by omega))) p0)) <| ckF <| Q2 <| xw s1 ⟨Xi hk1 (rfl) hI1.1,by first | omega | (simp only[List.length_set];omega)⟩
  have hD1_0:=hD1.2;refine sn Qa [0,4,5,6,10] [] (pn 2 hx0 (pc 5 (QG a0.2) p0)) <| tn Qa [0,4,5,6,10,11] [] (p0) <| mz [(10, .o 4160 (Jk a0.2)),(11, .i 0)] [] [] [] <| wT 10 0 (.own true 4160) (Jk a0.2) (fun hw17 hl18=> ?_)
  refine Qa5 (Az d k0) Fm (Jk a0.2) y1 (fun k2 s2=> [(5, .o 960 s2),(11, .i ((k2:Nat):Int))]) [5,11] (fun y2=> [(5, .o 960 y2)]) [5,10,11] (fun _ s2=>List.length s2=List.length y1) (fun y2=>List.length y2=List.length y1) wf0 (by simp) (fun k2 s2 hk2 hI2=> ?_) (fun k2 s2 hk2 hI2=> ?_) (fun y2 hD2=> ?_)
  ·
   have hA2_0:=hI2.2;obtain ⟨a2,hx2⟩:=Xh (l:=Jk a0.2) (i:=k2) hk2;refine Qc <| su Qa [(69, .b true)] [] [] [] (pl 2 (Jk a0.2) (pe 3 (Qp (decide_eq_true (p:=((k2:Nat):Int)<((Jk a0.2).length:Int)) (by omega))) p0)) <| ckT <| Qf <| Qc <| Qu <| sn Qa [0,4,5,6,10,11,12] [] (pN 3 hx2 (pc 5 (M4 d a2) p0)) <| Qc <| mz [(12, .i (Xj d a2))] [69] [] [] <| jn [(91, .b (decide ((Xj d a2)>=(0:Int))&&decide (IntKind.i64.wrap ((nth s2 (Int.toNat (Xj d a2)))+1)>(nth s2 k0))))] [] [] [] (decide ((Xj d a2)>=(0:Int))) (fun h19=> ?_) (fun h19=> ?_) ?_
   ·
    have h19p:=QI d a2;have h19d:=of_decide_eq_true h19;refine wT 5 0 (.own true 960) s2 (fun hw21 hl22=> ?_);have hx20:=ng s2 (Int.toNat (Xj d a2));have hx23:=ng s2 k0;refine rN Qa Zh [0,4,5,6,10,11,12,91] [] (pt 1 h19 (pG 5 (Xj d a2) hx20 (pN 10 hx23 p0))) ?_;exact ⟨rfl,Qd (by rw[h19]<;>kernel_rfl)⟩
   ·
    refine rU Qa Zh [(91, .b false)] [] [] [] (pf 1 h19 p0) ?_;exact ⟨rfl,Qd (by rw[h19]<;>kernel_rfl)⟩
   refine ck (decide ((Xj d a2)>=(0:Int))&&decide (IntKind.i64.wrap ((nth s2 (Int.toNat (Xj d a2)))+1)>(nth s2 k0))) (fun h24=> ?_) (fun h24=> ?_)
   ·
    have h24l:(decide ((Xj d a2)>=(0:Int)))=true:=UP h24;have h24lp:=QI d a2;have h24ld:=of_decide_eq_true h24l;have h24r:(decide (IntKind.i64.wrap ((nth s2 (Int.toNat (Xj d a2)))+1)>(nth s2 k0)))=true:=CJ h24;have h24rd:=of_decide_eq_true h24r;refine wT 5 0 (.own true 960) s2 (fun hw26 hl27=> ?_);have hx25:=ng s2 (Int.toNat (Xj d a2));have hx28:=ng s2 k0;refine ru Qa [(5, .one (.slc (.own true 960) 1 (setRow (eL s2) k0 0 [.i (IntKind.i64.wrap ((nth s2 (Int.toNat (Xj d a2)))+1))])))] [5,12,91] [] [] (pG 4 (Xj d a2) hx25 (pN 7 hx28 p0)) ?_;refine eqn [(5, .o 960 (List.set s2 k0 (IntKind.i64.wrap ((nth s2 (Int.toNat (Xj d a2)))+1))))] [5] [] [] (by rw[Kh (y:=IntKind.i64.wrap ((nth s2 (Int.toNat (Xj d a2)))+1)) hx28 rfl]<;>kernel_rfl) ?_;refine rn Qa [0,4,5,6,10,11] [] (pe 1 (Jh (Ql k2 (by omega))) p0) ?_;exact xw (List.set s2 k0 (IntKind.i64.wrap ((nth s2 (Int.toNat (Xj d a2)))+1))) ⟨Qr hx2 (Xf h24 (rfl)) hI2.1,(by first | omega | (simp only[List.length_set];omega))⟩
   refine Qf <| rn Qa [0,4,5,6,10,11] [] (pe 1 (Jh (Ql k2 (by omega))) p0) ?_
   exact xw s2 ⟨Qr hx2 (Qs h24 (rfl)) hI2.1,(by first | omega | (simp only[List.length_set];omega))⟩
  ·
   have hA2_0:=hI2.2;exact Qc <| su Qa [(69, .b false)] [] [] [] (pl 2 (Jk a0.2) (pe 3 (Qp (decide_eq_false (p:=((k2:Nat):Int)<((Jk a0.2).length:Int)) (by omega))) p0)) <| ckF <| Q2 <| xw s2 ⟨Xi hk2 (rfl) hI2.1,by first | omega | (simp only[List.length_set];omega)⟩
  have hD2_0:=hD2.2;refine rn Qa [0,4,5,6] [] (pe 1 (Jh (Ql k0 (by omega))) p0) ?_;exact xw y2 ⟨Qr hx0 (Wj hD1.1 (Wj hD2.1 (rfl))) hI0.1,(by first | omega | (simp only[List.length_set];omega))⟩
 ·
  have hA0_0:=hI0.2;exact Qc <| sn Qa [0,4,5,6,19] [] (pl 2 d (pe 3 (Qp (decide_eq_false (p:=((k0:Nat):Int)<(d.length:Int)) (by omega))) p0)) <| ckF <| Q2 <| xw s0 ⟨Xi hk0 (rfl) hI0.1,by first | omega | (simp only[List.length_set];omega)⟩
 have hD0_0:=hD0.2;exact sn Qa [4] [] (p0) <| Qg <| po0 [] (Wj hD0.1 (rfl))
theorem QK {α R S T:Type} {f:Nat->α->S->Rd R S T} {e:Nat->S->T} (I:S->Prop) (h:∀k a s,I s->∃s',f k a s= .next s'/\I s'):∀(l:List α) (k:Nat) (s:S),I s->∃s',Xp f e l k s= .brk (e (k+l.length) s')/\I s'
 | [],k,s,hs=>⟨s,by simp[Xp],hs⟩
 | a::l,k,s,hs=>by
   obtain ⟨s1,h1,h2⟩:=h k a s hs;obtain ⟨s2,h3,h4⟩:=QK I h l (k+1) s1 h2;refine ⟨s2, ?_,h4⟩;simp only[Xp,h1];rw[h3,List.length_cons,show k+1+l.length=k+(l.length+1) by omega]
theorem Qj3 (d:List Xw) (k0 n:Nat) (k:Nat) (a:ByteArray) (s:List Int) (hs:s.length=n):∃s',Ay d k0 k a s= .next s'/\s'.length=n:=by
 unfold Ay;generalize (decide ((Xj d a)>=(0:Int))&&decide ((nth s (Int.toNat (Xj d a)))>(nth s k0)))=c;cases c<;>exact ⟨_,rfl,by simpa using hs⟩
theorem Qj4 (d:List Xw) (k0 n:Nat) (k:Nat) (a:ByteArray) (s:List Int) (hs:s.length=n):∃s',Az d k0 k a s= .next s'/\s'.length=n:=by
 unfold Az;generalize (decide ((Xj d a)>=(0:Int))&&decide (IntKind.i64.wrap ((nth s (Int.toNat (Xj d a)))+1)>(nth s k0)))=c;cases c<;>exact ⟨_,rfl,by simpa using hs⟩
theorem Qj5 (d:List Xw) (n:Nat) (k:Nat) (a:Xw) (s:List Int) (hs:s.length=n):∃s',Hl d k a s= .next s'/\s'.length=n:=by
 unfold Hl;obtain ⟨s1,h1,h2⟩:=QK (e:=Ci) (fun s:List Int=>s.length=n) (Qj3 d k n) (Jj a.2) 0 s hs;obtain ⟨s2,h3,h4⟩:=QK (e:=Fm) (fun s:List Int=>s.length=n) (Qj4 d k n) (Jk a.2) 0 s1 h2;refine ⟨s2, ?_,h4⟩;rw[h1];simp only[Out.on,Ci];rw[h3];rfl
theorem FR (d:List Xw) (lev:List Int):List.length (W7 d lev)=List.length lev:=by
 unfold W7;obtain ⟨s1,h1,h2⟩:=QK (e:=Fn) (fun s:List Int=>s.length=lev.length) (Qj5 d lev.length) d 0 lev rfl;rw[h1];exact h2
theorem W8 {d:List Xw} (h:Qo d=true):List.length d<=5:=by
 unfold Qo at h;cases hf:Xp (Y0 d) Vj d 0 () with
 | brk t=>rw[hf] at h;simp only[Out.on,decide_eq_true_eq] at h;omega
 | ret r=>
   rw[hf] at h;obtain rfl:r=true:=h;exfalso
   have key:∀(l:List Xw) k,Xp (Y0 d) Vj l k ()≠ .ret true:=by
    intro l
    induction l with
    | nil=>intro k h;simp[Xp] at h
    | cons a l ih=>
      intro k h;simp only[Xp] at h;unfold Y0 at h;split at h
      . rename_i hf;exact ih _ h
      . cases h
      rename_i r hf;cases h;revert hf;generalize (_|| _:Bool)=c;cases c<;>simp
   exact key _ _ hf
theorem Qbm {d:List Xw} (h:Ye d=true):IntKind.i64.wrap (IntKind.i64.wrap ((d.length:Int)*(d.length:Int))+1)=((List.length d*List.length d+1:Nat):Int)/\((List.length d*List.length d+1:Nat):Int)<=26:=by
 have h5:=W8 ((Bv d).trans h);generalize List.length d=n at h5⊢;have:n=0\/n=1\/n=2\/n=3\/n=4\/n=5:=by omega
 rcases this with rfl | rfl | rfl | rfl | rfl | rfl<;>decide
def K2 (d:List Xw) (w:Int):List ByteArray->W0
 | []=> []
 | s::r=>if 0<=Q1 d s then (Int.toNat (Q1 d s),w)::K2 d w r else K2 d w r
theorem S8 (d:List Xw) (w:Int):∀(l:List ByteArray) (e:Nat×Int),e∈K2 d w l->e.2=w/\e.1<d.length
 | [],e,h=>by simp[K2] at h
 | s ::r,e,h=>by
   simp only[K2] at h;split at h
   . rename_i h0;rcases List.mem_cons.1 h with rfl | h
     . have:=(QH d s).2;exact ⟨rfl,by show Int.toNat _<_;omega⟩
     exact S8 d w r e h
   exact S8 d w r e h
def Jf (d:List Xw) (i:Nat):W0:=if i<d.length then K2 d 0 (Yr (nth d i).2)++K2 d 1 (X7 (nth d i).2) else []
theorem L5 (d:List Xw) (i:Nat) (e:Nat×Int) (h:e∈Jf d i):e.2<=1/\e.1<d.length/\i<d.length:=by
 unfold Jf at h;split at h
 . rename_i hi;rcases List.mem_append.1 h with h | h<;>(have:=S8 d _ _ e h;omega)
 simp at h
theorem Qez (E1 E2:W0) (L:List Int):Mk (E1++E2) L=max (Mk E1 L) (Mk E2 L):=by
 have h1:Mk (E1++E2) L<=max (Mk E1 L) (Mk E2 L):=Cd.2 ⟨by have:=S1 E1 L;omega,fun e he=>by
  rcases List.mem_append.1 he with he | he
  . have:=(Cd.1 (Int.le_refl (Mk E1 L))).2 e he;omega
  have:=(Cd.1 (Int.le_refl (Mk E2 L))).2 e he;omega⟩
 have h2:=Cd.1 (Int.le_refl (Mk (E1++E2) L));have h3:Mk E1 L<=Mk (E1++E2) L:=Cd.2 ⟨h2.1,fun e he=>h2.2 e (List.mem_append_left _ he)⟩;have h4:Mk E2 L<=Mk (E1++E2) L:=Cd.2 ⟨h2.1,fun e he=>h2.2 e (List.mem_append_right _ he)⟩;omega
theorem YD (d:List Xw) (L:List Int) (w:Int) (hw:0<=w/\w<=1) (hL:∀j,0<=nth L j/\nth L j<=1000000):∀(l:List ByteArray) (k:Nat) (m:Int),Xp (Bw d L w) Fl l k m= .brk ((K2 d w l).foldl (fun m e=>max m (nth L e.1+e.2)) m)
 | [],k,m=>rfl
 | s::r,k,m=>by
   simp only[Xp,Bw,K2];have hwr:∀j,IntKind.i64.wrap (nth L j+w)=nth L j+w:=fun j=>IntWalk.i64_in _ (by have:=hL j;omega)
   by_cases h:0<=Q1 d s
   . have h':decide (Q1 d s>=(0:Int))=true:=decide_eq_true h;rw[h',cond_true,if_pos h,hwr];exact YD d L w hw hL r (k+1) _
   have h':decide (Q1 d s>=(0:Int))=false:=decide_eq_false h;rw[h',cond_false,if_neg h];exact YD d L w hw hL r (k+1) _
theorem OO {d:List Xw} {L:List Int} {w:Int} (hw:0<=w/\w<=1) (hL:∀j,0<=nth L j/\nth L j<=1000000) (l:List ByteArray):X2 d L l w=Mk (K2 d w l) L:=by
 unfold X2;rw[YD d L w hw hL];rfl
theorem Qe0 {d:List Xw} {L:List Int} (hL:∀j,0<=nth L j/\nth L j<=1000000) {i:Nat} (hi:i<d.length):max (X2 d L (Yr (nth d i).2) 0) (X2 d L (X7 (nth d i).2) 1)=Mk (Jf d i) L:=by
 rw[OO (by omega) hL,OO (by omega) hL];unfold Jf;rw[if_pos hi,Qez]
abbrev OP (d:List Xw) (a:Xw) (L:List Int):Int:=max (X2 d L (Yr a.2) 0) (X2 d L (X7 a.2) 1)
abbrev Qbn:=Nat->Xw->List Int×Bool->Rd (Rd (List Int×Bool) (List Int×Bool) (List Int)) (List Int×Bool) (List Int×Bool)
def Qbo (d:List Xw) (f:Qbn):Prop:=∀k a s,f k a s=bif decide (OP d a s.1>(d.length:Int)) then .ret (.ret ([],false)) else (bif decide (OP d a s.1>nth s.1 k) then .next (List.set s.1 k (OP d a s.1),true) else .next (s.1,s.2))
theorem S9 {d:List Xw} {f:Qbn} {e:Nat->List Int×Bool->List Int×Bool} (hf:Qbo d f) (he:∀k s,e k s=s) (hd:d.length<=1000000):
 ∀ (l:List Xw) (k:Nat) (L:List Int) (c:Bool),d.drop k=l->L.length=d.length->(∀j,0<=nth L j/\nth L j<=(d.length:Int))->
   Xp f e l k (L,c)=(match Gk (Jf d) d.length (List.range' k l.length) (c,L) with
    | none=> .ret (.ret ([],false))
    | some s=> .brk (s.2,s.1))
 | [],k,L,c,_,_,_=>by simp[Xp,Gk,he]
 | a ::l,k,L,c,hl,hlen,hL=>by
   have hk:d[k]? =some a:=by
    have:=congrArg (·[0]?) hl;simpa using this
   have hkl:k<d.length:=(List.getElem?_eq_some_iff.1 hk).1;have ha:nth d k=a:=Ow hk;have hrest:d.drop (k+1)=l:=by rw[←List.drop_drop,hl];rfl
   have hb:∀j,0<=nth L j/\nth L j<=1000000:=fun j=>by have:=hL j;omega
   have hM:OP d a L=Mk (Jf d k) L:=by rw[←ha];exact Qe0 hb hkl
   simp only[Xp,hf k a (L,c),List.length_cons,List.range'_succ,Gk,hM];by_cases h1:(d.length:Int)<Mk (Jf d k) L
   . rw[decide_eq_true (show Mk (Jf d k) L>(d.length:Int) from h1),cond_true,if_pos h1]
   rw[decide_eq_false (show¬Mk (Jf d k) L>(d.length:Int) from h1),cond_false,if_neg h1];by_cases h2:nth L k<Mk (Jf d k) L
   . rw[decide_eq_true (show Mk (Jf d k) L>nth L k from h2),cond_true,if_pos h2];refine S9 hf he hd l (k+1) _ true hrest (by rw[List.length_set];exact hlen) fun j=> ?_
     have h0:=S1 (Jf d k) L;rw[S3 _ _ (by omega)];split
     . omega
     exact hL j
   rw[decide_eq_false (show¬Mk (Jf d k) L>nth L k from h2),cond_false,if_neg h2];exact S9 hf he hd l (k+1) L c hrest hlen hL
def Qjo:Option (List Int)->Out (List Int×Bool) (List Int)
 | none=> .ret ([],false)
 | some L=> .brk L
def Qg8 (d:List Xw) (f:Qbn) (e:Nat->List Int×Bool->List Int×Bool) (F:List Int×Bool->Rd (List Int×Bool) (List Int×Bool) (List Int)):Prop:=∀s,F s=bif s.2 then (Out.on (Xp f e d 0 (s.1,false)) fun y1=> .next (y1.1,y1.2)) else .brk s.1
theorem L6 {d:List Xw} {f:Qbn} {e:Nat->List Int×Bool->List Int×Bool} {F:List Int×Bool->Rd (List Int×Bool) (List Int×Bool) (List Int)} (hf:Qbo d f) (he:∀k s,e k s=s) (hF:Qg8 d f e F) (hd:d.length<=1000000):
 ∀(n:Nat) (L:List Int) (c:Bool),L.length=d.length->(∀j,0<=nth L j/\nth L j<=(d.length:Int))->whl F n (L,c)=(QA (Jf d) d.length d.length n (c,L)).map Qjo
 | 0,L,c,_,_=>rfl
 | n+1,L,false,_,_=>by
   simp only[whl,hF (L,false),cond_false,QA];rfl
 | n +1,L,true,hlen,hL=>by
   have hr:=S9 hf he hd d 0 L false rfl hlen hL;have e1:List.range' 0 d.length=List.range d.length:=(List.range_eq_range' ..).symm;rw[e1] at hr;simp only[whl,hF (L,true),cond_true,hr,QA];cases hc:Gk (Jf d) d.length (List.range d.length) (false,L) with
   | none=>rfl
   | some s=>
     obtain ⟨h1,_,_,h4⟩:=Ih (List.range d.length) false L s (fun i hi=>by rw[hlen];exact Dx hi) hc;have:=L6 hf he hF hd n s.2 s.1 (by rw[h1,Rf,hlen]) fun j=>⟨by rw[h1];exact Int.le_trans (hL j).1 (T9 (Jf d) j _ L),h4 (fun j=>(hL j).2) j⟩
     exact this
theorem Bx (n:Nat):(List.replicate n (0:Int)).length=n/\∀j,0<=nth (List.replicate n (0:Int)) j/\nth (List.replicate n (0:Int)) j<=(n:Int):=
 ⟨by simp,fun j=>by rw[JQ];omega⟩
theorem LW {d:List Xw} {f:Qbn} {e:Nat->List Int×Bool->List Int×Bool} {F:List Int×Bool->Rd (List Int×Bool) (List Int×Bool) (List Int)} (hf:Qbo d f) (he:∀k s,e k s=s) (hF:Qg8 d f e F) (hd:d.length<=1000000):
 (whl F (List.length d*List.length d+3) (List.replicate (Int.toNat (d.length:Int)) (0:Int),true)).isSome=true:=by
 rw[Int.toNat_natCast,L6 hf he hF hd _ _ _ (Bx _).1 (Bx _).2,Option.isSome_map];refine AT _ _ _ (Bx _).1 (fun j=>((Bx _).2 j).2) ?_;have:((List.length d*List.length d+3:Nat):Int)=(d.length:Int)*(d.length:Int)+3:=by rw[Int.natCast_add,Int.natCast_mul];rfl
 have h0:(List.replicate d.length (0:Int)).sum=0:=by simp
 rw[this,h0];omega
open GoE (enc wide)
def Dl (b:(List Int)) (k0:Nat) (a0:Int) (_:Unit):Rd (Bool) (Unit) (Unit):=(bif (a0 !=(nth b k0)) then (.ret false) else (.next ()))
def G2 (_:Nat) (_:Unit):Unit:=()
def Kd (a_:(List Int)) (b:(List Int)):Bool:=(bif ((a_.length:Int) !=(b.length:Int)) then false else (Out.on (Xp (Dl b) G2 a_ 0 ()) (fun _=>true)))
theorem I9 (a_:(List Int)) (b:(List Int)):ACalls Tryz.prog 171 [.h a_, .h b] (.b (Kd a_ b)):=by
 refine en Qa Tryz.func171 fun w0 F0 hG=> ?_
 refine sn Qa [0,1,4] [] (p0) <| Qc <| tn Qa [0,1,4,10] [] (pl 1 a_ (pl 3 b p0)) <| ck ((a_.length:Int) !=(b.length:Int)) (fun h1=> ?_) (fun h1=> ?_)
 ·
  exact tu Qa [(4, .b false)] [] [] [] (p0) <| Qg <| pb [] (Xf h1 (rfl))
 have h1d:=Wt h1;refine Qf <| Qc <| tu Qa [(4, .b false),(5, .i 0)] [] [] [] (p0) <| wT 0 0 .sh a_ (fun hw2 hl3=> ?_)
 refine Ox (Dl b) G2 a_ () (fun k0 _=> [(5, .i ((k0:Nat):Int))]) [5] (fun _=> []) [0,1,5] wf0 (fun k0 s0 hk0 hI0=> ?_) (fun k0 s0 hk0 hI0=> ?_) (fun y0 hD0=> ?_)
 ·
  obtain ⟨a0,hx0⟩:=Xh (l:=a_) (i:=k0) hk0;refine Qc <| sn Qa [0,1,4,5,14] [] (pl 2 a_ (pe 3 (Qp (decide_eq_true (p:=((k0:Nat):Int)<(a_.length:Int)) (by omega))) p0)) <| ckT <| Qf <| Qc <| Qu <| wT 1 0 .sh b (fun hw5 hl6=> ?_)
  have hx4:=ng b k0;refine tN Qa Zh [0,1,4,5,25] [] (pn 2 hx0 (pn 6 hx4 p0)) <| ck (a0 !=(nth b k0)) (fun h7=> ?_) (fun h7=> ?_)
  ·
   refine tu Qa [] [] [] [] (p0) <| Qg ?_
   have hr8:(Xp (Dl b) G2 a_ 0 ())= .ret false:=Jg hx0 (Xf h7 (rfl)) hI0;exact pb [] (Qs h1 (Oa hr8))
  have h7d:=Wt h7;refine Qf <| qu Qa [(5, .i ((k0+1:Nat):Int))] [5] [] [] (pe 1 (Jh (Ql k0 (by omega))) p0) ?_
  exact xw _ (Qr hx0 (Qs h7 (rfl)) hI0)
 ·
  exact Qc <| sn Qa [0,1,4,5,14] [] (pl 2 a_ (pe 3 (Qp (decide_eq_false (p:=((k0:Nat):Int)<(a_.length:Int)) (by omega))) p0)) <| ckF <| Q2 <| xw _ (Xi hk0 (rfl) hI0)
 exact sn Qa [4] [] (p0) <| Qg <| pb [] (Qs h1 (Wj hD0 (rfl)))
def La (d:(List Xw)) (_:Nat) (s0:(List Int)):Rd ((List Int)×Bool) ((List Int)) ((List Int)):=(.next (W7 d s0))
def Ok (_:Nat) (s0:(List Int)):(List Int):=s0
def Q8 (d:(List Xw)):(List Int)×Bool:=(bif (!(Ye d)) then ([],false) else (Out.on (Wu (La d) Ok (Int.toNat (IntKind.i64.wrap (IntKind.i64.wrap ((d.length:Int)*(d.length:Int))+1)+1)) 0 (List.replicate (Int.toNat (d.length:Int)) (0:Int))) (fun y0=>(bif (!(Kd (W7 d y0) y0)) then ([],false) else (y0,true)))))
theorem Ml (d:(List Xw)):ACalls Tryz.prog 177 [.h d] (.tup [(false, [.o 0 (((Q8 d)).1)]),(false, [.b (((Q8 d)).2)])]):=by
 refine en Qa Tryz.func177 fun w0 F0 hG=> ?_
 refine sn Qa [0,2,3] [] (p0) <| Qc <| tn Qa [0,2,3,8] [] (pc 1 (U8 d) p0) <| ck (!(Ye d)) (fun h1=> ?_) (fun h1=> ?_)
 ·
  exact tu Qa [(2, .one (.slc (.own true 576) 1 [])),(3, .b false)] [] [] [] (p0) <| Qg <| pz [] (show Q8 d=_ from Xf h1 (rfl)) (fun z=> .tup [(false, [.o 0 z.1]),(false, [.b z.2])])
 have h1n:(Ye d)=true:=Y3 h1;have h1nv:=Qbm h1n;refine Qf <| wT 0 0 .sh d (fun hw2 hl3=> ?_)
 refine tu Qa [(2, .e 0),(3, .b false),(4, .one (.slc (.own true 768) 1 (List.replicate (Int.toNat (d.length:Int)) [.i 0])))] [] [] [] (pl 1 d (px (Tw (lo:=0) (hi:=(d.length:Int)) (n:=1073741824) (⟨by omega,by omega,by omega⟩)) p0)) <| eqn [(4, .o 768 (List.replicate (Int.toNat (d.length:Int)) (0:Int)))] [4] [] [] (by rw[show (List.replicate (Int.toNat (d.length:Int)) [.i 0])=(eL (List.replicate (Int.toNat (d.length:Int)) (0:Int))) from Qek _ (0:Int)];first | done | kernel_rfl) ?_
 refine Qc <| sn Qa [0,2,3,4,5] [] (p0) <| mz [(5, .i 0)] [] [] [] <| Qkw (La d) Ok (Int.toNat (IntKind.i64.wrap (IntKind.i64.wrap ((d.length:Int)*(d.length:Int))+1)+1)) (List.replicate (Int.toNat (d.length:Int)) (0:Int)) (fun k0 s0=> [(4, .o 147203 s0),(5, .i ((k0:Nat):Int))]) [4,5] (fun y0=> [(4, .o 147353 y0)]) [4,5] (fun _ s0=>List.length s0=List.length d) (fun y0=>List.length y0=List.length d) (Xl [(768,147203)] (by kernel_rfl)) (by simp) (fun k0 s0 hk0 hI0=> ?_) (fun k0 s0 hk0 hI0=> ?_) (fun y0 hD0=> ?_)
 ·
  have hA0_0:=hI0.2;refine Qc <| sn Qa [0,2,3,4,5,20] [] (pl 2 d (pl 4 d (pe 7 (Qp (decide_eq_true (p:=((k0:Nat):Int)<=IntKind.i64.wrap (IntKind.i64.wrap ((d.length:Int)*(d.length:Int))+1)) (by omega))) p0))) <| ckT <| Qf <| Qc <| Qu <| qn Qa [0,2,3,4,5] [] (pc 2 (R0 d s0 (by omega)) p0) ?_
  refine qu Qa [(4, .o 1600 (W7 d s0)),(5, .i ((k0+1:Nat):Int))] [4,5] [] [] (pe 1 (Jh (Ql k0 (by omega))) p0) ?_;exact Exists.intro (W7 d s0) (And.intro (Xl [(1600,147203)] (by kernel_rfl)) ⟨Vi hk0 (rfl) hI0.1,(by have hz:=FR d s0;omega)⟩)
 ·
  have hA0_0:=hI0.2;exact Qc <| sn Qa [0,2,3,4,5,20] [] (pl 2 d (pl 4 d (pe 7 (Qp (decide_eq_false (p:=((k0:Nat):Int)<=IntKind.i64.wrap (IntKind.i64.wrap ((d.length:Int)*(d.length:Int))+1)) (by omega))) p0))) <| ckF <| Q2 <| Exists.intro s0 (And.intro (Xl [(147203,147353)] (by kernel_rfl)) ⟨Cw hk0 (rfl) hI0.1,by first | omega | (simp only[List.length_set];omega)⟩)
 have hD0_0:=hD0.2;refine Qc <| sn Qa [2,3,4,31] [] (pc 2 (R0 d y0 (by omega)) (pc 4 (I9 (W7 d y0) y0) p0)) <| ck (!(Kd (W7 d y0) y0)) (fun h4=> ?_) (fun h4=> ?_)
 ·
  exact tn Qa [2,3,4] [] (p0) <| Qg <| pz [] (show Q8 d=_ from Qs h1 (Wj hD0.1 (Xf h4 (rfl)))) (fun z=> .tup [(false, [.o 0 z.1]),(false, [.b z.2])])
 exact Qf <| tn Qa [2,3] [] (p0) <| Qg <| pz [] (show Q8 d=_ from Qs h1 (Wj hD0.1 (Qs h4 (rfl)))) (fun z=> .tup [(false, [.o 0 z.1]),(false, [.b z.2])])
def Uz (d:(List Xw)) (k1:Nat) (a1:Xw) (s1:(List Int)×Bool):Rd (Rd ((List Int)×Bool) ((List Int)×Bool) ((List Int))) ((List Int)×Bool) ((List Int)×Bool):=(bif decide ((max (X2 d s1.1 (Yr a1.2) 0) (X2 d s1.1 (X7 a1.2) 1))>(d.length:Int)) then (.ret (.ret ([],false))) else (bif decide ((max (X2 d s1.1 (Yr a1.2) 0) (X2 d s1.1 (X7 a1.2) 1))>(nth s1.1 k1)) then (.next (List.set s1.1 k1 (max (X2 d s1.1 (Yr a1.2) 0) (X2 d s1.1 (X7 a1.2) 1)),true)) else (.next (s1.1,s1.2))))
def U0 (_:Nat) (s1:(List Int)×Bool):(List Int)×Bool:=(s1.1,s1.2)
def Wa (d:(List Xw)) (s0:(List Int)×Bool):Rd ((List Int)×Bool) ((List Int)×Bool) ((List Int)):=(bif s0.2 then (Out.on (Xp (Uz d) U0 d 0 (s0.1,false)) (fun y1=>(.next (y1.1,y1.2)))) else (.brk s0.1))
def Qt (d:(List Xw)):(List Int)×Bool:=(bif (!(Qo d)) then ([],false) else (Out.on (Nj (Wa d) (List.length d*List.length d+3) ((List.replicate (Int.toNat (d.length:Int)) (0:Int)),true)) (fun y0=>(y0,true))))
theorem Ew (d:List Xw) (hd:d.length<=5):(whl (Wa d) (List.length d*List.length d+3) (List.replicate (Int.toNat (d.length:Int)) (0:Int),true)).isSome=true:=LW (f:=Uz d) (e:=U0) (fun _ _ _=>rfl) (fun _ _=>rfl) (fun _=>rfl) (by omega)
theorem Pq (d:(List Xw)):ACalls Tryz.prog 205 [.h d] (.tup [(false, [.o 0 (((Qt d)).1)]),(false, [.b (((Qt d)).2)])]):=by
 refine en Qa Tryz.func205 fun w0 F0 hG=> ?_
 refine sn Qa [0,2,3] [] (p0) <| Qc <| tn Qa [0,2,3,11] [] (pc 1 (Jl d) p0) <| ck (!(Qo d)) (fun h1=> ?_) (fun h1=> ?_)
 ·
  refine tu Qa [(2, .e 0),(3, .b false)] [] [] [] (p0) <| opn [(false,2,0,true,384000,1)] ?_
  exact Qg <| pz [] (show Qt d=_ from Xf h1 (rfl)) (fun z=> .tup [(false, [.o 0 z.1]),(false, [.b z.2])])
 have h1n:(Qo d)=true:=Y3 h1;refine Qf <| wT 0 0 .sh d (fun hw2 hl3=> ?_)
 refine tu Qa [(2, .e 0),(3, .b false),(4, .one (.slc (.own true 896) 1 (List.replicate (Int.toNat (d.length:Int)) [.i 0])))] [] [] [] (pl 1 d (px (Tw (lo:=0) (hi:=(d.length:Int)) (n:=1073741824) (⟨by omega,by omega,by omega⟩)) p0)) <| eqn [(4, .o 896 (List.replicate (Int.toNat (d.length:Int)) (0:Int)))] [4] [] [] (by rw[show (List.replicate (Int.toNat (d.length:Int)) [.i 0])=(eL (List.replicate (Int.toNat (d.length:Int)) (0:Int))) from Qek _ (0:Int)];first | done | kernel_rfl) ?_
 refine Qc <| sn Qa [0,2,3,4,5] [] (p0) <| mz [(5, .b true)] [] [] [] <| blw (fun (s0:(List Int)×Bool)=> [(4, .o 896 s0.1),(5, .b s0.2)]) [4,5] (fun s0=> []) [] (fun (y0:(List Int))=> [(4, .o 896 y0)]) [0,4,5] (fun y0=> []) [] (fun (k0:Nat) (s0:(List Int)×Bool)=>whl (Wa d) k0 s0=some (Nj (Wa d) (List.length d*List.length d+3) ((List.replicate (Int.toNat (d.length:Int)) (0:Int)),true))/\List.length s0.1=List.length d) (fun (y0:(List Int))=>(Nj (Wa d) (List.length d*List.length d+3) ((List.replicate (Int.toNat (d.length:Int)) (0:Int)),true))= .brk y0) (List.length d*List.length d+3) ((List.replicate (Int.toNat (d.length:Int)) (0:Int)),true) wf0 ⟨Oc (Ew d (W8 (h1n))),(by simp)⟩ (fun _ h=>P9 h.1) (fun k0 s0 hI0=> ?_) (fun y0 hD0=> ?_)
 ·
  have hA0_0:=hI0.2;refine Qc <| sn Qa [0,2,3,4,5,15] [] (p0) <| ck s0.2 (fun h4=> ?_) (fun h4=> ?_)
  ·
   refine Qf <| Qu <| tn Qa [0,2,3,4,5] [] (p0) <| tu Qa [(5, .b false),(16, .h d),(17, .i (d.length:Int)),(18, .i 0)] [5] [] [] (pl 1 d p0) <| Qa5 (Uz d) U0 d (s0.1,false) (fun k1 s1=> [(4, .o 896 s1.1),(5, .b s1.2),(18, .i ((k1:Nat):Int))]) [4,5,18] (fun y1=> [(4, .o 896 y1.1),(5, .b y1.2)]) [4,5,16,17,18] (fun _ s1=>List.length s1.1=List.length s0.1) (fun y1=>List.length y1.1=List.length s0.1) wf0 (by simp) (fun k1 s1 hk1 hI1=> ?_) (fun k1 s1 hk1 hI1=> ?_) (fun y1 hD1=> ?_)
   ·
    have hA1_0:=hI1.2;obtain ⟨a1,hx1⟩:=Xh (l:=d) (i:=k1) hk1;refine su Qa [(19, .b true)] [] [] [] (pe 0 (Qp (decide_eq_true (p:=((k1:Nat):Int)<(d.length:Int)) (by omega))) p0) <| Qc <| ckT <| Qf <| Qc <| Qu <| sn Qa [0,2,3,4,5,6,7,16,17,18] [7] (pn 1 hx1 p0) <| tN Qa Zh [0,2,3,4,5,6,8,16,17,18] [] (pc 4 (QD a1.2) (pc 5 (Nq d s1.1 (Yr a1.2) 0 (by omega)) (pc 10 (QE a1.2) (pc 11 (Nq d s1.1 (X7 a1.2) 1 (by omega)) p0)))) <| Qc <| tu Qa [(6, .i ((k1:Nat):Int)),(8, .i (max (X2 d s1.1 (Yr a1.2) 0) (X2 d s1.1 (X7 a1.2) 1))),(39, .b (decide ((max (X2 d s1.1 (Yr a1.2) 0) (X2 d s1.1 (X7 a1.2) 1))>(d.length:Int))))] [19] [] [] (pl 2 d p0) <| ck (decide ((max (X2 d s1.1 (Yr a1.2) 0) (X2 d s1.1 (X7 a1.2) 1))>(d.length:Int))) (fun h5=> ?_) (fun h5=> ?_)
    ·
     refine su Qa [] [39] [] [] (p0) <| opn [(false,2,0,true,384000,1)] ?_
     refine Qg ?_;have hr6:(Xp (Uz d) U0 d 0 (s0.1,false))= .ret (.ret ([],false)):=Jg hx1 (Xf h5 (rfl)) hI1.1;have hr7:(Nj (Wa d) (List.length d*List.length d+3) ((List.replicate (Int.toNat (d.length:Int)) (0:Int)),true))= .ret ([],false):=Qij (Xf h4 (Oa hr6)) hI0.1;exact pz [] (show Qt d=_ from Qs h1 (Oa hr7)) (fun z=> .tup [(false, [.o 0 z.1]),(false, [.b z.2])])
    have h5d:=of_decide_eq_false h5;refine Qf <| wT 4 0 (.own true 896) s1.1 (fun hw9 hl10=> ?_)
    have hx8:=ng s1.1 k1;refine sn Qa [0,2,3,4,5,6,8,16,17,18,45] [] (pN 3 hx8 p0) <| ck (decide ((max (X2 d s1.1 (Yr a1.2) 0) (X2 d s1.1 (X7 a1.2) 1))>(nth s1.1 k1))) (fun h11=> ?_) (fun h11=> ?_)
    ·
     have h11d:=of_decide_eq_true h11;refine tu Qa [(4, .one (.slc (.own true 896) 1 (setRow (eL s1.1) k1 0 [.i (max (X2 d s1.1 (Yr a1.2) 0) (X2 d s1.1 (X7 a1.2) 1))])))] [4,6,8,39] [] [] (pN 3 hx8 p0) <| eqn [(4, .o 896 (List.set s1.1 k1 (max (X2 d s1.1 (Yr a1.2) 0) (X2 d s1.1 (X7 a1.2) 1))))] [4] [] [] (by rw[Kh (y:=(max (X2 d s1.1 (Yr a1.2) 0) (X2 d s1.1 (X7 a1.2) 1))) hx8 rfl]<;>kernel_rfl) ?_
     refine ru Qa [(5, .b true)] [5] [] [] (p0) ?_;refine rn Qa [0,2,3,4,5,16,17,18] [] (pe 0 (Jh (Ql k1 (by omega))) p0) ?_;exact xw (List.set s1.1 k1 (max (X2 d s1.1 (Yr a1.2) 0) (X2 d s1.1 (X7 a1.2) 1)),true) ⟨Qr hx1 (Qs h5 (Xf h11 (rfl))) hI1.1,(by first | omega | (simp only[List.length_set];omega))⟩
    have h11d:=of_decide_eq_false h11;refine Qf <| qn Qa [0,2,3,4,5,16,17,18] [] (pe 0 (Jh (Ql k1 (by omega))) p0) ?_
    exact xw (s1.1,s1.2) ⟨Qr hx1 (Qs h5 (Qs h11 (rfl))) hI1.1,(by first | omega | (simp only[List.length_set];omega))⟩
   ·
    have hA1_0:=hI1.2;exact su Qa [(19, .b false)] [] [] [] (pe 0 (Qp (decide_eq_false (p:=((k1:Nat):Int)<(d.length:Int)) (by omega))) p0) <| Qc <| ckF <| Q2 <| xw (s1.1,s1.2) ⟨Xi hk1 (rfl) hI1.1,by first | omega | (simp only[List.length_set];omega)⟩
   have hD1_0:=hD1.2;exact xw (y1.1,y1.2) ⟨wn hI0.1 (Xf h4 (Wj hD1.1 (rfl))),(by first | omega | (simp only[List.length_set];omega))⟩
  exact Q2 <| xw _ (wb hI0.1 (Qs h4 (rfl)))
 exact sn Qa [2,3] [] (p0) <| Qg <| pz [] (show Qt d=_ from Qs h1 (Wj hD0 (rfl))) (fun z=> .tup [(false, [.o 0 z.1]),(false, [.b z.2])])
def Low (b:Int) (L:List Int):Prop:=∀j,0<=nth L j/\nth L j<=b
theorem OQ {b w:Int} {i:Nat} {L:List Int} {p:Nat} (hi:i<L.length) (hw:0<=w/\w<=1) (h:Low b L):Low (b+w) (XI i L (p,w)):=fun j=>by
 rw[JR _ hi];have h1:=h j;have h2:=h p;have h3:=h i;split
 . show 0<=max (nth L i) (nth L p+w)/\max (nth L i) (nth L p+w)<=b+w;omega
 omega
theorem LX (d:List Xw) (k0:Nat):∀(l:List ByteArray) (k:Nat) (s:List Int) (b:Int),k0<s.length->Low b s->Xp (Ay d k0) Ci l k s= .brk (Eb k0 (K2 d 0 l) s)/\Low b (Eb k0 (K2 d 0 l) s)
 | [],k,s,b,_,h=>⟨rfl,h⟩
 | a :: l,k,s,b,hk,h=>by
   have hf:Ay d k0 k a s=(bif (decide (0<=Q1 d a)&&decide (nth s k0<nth s (Int.toNat (Q1 d a)))) then .next (List.set s k0 (nth s (Int.toNat (Q1 d a)))) else .next s):=rfl;simp only[Xp,hf,K2];by_cases h0:0<=Q1 d a
   . rw [if_pos h0,decide_eq_true h0,Bool.true_and];have hb:Low b (XI k0 s (Int.toNat (Q1 d a),0)):=by have:=OQ (w:=0) (p:=Int.toNat (Q1 d a)) hk (by omega) h;simpa using this
     have hbk:Eb k0 ((Int.toNat (Q1 d a),0)::K2 d 0 l) s=Eb k0 (K2 d 0 l) (XI k0 s (Int.toNat (Q1 d a),0)):=rfl;rw[hbk];have ih:=LX d k0 l (k+1) (XI k0 s (Int.toNat (Q1 d a),0)) b (by rw[Oj];exact hk) hb;by_cases h1:nth s k0<nth s (Int.toNat (Q1 d a))
     . have e:XI k0 s (Int.toNat (Q1 d a),0)=List.set s k0 (nth s (Int.toNat (Q1 d a))):=by unfold XI;simp[h1]
       rw[decide_eq_true h1,cond_true];rw[e] at ih⊢;exact ih
     have e:XI k0 s (Int.toNat (Q1 d a),0)=s:=by unfold XI;simp[h1]
     rw[decide_eq_false h1,cond_false];rw[e] at ih⊢;exact ih
   rw[if_neg h0,decide_eq_false h0,Bool.false_and,cond_false];exact LX d k0 l (k+1) s b hk h
theorem LY (d:List Xw) (k0:Nat):∀(l:List ByteArray) (k:Nat) (s:List Int) (b:Int),k0<s.length->Low b s->b+l.length<=1000000->Xp (Az d k0) Fm l k s= .brk (Eb k0 (K2 d 1 l) s)/\Low (b+l.length) (Eb k0 (K2 d 1 l) s)
 | [],k,s,b,_,h,_=>⟨rfl,by show Low (b+((0:Nat):Int)) s;simpa using h⟩
 | a :: l,k,s,b,hk,h,hb=>by
   rw[List.length_cons] at hb⊢;have hf:Az d k0 k a s=(bif (decide (0<=Q1 d a)&&decide (nth s k0<IntKind.i64.wrap (nth s (Int.toNat (Q1 d a))+1))) then .next (List.set s k0 (IntKind.i64.wrap (nth s (Int.toNat (Q1 d a))+1))) else .next s):=rfl;simp only[Xp,hf,K2];have hl:b+((l.length+1:Nat):Int)=b+1+(l.length:Int):=by omega
   have hw:IntKind.i64.wrap (nth s (Int.toNat (Q1 d a))+1)=nth s (Int.toNat (Q1 d a))+1:=IntWalk.i64_in _ (by have:=h (Int.toNat (Q1 d a));omega);rw[hl] at hb⊢;by_cases h0:0<=Q1 d a
   . rw [if_pos h0,decide_eq_true h0,Bool.true_and,hw];have hlow:=OQ (w:=1) (p:=Int.toNat (Q1 d a)) hk (by omega) h;have hbk:Eb k0 ((Int.toNat (Q1 d a),1)::K2 d 1 l) s=Eb k0 (K2 d 1 l) (XI k0 s (Int.toNat (Q1 d a),1)):=rfl;rw[hbk];have ih:=LY d k0 l (k+1) (XI k0 s (Int.toNat (Q1 d a),1)) (b+1) (by rw[Oj];exact hk) hlow hb;by_cases h1:nth s k0<nth s (Int.toNat (Q1 d a))+1
     . have e:XI k0 s (Int.toNat (Q1 d a),1)=List.set s k0 (nth s (Int.toNat (Q1 d a))+1):=by unfold XI;rw[if_pos h1]
       rw[decide_eq_true h1,cond_true];rw[e] at ih⊢;exact ih
     have e:XI k0 s (Int.toNat (Q1 d a),1)=s:=by unfold XI;rw[if_neg h1]
     rw[decide_eq_false h1,cond_false];rw[e] at ih⊢;exact ih
   rw[if_neg h0,decide_eq_false h0,Bool.false_and,cond_false];exact LY d k0 l (k+1) s (b+1) hk (fun j=>by have:=h j;omega) hb
theorem VP (q:List Yu) (b:Bool):∀(l:List Bool) (k:Nat) (s:List ByteArray),∃t,Xp (Wl q b) H2 l k s= .brk t/\t.length<=s.length+l.length
 | [],k,s=>⟨s,rfl,by simp⟩
 | a ::l,k,s=>by
   simp only[Xp,Wl];cases (Jc (nth q k)&&(a==b)) with
   | true=>
     obtain ⟨t,h1,h2⟩:=VP q b l (k+1) (s++ [(nth q k).2.2.2.1]);exact ⟨t,h1,by simp at h2⊢;omega⟩
   | false=>
     obtain ⟨t,h1,h2⟩:=VP q b l (k+1) s;exact ⟨t,h1,by simp at h2⊢;omega⟩
theorem Qe1 (q:List Yu):List.length (Yc q)<=9:=by
 cases hv:Q3 q with
 | true=>have:=Sz q;have:=(VH hv).2;omega
 | false=>unfold Yc;rw[hv];simp
theorem Qlg (q:List Yu) (b:Bool):List.length (W4 q b)<=9:=by
 unfold W4;obtain ⟨t,h1,h2⟩:=VP q b (Yc q) 0 [];rw[h1];have h3:=Qe1 q;have h4:=Qbe (Pk t);rw[FJ] at h4;show (VI (Pk t)).length<=9;simp at h2;omega
theorem Qbp (i:Nat) (E1 E2:W0) (L:List Int):Eb i (E1++E2) L=Eb i E2 (Eb i E1 L):=List.foldl_append
theorem Qiu {d:List Xw} {k:Nat} {a:Xw} {s:List Int} {b:Int} (hk:d[k]? =some a) (hs:s.length=d.length) (h:Low b s) (hb:b+9<=1000000):Hl d k a s= .next (Eb k (Jf d k) s)/\Low (b+9) (Eb k (Jf d k) s):=by
 have hkl:k<d.length:=(List.getElem?_eq_some_iff.1 hk).1;have ha:nth d k=a:=Ow hk;obtain ⟨h1,h2⟩:=LX d k (Yr a.2) 0 s b (by omega) h;have h9:(X7 a.2).length<=9:=Qlg a.2 true;obtain ⟨h3,h4⟩:=LY d k (X7 a.2) 0 (Eb k (K2 d 0 (Yr a.2)) s) b (by rw[Ly];omega) h2 (by omega);have he:Jf d k=K2 d 0 (Yr a.2)++K2 d 1 (X7 a.2):=by unfold Jf;rw[if_pos hkl,ha]
 rw[he,Qbp];refine ⟨?_,fun j=>by have:=h4 j;omega⟩;unfold Hl;rw[RT,RU,h1];simp only[Out.on];rw[h3]
theorem AY {d:List Xw}:∀(l:List Xw) (k:Nat) (s:List Int) (b:Int),d.drop k=l->s.length=d.length->Low b s->b+9*l.length<=1000000->Xp (Hl d) Fn l k s= .brk (Di (Jf d) (List.range' k l.length) s)/\Low (b+9*l.length) (Di (Jf d) (List.range' k l.length) s)
 | [],k,s,b,_,_,h,_=>⟨rfl,by show Low (b+9*((0:Nat):Int)) s;simpa using h⟩
 | a ::l,k,s,b,hl,hs,h,hb=>by
   have hk:d[k]? =some a:=by
    have:=congrArg (·[0]?) hl;simpa using this
   have hrest:d.drop (k+1)=l:=by rw[←List.drop_drop,hl];rfl
   rw[List.length_cons] at hb⊢;obtain ⟨h1,h2⟩:=Qiu hk hs h (by omega);have e:b+9*((l.length+1:Nat):Int)=b+9+9*(l.length:Int):=by omega
   rw[e] at hb⊢;obtain ⟨h3,h4⟩:=AY l (k+1) (Eb k (Jf d k) s) (b+9) hrest (by rw[Ly];exact hs) h2 hb;simp only[Xp,h1,List.range'_succ];exact ⟨h3,h4⟩
theorem AZ {d:List Xw} {s:List Int} {b:Int} (hs:s.length=d.length) (h:Low b s) (hb:b+9*d.length<=1000000):W7 d s=Di (Jf d) (List.range d.length) s/\Low (b+9*d.length) (Di (Jf d) (List.range d.length) s):=by
 obtain ⟨h1,h2⟩:=AY d 0 s b rfl hs h hb;have e1:List.range' 0 d.length=List.range d.length:=(List.range_eq_range' ..).symm;rw[e1] at h1 h2;refine ⟨?_,h2⟩;unfold W7;rw[h1];rfl
theorem VQ {d:List Xw} (hd:d.length<=5):∀(n k m:Nat),m+n<=1000->Low (45*m) (Cf (Jf d) d.length m)->Wu (La d) Ok n k (Cf (Jf d) d.length m)= .brk (Cf (Jf d) d.length (m+n))/\Low (45*(m+n)) (Cf (Jf d) d.length (m+n))
 | 0,k,m,_,h=>⟨rfl,by simpa using h⟩
 | n+1,k,m,hm,h=>by
   obtain ⟨h1,h2⟩:=AZ (Ri (Jf d) d.length m) h (by omega);have e:Cf (Jf d) d.length (m+1)=Di (Jf d) (List.range d.length) (Cf (Jf d) d.length m):=rfl;simp only[Wu,La,h1];rw[←e] at h2⊢;have:=VQ hd n (k+1) (m+1) (by omega) (fun j=>by have:=h2 j;omega);rw[show m+(n+1)=m+1+n by omega];refine ⟨this.1,fun j=>by have:=this.2 j;omega⟩
theorem Qbq (b:List Int):∀(l:List Int) (k:Nat),l.length=(b.drop k).length->Out.on (Xp (Dl b) G2 l k ()) (fun _=>true)=decide (l=b.drop k)
 | [],k,h=>by
   have:b.drop k= []:=List.eq_nil_of_length_eq_zero (by rw[←h];rfl);rw[this];rfl
 | a ::l,k,h=>by
   have hk:k<b.length:=by simp only[List.length_cons,List.length_drop] at h;omega
   have hd:b.drop k=nth b k::b.drop (k+1):=by
    rw[List.drop_eq_getElem_cons hk,show nth b k=b[k] by simp[nth,List.getD,hk]]
   rw[hd] at h⊢;simp only[Xp,Dl];by_cases e:a=nth b k
   . rw[show (a !=nth b k)=false by simp[e],cond_false,Qbq b l (k+1) (by simpa using h)];simp[e]
   rw[show (a !=nth b k)=true by simp[e],cond_true];simp[e,Out.on]
theorem Qbr (a b:List Int) (h:a.length=b.length):Kd a b=decide (a=b):=by
 unfold Kd;rw[show ((a.length:Int) !=(b.length:Int))=false by simp[h],cond_false,Qbq b a 0 (by simpa using h),List.drop_zero]
theorem Wm (d:List Xw):Q8 d=Qt d:=by
 unfold Q8 Qt;rw[←Bv];cases hv:Qo d with
 | false=>rfl
 | true=>
   have h5:=W8 hv;obtain ⟨hn,_⟩:=Qbm ((Bv d).symm.trans hv);simp only[Bool.not_true,cond_false];have hz:Cf (Jf d) d.length 0=List.replicate (Int.toNat (d.length:Int)) (0:Int):=by rw[Int.toNat_natCast];rfl
   have hnn:d.length*d.length<=25:=Nat.le_trans (Nat.mul_le_mul h5 h5) (by decide);obtain ⟨h1,h2⟩:=VQ (d:=d) h5 (d.length*d.length+2) 0 0 (by omega) (fun j=>by rw[hz,Int.toNat_natCast,JQ];omega);rw[hz,Nat.zero_add] at h1;rw[Nat.zero_add] at h2;rw[hn,show Int.toNat (((d.length*d.length+1:Nat):Int)+1)=d.length*d.length+2 by omega,h1];simp only[Out.on];have hlen:=Ri (Jf d) d.length (d.length*d.length+2);obtain ⟨h3,_⟩:=AZ (d:=d) hlen h2 (by omega);rw[h3,Qbr _ _ (by rw[S6])];have hw:=L6 (d:=d) (f:=Uz d) (e:=U0) (F:=Wa d) (fun _ _ _=>rfl) (fun _ _=>rfl) (fun _=>rfl) (by omega) (d.length*d.length+3) (List.replicate d.length 0) true (Bx _).1 (Bx _).2
   have hsome:(QA (Jf d) d.length d.length (d.length*d.length+3) (true,List.replicate d.length 0)).isSome=true:=by
    have:=Ew d h5;rw[Int.toNat_natCast,hw,Option.isSome_map] at this;exact this
   obtain ⟨r,hr⟩:=Option.isSome_iff_exists.1 hsome;unfold Nj;rw[Int.toNat_natCast,hw,hr];obtain ⟨h6,h7⟩:=Qbj (E:=Jf d) (n:=d.length) (fun i e he=>L5 d i e he) hr;by_cases hfix:Di (Jf d) (List.range d.length) (Cf (Jf d) d.length (d.length*d.length+2))=Cf (Jf d) d.length (d.length*d.length+2)
   . rw[h6 hfix,decide_eq_true hfix];rfl
   rw[h7 hfix,decide_eq_false hfix];rfl
open GoE (enc wide)
def Bj (name:ByteArray) (_:Nat) (a0:Kt) (_:Unit):Rd (Int) (Unit) (Unit):=(bif (a0.1.toList==name.toList) then (.ret a0.2) else (.next ()))
def Dy (_:Nat) (_:Unit):Unit:=()
def Fo (s_:(List Kt)) (name:ByteArray):Int:=(Out.on (Xp (Bj name) Dy s_ 0 ()) (fun _=>0))
theorem VT (s_:(List Kt)) (name:ByteArray):ACalls Tryz.prog 281 [.h s_, .s name] (.i (Fo s_ name)):=by
 refine en Qa Tryz.func281 fun w0 F0 hG=> ?_
 refine sn Qa [0,1,4] [] (p0) <| Qc <| tn Qa [1,4,7,8,9] [] (pl 1 s_ p0) <| mz [(4, .i 0),(7, .h s_),(8, .i (s_.length:Int)),(9, .i 0)] [0] [] [] <| wT 7 0 .sh s_ (fun hw1 hl2=> ?_)
 refine Ox (Bj name) Dy s_ () (fun k0 _=> [(9, .i ((k0:Nat):Int))]) [9] (fun _=> []) [1,7,8,9] wf0 (fun k0 s0 hk0 hI0=> ?_) (fun k0 s0 hk0 hI0=> ?_) (fun y0 hD0=> ?_)
 ·
  obtain ⟨a0,hx0⟩:=Xh (l:=s_) (i:=k0) hk0;refine sn Qa [1,4,7,8,9,10] [] (pe 0 (Qp (decide_eq_true (p:=((k0:Nat):Int)<(s_.length:Int)) (by omega))) p0) <| Qc <| ckT <| Qf <| Qc <| Qu <| tn Qa [1,4,6,7,8,9] [6] (pn 0 hx0 p0) <| tu Qa [(6, .p 6 0),(16, .b (a0.1.toList==name.toList))] [] [(6, [.s a0.1, .i a0.2])] [] (p0) <| ck (a0.1.toList==name.toList) (fun h3=> ?_) (fun h3=> ?_)
  ·
   refine sn Qa [1,4,7,8,9] [] (p0) <| Qg ?_
   have hr4:(Xp (Bj name) Dy s_ 0 ())= .ret a0.2:=Jg hx0 (Xf h3 (rfl)) hI0;exact pi [] (Oa hr4)
  refine Qf <| rn Qa [1,4,7,8,9] [] (pe 0 (Jh (Ql k0 (by omega))) p0) ?_
  exact xw _ (Qr hx0 (Qs h3 (rfl)) hI0)
 ·
  exact sn Qa [1,4,7,8,9,10] [] (pe 0 (Qp (decide_eq_false (p:=((k0:Nat):Int)<(s_.length:Int)) (by omega))) p0) <| Qc <| ckF <| Q2 <| xw _ (Xi hk0 (rfl) hI0)
 exact sn Qa [4] [] (p0) <| Qg <| pi [] (Wj hD0 (rfl))
def Zf (s_:(List Kt)) (name:ByteArray) (v:De):Bool:=((Ki v)&&((v.1 !=(0:Int))&&(v.1==(Fo s_ name))))
theorem L7 (s_:(List Kt)) (name:ByteArray) (v:De):ACalls Tryz.prog 243 [.h s_, .s name, .a [.i v.1, .i v.2.1, .s v.2.2]] (.b (Zf s_ name v)):=by
 refine en Qa Tryz.func243 fun w0 F0 hG=> ?_
 refine sn Qa [0,1,5,6] [5] (p0) <| Qc <| mz [(5, .p 5 0),(6, .b false)] [2] [(5, [.i v.1, .i v.2.1, .s v.2.2])] [] <| jn [(6, .b ((Ki v)&&((v.1 !=(0:Int))&&(v.1==(Fo s_ name)))))] [0,1,5,6] [] [5] (Ki v) (fun h1=> ?_) (fun h1=> ?_) ?_
 ·
  refine X5 (v.1 !=(0:Int)) (fun h2=> ?_) (fun h2=> ?_)
  ·
   refine rN Qa Zh [6] [] (pc 1 (cb h1 (V8 v)) (pt 5 h2 (pc 12 (VT s_ name) p0))) ?_;exact ⟨rfl,Qd (by rw[h1,h2]<;>kernel_rfl)⟩
  refine rN Qa Zh [6] [] (pc 1 (cb h1 (V8 v)) (pf 5 h2 p0)) ?_;exact ⟨rfl,Qd (by rw[h1,h2]<;>kernel_rfl)⟩
 ·
  refine rN Qa Zh [6] [] (pc 1 (cb h1 (V8 v)) p0) ?_;exact ⟨rfl,Qd (by rw[h1]<;>kernel_rfl)⟩
 exact Qg <| pb [] (show Zf s_ name v=((Ki v)&&((v.1 !=(0:Int))&&(v.1==(Fo s_ name)))) from rfl)
def Zz (n:Int):Bool:=(Zm n 0 2)
theorem W9 (n:Int):ACalls Tryz.prog 66 [.i n] (.b (Zz n)):=by
 refine en Qa Tryz.func66 fun w0 F0 hG=> ?_
 exact sn Qa [0,2] [] (p0) <| tn Qa [2] [] (pc 1 (Ku n 0 2) p0) <| Qg <| pb [] (show Zz n=(Zm n 0 2) from rfl)
def Kv (s_:(List Kt)) (k0:Nat) (a0:Kt) (_:Unit):Rd (Bool) (Unit) (Unit):=(bif ((!(Za a0.1))|| (bif (a0.2 !=(1:Int)) then ((a0.2 !=(2:Int))|| (decide (((k0:Nat):Int)>(0:Int))&&(!(Op.bytesLess ((nth s_ (Int.toNat (((k0:Nat):Int)-1))).1).toList a0.1.toList)))) else (decide (((k0:Nat):Int)>(0:Int))&&(!(Op.bytesLess ((nth s_ (Int.toNat (((k0:Nat):Int)-1))).1).toList a0.1.toList))))) then (.ret false) else (.next ()))
def Wi (_:Nat) (_:Unit):Unit:=()
def Jm (s_:(List Kt)):Bool:=(Out.on (Xp (Kv s_) Wi s_ 0 ()) (fun _=>decide ((s_.length:Int)<=(5:Int))))
theorem Be (s_:(List Kt)):ACalls Tryz.prog 215 [.h s_] (.b (Jm s_)):=by
 refine en Qa Tryz.func215 fun w0 F0 hG=> ?_
 refine sn Qa [0,2] [] (p0) <| Qc <| tn Qa [0,2,5,6,7] [] (pl 1 s_ p0) <| mz [(2, .b false),(5, .h s_),(6, .i (s_.length:Int)),(7, .i 0)] [] [] [] <| wT 0 0 .sh s_ (fun hw1 hl2=> ?_)
 refine Ox (Kv s_) Wi s_ () (fun k0 _=> [(7, .i ((k0:Nat):Int))]) [7] (fun _=> []) [5,6,7] wf0 (fun k0 s0 hk0 hI0=> ?_) (fun k0 s0 hk0 hI0=> ?_) (fun y0 hD0=> ?_)
 ·
  obtain ⟨a0,hx0⟩:=Xh (l:=s_) (i:=k0) hk0;refine sn Qa [0,2,5,6,7,8] [] (pe 0 (Qp (decide_eq_true (p:=((k0:Nat):Int)<(s_.length:Int)) (by omega))) p0) <| Qc <| ckT <| Qf <| Qc <| Qu <| tn Qa [0,2,3,4,5,6,7] [4] (pn 1 hx0 p0) <| Qc <| mz [(3, .i ((k0:Nat):Int)),(4, .p 4 0)] [] [(4, [.s a0.1, .i a0.2])] [] <| jn [(40, .b ((!(Za a0.1))|| (bif (a0.2 !=(1:Int)) then ((a0.2 !=(2:Int))|| (decide (((k0:Nat):Int)>(0:Int))&&(!(Op.bytesLess ((nth s_ (Int.toNat (((k0:Nat):Int)-1))).1).toList a0.1.toList)))) else (decide (((k0:Nat):Int)>(0:Int))&&(!(Op.bytesLess ((nth s_ (Int.toNat (((k0:Nat):Int)-1))).1).toList a0.1.toList))))))] [3,4] [] [4] (!(Za a0.1)) (fun h3=> ?_) (fun h3=> ?_) ?_
  ·
   have h3n:(Za a0.1)=false:=Vd h3;refine rN Qa Zh [0,2,5,6,7,40] [] (pc 2 (cb h3n (Zs a0.1)) (pe 3 (show .b (!false)= .b true from rfl) p0)) ?_;exact ⟨rfl,Qd (by rw[h3]<;>kernel_rfl)⟩
  ·
   have h3n:(Za a0.1)=true:=Y3 h3;refine X5 (a0.2 !=(1:Int)) (fun h4=> ?_) (fun h4=> ?_)
   ·
    have h4d:=T2 h4;refine X5 (a0.2 !=(2:Int)) (fun h5=> ?_) (fun h5=> ?_)
    ·
     refine rN Qa Zh [0,2,5,6,7,40] [] (pc 2 (cb h3n (Zs a0.1)) (pe 3 (show .b (!true)= .b false from rfl) (pt 7 h4 (pt 11 h5 p0)))) ?_;exact ⟨rfl,Qd (by rw[h3,h4,h5]<;>kernel_rfl)⟩
    have h5d:=Wt h5;refine X5 (decide (((k0:Nat):Int)>(0:Int))) (fun h6=> ?_) (fun h6=> ?_)
    ·
     have h6d:=of_decide_eq_true h6;have hx7:=ng s_ (Int.toNat (((k0:Nat):Int)-1));refine rN Qa Zh [0,2,5,6,7,40] [] (pc 2 (cb h3n (Zs a0.1)) (pe 3 (show .b (!true)= .b false from rfl) (pt 7 h4 (pf 11 h5 (pt 16 h6 (pe 20 (Jh (IntWalk.i64_in (((k0:Nat):Int)-1) (by omega))) (pg 21 (((k0:Nat):Int)-1) hx7 p0))))))) ?_;exact ⟨rfl,Qd (by rw[h3,h4,h5,h6]<;>kernel_rfl)⟩
    refine rN Qa Zh [0,2,5,6,7,40] [] (pc 2 (cb h3n (Zs a0.1)) (pe 3 (show .b (!true)= .b false from rfl) (pt 7 h4 (pf 11 h5 (pf 16 h6 p0))))) ?_;exact ⟨rfl,Qd (by rw[h3,h4,h5,h6]<;>kernel_rfl)⟩
   have h4d:=Wt h4;refine X5 (decide (((k0:Nat):Int)>(0:Int))) (fun h8=> ?_) (fun h8=> ?_)
   ·
    have h8d:=of_decide_eq_true h8;have hx9:=ng s_ (Int.toNat (((k0:Nat):Int)-1));refine rN Qa Zh [0,2,5,6,7,40] [] (pc 2 (cb h3n (Zs a0.1)) (pe 3 (show .b (!true)= .b false from rfl) (pf 7 h4 (pt 16 h8 (pe 20 (Jh (IntWalk.i64_in (((k0:Nat):Int)-1) (by omega))) (pg 21 (((k0:Nat):Int)-1) hx9 p0)))))) ?_;exact ⟨rfl,Qd (by rw[h3,h4,h8]<;>kernel_rfl)⟩
   refine rN Qa Zh [0,2,5,6,7,40] [] (pc 2 (cb h3n (Zs a0.1)) (pe 3 (show .b (!true)= .b false from rfl) (pf 7 h4 (pf 16 h8 p0)))) ?_;exact ⟨rfl,Qd (by rw[h3,h4,h8]<;>kernel_rfl)⟩
  refine ck ((!(Za a0.1))|| (bif (a0.2 !=(1:Int)) then ((a0.2 !=(2:Int))|| (decide (((k0:Nat):Int)>(0:Int))&&(!(Op.bytesLess ((nth s_ (Int.toNat (((k0:Nat):Int)-1))).1).toList a0.1.toList)))) else (decide (((k0:Nat):Int)>(0:Int))&&(!(Op.bytesLess ((nth s_ (Int.toNat (((k0:Nat):Int)-1))).1).toList a0.1.toList))))) (fun h10=> ?_) (fun h10=> ?_)
  ·
   refine su Qa [] [40] [] [] (p0) <| Qg ?_
   have hr11:(Xp (Kv s_) Wi s_ 0 ())= .ret false:=Jg hx0 (Xf h10 (rfl)) hI0;exact pb [] (Oa hr11)
  refine Qf <| rn Qa [0,2,5,6,7] [] (pe 0 (Jh (Ql k0 (by omega))) p0) ?_
  exact xw _ (Qr hx0 (Qs h10 (rfl)) hI0)
 ·
  exact sn Qa [0,2,5,6,7,8] [] (pe 0 (Qp (decide_eq_false (p:=((k0:Nat):Int)<(s_.length:Int)) (by omega))) p0) <| Qc <| ckF <| Q2 <| xw _ (Xi hk0 (rfl) hI0)
 exact sn Qa [2] [] (pl 1 s_ p0) <| Qg <| pb [] (Wj hD0 (rfl))
def Zd (s_:(List Kt)) (f:Xc) (k0:Nat) (a0:E6) (_:Unit):Rd (Bool) (Unit) (Unit):=(bif (bif decide (((k0:Nat):Int)>(0:Int)) then ((!(Op.bytesLess ((nth f.2.2.2.2 (Int.toNat (((k0:Nat):Int)-1))).1).toList a0.1.toList))|| (!(Zf s_ a0.1 a0.2))) else (!(Zf s_ a0.1 a0.2))) then (.ret false) else (.next ()))
def K0 (_:Nat) (_:Unit):Unit:=()
def X3 (s_:(List Kt)) (f:Xc):Bool:=(Out.on (Xp (Zd s_ f) K0 f.2.2.2.2 0 ()) (fun _=>((Zm f.1 1 60)&&((Zz f.2.1)&&((Zm f.2.2.2.1 0 60)&&(Jm s_))))))
theorem U9 (s_:(List Kt)) (f:Xc):ACalls Tryz.prog 196 [.h s_, .a [.i f.1, .i f.2.1, .b f.2.2.1, .i f.2.2.2.1, .h f.2.2.2.2]] (.b (X3 s_ f)):=by
 refine en Qa Tryz.func196 fun w0 F0 hG=> ?_
 refine sn Qa [0,3,4] [3] (p0) <| Qc <| tn Qa [0,3,4,8,9,10] [3] (pl 2 f.2.2.2.2 p0) <| mz [(3, .p 3 0),(4, .b false),(8, .h f.2.2.2.2),(9, .i (f.2.2.2.2.length:Int)),(10, .i 0)] [1] [(3, [.i f.1, .i f.2.1, .b f.2.2.1, .i f.2.2.2.1, .h f.2.2.2.2])] [] <| wT 8 0 .sh f.2.2.2.2 (fun hw1 hl2=> ?_)
 refine Ox (Zd s_ f) K0 f.2.2.2.2 () (fun k0 _=> [(10, .i ((k0:Nat):Int))]) [10] (fun _=> []) [8,9,10] wf0 (fun k0 s0 hk0 hI0=> ?_) (fun k0 s0 hk0 hI0=> ?_) (fun y0 hD0=> ?_)
 ·
  obtain ⟨a0,hx0⟩:=Xh (l:=f.2.2.2.2) (i:=k0) hk0;refine su Qa [(11, .b true)] [] [] [] (pe 0 (Qp (decide_eq_true (p:=((k0:Nat):Int)<(f.2.2.2.2.length:Int)) (by omega))) p0) <| Qc <| ckT <| Qf <| Qc <| Qu <| sn Qa [0,3,4,5,6,8,9,10] [3,6] (pn 1 hx0 p0) <| Qc <| mz [(5, .i ((k0:Nat):Int)),(6, .p 6 0)] [11] [(6, [.s a0.1, .i a0.2.1, .i a0.2.2.1, .s a0.2.2.2])] [] <| jn [(37, .b (bif decide (((k0:Nat):Int)>(0:Int)) then ((!(Op.bytesLess ((nth f.2.2.2.2 (Int.toNat (((k0:Nat):Int)-1))).1).toList a0.1.toList))|| (!(Zf s_ a0.1 a0.2))) else (!(Zf s_ a0.1 a0.2))))] [5,6] [] [6] (decide (((k0:Nat):Int)>(0:Int))) (fun h3=> ?_) (fun h3=> ?_) ?_
  ·
   have h3d:=of_decide_eq_true h3;refine X5 (!(Op.bytesLess ((nth f.2.2.2.2 (Int.toNat (((k0:Nat):Int)-1))).1).toList a0.1.toList)) (fun h4=> ?_) (fun h4=> ?_)
   ·
    have hx5:=ng f.2.2.2.2 (Int.toNat (((k0:Nat):Int)-1));refine rN Qa Zh [0,3,4,8,9,10,37] [3] (pt 1 h3 (pe 6 (Jh (IntWalk.i64_in (((k0:Nat):Int)-1) (by omega))) (pg 7 (((k0:Nat):Int)-1) hx5 (pt 12 h4 p0)))) ?_;exact ⟨rfl,Qd (by rw[h3,h4]<;>kernel_rfl)⟩
   have hx6:=ng f.2.2.2.2 (Int.toNat (((k0:Nat):Int)-1));refine rN Qa Zh [0,3,4,8,9,10,37] [3] (pt 1 h3 (pe 6 (Jh (IntWalk.i64_in (((k0:Nat):Int)-1) (by omega))) (pg 7 (((k0:Nat):Int)-1) hx6 (pf 12 h4 (pc 20 (L7 s_ a0.1 a0.2) p0))))) ?_;exact ⟨rfl,Qd (by rw[h3,h4]<;>kernel_rfl)⟩
  ·
   refine rN Qa Zh [0,3,4,8,9,10,37] [3] (pf 1 h3 (pc 20 (L7 s_ a0.1 a0.2) p0)) ?_;exact ⟨rfl,Qd (by rw[h3]<;>kernel_rfl)⟩
  refine ck (bif decide (((k0:Nat):Int)>(0:Int)) then ((!(Op.bytesLess ((nth f.2.2.2.2 (Int.toNat (((k0:Nat):Int)-1))).1).toList a0.1.toList))|| (!(Zf s_ a0.1 a0.2))) else (!(Zf s_ a0.1 a0.2))) (fun h7=> ?_) (fun h7=> ?_)
  ·
   refine su Qa [] [37] [] [] (p0) <| Qg ?_
   have hr8:(Xp (Zd s_ f) K0 f.2.2.2.2 0 ())= .ret false:=Jg hx0 (Xf h7 (rfl)) hI0;exact pb [] (Oa hr8)
  refine Qf <| rn Qa [0,3,4,8,9,10] [3] (pe 0 (Jh (Ql k0 (by omega))) p0) ?_
  exact xw _ (Qr hx0 (Qs h7 (rfl)) hI0)
 ·
  exact su Qa [(11, .b false)] [] [] [] (pe 0 (Qp (decide_eq_false (p:=((k0:Nat):Int)<(f.2.2.2.2.length:Int)) (by omega))) p0) <| Qc <| ckF <| Q2 <| xw _ (Xi hk0 (rfl) hI0)
 refine Qc <| jn [(4, .b ((Zm f.1 1 60)&&((Zz f.2.1)&&((Zm f.2.2.2.1 0 60)&&(Jm s_)))))] [0,3,4] [] [3] (Zm f.1 1 60) (fun h9=> ?_) (fun h9=> ?_) ?_
 ·
  have h9w:=Nn.1 h9;refine X5 (Zz f.2.1) (fun h10=> ?_) (fun h10=> ?_)
  ·
   refine X5 (Zm f.2.2.2.1 0 60) (fun h11=> ?_) (fun h11=> ?_)
   ·
    have h11w:=Nn.1 h11;refine rn Qa [4] [] (pc 2 (cb h9 (Ku f.1 1 60)) (pc 6 (cb h10 (W9 f.2.1)) (pc 11 (cb h11 (Ku f.2.2.2.1 0 60)) (pc 15 (Be s_) p0)))) ?_;exact ⟨rfl,Qd (by rw[h9,h10,h11]<;>kernel_rfl)⟩
   refine rn Qa [4] [] (pc 2 (cb h9 (Ku f.1 1 60)) (pc 6 (cb h10 (W9 f.2.1)) (pc 11 (cb h11 (Ku f.2.2.2.1 0 60)) p0))) ?_;exact ⟨rfl,Qd (by rw[h9,h10,h11]<;>kernel_rfl)⟩
  refine rn Qa [4] [] (pc 2 (cb h9 (Ku f.1 1 60)) (pc 6 (cb h10 (W9 f.2.1)) p0)) ?_;exact ⟨rfl,Qd (by rw[h9,h10]<;>kernel_rfl)⟩
 ·
  refine rn Qa [4] [] (pc 2 (cb h9 (Ku f.1 1 60)) p0) ?_;exact ⟨rfl,Qd (by rw[h9]<;>kernel_rfl)⟩
 exact Qg <| pb [] (Wj hD0 (rfl))
def Yq (s_:Qz) (k0:Nat) (a0:Xc) (_:Unit):Rd (Bool) (Unit) (Unit):=(bif ((!(X3 s_.1 a0))|| (decide (a0.1>=s_.2.2)|| (decide (((k0:Nat):Int)>(0:Int))&&decide ((nth s_.2.1 (Int.toNat (((k0:Nat):Int)-1))).1>=a0.1)))) then (.ret false) else (.next ()))
def Jv (_:Nat) (_:Unit):Unit:=()
def Qq (s_:Qz):Bool:=(Out.on (Xp (Yq s_) Jv s_.2.1 0 ()) (fun _=>((Jm s_.1)&&(decide ((s_.2.1.length:Int)<=(12:Int))&&(Zm s_.2.2 1 61)))))
theorem Jp (s_:Qz):ACalls Tryz.prog 151 [.a [.h s_.1, .h s_.2.1, .i s_.2.2]] (.b (Qq s_)):=by
 refine en Qa Tryz.func151 fun w0 F0 hG=> ?_
 refine sn Qa [1,2] [1] (p0) <| Qc <| tn Qa [1,2,6,7,8] [1] (pl 2 s_.2.1 p0) <| mz [(1, .p 1 0),(2, .b false),(6, .h s_.2.1),(7, .i (s_.2.1.length:Int)),(8, .i 0)] [0] [(1, [.h s_.1, .h s_.2.1, .i s_.2.2])] [] <| wT 6 0 .sh s_.2.1 (fun hw1 hl2=> ?_)
 refine Ox (Yq s_) Jv s_.2.1 () (fun k0 _=> [(8, .i ((k0:Nat):Int))]) [8] (fun _=> []) [6,7,8] wf0 (fun k0 s0 hk0 hI0=> ?_) (fun k0 s0 hk0 hI0=> ?_) (fun y0 hD0=> ?_)
 ·
  obtain ⟨a0,hx0⟩:=Xh (l:=s_.2.1) (i:=k0) hk0;refine sn Qa [1,2,6,7,8,9] [1] (pe 0 (Qp (decide_eq_true (p:=((k0:Nat):Int)<(s_.2.1.length:Int)) (by omega))) p0) <| Qc <| ckT <| Qf <| Qc <| Qu <| tn Qa [1,2,3,4,6,7,8] [1,4] (pn 1 hx0 p0) <| Qc <| mz [(3, .i ((k0:Nat):Int)),(4, .p 4 0)] [] [(4, [.i a0.1, .i a0.2.1, .b a0.2.2.1, .i a0.2.2.2.1, .h a0.2.2.2.2])] [] <| jn [(40, .b ((!(X3 s_.1 a0))|| (decide (a0.1>=s_.2.2)|| (decide (((k0:Nat):Int)>(0:Int))&&decide ((nth s_.2.1 (Int.toNat (((k0:Nat):Int)-1))).1>=a0.1)))))] [3,4] [] [4] (!(X3 s_.1 a0)) (fun h3=> ?_) (fun h3=> ?_) ?_
  ·
   have h3n:(X3 s_.1 a0)=false:=Vd h3;refine rN Qa Zh [1,2,6,7,8,40] [1] (pc 3 (cb h3n (U9 s_.1 a0)) (pe 4 (show .b (!false)= .b true from rfl) p0)) ?_;exact ⟨rfl,Qd (by rw[h3]<;>kernel_rfl)⟩
  ·
   have h3n:(X3 s_.1 a0)=true:=Y3 h3;refine X5 (decide (a0.1>=s_.2.2)) (fun h4=> ?_) (fun h4=> ?_)
   ·
    refine rN Qa Zh [1,2,6,7,8,40] [1] (pc 3 (cb h3n (U9 s_.1 a0)) (pe 4 (show .b (!true)= .b false from rfl) (pt 10 h4 p0))) ?_;exact ⟨rfl,Qd (by rw[h3,h4]<;>kernel_rfl)⟩
   have h4d:=of_decide_eq_false h4;refine X5 (decide (((k0:Nat):Int)>(0:Int))) (fun h5=> ?_) (fun h5=> ?_)
   ·
    have h5d:=of_decide_eq_true h5;have hx6:=ng s_.2.1 (Int.toNat (((k0:Nat):Int)-1));refine rN Qa Zh [1,2,6,7,8,40] [1] (pc 3 (cb h3n (U9 s_.1 a0)) (pe 4 (show .b (!true)= .b false from rfl) (pf 10 h4 (pt 14 h5 (pe 19 (Jh (IntWalk.i64_in (((k0:Nat):Int)-1) (by omega))) (pg 20 (((k0:Nat):Int)-1) hx6 p0)))))) ?_;exact ⟨rfl,Qd (by rw[h3,h4,h5]<;>kernel_rfl)⟩
   refine rN Qa Zh [1,2,6,7,8,40] [1] (pc 3 (cb h3n (U9 s_.1 a0)) (pe 4 (show .b (!true)= .b false from rfl) (pf 10 h4 (pf 14 h5 p0)))) ?_;exact ⟨rfl,Qd (by rw[h3,h4,h5]<;>kernel_rfl)⟩
  refine ck ((!(X3 s_.1 a0))|| (decide (a0.1>=s_.2.2)|| (decide (((k0:Nat):Int)>(0:Int))&&decide ((nth s_.2.1 (Int.toNat (((k0:Nat):Int)-1))).1>=a0.1)))) (fun h7=> ?_) (fun h7=> ?_)
  ·
   refine su Qa [] [40] [] [] (p0) <| Qg ?_
   have hr8:(Xp (Yq s_) Jv s_.2.1 0 ())= .ret false:=Jg hx0 (Xf h7 (rfl)) hI0;exact pb [] (Oa hr8)
  have h7r:((decide (a0.1>=s_.2.2)|| (decide (((k0:Nat):Int)>(0:Int))&&decide ((nth s_.2.1 (Int.toNat (((k0:Nat):Int)-1))).1>=a0.1))))=false:=Re h7;have h7rl:(decide (a0.1>=s_.2.2))=false:=Rc h7r;have h7rld:=of_decide_eq_false h7rl;refine Qf <| rn Qa [1,2,6,7,8] [1] (pe 0 (Jh (Ql k0 (by omega))) p0) ?_
  exact xw _ (Qr hx0 (Qs h7 (rfl)) hI0)
 ·
  exact sn Qa [1,2,6,7,8,9] [1] (pe 0 (Qp (decide_eq_false (p:=((k0:Nat):Int)<(s_.2.1.length:Int)) (by omega))) p0) <| Qc <| ckF <| Q2 <| xw _ (Xi hk0 (rfl) hI0)
 refine Qc <| jn [(2, .b ((Jm s_.1)&&(decide ((s_.2.1.length:Int)<=(12:Int))&&(Zm s_.2.2 1 61))))] [1,2] [] [1] (Jm s_.1) (fun h9=> ?_) (fun h9=> ?_) ?_
 ·
  refine X5 (decide ((s_.2.1.length:Int)<=(12:Int))) (fun h10=> ?_) (fun h10=> ?_)
  ·
   refine rn Qa [2] [] (pc 2 (cb h9 (Be s_.1)) (pl 6 s_.2.1 (pt 7 h10 (pc 12 (Ku s_.2.2 1 61) p0)))) ?_;exact ⟨rfl,Qd (by rw[h9,h10]<;>kernel_rfl)⟩
  refine rn Qa [2] [] (pc 2 (cb h9 (Be s_.1)) (pl 6 s_.2.1 (pf 7 h10 p0))) ?_;exact ⟨rfl,Qd (by rw[h9,h10]<;>kernel_rfl)⟩
 ·
  refine rn Qa [2] [] (pc 2 (cb h9 (Be s_.1)) p0) ?_;exact ⟨rfl,Qd (by rw[h9]<;>kernel_rfl)⟩
 exact Qg <| pb [] (Wj hD0 (rfl))
def Iq (name:ByteArray) (_:Nat) (a0:Kt) (_:Unit):Rd (Int) (Unit) (Unit):=(bif (a0.1.toList==name.toList) then (.ret a0.2) else (.next ()))
def Ir (_:Nat) (_:Unit):Unit:=()
def Fp (s_:(List Kt)) (name:ByteArray):Int:=(Out.on (Xp (Iq name) Ir s_ 0 ()) (fun _=>0))
theorem VU (s_:(List Kt)) (name:ByteArray):ACalls Tryz.prog 269 [.h s_, .s name] (.i (Fp s_ name)):=by
 refine en Qa Tryz.func269 fun w0 F0 hG=> ?_
 refine sn Qa [0,1,4] [] (p0) <| Qc <| tn Qa [0,1,4,5] [] (p0) <| mz [(4, .i 0),(5, .i 0)] [] [] [] <| wT 0 0 .sh s_ (fun hw1 hl2=> ?_)
 refine Ox (Iq name) Ir s_ () (fun k0 _=> [(5, .i ((k0:Nat):Int))]) [5] (fun _=> []) [0,1,5] wf0 (fun k0 s0 hk0 hI0=> ?_) (fun k0 s0 hk0 hI0=> ?_) (fun y0 hD0=> ?_)
 ·
  obtain ⟨a0,hx0⟩:=Xh (l:=s_) (i:=k0) hk0;refine Qc <| sn Qa [0,1,4,5,9] [] (pl 2 s_ (pe 3 (Qp (decide_eq_true (p:=((k0:Nat):Int)<(s_.length:Int)) (by omega))) p0)) <| ckT <| Qf <| Qc <| Qu <| tn Qa [0,1,4,5,18] [] (pn 2 hx0 p0) <| ck (a0.1.toList==name.toList) (fun h3=> ?_) (fun h3=> ?_)
  ·
   refine tu Qa [(4, .i a0.2)] [4] [] [] (pn 2 hx0 p0) <| Qg ?_
   have hr4:(Xp (Iq name) Ir s_ 0 ())= .ret a0.2:=Jg hx0 (Xf h3 (rfl)) hI0;exact pi [] (Oa hr4)
  refine Qf <| qu Qa [(5, .i ((k0+1:Nat):Int))] [5] [] [] (pe 1 (Jh (Ql k0 (by omega))) p0) ?_
  exact xw _ (Qr hx0 (Qs h3 (rfl)) hI0)
 ·
  exact Qc <| sn Qa [0,1,4,5,9] [] (pl 2 s_ (pe 3 (Qp (decide_eq_false (p:=((k0:Nat):Int)<(s_.length:Int)) (by omega))) p0)) <| ckF <| Q2 <| xw _ (Xi hk0 (rfl) hI0)
 exact sn Qa [4] [] (p0) <| Qg <| pi [] (Wj hD0 (rfl))
def Kn (s_:(List Kt)) (name:ByteArray) (v:De):Bool:=((J0 v)&&((v.1 !=(0:Int))&&(v.1==(Fp s_ name))))
theorem Ec (s_:(List Kt)) (name:ByteArray) (v:De):ACalls Tryz.prog 229 [.h s_, .s name, .a [.i v.1, .i v.2.1, .s v.2.2]] (.b (Kn s_ name v)):=by
 refine en Qa Tryz.func229 fun w0 F0 hG=> ?_
 refine sn Qa [0,1,5,6] [5] (p0) <| Qc <| mz [(5, .p 5 0),(6, .b false)] [2] [(5, [.i v.1, .i v.2.1, .s v.2.2])] [] <| jn [(6, .b ((J0 v)&&((v.1 !=(0:Int))&&(v.1==(Fp s_ name)))))] [0,1,5,6] [] [5] (J0 v) (fun h1=> ?_) (fun h1=> ?_) ?_
 ·
  refine X5 (v.1 !=(0:Int)) (fun h2=> ?_) (fun h2=> ?_)
  ·
   refine rN Qa Zh [6] [] (pc 1 (cb h1 (Jo v)) (pt 5 h2 (pc 12 (VU s_ name) p0))) ?_;exact ⟨rfl,Qd (by rw[h1,h2]<;>kernel_rfl)⟩
  refine rN Qa Zh [6] [] (pc 1 (cb h1 (Jo v)) (pf 5 h2 p0)) ?_;exact ⟨rfl,Qd (by rw[h1,h2]<;>kernel_rfl)⟩
 ·
  refine rN Qa Zh [6] [] (pc 1 (cb h1 (Jo v)) p0) ?_;exact ⟨rfl,Qd (by rw[h1]<;>kernel_rfl)⟩
 exact Qg <| pb [] (show Kn s_ name v=((J0 v)&&((v.1 !=(0:Int))&&(v.1==(Fp s_ name)))) from rfl)
def Uv (s_:(List Kt)) (k0:Nat) (a0:Kt) (_:Unit):Rd (Bool) (Unit) (Unit):=(bif ((!(Yd a0.1))|| ((!(Q6 a0.2 1 2))|| (decide (((k0:Nat):Int)>(0:Int))&&(!(Op.bytesLess ((nth s_ (Int.toNat (((k0:Nat):Int)-1))).1).toList a0.1.toList))))) then (.ret false) else (.next ()))
def Av (_:Nat) (_:Unit):Unit:=()
def Ko (s_:(List Kt)):Bool:=(Out.on (Xp (Uv s_) Av s_ 0 ()) (fun _=>decide ((s_.length:Int)<=(5:Int))))
theorem Vz (s_:(List Kt)):ACalls Tryz.prog 183 [.h s_] (.b (Ko s_)):=by
 refine en Qa Tryz.func183 fun w0 F0 hG=> ?_
 refine sn Qa [0,2] [] (p0) <| Qc <| tn Qa [0,2,3] [] (p0) <| mz [(2, .b false),(3, .i 0)] [] [] [] <| wT 0 0 .sh s_ (fun hw1 hl2=> ?_)
 refine Ox (Uv s_) Av s_ () (fun k0 _=> [(3, .i ((k0:Nat):Int))]) [3] (fun _=> []) [3] wf0 (fun k0 s0 hk0 hI0=> ?_) (fun k0 s0 hk0 hI0=> ?_) (fun y0 hD0=> ?_)
 ·
  obtain ⟨a0,hx0⟩:=Xh (l:=s_) (i:=k0) hk0;refine Qc <| sn Qa [0,2,3,7] [] (pl 2 s_ (pe 3 (Qp (decide_eq_true (p:=((k0:Nat):Int)<(s_.length:Int)) (by omega))) p0)) <| ckT <| Qf <| Qc <| Qu <| Qc <| mz [(7, .b true)] [] [] [] <| jn [(43, .b ((!(Yd a0.1))|| ((!(Q6 a0.2 1 2))|| (decide (((k0:Nat):Int)>(0:Int))&&(!(Op.bytesLess ((nth s_ (Int.toNat (((k0:Nat):Int)-1))).1).toList a0.1.toList))))))] [7] [] [] (!(Yd a0.1)) (fun h3=> ?_) (fun h3=> ?_) ?_
  ·
   have h3n:(Yd a0.1)=false:=Vd h3;refine rN Qa Zh [0,2,3,43] [] (pn 2 hx0 (pc 5 (cb h3n (Yp a0.1)) (pe 6 (show .b (!false)= .b true from rfl) p0))) ?_;exact ⟨rfl,Qd (by rw[h3]<;>kernel_rfl)⟩
  ·
   have h3n:(Yd a0.1)=true:=Y3 h3;refine X5 (!(Q6 a0.2 1 2)) (fun h4=> ?_) (fun h4=> ?_)
   ·
    have h4n:(Q6 a0.2 1 2)=false:=Vd h4;refine rN Qa Zh [0,2,3,43] [] (pn 2 hx0 (pc 5 (cb h3n (Yp a0.1)) (pe 6 (show .b (!true)= .b false from rfl) (pn 10 hx0 (pc 13 (cb h4n (Zo a0.2 1 2)) (pe 14 (show .b (!false)= .b true from rfl) p0)))))) ?_;exact ⟨rfl,Qd (by rw[h3,h4]<;>kernel_rfl)⟩
   have h4n:(Q6 a0.2 1 2)=true:=Y3 h4;have h4nw:=Cc.1 h4n;refine X5 (decide (((k0:Nat):Int)>(0:Int))) (fun h5=> ?_) (fun h5=> ?_)
   ·
    have h5d:=of_decide_eq_true h5;have hx6:=ng s_ (Int.toNat (((k0:Nat):Int)-1));refine rN Qa Zh [0,2,3,43] [] (pn 2 hx0 (pc 5 (cb h3n (Yp a0.1)) (pe 6 (show .b (!true)= .b false from rfl) (pn 10 hx0 (pc 13 (cb h4n (Zo a0.2 1 2)) (pe 14 (show .b (!true)= .b false from rfl) (pt 18 h5 (pe 22 (Jh (IntWalk.i64_in (((k0:Nat):Int)-1) (by omega))) (pg 23 (((k0:Nat):Int)-1) hx6 (pn 28 hx0 p0)))))))))) ?_;exact ⟨rfl,Qd (by rw[h3,h4,h5]<;>kernel_rfl)⟩
   refine rN Qa Zh [0,2,3,43] [] (pn 2 hx0 (pc 5 (cb h3n (Yp a0.1)) (pe 6 (show .b (!true)= .b false from rfl) (pn 10 hx0 (pc 13 (cb h4n (Zo a0.2 1 2)) (pe 14 (show .b (!true)= .b false from rfl) (pf 18 h5 p0))))))) ?_;exact ⟨rfl,Qd (by rw[h3,h4,h5]<;>kernel_rfl)⟩
  refine ck ((!(Yd a0.1))|| ((!(Q6 a0.2 1 2))|| (decide (((k0:Nat):Int)>(0:Int))&&(!(Op.bytesLess ((nth s_ (Int.toNat (((k0:Nat):Int)-1))).1).toList a0.1.toList))))) (fun h7=> ?_) (fun h7=> ?_)
  ·
   refine sn Qa [0,2,3] [] (p0) <| Qg ?_
   have hr8:(Xp (Uv s_) Av s_ 0 ())= .ret false:=Jg hx0 (Xf h7 (rfl)) hI0;exact pb [] (Oa hr8)
  have h7r:(((!(Q6 a0.2 1 2))|| (decide (((k0:Nat):Int)>(0:Int))&&(!(Op.bytesLess ((nth s_ (Int.toNat (((k0:Nat):Int)-1))).1).toList a0.1.toList)))))=false:=Re h7;have h7rl:((!(Q6 a0.2 1 2)))=false:=Rc h7r;have h7rln:(Q6 a0.2 1 2)=true:=Y3 h7rl;have h7rlnw:=Cc.1 h7rln;refine Qf <| rn Qa [0,2,3] [] (pe 1 (Jh (Ql k0 (by omega))) p0) ?_
  exact xw _ (Qr hx0 (Qs h7 (rfl)) hI0)
 ·
  exact Qc <| sn Qa [0,2,3,7] [] (pl 2 s_ (pe 3 (Qp (decide_eq_false (p:=((k0:Nat):Int)<(s_.length:Int)) (by omega))) p0)) <| ckF <| Q2 <| xw _ (Xi hk0 (rfl) hI0)
 exact sn Qa [2] [] (pl 1 s_ p0) <| Qg <| pb [] (Wj hD0 (rfl))
def Vk (s_:(List Kt)) (f:Xc) (k0:Nat) (a0:E6) (_:Unit):Rd (Bool) (Unit) (Unit):=(bif ((!(Kn s_ a0.1 a0.2))|| (decide (((k0:Nat):Int)>(0:Int))&&(!(Op.bytesLess ((nth f.2.2.2.2 (Int.toNat (((k0:Nat):Int)-1))).1).toList a0.1.toList)))) then (.ret false) else (.next ()))
def Uf (_:Nat) (_:Unit):Unit:=()
def X0 (s_:(List Kt)) (f:Xc):Bool:=(Out.on (Xp (Vk s_ f) Uf f.2.2.2.2 0 ()) (fun _=>((Ko s_)&&((Q6 f.1 1 60)&&((Q6 f.2.1 0 2)&&(Q6 f.2.2.2.1 0 60))))))
theorem Ha (s_:(List Kt)) (f:Xc):ACalls Tryz.prog 172 [.h s_, .a [.i f.1, .i f.2.1, .b f.2.2.1, .i f.2.2.2.1, .h f.2.2.2.2]] (.b (X0 s_ f)):=by
 refine en Qa Tryz.func172 fun w0 F0 hG=> ?_
 refine sn Qa [0,3,4] [3] (p0) <| Qc <| tn Qa [0,3,4,5] [3] (p0) <| mz [(3, .p 3 0),(4, .b false),(5, .i 0)] [1] [(3, [.i f.1, .i f.2.1, .b f.2.2.1, .i f.2.2.2.1, .h f.2.2.2.2])] [] <| wB 3 4 .sh f.2.2.2.2 (fun hw1 hl2=> ?_)
 refine Ox (Vk s_ f) Uf f.2.2.2.2 () (fun k0 _=> [(5, .i ((k0:Nat):Int))]) [5] (fun _=> []) [5] wf0 (fun k0 s0 hk0 hI0=> ?_) (fun k0 s0 hk0 hI0=> ?_) (fun y0 hD0=> ?_)
 ·
  obtain ⟨a0,hx0⟩:=Xh (l:=f.2.2.2.2) (i:=k0) hk0;refine Qc <| sn Qa [0,3,4,5,10] [3] (pl 3 f.2.2.2.2 (pe 4 (Qp (decide_eq_true (p:=((k0:Nat):Int)<(f.2.2.2.2.length:Int)) (by omega))) p0)) <| ckT <| Qf <| Qc <| Qu <| Qc <| mz [(10, .b true)] [] [] [] <| jn [(47, .b ((!(Kn s_ a0.1 a0.2))|| (decide (((k0:Nat):Int)>(0:Int))&&(!(Op.bytesLess ((nth f.2.2.2.2 (Int.toNat (((k0:Nat):Int)-1))).1).toList a0.1.toList)))))] [10] [] [] (!(Kn s_ a0.1 a0.2)) (fun h3=> ?_) (fun h3=> ?_) ?_
  ·
   have h3n:(Kn s_ a0.1 a0.2)=false:=Vd h3;refine rN Qa Zh [0,3,4,5,47] [3] (pn 4 hx0 (pn 10 hx0 (pc 13 (cb h3n (Ec s_ a0.1 a0.2)) (pe 14 (show .b (!false)= .b true from rfl) p0)))) ?_;exact ⟨rfl,Qd (by rw[h3]<;>kernel_rfl)⟩
  ·
   have h3n:(Kn s_ a0.1 a0.2)=true:=Y3 h3;refine X5 (decide (((k0:Nat):Int)>(0:Int))) (fun h4=> ?_) (fun h4=> ?_)
   ·
    have h4d:=of_decide_eq_true h4;have hx5:=ng f.2.2.2.2 (Int.toNat (((k0:Nat):Int)-1));refine rN Qa Zh [0,3,4,5,47] [3] (pn 4 hx0 (pn 10 hx0 (pc 13 (cb h3n (Ec s_ a0.1 a0.2)) (pe 14 (show .b (!true)= .b false from rfl) (pt 17 h4 (pe 22 (Jh (IntWalk.i64_in (((k0:Nat):Int)-1) (by omega))) (pg 23 (((k0:Nat):Int)-1) hx5 (pn 29 hx0 p0)))))))) ?_;exact ⟨rfl,Qd (by rw[h3,h4]<;>kernel_rfl)⟩
   refine rN Qa Zh [0,3,4,5,47] [3] (pn 4 hx0 (pn 10 hx0 (pc 13 (cb h3n (Ec s_ a0.1 a0.2)) (pe 14 (show .b (!true)= .b false from rfl) (pf 17 h4 p0))))) ?_;exact ⟨rfl,Qd (by rw[h3,h4]<;>kernel_rfl)⟩
  refine ck ((!(Kn s_ a0.1 a0.2))|| (decide (((k0:Nat):Int)>(0:Int))&&(!(Op.bytesLess ((nth f.2.2.2.2 (Int.toNat (((k0:Nat):Int)-1))).1).toList a0.1.toList)))) (fun h6=> ?_) (fun h6=> ?_)
  ·
   refine su Qa [] [47] [] [] (p0) <| Qg ?_
   have hr7:(Xp (Vk s_ f) Uf f.2.2.2.2 0 ())= .ret false:=Jg hx0 (Xf h6 (rfl)) hI0;exact pb [] (Oa hr7)
  refine Qf <| rn Qa [0,3,4,5] [3] (pe 1 (Jh (Ql k0 (by omega))) p0) ?_
  exact xw _ (Qr hx0 (Qs h6 (rfl)) hI0)
 ·
  exact Qc <| sn Qa [0,3,4,5,10] [3] (pl 3 f.2.2.2.2 (pe 4 (Qp (decide_eq_false (p:=((k0:Nat):Int)<(f.2.2.2.2.length:Int)) (by omega))) p0)) <| ckF <| Q2 <| xw _ (Xi hk0 (rfl) hI0)
 refine Qc <| jn [(4, .b ((Ko s_)&&((Q6 f.1 1 60)&&((Q6 f.2.1 0 2)&&(Q6 f.2.2.2.1 0 60)))))] [0,3,4] [] [3] (Ko s_) (fun h8=> ?_) (fun h8=> ?_) ?_
 ·
  refine X5 (Q6 f.1 1 60) (fun h9=> ?_) (fun h9=> ?_)
  ·
   have h9w:=Cc.1 h9;refine X5 (Q6 f.2.1 0 2) (fun h10=> ?_) (fun h10=> ?_)
   ·
    have h10w:=Cc.1 h10;refine rn Qa [4] [] (pc 1 (cb h8 (Vz s_)) (pc 5 (cb h9 (Zo f.1 1 60)) (pc 10 (cb h10 (Zo f.2.1 0 2)) (pc 15 (Zo f.2.2.2.1 0 60) p0)))) ?_;exact ⟨rfl,Qd (by rw[h8,h9,h10]<;>kernel_rfl)⟩
   refine rn Qa [4] [] (pc 1 (cb h8 (Vz s_)) (pc 5 (cb h9 (Zo f.1 1 60)) (pc 10 (cb h10 (Zo f.2.1 0 2)) p0))) ?_;exact ⟨rfl,Qd (by rw[h8,h9,h10]<;>kernel_rfl)⟩
  refine rn Qa [4] [] (pc 1 (cb h8 (Vz s_)) (pc 5 (cb h9 (Zo f.1 1 60)) p0)) ?_;exact ⟨rfl,Qd (by rw[h8,h9]<;>kernel_rfl)⟩
 ·
  refine rn Qa [4] [] (pc 1 (cb h8 (Vz s_)) p0) ?_;exact ⟨rfl,Qd (by rw[h8]<;>kernel_rfl)⟩
 exact Qg <| pb [] (Wj hD0 (rfl))
def Z6 (s_:Qz) (k0:Nat) (a0:Xc) (_:Unit):Rd (Bool) (Unit) (Unit):=(bif ((!(X0 s_.1 a0))|| (decide (a0.1>=s_.2.2)|| (decide (((k0:Nat):Int)>(0:Int))&&decide ((nth s_.2.1 (Int.toNat (((k0:Nat):Int)-1))).1>=a0.1)))) then (.ret false) else (.next ()))
def Ww (_:Nat) (_:Unit):Unit:=()
def Q4 (s_:Qz):Bool:=(Out.on (Xp (Z6 s_) Ww s_.2.1 0 ()) (fun _=>((Ko s_.1)&&(decide ((s_.2.1.length:Int)<=(12:Int))&&(Q6 s_.2.2 1 61)))))
theorem Jq (s_:Qz):ACalls Tryz.prog 120 [.a [.h s_.1, .h s_.2.1, .i s_.2.2]] (.b (Q4 s_)):=by
 refine en Qa Tryz.func120 fun w0 F0 hG=> ?_
 refine sn Qa [1,2] [1] (p0) <| Qc <| tn Qa [1,2,3] [1] (p0) <| mz [(1, .p 1 0),(2, .b false),(3, .i 0)] [0] [(1, [.h s_.1, .h s_.2.1, .i s_.2.2])] [] <| wB 1 1 .sh s_.2.1 (fun hw1 hl2=> ?_)
 refine Ox (Z6 s_) Ww s_.2.1 () (fun k0 _=> [(3, .i ((k0:Nat):Int))]) [3] (fun _=> []) [3] wf0 (fun k0 s0 hk0 hI0=> ?_) (fun k0 s0 hk0 hI0=> ?_) (fun y0 hD0=> ?_)
 ·
  obtain ⟨a0,hx0⟩:=Xh (l:=s_.2.1) (i:=k0) hk0;refine Qc <| sn Qa [1,2,3,8] [1] (pl 3 s_.2.1 (pe 4 (Qp (decide_eq_true (p:=((k0:Nat):Int)<(s_.2.1.length:Int)) (by omega))) p0)) <| ckT <| Qf <| Qc <| Qu <| Qc <| mz [(8, .b true)] [] [] [] <| jn [(50, .b ((!(X0 s_.1 a0))|| (decide (a0.1>=s_.2.2)|| (decide (((k0:Nat):Int)>(0:Int))&&decide ((nth s_.2.1 (Int.toNat (((k0:Nat):Int)-1))).1>=a0.1)))))] [8] [] [] (!(X0 s_.1 a0)) (fun h3=> ?_) (fun h3=> ?_) ?_
  ·
   have h3n:(X0 s_.1 a0)=false:=Vd h3;refine rN Qa Zh [1,2,3,50] [1] (pn 5 hx0 (pc 7 (cb h3n (Ha s_.1 a0)) (pe 8 (show .b (!false)= .b true from rfl) p0))) ?_;exact ⟨rfl,Qd (by rw[h3]<;>kernel_rfl)⟩
  ·
   have h3n:(X0 s_.1 a0)=true:=Y3 h3;refine X5 (decide (a0.1>=s_.2.2)) (fun h4=> ?_) (fun h4=> ?_)
   ·
    refine rN Qa Zh [1,2,3,50] [1] (pn 5 hx0 (pc 7 (cb h3n (Ha s_.1 a0)) (pe 8 (show .b (!true)= .b false from rfl) (pn 13 hx0 (pt 18 h4 p0))))) ?_;exact ⟨rfl,Qd (by rw[h3,h4]<;>kernel_rfl)⟩
   have h4d:=of_decide_eq_false h4;refine X5 (decide (((k0:Nat):Int)>(0:Int))) (fun h5=> ?_) (fun h5=> ?_)
   ·
    have h5d:=of_decide_eq_true h5;have hx6:=ng s_.2.1 (Int.toNat (((k0:Nat):Int)-1));refine rN Qa Zh [1,2,3,50] [1] (pn 5 hx0 (pc 7 (cb h3n (Ha s_.1 a0)) (pe 8 (show .b (!true)= .b false from rfl) (pn 13 hx0 (pf 18 h4 (pt 22 h5 (pe 27 (Jh (IntWalk.i64_in (((k0:Nat):Int)-1) (by omega))) (pg 28 (((k0:Nat):Int)-1) hx6 (pn 34 hx0 p0))))))))) ?_;exact ⟨rfl,Qd (by rw[h3,h4,h5]<;>kernel_rfl)⟩
   refine rN Qa Zh [1,2,3,50] [1] (pn 5 hx0 (pc 7 (cb h3n (Ha s_.1 a0)) (pe 8 (show .b (!true)= .b false from rfl) (pn 13 hx0 (pf 18 h4 (pf 22 h5 p0)))))) ?_;exact ⟨rfl,Qd (by rw[h3,h4,h5]<;>kernel_rfl)⟩
  refine ck ((!(X0 s_.1 a0))|| (decide (a0.1>=s_.2.2)|| (decide (((k0:Nat):Int)>(0:Int))&&decide ((nth s_.2.1 (Int.toNat (((k0:Nat):Int)-1))).1>=a0.1)))) (fun h7=> ?_) (fun h7=> ?_)
  ·
   refine su Qa [] [50] [] [] (p0) <| Qg ?_
   have hr8:(Xp (Z6 s_) Ww s_.2.1 0 ())= .ret false:=Jg hx0 (Xf h7 (rfl)) hI0;exact pb [] (Oa hr8)
  have h7r:((decide (a0.1>=s_.2.2)|| (decide (((k0:Nat):Int)>(0:Int))&&decide ((nth s_.2.1 (Int.toNat (((k0:Nat):Int)-1))).1>=a0.1))))=false:=Re h7;have h7rl:(decide (a0.1>=s_.2.2))=false:=Rc h7r;have h7rld:=of_decide_eq_false h7rl;refine Qf <| rn Qa [1,2,3] [1] (pe 1 (Jh (Ql k0 (by omega))) p0) ?_
  exact xw _ (Qr hx0 (Qs h7 (rfl)) hI0)
 ·
  exact Qc <| sn Qa [1,2,3,8] [1] (pl 3 s_.2.1 (pe 4 (Qp (decide_eq_false (p:=((k0:Nat):Int)<(s_.2.1.length:Int)) (by omega))) p0)) <| ckF <| Q2 <| xw _ (Xi hk0 (rfl) hI0)
 refine Qc <| jn [(2, .b ((Ko s_.1)&&(decide ((s_.2.1.length:Int)<=(12:Int))&&(Q6 s_.2.2 1 61))))] [1,2] [] [1] (Ko s_.1) (fun h9=> ?_) (fun h9=> ?_) ?_
 ·
  refine X5 (decide ((s_.2.1.length:Int)<=(12:Int))) (fun h10=> ?_) (fun h10=> ?_)
  ·
   refine rn Qa [2] [] (pc 2 (cb h9 (Vz s_.1)) (pl 6 s_.2.1 (pt 7 h10 (pc 12 (Zo s_.2.2 1 61) p0)))) ?_;exact ⟨rfl,Qd (by rw[h9,h10]<;>kernel_rfl)⟩
  refine rn Qa [2] [] (pc 2 (cb h9 (Vz s_.1)) (pl 6 s_.2.1 (pf 7 h10 p0))) ?_;exact ⟨rfl,Qd (by rw[h9,h10]<;>kernel_rfl)⟩
 ·
  refine rn Qa [2] [] (pc 2 (cb h9 (Vz s_.1)) p0) ?_;exact ⟨rfl,Qd (by rw[h9]<;>kernel_rfl)⟩
 exact Qg <| pb [] (Wj hD0 (rfl))
theorem Qiv (s:List Kt) (n:ByteArray):Fp s n=Fo s n:=rfl
theorem UQ (s:List Kt) (n:ByteArray) (v:De):Kn s n v=Zf s n v:=by
 unfold Kn Zf;rw[Qa8,Qiv]
theorem FS (s:List Kt):Ko s=Jm s:=by
 unfold Ko Jm
 rw [Dw (f:=Uv s) (g:=Kv s) (e:=Av) (e':=Wi) (fun k a u=>by
  unfold Uv Kv;rw[OD]
  have h:(!(Q6 a.2 1 2))=((a.2 !=1)&&(a.2 !=2)):=by
   unfold Q6;rw[Bool.eq_iff_iff];simp;omega
  rw[h];generalize (!(Op.bytesLess ((nth s (Int.toNat (((k:Nat):Int)-1))).1).toList a.1.toList))=x;cases Yd a.1<;>cases (a.2 !=(1:Int))<;>cases (a.2 !=(2:Int))<;>cases decide (((k:Nat):Int)>(0:Int))<;>cases x<;>rfl) (fun _ _=>rfl)]
theorem VW (s:List Kt) (f:Xc):X0 s f=X3 s f:=by
 unfold X0 X3
 rw[Dw (f:=Vk s f) (g:=Zd s f) (e:=Uf) (e':=K0) (fun k a u=>by
  unfold Vk Zd;rw[UQ];generalize (!(Op.bytesLess ((nth f.2.2.2.2 (Int.toNat (((k:Nat):Int)-1))).1).toList a.1.toList))=x;cases Zf s a.1 a.2<;>cases decide (((k:Nat):Int)>(0:Int))<;>cases x<;>rfl) (fun _ _=>rfl),FS]
 congr 1
 funext y
 unfold Zz;simp only[←FG];cases Jm s<;>cases Zm f.1 1 60<;>cases Zm f.2.1 0 2<;>cases Zm f.2.2.2.1 0 60<;>rfl
theorem By (s:Qz):Q4 s=Qq s:=by
 unfold Q4 Qq
 rw[Dw (f:=Z6 s) (g:=Yq s) (e:=Ww) (e':=Jv) (fun k a u=>by
  unfold Z6 Yq;rw[VW]) (fun _ _=>rfl),FS]
 rfl
open GoE (enc wide)
def Bp (name:ByteArray) (_:Nat) (a0:E6) (_:Unit):Rd (De) (Unit) (Unit):=(bif (a0.1.toList==name.toList) then (.ret a0.2) else (.next ()))
def Dm (_:Nat) (_:Unit):Unit:=()
def Xa (f:Xc) (name:ByteArray):De:=(Out.on (Xp (Bp name) Dm f.2.2.2.2 0 ()) (fun _=>(0,0,⟨#[]⟩)))
theorem Cx (f:Xc) (name:ByteArray):ACalls Tryz.prog 262 [.a [.i f.1, .i f.2.1, .b f.2.2.1, .i f.2.2.2.1, .h f.2.2.2.2], .s name] (.a [.i ((Xa f name).1), .i ((Xa f name).2.1), .s ((Xa f name).2.2)]):=by
 refine en Qa Tryz.func262 fun w0 F0 hG=> ?_
 refine sn Qa [1,2,4] [2,4] (p0) <| Qc <| tn Qa [1,4,8,9,10] [4] (pl 2 f.2.2.2.2 p0) <| mz [(4, .p 4 0),(8, .h f.2.2.2.2),(9, .i (f.2.2.2.2.length:Int)),(10, .i 0)] [0] [(4, [.i 0, .i 0, .s ⟨#[]⟩])] [] <| wT 8 0 .sh f.2.2.2.2 (fun hw1 hl2=> ?_)
 refine Ox (Bp name) Dm f.2.2.2.2 () (fun k0 _=> [(10, .i ((k0:Nat):Int))]) [10] (fun _=> []) [1,8,9,10] wf0 (fun k0 s0 hk0 hI0=> ?_) (fun k0 s0 hk0 hI0=> ?_) (fun y0 hD0=> ?_)
 ·
  obtain ⟨a0,hx0⟩:=Xh (l:=f.2.2.2.2) (i:=k0) hk0;refine su Qa [(11, .b true)] [] [] [] (pe 0 (Qp (decide_eq_true (p:=((k0:Nat):Int)<(f.2.2.2.2.length:Int)) (by omega))) p0) <| Qc <| ckT <| Qf <| Qc <| Qu <| sn Qa [1,4,6,8,9,10] [4,6] (pn 0 hx0 p0) <| tn Qa [1,4,6,8,9,10,17] [4,6] (p0) <| ck (a0.1.toList==name.toList) (fun h3=> ?_) (fun h3=> ?_)
  ·
   refine tu Qa [] [11] [(4, [.i a0.2.1, .i a0.2.2.1, .s a0.2.2.2])] [4] (p0) <| Qg ?_
   have hr4:(Xp (Bp name) Dm f.2.2.2.2 0 ())= .ret a0.2:=Jg hx0 (Xf h3 (rfl)) hI0;exact pz [] (show Xa f name=_ from Oa hr4) (fun z=> .a [.i z.1, .i z.2.1, .s z.2.2])
  refine Qf <| qu Qa [(10, .i ((k0+1:Nat):Int))] [10,11] [] [] (pe 0 (Jh (Ql k0 (by omega))) p0) ?_
  exact xw _ (Qr hx0 (Qs h3 (rfl)) hI0)
 ·
  exact sn Qa [1,4,8,9,10,11] [4] (pe 0 (Qp (decide_eq_false (p:=((k0:Nat):Int)<(f.2.2.2.2.length:Int)) (by omega))) p0) <| Qc <| ckF <| Q2 <| xw _ (Xi hk0 (rfl) hI0)
 exact sn Qa [4] [4] (p0) <| Qg <| pz [] (show Xa f name=_ from Wj hD0 (rfl)) (fun z=> .a [.i z.1, .i z.2.1, .s z.2.2])
def Un (f:Xc) (name:ByteArray):Int×Bool:=(bif ((Xa f name).1 !=(1:Int)) then (0,false) else ((Xa f name).2.1,true))
theorem CS (f:Xc) (name:ByteArray):ACalls Tryz.prog 318 [.a [.i f.1, .i f.2.1, .b f.2.2.1, .i f.2.2.2.1, .h f.2.2.2.2], .s name] (.tup [(false, [.i (((Un f name)).1)]),(false, [.b (((Un f name)).2)])]):=by
 refine en Qa Tryz.func318 fun w0 F0 hG=> ?_
 refine sn Qa [1,2,4,5] [2] (p0) <| tn Qa [4,5,6] [6] (pc 2 (Cx f name) p0) <| Qc <| tu Qa [(4, .i 0),(5, .b false),(6, .p 6 0),(12, .b ((Xa f name).1 !=(1:Int)))] [0,1] [(6, [.i ((Xa f name).1), .i ((Xa f name).2.1), .s ((Xa f name).2.2)])] [] (p0) <| ck ((Xa f name).1 !=(1:Int)) (fun h1=> ?_) (fun h1=> ?_)
 ·
  exact su Qa [] [12] [] [] (p0) <| Qg <| pz [] (show Un f name=_ from Xf h1 (rfl)) (fun z=> .tup [(false, [.i z.1]),(false, [.b z.2])])
 exact Qf <| sn Qa [4,5] [] (p0) <| Qg <| pz [] (show Un f name=_ from Qs h1 (rfl)) (fun z=> .tup [(false, [.i z.1]),(false, [.b z.2])])
def Vt (name:ByteArray) (_:Nat) (a0:Qh) (_:Unit):Rd ((List Int)) (Unit) (Unit):=(bif (a0.1.toList==name.toList) then (.ret a0.2) else (.next ()))
def Uo (_:Nat) (_:Unit):Unit:=()
def Q9 (r:(List Qh)) (name:ByteArray):(List Int):=(Out.on (Xp (Vt name) Uo r 0 ()) (fun _=> []))
theorem Cj (r:(List Qh)) (name:ByteArray):ACalls Tryz.prog 210 [.h r, .s name] (.o 0 (Q9 r name)):=by
 refine en Qa Tryz.func210 fun w0 F0 hG=> ?_
 refine sn Qa [0,1,4] [] (p0) <| Qc <| tn Qa [1,4,7,8,9] [] (pl 1 r p0) <| mz [(4, .e 0),(7, .h r),(8, .i (r.length:Int)),(9, .i 0)] [0] [] [] <| wT 7 0 .sh r (fun hw1 hl2=> ?_)
 refine Ox (Vt name) Uo r () (fun k0 _=> [(9, .i ((k0:Nat):Int))]) [9] (fun _=> []) [1,7,8,9] wf0 (fun k0 s0 hk0 hI0=> ?_) (fun k0 s0 hk0 hI0=> ?_) (fun y0 hD0=> ?_)
 ·
  obtain ⟨a0,hx0⟩:=Xh (l:=r) (i:=k0) hk0;refine sn Qa [1,4,7,8,9,10] [] (pe 0 (Qp (decide_eq_true (p:=((k0:Nat):Int)<(r.length:Int)) (by omega))) p0) <| Qc <| ckT <| Qf <| Qc <| Qu <| tn Qa [1,4,6,7,8,9] [6] (pn 0 hx0 p0) <| tu Qa [(6, .p 6 0),(16, .b (a0.1.toList==name.toList))] [] [(6, [.s a0.1, .h a0.2])] [] (p0) <| ck (a0.1.toList==name.toList) (fun h3=> ?_) (fun h3=> ?_)
  ·
   refine sn Qa [1,4,7,8,9] [] (pc 2 (YA a0.2) p0) <| Qg ?_
   have hr4:(Xp (Vt name) Uo r 0 ())= .ret a0.2:=Jg hx0 (Xf h3 (rfl)) hI0;exact po0 [] (Oa hr4)
  refine Qf <| rn Qa [1,4,7,8,9] [] (pe 0 (Jh (Ql k0 (by omega))) p0) ?_
  exact xw _ (Qr hx0 (Qs h3 (rfl)) hI0)
 ·
  exact sn Qa [1,4,7,8,9,10] [] (pe 0 (Qp (decide_eq_false (p:=((k0:Nat):Int)<(r.length:Int)) (by omega))) p0) <| Qc <| ckF <| Q2 <| xw _ (Xi hk0 (rfl) hI0)
 refine sn Qa [4] [] (p0) <| opn [(false,4,0,true,384000,1)] ?_
 exact Qg <| po0 [] (Wj hD0 (rfl))
def K1 (v:Int) (k0:Nat) (a0:Int) (_:Unit):Rd (Int) (Unit) (Unit):=(bif (v==a0) then (.ret ((k0:Nat):Int)) else (.next ()))
def Ug (_:Nat) (_:Unit):Unit:=()
def Ck (s_:(List Int)) (v:Int):Int:=(Out.on (Xp (K1 v) Ug s_ 0 ()) (fun _=> -1))
theorem YE (s_:(List Int)) (v:Int):ACalls Tryz.prog 309 [.h s_, .i v] (.i (Ck s_ v)):=by
 refine en Qa Tryz.func309 fun w0 F0 hG=> ?_
 refine sn Qa [0,1,4] [] (p0) <| Qc <| tn Qa [0,1,4,7,8] [] (pl 1 s_ p0) <| mz [(4, .i 0),(7, .i (s_.length:Int)),(8, .i 0)] [] [] [] <| wT 0 0 .sh s_ (fun hw1 hl2=> ?_)
 refine Ox (K1 v) Ug s_ () (fun k0 _=> [(8, .i ((k0:Nat):Int))]) [8] (fun _=> []) [0,1,7,8] wf0 (fun k0 s0 hk0 hI0=> ?_) (fun k0 s0 hk0 hI0=> ?_) (fun y0 hD0=> ?_)
 ·
  obtain ⟨a0,hx0⟩:=Xh (l:=s_) (i:=k0) hk0;refine sn Qa [0,1,4,7,8,9] [] (pe 0 (Qp (decide_eq_true (p:=((k0:Nat):Int)<(s_.length:Int)) (by omega))) p0) <| Qc <| ckT <| Qf <| Qc <| Qu <| tn Qa [0,1,4,5,7,8] [] (p0) <| tu Qa [(5, .i ((k0:Nat):Int)),(16, .b (v==a0))] [] [] [] (pn 3 hx0 p0) <| ck (v==a0) (fun h3=> ?_) (fun h3=> ?_)
  ·
   refine sn Qa [0,1,4,7,8] [] (p0) <| Qg ?_
   have hr4:(Xp (K1 v) Ug s_ 0 ())= .ret ((k0:Nat):Int):=Jg hx0 (Xf h3 (rfl)) hI0;exact pi [] (Oa hr4)
  have h3d:=Z2 h3;refine Qf <| rn Qa [0,1,4,7,8] [] (pe 0 (Jh (Ql k0 (by omega))) p0) ?_
  exact xw _ (Qr hx0 (Qs h3 (rfl)) hI0)
 ·
  exact sn Qa [0,1,4,7,8,9] [] (pe 0 (Qp (decide_eq_false (p:=((k0:Nat):Int)<(s_.length:Int)) (by omega))) p0) <| Qc <| ckF <| Q2 <| xw _ (Xi hk0 (rfl) hI0)
 exact sn Qa [4] [] (p0) <| Qg <| pi [] (Wj hD0 (rfl))
def Vl (s_:(List Int)) (v:Int):Bool:=decide ((Ck s_ v)>=(0:Int))
theorem I2 (s_:(List Int)) (v:Int):ACalls Tryz.prog 289 [.h s_, .i v] (.b (Vl s_ v)):=by
 refine en Qa Tryz.func289 fun w0 F0 hG=> ?_
 exact sn Qa [0,1,4] [] (p0) <| tn Qa [4] [] (pc 2 (YE s_ v) p0) <| Qg <| pb [] (show Vl s_ v=decide ((Ck s_ v)>=(0:Int)) from rfl)
def W5 (ids:(List Int)) (id:Int):Bool:=(Vl ids id)
theorem Oz (ids:(List Int)) (id:Int):ACalls Tryz.prog 319 [.h ids, .i id] (.b (W5 ids id)):=by
 refine en Qa Tryz.func319 fun w0 F0 hG=> ?_
 exact sn Qa [0,1,4] [] (p0) <| tn Qa [4] [] (pc 2 (I2 ids id) p0) <| Qg <| pb [] (show W5 ids id=(Vl ids id) from rfl)
def Y5 (n_:Nat) (q:(List Yu)) (at_:Int) (f:Xc) (r:(List Qh)):Bool:=match n_ with
 | 0=>default
 | n_+1=>(bif ((nth q (Int.toNat at_)).1==(2:Int)) then ((Xa f ((nth q (Int.toNat at_)).2.2.2.1)).1 !=(0:Int)) else (bif ((nth q (Int.toNat at_)).1==(3:Int)) then (((Xa f ((nth q (Int.toNat at_)).2.2.2.1)).1==(nth q (Int.toNat at_)).2.2.2.2.1)&&(((Xa f ((nth q (Int.toNat at_)).2.2.2.1)).2.1==(nth q (Int.toNat at_)).2.2.2.2.2.1)&&((((Xa f ((nth q (Int.toNat at_)).2.2.2.1)).2.2).toList==((nth q (Int.toNat at_)).2.2.2.2.2.2).toList)&&true))) else (bif ((nth q (Int.toNat at_)).1==(4:Int)) then (((Un f ((nth q (Int.toNat at_)).2.2.2.1))).2&&decide (((Un f ((nth q (Int.toNat at_)).2.2.2.1))).1<(nth q (Int.toNat at_)).2.2.2.2.2.1)) else (bif ((nth q (Int.toNat at_)).1==(5:Int)) then (!(Y5 n_ q ((nth q (Int.toNat at_)).2.1) f r)) else (bif ((nth q (Int.toNat at_)).1==(6:Int)) then ((Y5 n_ q ((nth q (Int.toNat at_)).2.1) f r)&&(Y5 n_ q ((nth q (Int.toNat at_)).2.2.1) f r)) else (bif ((nth q (Int.toNat at_)).1==(7:Int)) then ((Y5 n_ q ((nth q (Int.toNat at_)).2.1) f r)|| (Y5 n_ q ((nth q (Int.toNat at_)).2.2.1) f r)) else (bif ((nth q (Int.toNat at_)).1==(8:Int)) then (W5 (Q9 r ((nth q (Int.toNat at_)).2.2.2.1)) f.1) else (bif ((nth q (Int.toNat at_)).1==(9:Int)) then ((f.2.2.2.1 !=(0:Int))&&(W5 (Q9 r ((nth q (Int.toNat at_)).2.2.2.1)) f.2.2.2.1)) else true))))))))
theorem VX:∀(n_:Nat) (q:(List Yu)) (at_:Int) (f:Xc) (r:(List Qh)) (hv:Q3 q=true) (ha:0<=at_) (hb:at_<(q.length:Int)) (hn:at_<((n_:Nat):Int)),ACalls Tryz.prog 305 [.h q, .i at_, .a [.i f.1, .i f.2.1, .b f.2.2.1, .i f.2.2.2.1, .h f.2.2.2.2], .h r] (.b (Y5 n_ q at_ f r)):=by
 intro n_
 induction n_ with
 | zero=>intro q at_ f r hv ha hb hn;exact (by omega:False).elim
 | succ n_ ih=>
  intro q at_ f r hv ha hb hn
  refine en Qa Tryz.func305 fun w0 F0 hG=> ?_
  refine sn Qa [0,1,3,6,8] [6] (p0) <| wT 0 0 .sh q (fun hw2 hl3=> ?_)
  have hx1:=ng q (Int.toNat at_);refine tn Qa [0,3,6,8,9] [6,9] (pg 2 at_ hx1 p0) <| Qc <| tu Qa [(6, .p 6 0),(8, .b false),(9, .p 9 0),(17, .i ((nth q (Int.toNat at_)).1))] [1,2] [(6, [.i f.1, .i f.2.1, .b f.2.2.1, .i f.2.2.2.1, .h f.2.2.2.2]),(9, [.i ((nth q (Int.toNat at_)).1), .i ((nth q (Int.toNat at_)).2.1), .i ((nth q (Int.toNat at_)).2.2.1), .s ((nth q (Int.toNat at_)).2.2.2.1), .i ((nth q (Int.toNat at_)).2.2.2.2.1), .i ((nth q (Int.toNat at_)).2.2.2.2.2.1), .s ((nth q (Int.toNat at_)).2.2.2.2.2.2)])] [] (p0) <| Qu <| sn Qa [0,3,6,8,9,17,18] [6,9] (p0) <| ck ((nth q (Int.toNat at_)).1==(2:Int)) (fun h4=> ?_) (fun h4=> ?_)
  ·
   exact tn Qa [8] [] (pc 3 (Cx f ((nth q (Int.toNat at_)).2.2.2.1)) p0) <| Qg <| pb [] (Xf h4 (rfl))
  have h4d:=Z2 h4;refine tn Qa [0,3,6,8,9,17,26] [6,9] (p0) <| ck ((nth q (Int.toNat at_)).1==(3:Int)) (fun h5=> ?_) (fun h5=> ?_)
  ·
   exact tU Qa Zh [(8, .b (((Xa f ((nth q (Int.toNat at_)).2.2.2.1)).1==(nth q (Int.toNat at_)).2.2.2.2.1)&&(((Xa f ((nth q (Int.toNat at_)).2.2.2.1)).2.1==(nth q (Int.toNat at_)).2.2.2.2.2.1)&&((((Xa f ((nth q (Int.toNat at_)).2.2.2.1)).2.2).toList==((nth q (Int.toNat at_)).2.2.2.2.2.2).toList)&&true))))] [0,3,6,8,9,17] [] [6,9] (pc 3 (Cx f ((nth q (Int.toNat at_)).2.2.2.1)) p0) <| Qg <| pb [] (Qs h4 (Xf h5 (rfl)))
  have h5d:=Z2 h5;refine tu Qa [(35, .b ((nth q (Int.toNat at_)).1==(4:Int)))] [] [] [] (p0) <| ck ((nth q (Int.toNat at_)).1==(4:Int)) (fun h6=> ?_) (fun h6=> ?_)
  ·
   refine sn Qa [8,9,10,11] [9] (pc 3 (CS f ((nth q (Int.toNat at_)).2.2.2.1)) p0) <| Qc <| mz [(10, .i (((Un f ((nth q (Int.toNat at_)).2.2.2.1))).1)),(11, .b (((Un f ((nth q (Int.toNat at_)).2.2.2.1))).2))] [0,3,6,17,35] [] [6] <| jn [(8, .b (((Un f ((nth q (Int.toNat at_)).2.2.2.1))).2&&decide (((Un f ((nth q (Int.toNat at_)).2.2.2.1))).1<(nth q (Int.toNat at_)).2.2.2.2.2.1)))] [8,9,10,11] [] [9] (((Un f ((nth q (Int.toNat at_)).2.2.2.1))).2) (fun h7=> ?_) (fun h7=> ?_) ?_
   ·
    refine rn Qa [8] [] (pt 0 h7 p0) ?_;exact ⟨rfl,Qd (by rw[h7]<;>kernel_rfl)⟩
   ·
    refine rn Qa [8] [] (pf 0 h7 p0) ?_;exact ⟨rfl,Qd (by rw[h7]<;>kernel_rfl)⟩
   exact Qg <| pb [] (Qs h4 (Qs h5 (Xf h6 (rfl))))
  have h6d:=Z2 h6;refine sn Qa [0,3,6,8,9,17,52] [6,9] (p0) <| ck ((nth q (Int.toNat at_)).1==(5:Int)) (fun h8=> ?_) (fun h8=> ?_)
  ·
   have h8d:=eq_of_beq h8;exact tn Qa [8] [] (pc 5 (ih q ((nth q (Int.toNat at_)).2.1) f r hv (by have hz:=Qg3 hv ha hb h8;omega) (by have hz:=Qg3 hv ha hb h8;omega) (by have hz:=Qg3 hv ha hb h8;omega)) p0) <| Qg <| pb [] (Qs h4 (Qs h5 (Qs h6 (Xf h8 (rfl)))))
  have h8d:=Z2 h8;refine tn Qa [0,3,6,8,9,17,61] [6,9] (p0) <| ck ((nth q (Int.toNat at_)).1==(6:Int)) (fun h9=> ?_) (fun h9=> ?_)
  ·
   have h9d:=eq_of_beq h9;refine Qc <| mz [(61, .b ((nth q (Int.toNat at_)).1==(6:Int)))] [35] [] [] <| jn [(8, .b ((Y5 n_ q ((nth q (Int.toNat at_)).2.1) f r)&&(Y5 n_ q ((nth q (Int.toNat at_)).2.2.1) f r)))] [0,3,6,8,9,17,61] [] [6,9] (Y5 n_ q ((nth q (Int.toNat at_)).2.1) f r) (fun h10=> ?_) (fun h10=> ?_) ?_
   ·
    refine rn Qa [8] [] (pc 5 (cb h10 (ih q ((nth q (Int.toNat at_)).2.1) f r hv (by have hz:=OE hv ha hb h9;omega) (by have hz:=OE hv ha hb h9;omega) (by have hz:=OE hv ha hb h9;omega))) (pc 12 (ih q ((nth q (Int.toNat at_)).2.2.1) f r hv (by have hz:=Qg4 hv ha hb h9;omega) (by have hz:=Qg4 hv ha hb h9;omega) (by have hz:=Qg4 hv ha hb h9;omega)) p0)) ?_;exact ⟨rfl,Qd (by rw[h10]<;>kernel_rfl)⟩
   ·
    refine rn Qa [8] [] (pc 5 (cb h10 (ih q ((nth q (Int.toNat at_)).2.1) f r hv (by have hz:=OE hv ha hb h9;omega) (by have hz:=OE hv ha hb h9;omega) (by have hz:=OE hv ha hb h9;omega))) p0) ?_;exact ⟨rfl,Qd (by rw[h10]<;>kernel_rfl)⟩
   exact Qg <| pb [] (Qs h4 (Qs h5 (Qs h6 (Qs h8 (Xf h9 (rfl))))))
  have h9d:=Z2 h9;refine tu Qa [(77, .b ((nth q (Int.toNat at_)).1==(7:Int)))] [35] [] [] (p0) <| ck ((nth q (Int.toNat at_)).1==(7:Int)) (fun h11=> ?_) (fun h11=> ?_)
  ·
   have h11d:=eq_of_beq h11;refine Qc <| jn [(8, .b ((Y5 n_ q ((nth q (Int.toNat at_)).2.1) f r)|| (Y5 n_ q ((nth q (Int.toNat at_)).2.2.1) f r)))] [0,3,6,8,9,17,77] [] [6,9] (Y5 n_ q ((nth q (Int.toNat at_)).2.1) f r) (fun h12=> ?_) (fun h12=> ?_) ?_
   ·
    refine rn Qa [8] [] (pc 5 (cb h12 (ih q ((nth q (Int.toNat at_)).2.1) f r hv (by have hz:=RP hv ha hb h11;omega) (by have hz:=RP hv ha hb h11;omega) (by have hz:=RP hv ha hb h11;omega))) p0) ?_;exact ⟨rfl,Qd (by rw[h12]<;>kernel_rfl)⟩
   ·
    refine rn Qa [8] [] (pc 5 (cb h12 (ih q ((nth q (Int.toNat at_)).2.1) f r hv (by have hz:=RP hv ha hb h11;omega) (by have hz:=RP hv ha hb h11;omega) (by have hz:=RP hv ha hb h11;omega))) (pc 12 (ih q ((nth q (Int.toNat at_)).2.2.1) f r hv (by have hz:=Qip hv ha hb h11;omega) (by have hz:=Qip hv ha hb h11;omega) (by have hz:=Qip hv ha hb h11;omega)) p0)) ?_;exact ⟨rfl,Qd (by rw[h12]<;>kernel_rfl)⟩
   exact Qg <| pb [] (Qs h4 (Qs h5 (Qs h6 (Qs h8 (Qs h9 (Xf h11 (rfl)))))))
  refine sn Qa [3,6,8,9,17,93] [6,9] (p0) <| ck ((nth q (Int.toNat at_)).1==(8:Int)) (fun h13=> ?_) (fun h13=> ?_)
  ·
   exact tN Qa Zh [8] [] (pc 3 (Cj r ((nth q (Int.toNat at_)).2.2.2.1)) (pc 6 (Oz (Q9 r ((nth q (Int.toNat at_)).2.2.2.1)) f.1) p0)) <| Qg <| pb [] (Qs h4 (Qs h5 (Qs h6 (Qs h8 (Qs h9 (Qs h11 (Xf h13 (rfl))))))))
  refine tn Qa [3,6,8,9,102] [6,9] (p0) <| ck ((nth q (Int.toNat at_)).1==(9:Int)) (fun h14=> ?_) (fun h14=> ?_)
  ·
   refine Qc <| mz [(102, .b ((nth q (Int.toNat at_)).1==(9:Int)))] [0,17,77] [] [] <| jn [(8, .b ((f.2.2.2.1 !=(0:Int))&&(W5 (Q9 r ((nth q (Int.toNat at_)).2.2.2.1)) f.2.2.2.1)))] [3,6,8,9,102] [] [6,9] (f.2.2.2.1 !=(0:Int)) (fun h15=> ?_) (fun h15=> ?_) ?_
   ·
    refine rN Qa Zh [8] [] (pt 2 h15 (pc 7 (Cj r ((nth q (Int.toNat at_)).2.2.2.1)) (pc 10 (Oz (Q9 r ((nth q (Int.toNat at_)).2.2.2.1)) f.2.2.2.1) p0))) ?_;exact ⟨rfl,Qd (by rw[h15]<;>kernel_rfl)⟩
   ·
    refine rN Qa Zh [8] [] (pf 2 h15 p0) ?_;exact ⟨rfl,Qd (by rw[h15]<;>kernel_rfl)⟩
   exact Qg <| pb [] (Qs h4 (Qs h5 (Qs h6 (Qs h8 (Qs h9 (Qs h11 (Qs h13 (Xf h14 (rfl)))))))))
  exact Qf <| tu Qa [(8, .b true)] [0,3,6,8,9,17,77] [] [6,9] (p0) <| Qg <| pb [] (Qs h4 (Qs h5 (Qs h6 (Qs h8 (Qs h9 (Qs h11 (Qs h13 (Qs h14 (rfl)))))))))
def Up (q:(List Yu)) (f:Xc) (r:(List Qh)):Bool:=((Q3 q)&&(Y5 (List.length q) q ((q.length:Int)-1) f r))
theorem CT (q:(List Yu)) (f:Xc) (r:(List Qh)):ACalls Tryz.prog 279 [.h q, .a [.i f.1, .i f.2.1, .b f.2.2.1, .i f.2.2.2.1, .h f.2.2.2.2], .h r] (.b (Up q f r)):=by
 refine en Qa Tryz.func279 fun w0 F0 hG=> ?_
 refine sn Qa [0,2,4,6] [4] (p0) <| Qc <| mz [(4, .p 4 0),(6, .b false)] [1] [(4, [.i f.1, .i f.2.1, .b f.2.2.1, .i f.2.2.2.1, .h f.2.2.2.2])] [] <| jn [(6, .b ((Q3 q)&&(Y5 (List.length q) q ((q.length:Int)-1) f r)))] [0,2,4,6] [] [4] (Q3 q) (fun h1=> ?_) (fun h1=> ?_) ?_
 ·
  refine wT 0 0 .sh q (fun hw2 hl3=> ?_);refine rn Qa [6] [] (pc 1 (cb h1 (H8 q)) (pl 5 q (pe 6 (Jh (IntWalk.i64_in ((q.length:Int)-1) (by omega))) (pc 9 (VX (List.length q) q ((q.length:Int)-1) f r h1 (by have:=VH h1;omega) (by omega) (by omega)) p0)))) ?_;exact ⟨rfl,Qd (by rw[h1]<;>kernel_rfl)⟩
 ·
  refine rn Qa [6] [] (pc 1 (cb h1 (H8 q)) p0) ?_;exact ⟨rfl,Qd (by rw[h1]<;>kernel_rfl)⟩
 exact Qg <| pb [] (show Up q f r=((Q3 q)&&(Y5 (List.length q) q ((q.length:Int)-1) f r)) from rfl)
def Aa (q:(List Yu)) (r:(List Qh)) (_:Nat) (a0:Xc) (s0:(List Int)):Rd ((List Int)) ((List Int)) ((List Int)):=(bif (Up q a0 r) then (.next (s0++ [a0.1])) else (.next s0))
def Fq (_:Nat) (s0:(List Int)):(List Int):=s0
def Zg (s_:Qz) (q:(List Yu)) (r:(List Qh)):(List Int):=(Out.on (Xp (Aa q r) Fq s_.2.1 0 []) (fun y0=>y0))
theorem YF (s_:Qz) (q:(List Yu)) (r:(List Qh)):ACalls Tryz.prog 241 [.a [.h s_.1, .h s_.2.1, .i s_.2.2], .h q, .h r] (.o 0 (Zg s_ q r)):=by
 refine en Qa Tryz.func241 fun w0 F0 hG=> ?_
 refine sn Qa [1,2,3,6] [3] (p0) <| tn Qa [1,2,3,6,7] [3] (p0) <| Qc <| tu Qa [(6, .e 0),(7, .one (.slc (.own true 640) 1 [])),(12, .h s_.2.1),(13, .i (s_.2.1.length:Int)),(14, .i 0)] [0] [] [] (pl 2 s_.2.1 p0) <| wT 12 0 .sh s_.2.1 (fun hw1 hl2=> ?_)
 refine XY (Aa q r) Fq s_.2.1 [] (fun k0 s0=> [(7, .o 147203 s0),(14, .i ((k0:Nat):Int))]) [7,14] (fun y0=> [(7, .o 147353 y0)]) [1,2,7,12,13,14] (fun k0 s0=>List.length s0<=k0) (Xl [(640,147203)] (by kernel_rfl)) (by simp) (fun k0 s0 hk0 hI0=> ?_) (fun k0 s0 hk0 hI0=> ?_) (fun y0 hD0=> ?_)
 ·
  have hA0_0:=hI0.2;obtain ⟨a0,hx0⟩:=Xh (l:=s_.2.1) (i:=k0) hk0;refine su Qa [(15, .b true)] [] [] [] (pe 0 (Qp (decide_eq_true (p:=((k0:Nat):Int)<(s_.2.1.length:Int)) (by omega))) p0) <| Qc <| ckT <| Qf <| Qc <| Qu <| sn Qa [1,2,6,7,9,12,13,14] [9] (pn 0 hx0 p0) <| tn Qa [1,2,6,7,9,12,13,14,21] [9] (pc 3 (CT q a0 r) p0) <| ck (Up q a0 r) (fun h3=> ?_) (fun h3=> ?_)
  ·
   refine wT 7 0 (.own true 147203) s0 (fun hw4 hl5=> ?_);refine qu Qa [(7, .one (.slc (.own true 1664) 1 ((eL s0)++ [[.i a0.1]])))] [7,15] [] [] (pa s0 [a0.1] p0) ?_;refine eqn [(7, .o 1664 (s0++ [a0.1]))] [7] [] [] (by rw[show ((eL s0)++ [[.i a0.1]])=(eL (s0++ [a0.1])) from Ks (rfl) (rfl)];first | done | kernel_rfl) ?_;refine rn Qa [1,2,6,7,12,13,14] [] (pe 0 (Jh (Ql k0 (by omega))) p0) ?_;exact Exists.intro (s0++ [a0.1]) (And.intro (Xl [(1664,147203)] (by kernel_rfl)) ⟨Qr hx0 (Xf h3 (rfl)) hI0.1,by first | omega | (simp;omega) | simp⟩)
  refine Qf <| qu Qa [(14, .i ((k0+1:Nat):Int))] [14,15] [] [] (pe 0 (Jh (Ql k0 (by omega))) p0) ?_
  exact xw s0 ⟨Qr hx0 (Qs h3 (rfl)) hI0.1,by first | omega | (simp;omega) | simp⟩
 ·
  have hA0_0:=hI0.2;exact su Qa [(15, .b false)] [] [] [] (pe 0 (Qp (decide_eq_false (p:=((k0:Nat):Int)<(s_.2.1.length:Int)) (by omega))) p0) <| Qc <| ckF <| Q2 <| Exists.intro _ (And.intro (Xl [(147203,147353)] (by kernel_rfl)) (Xi hk0 (rfl) hI0.1))
 exact sn Qa [6] [] (p0) <| Qg <| po0 [] (Wj hD0 (rfl))
def M5 (name:ByteArray) (_:Nat) (a0:E6) (_:Unit):Rd (De) (Unit) (Unit):=(bif (a0.1.toList==name.toList) then (.ret a0.2) else (.next ()))
def M6 (_:Nat) (_:Unit):Unit:=()
def Xo (f:Xc) (name:ByteArray):De:=(Out.on (Xp (M5 name) M6 f.2.2.2.2 0 ()) (fun _=>(0,0,⟨#[]⟩)))
theorem Lb (f:Xc) (name:ByteArray):ACalls Tryz.prog 272 [.a [.i f.1, .i f.2.1, .b f.2.2.1, .i f.2.2.2.1, .h f.2.2.2.2], .s name] (.a [.i ((Xo f name).1), .i ((Xo f name).2.1), .s ((Xo f name).2.2)]):=by
 refine en Qa Tryz.func272 fun w0 F0 hG=> ?_
 refine sn Qa [1,2,4] [2,4] (p0) <| Qc <| tn Qa [1,2,4,5] [2,4] (p0) <| mz [(2, .p 2 0),(4, .p 4 0),(5, .i 0)] [0] [(2, [.i f.1, .i f.2.1, .b f.2.2.1, .i f.2.2.2.1, .h f.2.2.2.2]),(4, [.i 0, .i 0, .s ⟨#[]⟩])] [] <| wB 2 4 .sh f.2.2.2.2 (fun hw1 hl2=> ?_)
 refine Qj2 (M5 name) M6 f.2.2.2.2 () (fun k0 _=> [(5, .i ((k0:Nat):Int))]) [5] (fun _ _=> []) [] (fun _=> []) [1,2,5] (fun _=> []) [2] wf0 (fun k0 s0 hk0 hI0=> ?_) (fun k0 s0 hk0 hI0=> ?_) (fun y0 hD0=> ?_)
 ·
  obtain ⟨a0,hx0⟩:=Xh (l:=f.2.2.2.2) (i:=k0) hk0;refine Qc <| sn Qa [1,2,4,5,10] [2,4] (pl 3 f.2.2.2.2 (pe 4 (Qp (decide_eq_true (p:=((k0:Nat):Int)<(f.2.2.2.2.length:Int)) (by omega))) p0)) <| ckT <| Qf <| Qc <| Qu <| tn Qa [1,2,4,5,20] [2,4] (pn 3 hx0 p0) <| ck (a0.1.toList==name.toList) (fun h3=> ?_) (fun h3=> ?_)
  ·
   refine tu Qa [] [] [(4, [.i a0.2.1, .i a0.2.2.1, .s a0.2.2.2])] [4] (pn 3 hx0 p0) <| Qg ?_
   have hr4:(Xp (M5 name) M6 f.2.2.2.2 0 ())= .ret a0.2:=Jg hx0 (Xf h3 (rfl)) hI0;exact pz [] (show Xo f name=_ from Oa hr4) (fun z=> .a [.i z.1, .i z.2.1, .s z.2.2])
  refine Qf <| qu Qa [(5, .i ((k0+1:Nat):Int))] [5] [] [] (pe 1 (Jh (Ql k0 (by omega))) p0) ?_
  exact xw _ (Qr hx0 (Qs h3 (rfl)) hI0)
 ·
  exact Qc <| sn Qa [1,2,4,5,10] [2,4] (pl 3 f.2.2.2.2 (pe 4 (Qp (decide_eq_false (p:=((k0:Nat):Int)<(f.2.2.2.2.length:Int)) (by omega))) p0)) <| ckF <| Q2 <| xw _ (Xi hk0 (rfl) hI0)
 exact sn Qa [4] [4] (p0) <| Qg <| pz [] (show Xo f name=_ from Wj hD0 (rfl)) (fun z=> .a [.i z.1, .i z.2.1, .s z.2.2])
def Is (name:ByteArray) (_:Nat) (a0:Qh) (_:Unit):Rd ((List Int)) (Unit) (Unit):=(bif (a0.1.toList==name.toList) then (.ret a0.2) else (.next ()))
def It (_:Nat) (_:Unit):Unit:=()
def Xd (a_:(List Qh)) (name:ByteArray):(List Int):=(Out.on (Xp (Is name) It a_ 0 ()) (fun _=> []))
theorem Cl (a_:(List Qh)) (name:ByteArray):ACalls Tryz.prog 186 [.h a_, .s name] (.o 0 (Xd a_ name)):=by
 refine en Qa Tryz.func186 fun w0 F0 hG=> ?_
 refine sn Qa [0,1,4] [] (p0) <| Qc <| tn Qa [0,1,4,5] [] (p0) <| mz [(4, .e 0),(5, .i 0)] [] [] [] <| wT 0 0 .sh a_ (fun hw1 hl2=> ?_)
 refine Ox (Is name) It a_ () (fun k0 _=> [(5, .i ((k0:Nat):Int))]) [5] (fun _=> []) [0,1,5] wf0 (fun k0 s0 hk0 hI0=> ?_) (fun k0 s0 hk0 hI0=> ?_) (fun y0 hD0=> ?_)
 ·
  obtain ⟨a0,hx0⟩:=Xh (l:=a_) (i:=k0) hk0;refine Qc <| sn Qa [0,1,4,5,9] [] (pl 2 a_ (pe 3 (Qp (decide_eq_true (p:=((k0:Nat):Int)<(a_.length:Int)) (by omega))) p0)) <| ckT <| Qf <| Qc <| Qu <| tn Qa [0,1,4,5,18] [] (pn 2 hx0 p0) <| ck (a0.1.toList==name.toList) (fun h3=> ?_) (fun h3=> ?_)
  ·
   have hl4:List.length a0.2<=1073741824:=I5 (CI (CH hx0 (hw1)));refine tu Qa [(4, .o 1600 a0.2)] [4] [] [] (pn 3 hx0 (po 6 (.flat) (px (Ff (n:=(([]:List (List PV)).length+((eL a0.2):List (List PV)).length)) (Ig (rfl) (Zj a0.2) (by first | omega | (simp only[List.length_cons,List.length_nil];omega) | (simp;omega) | simp))) (px (Dg (Ca a0.2)) p0)))) <| Qg ?_
   have hr5:(Xp (Is name) It a_ 0 ())= .ret a0.2:=Jg hx0 (Xf h3 (rfl)) hI0;exact po0 [] (Oa hr5)
  refine Qf <| qu Qa [(5, .i ((k0+1:Nat):Int))] [5] [] [] (pe 1 (Jh (Ql k0 (by omega))) p0) ?_
  exact xw _ (Qr hx0 (Qs h3 (rfl)) hI0)
 ·
  exact Qc <| sn Qa [0,1,4,5,9] [] (pl 2 a_ (pe 3 (Qp (decide_eq_false (p:=((k0:Nat):Int)<(a_.length:Int)) (by omega))) p0)) <| ckF <| Q2 <| xw _ (Xi hk0 (rfl) hI0)
 exact sn Qa [4] [] (p0) <| Qg <| po0 [] (Wj hD0 (rfl))
def Hb (id:Int) (_:Nat) (a0:Int) (_:Unit):Rd (Bool) (Unit) (Unit):=(bif (a0==id) then (.ret true) else (.next ()))
def Cy (_:Nat) (_:Unit):Unit:=()
def V5 (ids:(List Int)) (id:Int):Bool:=(Out.on (Xp (Hb id) Cy ids 0 ()) (fun _=>false))
theorem Dz (ids:(List Int)) (id:Int):ACalls Tryz.prog 270 [.h ids, .i id] (.b (V5 ids id)):=by
 refine en Qa Tryz.func270 fun w0 F0 hG=> ?_
 refine sn Qa [0,1,4] [] (p0) <| Qc <| tn Qa [0,1,4,5] [] (p0) <| mz [(4, .b false),(5, .i 0)] [] [] [] <| wT 0 0 .sh ids (fun hw1 hl2=> ?_)
 refine Ox (Hb id) Cy ids () (fun k0 _=> [(5, .i ((k0:Nat):Int))]) [5] (fun _=> []) [0,1,5] wf0 (fun k0 s0 hk0 hI0=> ?_) (fun k0 s0 hk0 hI0=> ?_) (fun y0 hD0=> ?_)
 ·
  obtain ⟨a0,hx0⟩:=Xh (l:=ids) (i:=k0) hk0;refine Qc <| sn Qa [0,1,4,5,9] [] (pl 2 ids (pe 3 (Qp (decide_eq_true (p:=((k0:Nat):Int)<(ids.length:Int)) (by omega))) p0)) <| ckT <| Qf <| Qc <| Qu <| tn Qa [0,1,4,5,17] [] (pn 2 hx0 p0) <| ck (a0==id) (fun h3=> ?_) (fun h3=> ?_)
  ·
   refine tu Qa [(4, .b true)] [4] [] [] (p0) <| Qg ?_
   have hr4:(Xp (Hb id) Cy ids 0 ())= .ret true:=Jg hx0 (Xf h3 (rfl)) hI0;exact pb [] (Oa hr4)
  have h3d:=Z2 h3;refine Qf <| qu Qa [(5, .i ((k0+1:Nat):Int))] [5] [] [] (pe 1 (Jh (Ql k0 (by omega))) p0) ?_
  exact xw _ (Qr hx0 (Qs h3 (rfl)) hI0)
 ·
  exact Qc <| sn Qa [0,1,4,5,9] [] (pl 2 ids (pe 3 (Qp (decide_eq_false (p:=((k0:Nat):Int)<(ids.length:Int)) (by omega))) p0)) <| ckF <| Q2 <| xw _ (Xi hk0 (rfl) hI0)
 exact sn Qa [4] [] (p0) <| Qg <| pb [] (Wj hD0 (rfl))
def K4 (n_:Nat) (q:(List Yu)) (at_:Int) (f:Xc) (a_:(List Qh)):Bool:=match n_ with
 | 0=>default
 | n_+1=>(bif ((nth q (Int.toNat at_)).1==(1:Int)) then true else (bif ((nth q (Int.toNat at_)).1==(2:Int)) then ((Xo f ((nth q (Int.toNat at_)).2.2.2.1)).1 !=(0:Int)) else (bif ((nth q (Int.toNat at_)).1==(3:Int)) then (((Xo f ((nth q (Int.toNat at_)).2.2.2.1)).1==(nth q (Int.toNat at_)).2.2.2.2.1)&&(((Xo f ((nth q (Int.toNat at_)).2.2.2.1)).2.1==(nth q (Int.toNat at_)).2.2.2.2.2.1)&&((((Xo f ((nth q (Int.toNat at_)).2.2.2.1)).2.2).toList==((nth q (Int.toNat at_)).2.2.2.2.2.2).toList)&&true))) else (bif ((nth q (Int.toNat at_)).1==(4:Int)) then (((Xo f ((nth q (Int.toNat at_)).2.2.2.1)).1==(1:Int))&&decide ((Xo f ((nth q (Int.toNat at_)).2.2.2.1)).2.1<(nth q (Int.toNat at_)).2.2.2.2.2.1)) else (bif ((nth q (Int.toNat at_)).1==(5:Int)) then (!(K4 n_ q ((nth q (Int.toNat at_)).2.1) f a_)) else (bif ((nth q (Int.toNat at_)).1==(6:Int)) then ((K4 n_ q ((nth q (Int.toNat at_)).2.1) f a_)&&(K4 n_ q ((nth q (Int.toNat at_)).2.2.1) f a_)) else (bif ((nth q (Int.toNat at_)).1==(7:Int)) then ((K4 n_ q ((nth q (Int.toNat at_)).2.1) f a_)|| (K4 n_ q ((nth q (Int.toNat at_)).2.2.1) f a_)) else (bif ((nth q (Int.toNat at_)).1==(8:Int)) then (V5 (Xd a_ ((nth q (Int.toNat at_)).2.2.2.1)) f.1) else ((f.2.2.2.1 !=(0:Int))&&(V5 (Xd a_ ((nth q (Int.toNat at_)).2.2.2.1)) f.2.2.2.1))))))))))
theorem CU:∀(n_:Nat) (q:(List Yu)) (at_:Int) (f:Xc) (a_:(List Qh)) (hv:Q3 q=true) (ha:0<=at_) (hb:at_<(q.length:Int)) (hn:at_<((n_:Nat):Int)),ACalls Tryz.prog 303 [.h q, .i at_, .a [.i f.1, .i f.2.1, .b f.2.2.1, .i f.2.2.2.1, .h f.2.2.2.2], .h a_] (.b (K4 n_ q at_ f a_)):=by
 intro n_
 induction n_ with
 | zero=>intro q at_ f a_ hv ha hb hn;exact (by omega:False).elim
 | succ n_ ih=>
  intro q at_ f a_ hv ha hb hn
  refine en Qa Tryz.func303 fun w0 F0 hG=> ?_
  refine sn Qa [0,1,3,6,8] [6] (p0) <| wT 0 0 .sh q (fun hw2 hl3=> ?_)
  have hx1:=ng q (Int.toNat at_);refine tn Qa [0,3,6,8,9] [6,9] (pg 2 at_ hx1 p0) <| tu Qa [(6, .p 6 0),(8, .b false),(9, .p 9 0),(10, .p 10 0)] [1,2] [(6, [.i f.1, .i f.2.1, .b f.2.2.1, .i f.2.2.2.1, .h f.2.2.2.2]),(9, [.i ((nth q (Int.toNat at_)).1), .i ((nth q (Int.toNat at_)).2.1), .i ((nth q (Int.toNat at_)).2.2.1), .s ((nth q (Int.toNat at_)).2.2.2.1), .i ((nth q (Int.toNat at_)).2.2.2.2.1), .i ((nth q (Int.toNat at_)).2.2.2.2.2.1), .s ((nth q (Int.toNat at_)).2.2.2.2.2.2)]),(10, [.i ((Xo f ((nth q (Int.toNat at_)).2.2.2.1)).1), .i ((Xo f ((nth q (Int.toNat at_)).2.2.2.1)).2.1), .s ((Xo f ((nth q (Int.toNat at_)).2.2.2.1)).2.2)])] [] (pc 3 (Lb f ((nth q (Int.toNat at_)).2.2.2.1)) p0) <| Qc <| sn Qa [0,3,6,8,9,10,20] [6,9,10] (p0) <| Qu <| tn Qa [0,3,6,8,9,10,20,21] [6,9,10] (p0) <| ck ((nth q (Int.toNat at_)).1==(1:Int)) (fun h4=> ?_) (fun h4=> ?_)
  ·
   exact tu Qa [(8, .b true)] [0,8,10] [] [10] (p0) <| Qg <| pb [] (Xf h4 (rfl))
  have h4d:=Z2 h4;refine tu Qa [(20, .i ((nth q (Int.toNat at_)).1)),(23, .b ((nth q (Int.toNat at_)).1==(2:Int)))] [] [] [] (p0) <| ck ((nth q (Int.toNat at_)).1==(2:Int)) (fun h5=> ?_) (fun h5=> ?_)
  ·
   exact sn Qa [3,6,8,9] [6,9] (p0) <| Qg <| pb [] (Qs h4 (Xf h5 (rfl)))
  have h5d:=Z2 h5;refine sn Qa [0,3,6,8,9,10,20,28] [6,9,10] (p0) <| ck ((nth q (Int.toNat at_)).1==(3:Int)) (fun h6=> ?_) (fun h6=> ?_)
  ·
   exact tn Qa [3,6,8,9] [6,9] (p0) <| Qg <| pb [] (Qs h4 (Qs h5 (Xf h6 (rfl))))
  have h6d:=Z2 h6;refine tn Qa [0,3,6,8,9,10,20,34] [6,9,10] (p0) <| ck ((nth q (Int.toNat at_)).1==(4:Int)) (fun h7=> ?_) (fun h7=> ?_)
  ·
   refine Qc <| mz [(34, .b ((nth q (Int.toNat at_)).1==(4:Int)))] [23] [] [] <| jn [(8, .b (((Xo f ((nth q (Int.toNat at_)).2.2.2.1)).1==(1:Int))&&decide ((Xo f ((nth q (Int.toNat at_)).2.2.2.1)).2.1<(nth q (Int.toNat at_)).2.2.2.2.2.1)))] [0,8,10,20,34] [] [10] ((Xo f ((nth q (Int.toNat at_)).2.2.2.1)).1==(1:Int)) (fun h8=> ?_) (fun h8=> ?_) ?_
   ·
    refine rn Qa [3,6,8,9] [6,9] (pt 2 h8 p0) ?_;exact ⟨rfl,Qd (by rw[h8]<;>kernel_rfl)⟩
   ·
    refine rn Qa [3,6,8,9] [6,9] (pf 2 h8 p0) ?_;exact ⟨rfl,Qd (by rw[h8]<;>kernel_rfl)⟩
   exact Qg <| pb [] (Qs h4 (Qs h5 (Qs h6 (Xf h7 (rfl)))))
  have h7d:=Z2 h7;refine tu Qa [(47, .b ((nth q (Int.toNat at_)).1==(5:Int)))] [10,23] [] [10] (p0) <| ck ((nth q (Int.toNat at_)).1==(5:Int)) (fun h9=> ?_) (fun h9=> ?_)
  ·
   have h9d:=eq_of_beq h9;exact sn Qa [3,6,8,9] [6,9] (pc 5 (ih q ((nth q (Int.toNat at_)).2.1) f a_ hv (by have hz:=Qg3 hv ha hb h9;omega) (by have hz:=Qg3 hv ha hb h9;omega) (by have hz:=Qg3 hv ha hb h9;omega)) p0) <| Qg <| pb [] (Qs h4 (Qs h5 (Qs h6 (Qs h7 (Xf h9 (rfl))))))
  have h9d:=Z2 h9;refine sn Qa [0,3,6,8,9,20,56] [6,9] (p0) <| ck ((nth q (Int.toNat at_)).1==(6:Int)) (fun h10=> ?_) (fun h10=> ?_)
  ·
   have h10d:=eq_of_beq h10;refine Qc <| mz [(56, .b ((nth q (Int.toNat at_)).1==(6:Int)))] [47] [] [] <| jn [(8, .b ((K4 n_ q ((nth q (Int.toNat at_)).2.1) f a_)&&(K4 n_ q ((nth q (Int.toNat at_)).2.2.1) f a_)))] [0,8,20,56] [] [] (K4 n_ q ((nth q (Int.toNat at_)).2.1) f a_) (fun h11=> ?_) (fun h11=> ?_) ?_
   ·
    refine rn Qa [3,6,8,9] [6,9] (pc 5 (cb h11 (ih q ((nth q (Int.toNat at_)).2.1) f a_ hv (by have hz:=OE hv ha hb h10;omega) (by have hz:=OE hv ha hb h10;omega) (by have hz:=OE hv ha hb h10;omega))) (pc 12 (ih q ((nth q (Int.toNat at_)).2.2.1) f a_ hv (by have hz:=Qg4 hv ha hb h10;omega) (by have hz:=Qg4 hv ha hb h10;omega) (by have hz:=Qg4 hv ha hb h10;omega)) p0)) ?_;exact ⟨rfl,Qd (by rw[h11]<;>kernel_rfl)⟩
   ·
    refine rn Qa [3,6,8,9] [6,9] (pc 5 (cb h11 (ih q ((nth q (Int.toNat at_)).2.1) f a_ hv (by have hz:=OE hv ha hb h10;omega) (by have hz:=OE hv ha hb h10;omega) (by have hz:=OE hv ha hb h10;omega))) p0) ?_;exact ⟨rfl,Qd (by rw[h11]<;>kernel_rfl)⟩
   exact Qg <| pb [] (Qs h4 (Qs h5 (Qs h6 (Qs h7 (Qs h9 (Xf h10 (rfl)))))))
  have h10d:=Z2 h10;refine tn Qa [0,3,6,8,9,20,72] [6,9] (p0) <| ck ((nth q (Int.toNat at_)).1==(7:Int)) (fun h12=> ?_) (fun h12=> ?_)
  ·
   have h12d:=eq_of_beq h12;refine Qc <| mz [(72, .b ((nth q (Int.toNat at_)).1==(7:Int)))] [47] [] [] <| jn [(8, .b ((K4 n_ q ((nth q (Int.toNat at_)).2.1) f a_)|| (K4 n_ q ((nth q (Int.toNat at_)).2.2.1) f a_)))] [0,8,20,72] [] [] (K4 n_ q ((nth q (Int.toNat at_)).2.1) f a_) (fun h13=> ?_) (fun h13=> ?_) ?_
   ·
    refine rn Qa [3,6,8,9] [6,9] (pc 5 (cb h13 (ih q ((nth q (Int.toNat at_)).2.1) f a_ hv (by have hz:=RP hv ha hb h12;omega) (by have hz:=RP hv ha hb h12;omega) (by have hz:=RP hv ha hb h12;omega))) p0) ?_;exact ⟨rfl,Qd (by rw[h13]<;>kernel_rfl)⟩
   ·
    refine rn Qa [3,6,8,9] [6,9] (pc 5 (cb h13 (ih q ((nth q (Int.toNat at_)).2.1) f a_ hv (by have hz:=RP hv ha hb h12;omega) (by have hz:=RP hv ha hb h12;omega) (by have hz:=RP hv ha hb h12;omega))) (pc 12 (ih q ((nth q (Int.toNat at_)).2.2.1) f a_ hv (by have hz:=Qip hv ha hb h12;omega) (by have hz:=Qip hv ha hb h12;omega) (by have hz:=Qip hv ha hb h12;omega)) p0)) ?_;exact ⟨rfl,Qd (by rw[h13]<;>kernel_rfl)⟩
   exact Qg <| pb [] (Qs h4 (Qs h5 (Qs h6 (Qs h7 (Qs h9 (Qs h10 (Xf h12 (rfl))))))))
  refine tu Qa [(88, .b ((nth q (Int.toNat at_)).1==(8:Int)))] [0,20,47] [] [] (p0) <| ck ((nth q (Int.toNat at_)).1==(8:Int)) (fun h14=> ?_) (fun h14=> ?_)
  ·
   exact sN Qa Zh [3,6,8,9] [6,9] (pc 3 (Cl a_ ((nth q (Int.toNat at_)).2.2.2.1)) (pc 6 (Dz (Xd a_ ((nth q (Int.toNat at_)).2.2.2.1)) f.1) p0)) <| Qg <| pb [] (Qs h4 (Qs h5 (Qs h6 (Qs h7 (Qs h9 (Qs h10 (Qs h12 (Xf h14 (rfl)))))))))
  refine Qf <| Qc <| jn [(8, .b ((f.2.2.2.1 !=(0:Int))&&(V5 (Xd a_ ((nth q (Int.toNat at_)).2.2.2.1)) f.2.2.2.1)))] [3,6,8,9,88] [] [6,9] (f.2.2.2.1 !=(0:Int)) (fun h15=> ?_) (fun h15=> ?_) ?_
  ·
   refine rN Qa Zh [8] [] (pt 2 h15 (pc 7 (Cl a_ ((nth q (Int.toNat at_)).2.2.2.1)) (pc 10 (Dz (Xd a_ ((nth q (Int.toNat at_)).2.2.2.1)) f.2.2.2.1) p0))) ?_;exact ⟨rfl,Qd (by rw[h15]<;>kernel_rfl)⟩
  ·
   refine rN Qa Zh [8] [] (pf 2 h15 p0) ?_;exact ⟨rfl,Qd (by rw[h15]<;>kernel_rfl)⟩
  exact Qg <| pb [] (Qs h4 (Qs h5 (Qs h6 (Qs h7 (Qs h9 (Qs h10 (Qs h12 (Qs h14 (rfl)))))))))
def Gl (q:(List Yu)) (f:Xc) (a_:(List Qh)):Bool:=((Zi q)&&(K4 (List.length q) q ((q.length:Int)-1) f a_))
theorem CV (q:(List Yu)) (f:Xc) (a_:(List Qh)):ACalls Tryz.prog 267 [.h q, .a [.i f.1, .i f.2.1, .b f.2.2.1, .i f.2.2.2.1, .h f.2.2.2.2], .h a_] (.b (Gl q f a_)):=by
 refine en Qa Tryz.func267 fun w0 F0 hG=> ?_
 refine sn Qa [0,2,4,6] [4] (p0) <| Qc <| mz [(4, .p 4 0),(6, .b false)] [1] [(4, [.i f.1, .i f.2.1, .b f.2.2.1, .i f.2.2.2.1, .h f.2.2.2.2])] [] <| jn [(6, .b ((Zi q)&&(K4 (List.length q) q ((q.length:Int)-1) f a_)))] [0,2,4,6] [] [4] (Zi q) (fun h1=> ?_) (fun h1=> ?_) ?_
 ·
  refine wT 0 0 .sh q (fun hw2 hl3=> ?_);refine rn Qa [6] [] (pc 1 (cb h1 (Ue q)) (pl 5 q (pe 6 (Jh (IntWalk.i64_in ((q.length:Int)-1) (by omega))) (pc 9 (CU (List.length q) q ((q.length:Int)-1) f a_ (Sy h1) (by have:=VH (Sy h1);omega) (by omega) (by omega)) p0)))) ?_;exact ⟨rfl,Qd (by rw[h1]<;>kernel_rfl)⟩
 ·
  refine rn Qa [6] [] (pc 1 (cb h1 (Ue q)) p0) ?_;exact ⟨rfl,Qd (by rw[h1]<;>kernel_rfl)⟩
 exact Qg <| pb [] (show Gl q f a_=((Zi q)&&(K4 (List.length q) q ((q.length:Int)-1) f a_)) from rfl)
def Bz (q:(List Yu)) (a_:(List Qh)) (_:Nat) (a0:Xc) (s0:(List Int)):Rd ((List Int)) ((List Int)) ((List Int)):=(bif (Gl q a0 a_) then (.next (s0++ [a0.1])) else (.next s0))
def Fr (_:Nat) (s0:(List Int)):(List Int):=s0
def Yk (s_:Qz) (q:(List Yu)) (a_:(List Qh)):(List Int):=(Out.on (Xp (Bz q a_) Fr s_.2.1 0 []) (fun y0=>y0))
theorem Nr (s_:Qz) (q:(List Yu)) (a_:(List Qh)):ACalls Tryz.prog 228 [.a [.h s_.1, .h s_.2.1, .i s_.2.2], .h q, .h a_] (.o 0 (Yk s_ q a_)):=by
 refine en Qa Tryz.func228 fun w0 F0 hG=> ?_
 refine sn Qa [1,2,3,6] [3] (p0) <| tn Qa [1,2,3,6,7] [3] (p0) <| Qc <| tu Qa [(3, .p 3 0),(6, .e 0),(7, .one (.slc (.own true 576) 1 [])),(8, .i 0)] [0] [(3, [.h s_.1, .h s_.2.1, .i s_.2.2])] [] (p0) <| wB 3 1 .sh s_.2.1 (fun hw1 hl2=> ?_)
 refine XZ (Bz q a_) Fr s_.2.1 [] (fun k0 s0=> [(7, .o 147204 s0),(8, .i ((k0:Nat):Int))]) [7,8] (fun _ _=> []) [] (fun y0=> [(7, .o 147354 y0)]) [1,2,3,7,8] (fun _=> []) [3] (fun k0 s0=>List.length s0<=k0) (Xl [(576,147204)] (by kernel_rfl)) (by simp) (fun k0 s0 hk0 hI0=> ?_) (fun k0 s0 hk0 hI0=> ?_) (fun y0 hD0=> ?_)
 ·
  have hA0_0:=hI0.2;obtain ⟨a0,hx0⟩:=Xh (l:=s_.2.1) (i:=k0) hk0;refine Qc <| su Qa [(14, .b true)] [] [] [] (pl 3 s_.2.1 (pe 4 (Qp (decide_eq_true (p:=((k0:Nat):Int)<(s_.2.1.length:Int)) (by omega))) p0)) <| ckT <| Qf <| Qc <| Qu <| sn Qa [1,2,3,6,7,8,24] [3] (pn 4 hx0 (pc 7 (CV q a0 a_) p0)) <| ck (Gl q a0 a_) (fun h3=> ?_) (fun h3=> ?_)
  ·
   refine wT 7 0 (.own true 147204) s0 (fun hw4 hl5=> ?_);refine qu Qa [(7, .one (.slc (.own true 2112) 1 ((eL s0)++ [[.i a0.1]])))] [7,14] [] [] (pn 4 hx0 (pa s0 [a0.1] p0)) ?_;refine eqn [(7, .o 2112 (s0++ [a0.1]))] [7] [] [] (by rw[show ((eL s0)++ [[.i a0.1]])=(eL (s0++ [a0.1])) from Ks (rfl) (rfl)];first | done | kernel_rfl) ?_;refine rn Qa [1,2,3,6,7,8] [3] (pe 1 (Jh (Ql k0 (by omega))) p0) ?_;exact Exists.intro (s0++ [a0.1]) (And.intro (Xl [(2112,147204)] (by kernel_rfl)) ⟨Qr hx0 (Xf h3 (rfl)) hI0.1,by first | omega | (simp;omega) | simp⟩)
  refine Qf <| qn Qa [1,2,3,6,7,8] [3] (pe 1 (Jh (Ql k0 (by omega))) p0) ?_
  exact xw s0 ⟨Qr hx0 (Qs h3 (rfl)) hI0.1,by first | omega | (simp;omega) | simp⟩
 ·
  have hA0_0:=hI0.2;exact Qc <| su Qa [(14, .b false)] [] [] [] (pl 3 s_.2.1 (pe 4 (Qp (decide_eq_false (p:=((k0:Nat):Int)<(s_.2.1.length:Int)) (by omega))) p0)) <| ckF <| Q2 <| Exists.intro _ (And.intro (Xl [(147204,147354)] (by kernel_rfl)) (Xi hk0 (rfl) hI0.1))
 exact sn Qa [6] [] (p0) <| Qg <| po0 [] (Wj hD0 (rfl))
theorem Qj6 (l:List Int) (x:Int):W5 l x=V5 l x:=by
 unfold W5 Vl Ck V5
 have key:∀(l:List Int) (k:Nat),decide (((Xp (K1 x) Ug l k ()).on fun _=> -1)>=0)=((Xp (Hb x) Cy l k ()).on fun _=>false):=by
  intro l
  induction l with
  | nil=>intro k;rfl
  | cons a l ih=>
    intro k;by_cases h:x=a
    . subst h;simp[Xp,K1,Hb,Out.on]
    have e1:(x==a)=false:=beq_eq_false_iff_ne.2 h;have e2:(a==x)=false:=beq_eq_false_iff_ne.2 (Ne.symm h);simp only[Xp,K1,Hb,e1,e2,cond_false];exact ih (k+1)
 exact key l 0
theorem Qbs (r:List Qh) (s:ByteArray):Q9 r s=Xd r s:=rfl
theorem Qbt (f:Xc) (s:ByteArray):Xa f s=Xo f s:=rfl
theorem Qj7 {n:Yu} {k:Int} (h:Z5 n k=true):n.1=1\/n.1=2\/n.1=3\/n.1=4\/n.1=5\/n.1=6\/n.1=7\/n.1=8\/n.1=9:=by
 refine Classical.byContradiction fun hn=> ?_
 simp only[not_or] at hn;obtain ⟨h1,h2,h3,h4,h5,h6,h7,h8,h9⟩:=hn;unfold Z5 at h;simp only[beq_eq_false_iff_ne.2 h1,beq_eq_false_iff_ne.2 h2,beq_eq_false_iff_ne.2 h3,beq_eq_false_iff_ne.2 h4,beq_eq_false_iff_ne.2 h5,beq_eq_false_iff_ne.2 h6,beq_eq_false_iff_ne.2 h7,beq_eq_false_iff_ne.2 h8,beq_eq_false_iff_ne.2 h9,cond_false] at h;cases h
theorem OS {q:List Yu} (hv:Q3 q=true) (f:Xc) (r:List Qh):∀(n:Nat) (k:Int),0<=k->k<(q.length:Int)->Y5 n q k f r=K4 n q k f r
 | 0,_,_,_=>rfl
 | n +1,k,h0,h1=>by
   have hn:=LR hv (V7 (l:=q) (i:=Int.toNat k) (by omega));rw[Int.toNat_of_nonneg h0] at hn;obtain ⟨hl,hr⟩:=Ip hv h0 h1;unfold Y5 K4;have ih:=OS hv f r n;unfold Un;simp only[Qbt,Qbs,Qj6];generalize nth q (Int.toNat k)=m at hn hl hr⊢;rcases Qj7 hn with h | h | h | h | h | h | h | h | h
   . simp[h]
   . simp[h]
   . simp[h]
   . rw[h];cases hz:((Xo f m.2.2.2.1).1==(1:Int)) with
     | true=>simp[bne,hz]
     | false=>simp[bne,hz]
   . simp[h,ih _ (hl (by simp[h])).1 (by have:=(hl (by simp[h])).2;omega)]
   . simp[h,ih _ (hl (by simp[h])).1 (by have:=(hl (by simp[h])).2;omega),ih _ (hr (by simp[h])).1 (by have:=(hr (by simp[h])).2;omega)]
   . simp[h,ih _ (hl (by simp[h])).1 (by have:=(hl (by simp[h])).2;omega),ih _ (hr (by simp[h])).1 (by have:=(hr (by simp[h])).2;omega)]
   . simp[h]
   simp[h]
theorem RV (q:List Yu) (f:Xc) (r:List Qh):Up q f r=Gl q f r:=by
 unfold Up Gl;rw[←Qet];cases hv:Q3 q with
 | false=>rfl
 | true=>rw[OS hv f r _ _ (by have:=VH hv;omega) (by omega)]
theorem VY (s:Qz) (q:List Yu) (r:List Qh):Zg s q r=Yk s q r:=by
 unfold Zg Yk
 rw[Dw (f:=Aa q r) (g:=Bz q r) (e:=Fq) (e':=Fr) (fun i a s=>by
  unfold Aa Bz;rw[RV]) (fun _ _=>rfl)]
end Go.Proofs.YtkekndahbiefaaaGreatDoor
namespace Go.Proofs.YtkekndahbiefaaaGreatDoor
section
variable {φ:Type} (fs:List φ) (idOf:φ->Int)
def sel (p:φ->Bool):List Int:=(fs.filter p).map idOf
theorem VZ {p q:φ->Bool}:∀(l:List φ),(∀f,f∈l->p f=true->q f=true)->(l.filter p).length<=(l.filter q).length/\((l.filter q).length<=(l.filter p).length->l.filter p=l.filter q)
 | [],_=>⟨Nat.le_refl _,fun _=>rfl⟩
 | f :: l,h=>by
   obtain ⟨h1,h2⟩:=VZ l fun g hg=>h g (List.mem_cons_of_mem _ hg)
   have h0:=h f (List.mem_cons_self ..);cases hp:p f with
   | true=>
     have hq:=h0 hp;simp only[List.filter_cons,hp,hq,if_true,List.length_cons];exact ⟨by omega,fun hl=>by rw[h2 (by omega)]⟩
   | false=>
     cases hq:q f with
     | true=>
       simp only[List.filter_cons,hp,hq,if_true,List.length_cons,Bool.false_eq_true,if_false];exact ⟨by omega,fun hl=>absurd hl (by omega)⟩
     | false=>
       simp only[List.filter_cons,hp,hq,Bool.false_eq_true,if_false];exact ⟨h1,h2⟩
theorem Qbu (p:φ->Bool):(sel fs idOf p).length<=fs.length:=by
 unfold sel;rw[List.length_map];exact List.length_filter_le _ _
variable {fs idOf}
theorem Qe2 {p q:φ->Bool} (h:∀f,f∈fs->p f=true->q f=true) (hn:sel fs idOf p≠sel fs idOf q):(sel fs idOf p).length+1<=(sel fs idOf q).length:=by
 obtain ⟨h1,h2⟩:=VZ fs h;unfold sel at hn⊢;rw[List.length_map,List.length_map];refine Nat.lt_of_le_of_ne h1 fun e=>hn ?_
 rw[h2 (by omega)]
theorem Qiw {p q:φ->Bool} (h:∀f,f∈fs->p f=true->q f=true) {x:Int} (hx:x∈sel fs idOf p):x∈sel fs idOf q:=by
 unfold sel at hx⊢;obtain ⟨f,hf,rfl⟩:=List.mem_map.1 hx;obtain ⟨h1,h2⟩:=List.mem_filter.1 hf;exact List.mem_map.2 ⟨f,List.mem_filter.2 ⟨h1,h f h1 h2⟩,rfl⟩
end
abbrev CD:=ByteArray×List Int
def Qbv (out:List CD) (k:Nat) (ids:List Int):List CD:=out.set k ((nth out k).1,ids)
theorem JT {out:List CD} {k:Nat} (x:CD) (hk:k<out.length) (j:Nat):nth (out.set k x) j=if j=k then x else nth out j:=by
 unfold nth;simp only[List.getD_eq_getElem?_getD,List.getElem?_set];by_cases h:k=j
 . subst h;simp[hk]
 simp[h,Ne.symm h]
theorem RW {out:List CD} {k:Nat} (ids:List Int) (hk:k<out.length):(Qbv out k ids).map (·.1)=out.map (·.1):=by
 unfold Qbv;rw[List.map_set];refine List.ext_getElem (by simp) fun i h1 h2=> ?_
 rw[List.getElem_set];split
 . rename_i h;subst h;simp[nth,List.getD,hk]
 rfl
def WA (B:Nat) (act:Nat->Bool):Nat->List CD->Nat
 | _, []=>0
 | k,r::l=>(bif act k then B-r.2.length else 0)+WA B act (k+1) l
theorem Qbw (B:Nat) (act:Nat->Bool):∀(l:List CD) (k:Nat),WA B act k l<=l.length*B
 | [],k=>by simp[WA]
 | r::l,k=>by
   have:=Qbw B act l (k+1);simp only[WA,List.length_cons,Nat.add_mul,Nat.one_mul];cases act k with
   | true=>simp only[cond_true];omega
   | false=>simp only[cond_false];omega
theorem OT (B:Nat) (act:Nat->Bool) (x:CD):∀(l:List CD) (k i:Nat),i<l.length->act (k+i)=true->(nth l i).2.length+1<=x.2.length->x.2.length<=B->WA B act k (l.set i x)+1<=WA B act k l
 | [],k,i,hi,_,_,_=>by simp at hi
 | r::l,k,0,_,ha,h1,h2=>by
   have e:nth (r::l) 0=r:=rfl;rw[e] at h1;rw[Nat.add_zero] at ha;simp only[List.set,WA,ha,cond_true];omega
 | r::l,k,i+1,hi,ha,h1,h2=>by
   have:=OT B act x l (k+1) i (by simpa using hi) (by rwa [show k+1+i=k+(i+1) by omega]) h1 h2;simp only[List.set,WA];omega
section
variable {φ:Type} {fs:List φ} {idOf:φ->Int} (m:Nat->List CD->φ->Bool) (act:Nat->Bool)
def LeC (a b:List CD):Prop:=∀j,(∀x,x∈(nth a j).2->x∈(nth b j).2)/\(act j=false->(nth a j).2=(nth b j).2)
variable (fs idOf)
def Qlh (out:List CD):Prop:=∀k,k<out.length->act k=true->∃p:φ->Bool,(nth out k).2=sel fs idOf p/\∀f,f∈fs->p f=true->m k out f=true
def Qe3 (nm:List ByteArray):Prop:=∀a b:List CD,a.map (·.1)=nm->b.map (·.1)=nm->LeC act a b->∀k,k<nm.length->act k=true->∀f,f∈fs->m k a f=true->m k b f=true
def FT (s:List CD×Bool) (k:Nat):List CD×Bool:=bif act k then (if sel fs idOf (m k s.1)=(nth s.1 k).2 then s else (Qbv s.1 k (sel fs idOf (m k s.1)),true)) else s
def CW (ks:List Nat) (s:List CD×Bool):List CD×Bool:=ks.foldl (FT fs idOf m act) s
variable {fs idOf m act} {nm:List ByteArray}
structure StateC (fs:List φ) (idOf:φ->Int) (m:Nat->List CD->φ->Bool) (act:Nat->Bool) (nm:List ByteArray) (o out:List CD):Prop where
 names:out.map (·.1)=nm
 good:Qlh fs idOf m act out
 rest:∀j,act j=false->nth out j=nth o j
theorem Qe4 (hm:Qe3 fs m act nm) {o:List CD} {s:List CD×Bool} (h:StateC fs idOf m act nm o s.1) {k:Nat} (hk:k<nm.length):
 StateC fs idOf m act nm o (FT fs idOf m act s k).1/\WA fs.length act 0 (FT fs idOf m act s k).1<=WA fs.length act 0 s.1/\((FT fs idOf m act s k).2=true->s.2=true\/WA fs.length act 0 (FT fs idOf m act s k).1+1<=WA fs.length act 0 s.1):=by
 unfold FT;cases ha:act k with
 | false=>exact ⟨h,Nat.le_refl _, .inl⟩
 | true=>
   simp only[cond_true];split
   . exact ⟨h,Nat.le_refl _, .inl⟩
   rename_i hne;have hlen:nm.length=s.1.length:=by rw[←h.names,List.length_map]
   have hk':k<s.1.length:=by omega
   obtain ⟨p,hp1,hp2⟩:=h.good k hk' ha;rw[hp1] at hne;have hgrow:=Qe2 (idOf:=idOf) hp2 (Ne.symm hne);have hnames:(Qbv s.1 k (sel fs idOf (m k s.1))).map (·.1)=nm:=by rw[RW _ hk',h.names]
   have hle:LeC act s.1 (Qbv s.1 k (sel fs idOf (m k s.1))):=fun j=>by
    unfold Qbv;rw[JT _ hk'];by_cases hj:j=k
    . subst hj;rw[if_pos rfl];exact ⟨fun x hx=>Qiw hp2 (hp1▸hx),fun hf=>absurd ha (by simp[hf])⟩
    rw[if_neg hj];exact ⟨fun _ hx=>hx,fun _=>rfl⟩
   have hmono:=hm _ _ h.names hnames hle
   have hr:WA fs.length act 0 (Qbv s.1 k (sel fs idOf (m k s.1)))+1<=WA fs.length act 0 s.1:=
    OT _ _ _ _ 0 k hk' (by rw[Nat.zero_add];exact ha) (by rw[hp1];exact hgrow) (Qbu _ _ _)
   refine ⟨⟨hnames,fun j hj hja=> ?_,fun j hj=> ?_⟩,Nat.le_of_succ_le hr,fun _=> .inr hr⟩
   . have hj':j<s.1.length:=by unfold Qbv at hj;rwa [List.length_set] at hj
     by_cases e:j=k
     . subst e;refine ⟨m j s.1, ?_,fun f hf hmf=>hmono j (by omega) hja f hf hmf⟩;unfold Qbv;rw[JT _ hk',if_pos rfl]
     obtain ⟨p',h1,h2⟩:=h.good j hj' hja;refine ⟨p', ?_,fun f hf hpf=>hmono j (by omega) hja f hf (h2 f hf hpf)⟩;unfold Qbv;rw[JT _ hk',if_neg e];exact h1
   have e:j≠k:=fun e=>absurd ha (by simp[←e,hj])
   unfold Qbv;rw[JT _ hk',if_neg e];exact h.rest j hj
theorem OU (hm:Qe3 fs m act nm) {o:List CD}:∀(ks:List Nat) (s:List CD×Bool),(∀k,k∈ks->k<nm.length)->StateC fs idOf m act nm o s.1->
 StateC fs idOf m act nm o (CW fs idOf m act ks s).1/\WA fs.length act 0 (CW fs idOf m act ks s).1<=WA fs.length act 0 s.1/\((CW fs idOf m act ks s).2=true->s.2=true\/WA fs.length act 0 (CW fs idOf m act ks s).1+1<=WA fs.length act 0 s.1)
 | [],s,_,h=>⟨h,Nat.le_refl _, .inl⟩
 | k ::ks,s,hks,h=>by
   obtain ⟨h1,h2,h3⟩:=Qe4 hm h (hks k (List.mem_cons_self ..));obtain ⟨g1,g2,g3⟩:=OU hm ks _ (fun j hj=>hks j (List.mem_cons_of_mem _ hj)) h1;refine ⟨g1,Nat.le_trans g2 h2,fun hc=> ?_⟩;rcases g3 hc with hc | hc
   . rcases h3 hc with hc | hc
     . exact .inl hc
     exact .inr (Nat.le_trans (Nat.add_le_add_right g2 1) hc)
   exact .inr (Nat.le_trans hc h2)
theorem Qlp {R S T:Type} {F:S->Rd R S T} {out:S->List CD} {ch:S->Bool} {n:Nat} (hn:n=nm.length)
 (hF:∀s,ch s=true->∃s',F s= .next s'/\(out s',ch s')=CW fs idOf m act (List.range n) (out s,false))
 (hE:∀s,ch s=false->∃t,F s= .brk t)
 (hm:Qe3 fs m act nm) {o:List CD}:∀(k:Nat) (s:S),StateC fs idOf m act nm o (out s)->WA fs.length act 0 (out s)+(bif ch s then 2 else 1)<=k->
 ∃s',StateC fs idOf m act nm o (out s')/\ch s'=false/\∃t,F s'= .brk t/\whl F k s=some (.brk t)
 | 0,s,_,hk=>by cases hc:ch s<;>simp[hc] at hk
 | k +1,s,h,hk=>by
   cases hc:ch s with
   | false=>
     obtain ⟨t,ht⟩:=hE s hc;exact ⟨s,h,hc,t,ht,by simp only[whl,ht]⟩
   | true=>
     rw[hc] at hk;simp only[cond_true] at hk;obtain ⟨s',h1,h2⟩:=hF s hc;obtain ⟨g1,g2,g3⟩:=OU hm (o:=o) (List.range n) (out s,false) (fun j hj=>by rw[←hn];exact List.mem_range.1 hj) h;rw[←h2] at g1 g2 g3;simp only[whl,h1];refine Qlp hn hF hE hm k s' g1 ?_;simp only[Bool.false_eq_true,false_or] at g3;cases hc':ch s' with
     | false=>simp only[cond_false];have:WA fs.length act 0 (out s')<=WA fs.length act 0 (out s):=g2;omega
     | true=>simp only[cond_true];have:WA fs.length act 0 (out s')+1<=WA fs.length act 0 (out s):=g3 hc';omega
end
open Go.RowKit in
def ArgLe (a b:AV):Prop:=∀(J:Inj) (w:World) (v:Value),AR J w v a->AR J w v b
theorem ArgLe.rfl (a:AV):ArgLe a a:=fun _ _ _ h=>h
theorem ArgLe.nil (n:Nat):ArgLe (.one (.slc .sh 0 [])) (.one (.slc .sh n [])):=fun J w v h=>by
 have h':VV J.F w v (.slc 0 []):=h;show VV J.F w v (.slc n []);generalize hp:PV.slc 0 ([]:List (List PV))=p at h';cases h' with
 | int | bool | str | any=>cases hp
 | emp oa m hc=>exact .emp oa n hc
 | @slc b off cap m cs l hx hcells hr hle hcap=>
   cases hp
   exact .emp _ n hcap.1
theorem LZ {P:Program} {f:Nat} {r:AV} {args args':List AV} (h:All2 ArgLe args args') (c:ACalls P f args' r):ACalls P f args r:=⟨c.1,fun w hg F vals hF hall=>c.2 w hg F vals hF (by
 clear c
 induction h generalizing vals with
 | nil=>exact hall
 | cons h1 h2 ih=>
   cases hall with
   | cons g1 g2=>exact .cons (h1 _ _ _ g1) (ih _ g2))⟩
end Go.Proofs.YtkekndahbiefaaaGreatDoor
namespace Go.Proofs.YtkekndahbiefaaaGreatDoor
open Go.RowKit
def Ed (n:Yu) (c:Int):Bool:=((n.2.1==c)&&(n.1==6|| n.1==7|| n.1==5))|| ((n.2.2.1==c)&&(n.1==6|| n.1==7))
theorem Qbx (c:Int) (k:Nat) (a:Yu) (s:Int) (h0:0<=s) (h1:s<=1000):∃s',Ky c k a s= .next s'/\s+(bif Ed a c then 1 else 0)<=s'/\s'<=s+2:=by
 have w1:IntKind.i64.wrap (s+1)=s+1:=IntWalk.i64_in _ (by omega);have w2:IntKind.i64.wrap (s+1+1)=s+1+1:=IntWalk.i64_in _ (by omega);unfold Ky Ed;rw[w1,w2];cases (a.2.1==c)<;>cases (a.2.2.1==c)<;>cases (a.1==6)<;>cases (a.1==7)<;>cases (a.1==5)<;>exact ⟨_,rfl,by first | (simp;done) | (simp;omega) | omega,by omega⟩
theorem FU (c:Int):∀(l:List Yu) (k:Nat) (s:Int),0<=s->s+2*l.length<=1000->∃s',Xp (Ky c) Hv l k s= .brk s'/\s+(l.filter fun n=>Ed n c).length<=s'
 | [],k,s,_,_=>⟨s,rfl,by simp⟩
 | a::l,k,s,h0,h1=>by
   rw[List.length_cons] at h1;obtain ⟨s1,e1,g1,g2⟩:=Qbx c k a s h0 (by omega);have hp:0<=s1:=by cases hb:Ed a c<;>(rw[hb] at g1;simp at g1;omega)
   obtain ⟨s2,e2,g3⟩:=FU c l (k+1) s1 hp (by omega);refine ⟨s2,by simp only[Xp,e1];exact e2, ?_⟩;rw[List.filter_cons];cases hb:Ed a c with
   | true=>rw[hb] at g1;simp only[cond_true] at g1;simp only[if_true,List.length_cons];omega
   | false=>rw[hb] at g1;simp only[cond_false] at g1;simp only[Bool.false_eq_true,if_false];omega
theorem Qj8 {α:Type} {p:α->Bool} {l:List α} {i j:Nat} {a b:α} (hij:i<j) (hi:l[i]? =some a) (hj:l[j]? =some b) (ha:p a=true) (hb:p b=true):2<=(l.filter p).length:=by
 have e:l=l.take j++l.drop j:=(List.take_append_drop j l).symm;rw[e,List.filter_append,List.length_append];have h1:1<=((l.take j).filter p).length:=List.length_pos_of_mem (a:=a) (List.mem_filter.2 ⟨List.mem_of_getElem? (i:=i) (by rw[List.getElem?_take,if_pos hij];exact hi),ha⟩);have h2:1<=((l.drop j).filter p).length:=List.length_pos_of_mem (a:=b) (List.mem_filter.2 ⟨List.mem_of_getElem? (i:=0) (by rw[List.getElem?_drop];exact hj),hb⟩);omega
theorem Qix {q:List Yu} (h:Q3 q=true) {i:Nat} (hi:i+1<q.length):Kc q (i:Int)=1:=by
 obtain ⟨⟨t,ht⟩,_⟩:=Qa9 h;have:=I6 (fun k a t=>by unfold Zu;generalize (_|| _:Bool)=c;cases c<;>simp) ht i (nth q i) (V7 (by omega));unfold Zu at this;rw[Nat.zero_add] at this;have hd:decide (((i:Nat):Int)<((q.length:Int)-1))=true:=decide_eq_true (by omega);rw[hd,Bool.true_and] at this;cases hn:(Kc q ((i:Nat):Int) !=(1:Int)) with
 | false=>exact Wt hn
 | true=>rw[hn,Bool.or_true] at this;simp at this
theorem Qe5 {q:List Yu} (h:Q3 q=true) {c i j:Nat} (hc:c+1<q.length) (hij:i<j) (hj:j<q.length) (h1:Ed (nth q i) (c:Int)=true) (h2:Ed (nth q j) (c:Int)=true):False:=by
 have hr:=Qix h hc;have hl:=(VH h).2;obtain ⟨s,e,g⟩:=FU (c:Int) q 0 0 (by omega) (by omega);unfold Kc at hr;rw[e] at hr;have:=Qj8 (p:=fun n=>Ed n (c:Int)) hij (V7 (by omega)) (V7 hj) h1 h2;simp only[Out.on] at hr;omega
theorem Qby {q:List Yu} (h:Q3 q=true) {c i:Nat} (hi:i<q.length) (hr:Ed (nth q i) (c:Int)=true):c<i:=by
 obtain ⟨h1,h2⟩:=Ip h (k:=(i:Int)) (by omega) (by omega);rw[Int.toNat_natCast] at h1 h2;unfold Ed at hr;simp only[Bool.or_eq_true,Bool.and_eq_true,beq_iff_eq] at hr;rcases hr with ⟨e,hop⟩ | ⟨e,hop⟩
 . have:=h1 (by omega);omega
 have:=h2 (by omega);omega
theorem CX {L:List Bool} {i:Nat} (x:Bool) (hi:i<L.length) (j:Nat):nth (L.set i x) j=if j=i then x else nth L j:=by
 unfold nth;simp only[List.getD_eq_getElem?_getD,List.getElem?_set];by_cases h:i=j
 . subst h;simp[hi]
 simp[h,Ne.symm h]
theorem Qe6 {q:List Yu} (h:Q3 q=true) {k:Nat} (hk:k<q.length) (s:List Bool) (hs:s.length=q.length):∃s',Z0 q k s= .next s'/\s'.length=q.length/\
 (∀j:Nat,Ed (nth q (q.length-1-k)) (j:Int)=false->nth s' j=nth s j)/\
 (∀j:Nat,Ed (nth q (q.length-1-k)) (j:Int)=true->nth s' j=(nth s (q.length-1-k)|| ((nth q (q.length-1-k)).1==5))):=by
 have hdn:Int.toNat (dn ((q.length:Int)-1) k)=q.length-1-k:=by rw[LH];omega
 obtain ⟨hl,hr⟩:=Ip h (k:=((q.length-1-k:Nat):Int)) (by omega) (by omega);rw[Int.toNat_natCast] at hl hr;have hlt:q.length-1-k<s.length:=by omega
 unfold Z0;rw[hdn];generalize q.length-1-k=i at hl hr hlt⊢;generalize nth q i=n at hl hr⊢;generalize (nth s i|| (n.1==5))=b
 have both:∀(e5:(n.1==(5:Int))=false),(n.1=6\/n.1=7)->(List.set (List.set s (Int.toNat n.2.1) b) (Int.toNat n.2.2.1) b).length=q.length/\(∀j:Nat,Ed n (j:Int)=false->nth (List.set (List.set s (Int.toNat n.2.1) b) (Int.toNat n.2.2.1) b) j=nth s j)/\(∀j:Nat,Ed n (j:Int)=true->nth (List.set (List.set s (Int.toNat n.2.1) b) (Int.toNat n.2.2.1) b) j=b):=fun e5 h67=>by
  obtain ⟨g1,g2⟩:=hl (.inr h67);obtain ⟨g3,g4⟩:=hr h67;have hop:(n.1==6|| n.1==7)=true:=by rcases h67 with e | e<;>simp[e]
  have hlen:(List.set s (Int.toNat n.2.1) b).length=s.length:=List.length_set ..;refine ⟨by rw[List.length_set,hlen,hs],fun j hj=> ?_,fun j hj=> ?_⟩
  . simp only[Ed,hop,Bool.true_or,Bool.and_true,Bool.or_eq_false_iff,beq_eq_false_iff_ne,ne_eq] at hj;rw[Np _ (by omega),Np _ (by omega)]
  simp only[Ed,hop,Bool.true_or,Bool.and_true,Bool.or_eq_true,beq_iff_eq] at hj;rw[CX _ (by omega),CX _ (by omega)];split
  . rfl
  rw[if_pos (by omega)]
 by_cases h5:n.1=5
 . obtain ⟨g1,g2⟩:=hl (.inl h5);simp only[h5,beq_self_eq_true,cond_true];refine ⟨_,rfl,by rw[List.length_set,hs],fun j hj=> ?_,fun j hj=> ?_⟩
   . have:n.2.1≠(j:Int):=by simpa [Ed,h5] using hj
     exact Np _ (by omega)
   have:n.2.1=(j:Int):=by simpa [Ed,h5] using hj
   rw[CX _ (by omega),if_pos (by omega)]
 have e5:(n.1==(5:Int))=false:=beq_eq_false_iff_ne.2 h5;rw[e5,cond_false];by_cases h6:n.1=6
 . simp only[h6,beq_self_eq_true,cond_true];exact ⟨_,rfl,both e5 (.inl h6)⟩
 by_cases h7:n.1=7
 . simp only[h7,beq_self_eq_true,cond_true];exact ⟨_,rfl,both e5 (.inr h7)⟩
 have e6:(n.1==(6:Int))=false:=beq_eq_false_iff_ne.2 h6;have e7:(n.1==(7:Int))=false:=beq_eq_false_iff_ne.2 h7;rw[e6,e7,cond_false,cond_false];refine ⟨_,rfl,hs,fun _ _=>rfl,fun j hj=> ?_⟩;simp[Ed,e5,e6,e7] at hj
def Qbz (q:List Yu) (k:Nat) (s:List Bool):Prop:=s.length=q.length/\∀i,q.length<=i+k->i<q.length->∀c:Nat,Ed (nth q i) (c:Int)=true->nth s c=(nth s i|| ((nth q i).1==5))
theorem Qe7 {q:List Yu} (h:Q3 q=true) {k:Nat} (hk:k<q.length) {s:List Bool} (hs:Qbz q k s):∃s',Z0 q k s= .next s'/\Qbz q (k+1) s':=by
 obtain ⟨s',h1,h2,h3,h4⟩:=Qe6 h hk s hs.1
 have hself:nth s' (q.length-1-k)=nth s (q.length-1-k):=h3 _ (by
  cases hr:Ed (nth q (q.length-1-k)) ((q.length-1-k:Nat):Int) with
  | false=>rfl
  | true=>have:=Qby h (by omega) hr;omega)
 refine ⟨s',h1,h2,fun i hi1 hi2 c hc=> ?_⟩;by_cases e:i=q.length-1-k
 . subst e;rw[h4 c hc,hself]
 have hci:=Qby h hi2 hc
 have n1:Ed (nth q (q.length-1-k)) (c:Int)=false:=by
  cases hr:Ed (nth q (q.length-1-k)) (c:Int) with
  | false=>rfl
  | true=>exact (Qe5 h (c:=c) (i:=q.length-1-k) (j:=i) (by omega) (by omega) hi2 hr hc).elim
 have n2:Ed (nth q (q.length-1-k)) (i:Int)=false:=by
  cases hr:Ed (nth q (q.length-1-k)) (i:Int) with
  | false=>rfl
  | true=>have:=Qby h (by omega) hr;omega
 rw[h3 c n1,h3 i n2];exact hs.2 i (by omega) hi2 c hc
theorem OW {q:List Yu} (h:Q3 q=true):∀(n k:Nat) (s:List Bool),k+n=q.length->Qbz q k s->∃s',Wu (Z0 q) Hj n k s= .brk s'/\Qbz q q.length s'
 | 0,k,s,hk,hs=>⟨s,rfl,by rw[show k=q.length by omega] at hs;exact hs⟩
 | n+1,k,s,hk,hs=>by
   obtain ⟨s1,h1,h2⟩:=Qe7 h (by omega) hs;obtain ⟨s2,h3,h4⟩:=OW h n (k+1) s1 (by omega) h2;exact ⟨s2,by simp only[Wu,h1];exact h3,h4⟩
theorem Qe8 {q:List Yu} (h:Q3 q=true):Qbz q q.length (Yc q):=by
 unfold Yc;obtain ⟨s,h1,h2⟩:=OW h (List.length q) 0 (List.replicate (Int.toNat (q.length:Int)) false) (by omega) ⟨by simp,fun i h1 h2=>by omega⟩;rw[h];simp only[Bool.not_true,cond_false,h1,Out.on];exact h2
theorem Qe9 {q:List Yu} {i:Nat} (hi:i<(Yc q).length) (hn:nth (Yc q) i=true) (hd:Jc (nth q i)=true):(nth q i).2.2.2.1∈X7 q:=by
 have key:∀(l:List Bool) (k:Nat) (s:List ByteArray),∃t,Xp (Wl q true) H2 l k s= .brk t/\(∀x,x∈s->x∈t)/\∀j,l[j]? =some true->Jc (nth q (k+j))=true->(nth q (k+j)).2.2.2.1∈t:=by
  intro l
  induction l with
  | nil=>intro k s;exact ⟨s,rfl,fun _ h=>h,fun j h=>by simp at h⟩
  | cons a l ih=>
    intro k s;simp only[Xp,Wl];cases hc:(Jc (nth q k)&&(a==true)) with
    | true=>
      obtain ⟨t,h1,h2,h3⟩:=ih (k+1) (s++ [(nth q k).2.2.2.1]);refine ⟨t,h1,fun x hx=>h2 x (List.mem_append_left _ hx),fun j hj hnm=> ?_⟩;cases j with
      | zero=>exact h2 _ (List.mem_append_right _ (by simp))
      | succ j=>
        have:=h3 j (by simpa using hj) (by rwa [show k+1+j=k+(j+1) by omega])
        rwa [show k+1+j=k+(j+1) by omega] at this
    | false=>
      obtain ⟨t,h1,h2,h3⟩:=ih (k+1) s;refine ⟨t,h1,h2,fun j hj hnm=> ?_⟩;cases j with
      | zero=>
        obtain rfl:a=true:=by simpa using hj
        rw[Nat.add_zero] at hnm;rw[hnm] at hc;cases hc
      | succ j=>
        have:=h3 j (by simpa using hj) (by rwa [show k+1+j=k+(j+1) by omega])
        rwa [show k+1+j=k+(j+1) by omega] at this
 unfold X7 W4;obtain ⟨t,h1,_,h3⟩:=key (Yc q) 0 [];rw[h1];simp only[Out.on];have:=h3 i (by rw[V7 hi,hn]) (by rwa [Nat.zero_add]);rw[Nat.zero_add] at this;exact ((VK t).2 _).2 this
theorem CY (l:List Int) (x:Int):W5 l x=true↔x∈l:=by
 unfold W5 Vl Ck
 have key:∀(l:List Int) (k:Nat),decide (((Xp (K1 x) Ug l k ()).on fun _=> -1)>=0)=true↔x∈l:=by
  intro l
  induction l with
  | nil=>intro k;simp[Xp,Out.on,Ug]
  | cons a l ih=>
    intro k;by_cases h:x=a
    . subst h;simp[Xp,K1,Out.on]
    have e1:(x==a)=false:=beq_eq_false_iff_ne.2 h;simp only[Xp,K1,e1,cond_false];rw[ih (k+1)];simp[h]
 exact key l 0
structure Seen (q:List Yu) (a b:List Qh):Prop where
 grow:∀nm x,x∈Q9 a nm->x∈Q9 b nm
 same:∀nm,nm∈X7 q->Q9 a nm=Q9 b nm
theorem BA {q:List Yu} (hv:Q3 q=true) {a b:List Qh} (hs:Seen q a b) (f:Xc):∀(n:Nat) (k:Nat),k<n->k<q.length->
 (nth (Yc q) k=true->Y5 n q (k:Int) f a=Y5 n q (k:Int) f b)/\(Y5 n q (k:Int) f a=true->Y5 n q (k:Int) f b=true)
 | 0,_,h,_=>absurd h (by omega)
 | n +1,k,hkn,hk=>by
   obtain ⟨hl,hr⟩:=Ip hv (k:=(k:Int)) (by omega) (by omega);rw[Int.toNat_natCast] at hl hr;obtain ⟨hlen,hneg⟩:=Qe8 hv;have hneg:=hneg k (by omega) hk;have hop:=Qj7 (LR hv (V7 hk));have hnm:=Qe9 (q:=q) (i:=k) (by omega);have ih:=BA hv hs f n;unfold Y5;rw[Int.toNat_natCast];generalize nth q k=m at hl hr hneg hop hnm⊢
   have kid:∀c:Int,0<=c->c<(k:Int)->Ed m c=true->((nth (Yc q) k|| (m.1==5))=true->Y5 n q c f a=Y5 n q c f b)/\(Y5 n q c f a=true->Y5 n q c f b=true):=fun c h0 h1 hrf=>by
    obtain ⟨j,rfl⟩:∃j:Nat,c=(j:Int):=⟨Int.toNat c,by omega⟩;obtain ⟨g1,g2⟩:=ih j (by omega) (by omega);exact ⟨fun hn=>g1 ((hneg j hrf).trans hn),g2⟩
   rcases hop with h | h | h | h | h | h | h | h | h
   . simp[h]
   . simp[h]
   . simp[h]
   . simp[h]
   . obtain ⟨k1,k2⟩:=hl (.inl h);obtain ⟨g1,_⟩:=kid m.2.1 k1 k2 (by simp[Ed,h]);have:=g1 (by simp[h]);simp[h,this]
   . obtain ⟨k1,k2⟩:=hl (.inr (.inl h));obtain ⟨k3,k4⟩:=hr (.inl h);obtain ⟨g1,g2⟩:=kid m.2.1 k1 k2 (by simp[Ed,h]);obtain ⟨g3,g4⟩:=kid m.2.2.1 k3 k4 (by simp[Ed,h]);refine ⟨fun hn=> ?_,fun hm=> ?_⟩
     . simp[h,g1 (by simp[hn]),g3 (by simp[hn])]
     simp[h] at hm⊢;exact ⟨g2 hm.1,g4 hm.2⟩
   . obtain ⟨k1,k2⟩:=hl (.inr (.inr h));obtain ⟨k3,k4⟩:=hr (.inr h);obtain ⟨g1,g2⟩:=kid m.2.1 k1 k2 (by simp[Ed,h]);obtain ⟨g3,g4⟩:=kid m.2.2.1 k3 k4 (by simp[Ed,h]);refine ⟨fun hn=> ?_,fun hm=> ?_⟩
     . simp[h,g1 (by simp[hn]),g3 (by simp[hn])]
     simp[h] at hm⊢;exact hm.imp g2 g4
   . refine ⟨fun hn=> ?_,fun hm=> ?_⟩
     . simp[h,hs.same _ (hnm hn (by simp[Jc,h]))]
     simp[h] at hm⊢;exact (CY _ _).2 (hs.grow _ _ ((CY _ _).1 hm))
   refine ⟨fun hn=> ?_,fun hm=> ?_⟩
   . simp[h,hs.same _ (hnm hn (by simp[Jc,h]))]
   simp[h] at hm⊢;exact ⟨hm.1,(CY _ _).2 (hs.grow _ _ ((CY _ _).1 hm.2))⟩
theorem FV {q:List Yu} {a b:List Qh} (hs:Seen q a b) (f:Xc) (h:Up q f a=true):Up q f b=true:=by
 unfold Up at h⊢;cases hv:Q3 q with
 | false=>rw[hv] at h;cases h
 | true=>
   rw[hv,Bool.true_and] at h;rw[Bool.true_and];have hl:=VH hv;have e:((q.length:Int)-1)=((q.length-1:Nat):Int):=by omega
   rw[e] at h⊢;exact (BA hv hs f q.length (q.length-1) (by omega) (by omega)).2 h
theorem RX (s:Qz) (q:List Yu) (r:List Qh):Zg s q r=sel s.2.1 (fun f=>f.1) fun f=>Up q f r:=by
 unfold Zg;rw[Bc (f:=Aa q r) (p:=fun f=>Up q f r) (g:=fun f=>f.1) (fun _ _ _=>rfl)];rfl
theorem Pr {d:List Xw} {L:List Int} (h:Qt d=(L,true)):Qo d=true/\L.length=d.length/\Sat (Jf d) d.length L/\∀j,0<=nth L j:=by
 unfold Qt at h;cases hv:Qo d with
 | false=>rw[hv] at h;simp at h
 | true=>
   rw[hv] at h;simp only[Bool.not_true,cond_false] at h;have h5:=W8 hv;have hw:=L6 (d:=d) (f:=Uz d) (e:=U0) (F:=Wa d) (fun _ _ _=>rfl) (fun _ _=>rfl) (fun _=>rfl) (by omega) (d.length*d.length+3) (List.replicate d.length 0) true (Bx _).1 (Bx _).2
   have hsome:(QA (Jf d) d.length d.length (d.length*d.length+3) (true,List.replicate d.length 0)).isSome=true:=by
    have:=Ew d h5;rw[Int.toNat_natCast,hw,Option.isSome_map] at this;exact this
   obtain ⟨r,hr⟩:=Option.isSome_iff_exists.1 hsome;unfold Nj at h;rw[Int.toNat_natCast,hw,hr] at h;have hw':∀i e,e∈Jf d i->e.2<=1/\e.1<d.length:=fun i e he=>⟨(L5 d i e he).1,(L5 d i e he).2.1⟩
   obtain ⟨h1,_⟩:=QC hw' _ 0 true r (fun e=>by cases e) hr;cases r with
   | none=>simp[Qjo,Out.on] at h
   | some M=>
     have e:M=L:=by simpa [Qjo,Out.on] using h
     subst e;obtain ⟨hrest,hM⟩:=h1 M rfl;rw[hM];exact ⟨rfl,W6 _ _ _,QB (W6 _ _ _) hrest,fun j=>Ce _ _ j _⟩
theorem Qb0 {d:List Xw} {L:List Int} (h:Qt d=(L,true)):∀j,nth L j<=(d.length:Int):=by
 obtain ⟨hv,hlen,_,_⟩:=Pr h;have h5:=W8 hv;unfold Qt at h;rw[hv] at h;simp only[Bool.not_true,cond_false] at h;have hw:=L6 (d:=d) (f:=Uz d) (e:=U0) (F:=Wa d) (fun _ _ _=>rfl) (fun _ _=>rfl) (fun _=>rfl) (by omega) (d.length*d.length+3) (List.replicate d.length 0) true (Bx _).1 (Bx _).2
 have hsome:(QA (Jf d) d.length d.length (d.length*d.length+3) (true,List.replicate d.length 0)).isSome=true:=by
  have:=Ew d h5;rw[Int.toNat_natCast,hw,Option.isSome_map] at this;exact this
 obtain ⟨r,hr⟩:=Option.isSome_iff_exists.1 hsome;unfold Nj at h;rw[Int.toNat_natCast,hw,hr] at h;have hw':∀i e,e∈Jf d i->e.2<=1/\e.1<d.length:=fun i e he=>⟨(L5 d i e he).1,(L5 d i e he).2.1⟩
 obtain ⟨h1,_⟩:=QC hw' _ 0 true r (fun e=>by cases e) hr;cases r with
 | none=>simp[Qjo,Out.on] at h
 | some M=>
   have e:M=L:=by simpa [Qjo,Out.on] using h
   subst e;obtain ⟨hrest,hM⟩:=h1 M rfl;intro j;by_cases hj:j<d.length
   . rw[hM];exact Int.le_of_lt (LV hw' hrest j hj)
   have:nth M j=0:=S4 (by omega);omega
theorem Ii {d:List Xw} {w:Int} {nm:ByteArray}:∀{l:List ByteArray},nm∈l->0<=Q1 d nm->(Int.toNat (Q1 d nm),w)∈K2 d w l
 | x::l,h,h0=>by
   simp only[K2];rcases List.mem_cons.1 h with rfl | h
   . rw[if_pos h0];exact List.mem_cons_self ..
   split
   . exact List.mem_cons_of_mem _ (Ii h h0)
   exact Ii h h0
theorem RY {d:List Xw} {L:List Int} (h:Qt d=(L,true)) {i:Nat} (hi:i<d.length) {nm:ByteArray} (hn:nm∈X7 (nth d i).2) (h0:0<=Q1 d nm):nth L (Int.toNat (Q1 d nm))<nth L i:=by
 obtain ⟨_,_,hs,_⟩:=Pr h
 have hm:(Int.toNat (Q1 d nm),(1:Int))∈Jf d i:=by
  unfold Jf;rw[if_pos hi];exact List.mem_append_right _ (Ii hn h0)
 have:=(Cd.1 (hs i hi)).2 _ hm;simp only at this;omega
theorem Qb1 (nm:ByteArray):∀(d:List Xw) (o:List Qh) (k:Nat),o.map (·.1)=d.map (·.1)->
 (Xp (Xt nm) Ym d k ()= .brk ()/\Xp (Vt nm) Uo o k ()= .brk ())\/
 ∃i:Nat,i<d.length/\Xp (Xt nm) Ym d k ()= .ret (((k+i:Nat)):Int)/\Xp (Vt nm) Uo o k ()= .ret (nth o i).2
 | [], [],_,_=> .inl ⟨rfl,rfl⟩
 | [],_::_,_,h=>by simp at h
 | _::_, [],_,h=>by simp at h
 | a ::d,b::o,k,h=>by
   simp only[List.map_cons,List.cons.injEq] at h;obtain ⟨h1,h2⟩:=h;simp only[Xp,Xt,Vt,Ch,h1];cases (a.1.toList==nm.toList) with
   | true=>exact .inr ⟨0,by simp,rfl,rfl⟩
   | false=>
     simp only[cond_false];rcases Qb1 nm d o (k+1) h2 with h | ⟨i,hi,h3,h4⟩
     . exact .inl h
     exact .inr ⟨i+1,by simpa using hi,by rw[h3,show k+1+i=k+(i+1) by omega],h4⟩
theorem WB {d:List Xw} {o:List Qh} (h:o.map (·.1)=d.map (·.1)) (nm:ByteArray):(Q1 d nm<0/\Q9 o nm= [])\/(0<=Q1 d nm/\Int.toNat (Q1 d nm)<d.length/\Q9 o nm=(nth o (Int.toNat (Q1 d nm))).2):=by
 unfold Q1 Z4 Q9;rcases Qb1 nm d o 0 h with ⟨h1,h2⟩ | ⟨i,hi,h1,h2⟩
 . rw[h1,h2];refine .inl ⟨?_, ?_⟩
   . show (-1:Int)<0;omega
   rfl
 rw[h1,h2];simp only[Out.on,Nat.zero_add,Int.toNat_natCast];exact .inr ⟨by omega,hi,trivial⟩
abbrev CZ (d:List Xw) (k:Nat) (o:List Qh) (f:Xc):Bool:=Up (nth d k).2 f o
theorem Qiy {d:List Xw} {L:List Int} (h:Qt d=(L,true)) (fs:List Xc) {act:Nat->Bool} {level:Int} (ha:∀k,act k=true->nth L k=level):Qe3 fs (CZ d) act (d.map (·.1)):=by
 intro a b hna hnb hle k hk hact f _ hm;rw[List.length_map] at hk;refine FV (⟨fun nm x hx=> ?_,fun nm hn=> ?_⟩:Seen (nth d k).2 a b) f hm
 . rcases WB hna nm with ⟨h1,h2⟩ | ⟨h1,h2,h3⟩
   . rw[h2] at hx;simp at hx
   rcases WB hnb nm with ⟨g1,_⟩ | ⟨_,_,g3⟩
   . omega
   rw[h3] at hx;rw[g3];exact (hle _).1 x hx
 rcases WB hna nm with ⟨h1,h2⟩ | ⟨h1,h2,h3⟩
 . rcases WB hnb nm with ⟨_,g2⟩ | ⟨g1,_,_⟩
   . rw[h2,g2]
   omega
 rcases WB hnb nm with ⟨g1,_⟩ | ⟨_,_,g3⟩
 . omega
 rw[h3,g3];refine (hle _).2 ?_;have hlt:=RY h hk hn h1;cases hp:act (Int.toNat (Q1 d nm)) with
 | false=>rfl
 | true=>have:=ha _ hp;have:=ha _ hact;omega
structure EvS (d:List Xw) (L:List Int) (on:Nat->Bool) (fs:List Xc) (k:Int) (o:List Qh):Prop where
 names:o.map (·.1)=d.map (·.1)
 none:∀j,k<=nth L j->on j=true->(nth o j).2= []
 some_:∀j,j<d.length->on j=true->∃p:Xc->Bool,(nth o j).2=sel fs (fun f=>f.1) p
def FW (L:List Int) (on:Nat->Bool) (k:Int) (j:Nat):Bool:=(nth L j==k)&&on j
theorem Qb2 {d:List Xw} {L:List Int} {on:Nat->Bool} {fs:List Xc} {k:Int} {o:List Qh} (h:EvS d L on fs k o):StateC fs (fun f:Xc=>f.1) (CZ d) (FW L on k) (d.map (·.1)) o o:=
 ⟨h.names,fun j _ hj=>⟨fun _=>false,by
  unfold FW at hj;simp only[Bool.and_eq_true,beq_iff_eq] at hj;rw[h.none j (by omega) hj.2];simp[sel],fun f _ hf=>by cases hf⟩,fun _ _=>rfl⟩
theorem Qfa {d:List Xw} {L:List Int} {on:Nat->Bool} {k:Int} {o o':List Qh} {fs:List Xc} (h:EvS d L on fs k o) (h':StateC fs (fun f:Xc=>f.1) (CZ d) (FW L on k) (d.map (·.1)) o o'):EvS d L on fs (k+1) o':=
 ⟨h'.names,fun j hj hon=>by
  rw[h'.rest j (by unfold FW;rw[Bool.and_eq_false_iff];exact .inl (beq_eq_false_iff_ne.2 (by omega)))];exact h.none j (by omega) hon,fun j hj hon=>by
  cases ha:FW L on k j with
  | false=>rw[h'.rest j ha];exact h.some_ j hj hon
  | true=>
    have hlen:o'.length=d.length:=by have:=congrArg List.length h'.names;simpa using this
    obtain ⟨p,hp,_⟩:=h'.good j (by omega) ha;exact ⟨p,hp⟩⟩
theorem Br {d:List Xw} {L:List Int} {on:Nat->Bool} {fs:List Xc} {k:Int} {o:List Qh} (h:EvS d L on fs k o):List.length o=List.length d:=by have:=congrArg List.length h.names;simpa using this
theorem JU (a b:List Int):Kd a b=decide (a=b):=by
 by_cases h:a.length=b.length
 . exact Qbr a b h
 have hb:((a.length:Int) !=(b.length:Int))=true:=by simpa using fun e:(a.length:Int)=(b.length:Int)=>h (by omega)
 unfold Kd;rw[hb,decide_eq_false (fun e=>h (congrArg List.length e))];rfl
def Qb3 (s:Qz) (d:List Xw) (L:List Int) (on:Nat->Bool) (lv:Int) {R T:Type} (f:Nat->Xw->List Qh×Bool->Rd R (List Qh×Bool) T):Prop:=
 ∀k a o c,d[k]? =some a->f k a (o,c)=bif FW L on lv k then (bif !(decide (Zg s a.2 o=(nth o k).2)) then .next (List.set o k ((nth o k).1,Zg s a.2 o),true) else .next (o,c)) else .next (o,c)
theorem YG {R:Type} {s:Qz} {d:List Xw} {L:List Int} {on:Nat->Bool} {lv:Int} {f:Nat->Xw->List Qh×Bool->Rd R (List Qh×Bool) (List Qh×Bool)} {e:Nat->List Qh×Bool->List Qh×Bool}
 (hf:Qb3 s d L on lv f) (he:∀k s,e k s=s):∀(l:List Xw) (k:Nat) (o:List Qh) (c:Bool),d.drop k=l->Xp f e l k (o,c)= .brk (CW s.2.1 (fun f:Xc=>f.1) (CZ d) (FW L on lv) (List.range' k l.length) (o,c))
 | [],k,o,c,_=>by simp[Xp,CW,he]
 | a ::l,k,o,c,hl=>by
   have hk:d[k]? =some a:=by
    have:=congrArg (·[0]?) hl;simpa using this
   have ha:nth d k=a:=Ow hk;have hrest:d.drop (k+1)=l:=by rw[←List.drop_drop,hl];rfl
   have hp:CW s.2.1 (fun f:Xc=>f.1) (CZ d) (FW L on lv) (List.range' k (a::l).length) (o,c)=CW s.2.1 (fun f:Xc=>f.1) (CZ d) (FW L on lv) (List.range' (k+1) l.length) (FT s.2.1 (fun f:Xc=>f.1) (CZ d) (FW L on lv) (o,c) k):=by
    rw[List.length_cons,List.range'_succ];rfl
   have hsel:sel s.2.1 (fun f:Xc=>f.1) (CZ d k o)=Zg s a.2 o:=by rw[RX,←ha]
   rw[hp];simp only[Xp,hf k a o c hk];unfold FT;cases FW L on lv k with
   | false=>simp only[cond_false];exact YG hf he l (k+1) o c hrest
   | true=>
     simp only[cond_true,hsel];by_cases hq:Zg s a.2 o=(nth o k).2
     . rw[decide_eq_true hq,if_pos hq];exact YG hf he l (k+1) o c hrest
     rw[decide_eq_false hq,if_neg hq];exact YG hf he l (k+1) _ true hrest
theorem Qg9 {R':Type} {s:Qz} {d:List Xw} {L:List Int} {on:Nat->Bool} {lv:Int} {f:Nat->Xw->List Qh×Bool->Rd (Rd R' (List Qh×Int×Bool) (List Qh×Int)) (List Qh×Bool) (List Qh×Bool)} {e:Nat->List Qh×Bool->List Qh×Bool} {F:List Qh×Int×Bool->Rd R' (List Qh×Int×Bool) (List Qh×Int)}
 (hf:Qb3 s d L on lv f) (he:∀k s,e k s=s) (hF:∀x,F x=bif x.2.2 then (Out.on (Xp f e d 0 (x.1,false)) fun y=> .next (y.1,IntKind.i64.wrap (x.2.1+1),y.2)) else .brk (x.1,x.2.1))
 (hS:Qt d=(L,true)) {o:List Qh} (h:EvS d L on s.2.1 lv o) (p:Int):
 ∃o' p',whl F (List.length d*List.length s.2.1+2) (o,p,true)=some (.brk (o',p'))/\EvS d L on s.2.1 (lv+1) o':=by
 have hlen:o.length=d.length:=by have:=congrArg List.length h.names;simpa using this
 have hroom:=Qbw s.2.1.length (FW L on lv) o 0;rw[hlen] at hroom
 obtain ⟨s',h1,hc,t,h2,h3⟩:=Qlp (fs:=s.2.1) (idOf:=fun f:Xc=>f.1) (m:=CZ d) (act:=FW L on lv) (nm:=d.map (·.1)) (F:=F) (out:=fun x=>x.1) (ch:=fun x=>x.2.2) (n:=d.length) (by simp)
  (fun x hx=>⟨_,by rw[hF,hx,cond_true,YG hf he d 0 x.1 false rfl];rfl,by rw[List.range_eq_range']⟩)
  (fun x hx=>⟨_,by rw[hF,hx,cond_false]⟩) (Qiy hS s.2.1 fun k hk=>by unfold FW at hk;simp only[Bool.and_eq_true,beq_iff_eq] at hk;exact hk.1) (o:=o) (List.length d*List.length s.2.1+2) (o,p,true) (Qb2 h) (by simp only[cond_true];omega)
 have hc':s'.2.2=false:=hc;have hb:F s'= .brk (s'.1,s'.2.1):=by rw[hF,hc'];rfl
 rw[hb] at h2;cases h2
 exact ⟨s'.1,s'.2.1,h3,Qfa h h1⟩
theorem Ol {R T:Type} {d:List Xw} {L:List Int} {on:Nat->Bool} {fs:List Xc} {g:Xw->List Int} {f:Nat->Xw->List Qh->Rd R (List Qh) T} {e:Nat->List Qh->T} (hf:∀k a s,f k a s= .next (s++ [(a.1,g a)])) (hg:∀j,j<d.length->on j=true->g (nth d j)= []):
 Xp f e d 0 []= .brk (e d.length (d.map fun a=>(a.1,g a)))/\EvS d L on fs 0 (d.map fun a=>(a.1,g a)):=by
 refine ⟨by rw[Au (g:=fun a=>((a.1,g a):Qh)) hf];simp, ?_,fun j _ hj=> ?_,fun j hj hon=> ?_⟩
 . rw[List.map_map];rfl
 . by_cases hjl:j<d.length
   . have:nth (d.map fun a=>((a.1,g a):Qh)) j=((nth d j).1,g (nth d j)):=by simp[nth,List.getD,hjl]
     rw[this];exact hg j hjl hj
   have:nth (d.map fun a=>((a.1,g a):Qh)) j=default:=by simp[nth,List.getD,hjl]
   rw[this];rfl
 have:nth (d.map fun a=>((a.1,g a):Qh)) j=((nth d j).1,g (nth d j)):=by simp[nth,List.getD,hj]
 exact ⟨fun _=>false,by rw[this,hg j hj hon];simp[sel]⟩
theorem Ex {d:List Xw} (h:((Qt d)).2=true):List.length ((Qt d)).1=List.length d/\List.length d<=5/\∀x,x∈((Qt d)).1->0<=x/\x<=5:=by
 have hS:Qt d=((Qt d).1,true):=Prod.ext rfl h;obtain ⟨hv,hlen,hs,h0⟩:=Pr hS;have h5:=W8 hv;refine ⟨hlen,h5,fun x hx=> ?_⟩;obtain ⟨i,hi,rfl⟩:=VL hx;refine ⟨h0 i, ?_⟩;have hb:=Qb0 hS i;omega
end Go.Proofs.YtkekndahbiefaaaGreatDoor
